/-
  The walk of the law OpBack: what is put is taken, and what is taken, put again, is the same bytes.
-/
import Derived.Test.YtbekfoldohhbpaaDoorOpAwake
import Derived.Test.YtbekfoldohhbpaaDoorOpP
import Derived.Test.YtbekfoldohhbpaaDoorOpen
import Derived.Test.YtbekfoldohhbpaaDoorWEqStruct
import Derived.Deep.RegionHeld3
import Derived.Deep.QuietTactic
namespace Go.Proofs.YtbekfoldohhbpaaDoor
open Go.RowKit Go.Proofs.YtbekfoldohhbpaaDoorW.PrintWords


theorem shortOne_calls (g : Nat) (s0 : ByteArray) (w : World) (h0 : w.cell? ⟨g, 4, none⟩ = some (.string s0)) :
    Calls Tryd.prog 9 #[.slice (some ⟨g, 0, none⟩) 1 1] w fun e w' => e = .returned (.bool (decide (s0.size ≤ 60))) ∧ w' = w := by
  by_cases k0 : s0.size ≤ 60
  · go_enter Tryd.func9, Tryd.ntmps9
    go_wp2
    go_rounds 2
    go_ret
    simp [k0]
  · have q0 : 60 < s0.size := by omega
    go_enter Tryd.func9, Tryd.ntmps9
    go_wp2
    go_rounds 1
    go_ret
    simp [k0]
theorem opForm_nil {o : OpR} (h : opRight o = false) : opForm o = [] := by rw [opForm, if_neg (by rw [h]; decide)]
theorem opForm_pos {o : OpR} (h : opRight o = true) : 1 ≤ (opForm o).length := by
  obtain ⟨b1, _⟩ := right_bounds h
  rw [opForm, if_pos h, pre_four]
  have := form_pos o.n (by omega) (by omega)
  simp only [List.length_append]; omega
theorem opForm_range (o : OpR) : ∀ x ∈ opForm o, 0 ≤ x ∧ x < 256 := by
  unfold opForm
  split
  · intro x hx
    rcases List.mem_append.1 hx with h | h
    · rw [pre_four] at h
      simp only [List.mem_append] at h
      rcases h with ((h | h) | h) | h <;> exact form_range _ x h
    · exact textForm_range _ x h
  · simp
theorem opForm_length (o : OpR) : (opForm o).length ≤ 45 := by
  unfold opForm
  split
  · rename_i hR
    obtain ⟨b1, b2, b3, b4, b5⟩ := right_bounds hR
    rw [List.length_append]
    have h1 := pre_length o 4 (by omega)
    have h2 := textForm_length o.name (by omega)
    have h3 := form_length o.name.size
    omega
  · simp

/-- Whether two operations' fields are the same. -/
def eqB (n r node par : Int) (name : ByteArray) (n' r' node' par' : Int) (name' : ByteArray) : Bool :=
  ((n == n') && (r == r')) && ((node == node') && ((par == par') && (name.toList == name'.toList)))
theorem eqB_iff (a b : OpR) : eqB a.n a.r a.node a.par a.name b.n b.r b.node b.par b.name = true ↔ a = b := by
  obtain ⟨n, r, node, par, name⟩ := a
  obtain ⟨n', r', node', par', name'⟩ := b
  simp only [eqB, Bool.and_eq_true, beq_iff_eq, OpR.mk.injEq, and_assoc]
  have : name.toList = name'.toList ↔ name = name' := ⟨fun h => by rw [ByteArray.toList_eq, ByteArray.toList_eq] at h; exact ByteArray.ext (Array.toList_inj.1 h), fun h => by rw [h]⟩
  rw [this]
theorem eqStamp (d : Nat) (w : World) (n r n' r' : Int) :
    (Op.equalIn (d + 2) 23 (.agg #[.int .i64 n, .int .i64 r]) (.agg #[.int .i64 n', .int .i64 r'])).run Tryd.prog w = .ok ((n == n') && (r == r')) w := by
  refine eqA_of Tryd.underlying23 (by kernel_rfl) ?_
  refine eqf_cons (by rfl) (by go_simp; rfl) (by go_simp; rfl) (by go_simp) ?_
  exact eqf_last (by rfl) (by go_simp; rfl) (by go_simp; rfl) (by go_simp)
theorem eqOp (d : Nat) (w : World) (n r node par : Int) (name : ByteArray) (n' r' node' par' : Int) (name' : ByteArray) :
    (Op.equalIn (d + 3) 25 (.agg #[.int .i64 n, .int .i64 r, .int .i64 node, .int .i64 par, .string name]) (.agg #[.int .i64 n', .int .i64 r', .int .i64 node', .int .i64 par', .string name'])).run Tryd.prog w = .ok (eqB n r node par name n' r' node' par' name') w := by
  unfold eqB
  refine eqA_of Tryd.underlying25 (by kernel_rfl) ?_
  refine eqf_cons (by rfl) (by go_simp) (by go_simp) (eqStamp d w _ _ _ _) ?_
  refine eqf_cons (by rfl) (by go_simp; rfl) (by go_simp; rfl) (by go_simp) ?_
  refine eqf_cons (by rfl) (by go_simp; rfl) (by go_simp; rfl) (by go_simp) ?_
  exact eqf_last (by rfl) (by go_simp; rfl) (by go_simp; rfl) (by go_simp)

theorem reads_at {w W : World} {k : IntKind} {A : Option Addr} {n : Nat} {xs : List Int} (hr : ReadsInt w k A n xs) (hW : W.heap = w.heap) : ReadsInt W k A n xs :=
  ⟨hr.1, hr.2.1, fun hn => by
    obtain ⟨ad, e, hc⟩ := hr.2.2 hn
    exact ⟨ad, e, fun j hj => (World.cell?_of_block (by rw [hW])).trans (hc j hj)⟩⟩
theorem OpAt.at_ {g : Nat} {o : OpR} {w W : World} (k : OpAt g o w) (h : W.heap = w.heap) : OpAt g o W :=
  ⟨(World.cell?_of_block (by rw [h])).trans k.1, (World.cell?_of_block (by rw [h])).trans k.2.1, (World.cell?_of_block (by rw [h])).trans k.2.2.1, (World.cell?_of_block (by rw [h])).trans k.2.2.2.1, (World.cell?_of_block (by rw [h])).trans k.2.2.2.2⟩
theorem OpAt.keep {g B : Nat} {o : OpR} {w w1 : World} (k : OpAt g o w) (hb : Below B w w1) (hg : g < B) : OpAt g o w1 :=
  ⟨(hb.cell hg).trans k.1, (hb.cell hg).trans k.2.1, (hb.cell hg).trans k.2.2.1, (hb.cell hg).trans k.2.2.2.1, (hb.cell hg).trans k.2.2.2.2⟩
attribute [local go_sem high] eqOp

/-- Where something is too long nothing is asked. -/
theorem opBack_long (o : OpR) (A : Option Addr) (n c : Nat) (B : Option Addr) (m d : Nat) (w : World) (hT : Tabs w) (hn : n ≤ 9223372036854775807) (hm : m ≤ 9223372036854775807) (h : 60 < o.name.size ∨ 300 < n ∨ 300 < m) :
    Calls Tryd.prog 6 #[opV o, .slice A n c, .slice B m d] w fun e w' => e = .returned (.bool true) ∧ Below w.heap.size w w' := by
  have HT := Lib.hid hT
  have HB := Lib.hid (Below.refl w.heap.size w)
  have HS : Hid (∀ (g : Nat) (w : World), w.cell? ⟨g, 4, none⟩ = some (.string o.name) → Calls Tryd.prog 9 #[.slice (some ⟨g, 0, none⟩) 1 1] w (fun e w' => e = .returned (.bool (decide (o.name.size ≤ 60))) ∧ Below w.heap.size w w')) :=
    Lib.hid fun g w h0 => (shortOne_calls g o.name w h0).mono (by rintro e w' ⟨rfl, rfl⟩; exact ⟨rfl, Below.refl _ _⟩)
  simp only [opV]
  have key : (decide (o.name.size ≤ 60) = false) ∨ (decide (o.name.size ≤ 60) = true ∧ 300 < n) ∨ (decide (o.name.size ≤ 60) = true ∧ n ≤ 300 ∧ 300 < m) := by
    by_cases k : o.name.size ≤ 60
    · have : decide (o.name.size ≤ 60) = true := decide_eq_true k
      by_cases k2 : n ≤ 300
      · exact .inr (.inr ⟨this, k2, by omega⟩)
      · exact .inr (.inl ⟨this, by omega⟩)
    · exact .inl (decide_eq_false k)
  clear h hT
  rcases key with k | ⟨k, k2⟩ | ⟨k, k2, k3⟩
  all_goals
    rw [k] at HS
    clear k
    go_enter Tryd.func6, Tryd.ntmps6
    go_wp2_with (first
      | (go_at_call 8; (refine Calls.mono (awake_calls _ (HT.out.below (by repeat (first | (with_reducible exact HB.out) | apply below_alloc | apply pw_below_drewN | apply below_drew1 | exact HB.out)))) ?_); rintro e w1 ⟨rfl, hb⟩; have K1 := Lib.hid (OpAt.below (g := w.heap.size) (o := o) ⟨by go_cell, by go_cell, by go_cell, by go_cell, by go_cell⟩ hb); obtain ⟨c0, c1, c2, c3, c4⟩ := K1.out; have HBn := Lib.hid (below_step (by repeat (first | (with_reducible exact HB.out) | apply below_alloc | apply pw_below_drewN | apply below_drew1 | exact HB.out)) hb); clear hb HB; have HB := HBn; clear HBn)
      | (go_at_call 9; (refine (HS.out _ _ (by go_cell)).mono ?_); rintro e w2 ⟨rfl, hb⟩; clear c0 c1 c2 c3 c4; have HBn := Lib.hid (below_step (by repeat (first | (with_reducible exact HB.out) | apply below_alloc | apply pw_below_drewN | apply below_drew1 | exact HB.out)) hb); clear hb HB; have HB := HBn; clear HBn)
      | (fail "no arm"))
    go_ret
    exact ⟨rfl, HB.out⟩

set_option maxHeartbeats 4000000 in
theorem opBack_can_right (o : OpR) (A : Option Addr) (n c : Nat) (M : List Int) (B : Option Addr) (m d k : Nat) (b : List Int) (w : World) (hT : Tabs w) (hk : o.name.size ≤ 60)
    (hM : ReadsInt w .u8 A n M) (hn : n ≤ 300) (hMr : ∀ x ∈ M, 0 ≤ x ∧ x < 256) (hb : ReadsInt w .u8 B (k + m) b) (hkd : k + m ≤ d) (hm : k + m ≤ 300) (hbr : ∀ x ∈ b, 0 ≤ x ∧ x < 256)
    (hl : (tk5 b 0).2.1.length = m) (hc : opRight (tkOp b 0) = true) (hr : opRight o = true) (hq : opForm (tkOp b 0) = b.take k) :
    Calls Tryd.prog 6 #[opV o, .slice A n c, .slice B (k + m) d] w fun e w' => e = .returned (.bool true) ∧ Below w.heap.size w w' := by
  have HT := Lib.hid hT
  have HB := Lib.hid (Below.refl w.heap.size w)
  have HS : Hid (∀ (g : Nat) (w : World), w.cell? ⟨g, 4, none⟩ = some (.string o.name) → Calls Tryd.prog 9 #[.slice (some ⟨g, 0, none⟩) 1 1] w (fun e w' => e = .returned (.bool true) ∧ Below w.heap.size w w')) :=
    Lib.hid fun g w h0 => (shortOne_calls g o.name w h0).mono (by rintro e w' ⟨rfl, rfl⟩; exact ⟨by rw [decide_eq_true hk], Below.refl _ _⟩)
  have ht := fun (v : World) (a d : Nat) h hd hw ha => take_calls w v a d b 0 h (by decide) hd hT hw ha
  have hp := fun w (h : Tabs w) => put_calls o w (by omega) h
  have hrc := fun w (h : Tabs w) => right_calls o w (by omega) h
  have hFl := opForm_length o
  have hFr := opForm_range o
  have HLeft := Lib.hid (fun (w : World) (a d : Nat) (e : Int) (h : RD 63 w a d (tk5 b 0).2.1 e) => left_calls w a d (tk5 b 0).2.1 e h)
  rw [hl] at HLeft
  rw [hc] at ht
  rw [hr] at hrc
  have hql : (tkOp b 0).name.size ≤ 20 := (right_bounds hc).2.2.2.2.2
  have hpq := fun w (h : Tabs w) => put_calls (tkOp b 0) w (by omega) h
  rw [if_pos rfl] at ht
  rw [hq] at hpq
  generalize tkOp b 0 = q at *
  clear hql
  have hbk := hb.take_ k (by omega)
  have hGL : (b.take k).length = k := by rw [List.length_take, hb.1]; omega
  clear hq
  generalize b.take k = G at *
  have ht2 := fun (v : World) (a d : Nat) h hd hw ha => take_calls w v a d (opForm o ++ M) 0 h (by decide) hd hT hw ha
  obtain ⟨q1, q2, q3⟩ := put_take hr M
  rw [q1, q2, hr, if_pos rfl] at ht2
  generalize (tk5 b 0).2.1 = ys at *
  generalize (tk5 b 0).2.2 = e5 at *
  have HXr := Lib.hid (show ∀ x ∈ opForm o ++ M, 0 ≤ x ∧ x < 256 from fun x hx => by rcases List.mem_append.1 hx with h | h; exact hFr x h; exact hMr x h)
  clear q1 q2 q3
  generalize (tk5 (opForm o ++ M) 0).2.2 = e6 at *
  have HL2 := Lib.hid (fun (w : World) (a d : Nat) (e : Int) (h : RD 63 w a d M e) => left_calls w a d M e h)
  rw [hM.1] at HL2
  have heq := (eqB_iff o o).2 rfl
  generalize hF : opForm o = F at *
  generalize hLF : F.length = L at *
  simp only [opV] at *
  have HMl := Lib.hid hM.1
  have HTK := Lib.hid ht
  have HP := Lib.hid hp
  have HRC := Lib.hid hrc
  have HLF := Lib.hid hLF
  have HLM := Lib.hid (show (F ++ M).length = L + n by rw [List.length_append, hLF, hM.1])
  have HM := Lib.hid hM
  have HBB := Lib.hid hb
  have HBR := Lib.hid hbr
  have HPQ := Lib.hid hpq
  have HBK := Lib.hid hbk
  have HGL := Lib.hid hGL
  clear hpq hbk hGL
  have HTK2 := Lib.hid ht2
  clear ht2
  clear ht hp hrc hLF hT hM hb hbr hMr hl hc hr hFr hF hk
  go_enter Tryd.func6, Tryd.ntmps6
  go_wp2_with (first
    | (go_at_call 8; (refine Calls.mono (awake_calls _ (HT.out.below (by repeat (first | (with_reducible exact HB.out) | apply below_alloc | apply pw_below_drewN | apply below_drew1 | exact HB.out)))) ?_); rintro e w1 ⟨rfl, hb⟩; have K := Lib.hid (OpAt.below (g := w.heap.size) (o := o) ⟨by go_cell, by go_cell, by go_cell, by go_cell, by go_cell⟩ hb); obtain ⟨c0, c1, c2, c3, c4⟩ := K.out; have HBn := Lib.hid (below_step (by repeat (first | (with_reducible exact HB.out) | apply below_alloc | apply pw_below_drewN | apply below_drew1 | exact HB.out)) hb); clear hb HB; have HB := HBn; clear HBn)
    | (go_at_call 9; (refine (HS.out _ _ (by go_cell)).mono ?_); rintro e w2 ⟨rfl, hb⟩; clear c0 c1 c2 c3 c4; have Kn := Lib.hid ((K.out.below ((Below.refl _ _).alloc (Nat.le_refl _) _)).below hb); clear K; have K := Kn; clear Kn; have HBn := Lib.hid (below_step (by repeat (first | (with_reducible exact HB.out) | apply below_alloc | apply pw_below_drewN | apply below_drew1 | exact HB.out)) hb); clear hb HB; have HB := HBn; clear HBn)
    | (go_at_call 20; go_loud ((refine (new_calls _ B (k + m) d b (HBB.out.below (by repeat (first | (with_reducible exact HB.out) | apply below_alloc | apply pw_below_drewN | apply below_drew1 | exact HB.out))) (by omega) HBR.out).mono ?_); rintro e w3 ⟨a, dd, rfl, hd, hb, ha, hda, hdl⟩; have HD := Lib.hid hd; have HA := Lib.hid (show w.heap.size ≤ a from Nat.le_trans HB.out.size ha); have HNE := Lib.hid (show w.heap.size ≠ a by have h1 : w.heap.size < _ := World.block_lt_of_cell? _ _ K.out.1; omega); have HDL := Lib.hid hdl; clear hd ha hda hdl; have Kn := Lib.hid (K.out.below hb); clear K; have K := Kn; clear Kn; have HBn := Lib.hid (below_step (by repeat (first | (with_reducible exact HB.out) | apply below_alloc | apply pw_below_drewN | apply below_drew1 | exact HB.out)) hb); clear hb HB; have HB := HBn; clear HBn))
    | (go_at_call 21; (refine (HTK.out _ a dd HD.out HDL.out HB.out HA.out).mono ?_); rintro e w5 ⟨rfl, hd, hw5⟩; have HD5 := Lib.hid hd; have Kn := Lib.hid (K.out.wide hw5 HNE.out); clear K; have K := Kn; clear Kn; have HBn := Lib.hid (hw5.below HB.out HA.out HB.out.size); clear hd hw5 HB; have HB := HBn; clear HBn)
    | (go_at_call 22; (refine (HLeft.out _ a dd _ (HD5.out.below ((Below.refl _ _).alloc (Nat.le_refl _) _))).mono ?_); rintro e w6 ⟨rfl, rfl⟩)
    | (fail "no arm"))
  have KQ := Lib.hid (show OpAt w5.heap.size q (w5.alloc (.cells #[.int .i64 q.n, .int .i64 q.r, .int .i64 q.node, .int .i64 q.par, .string q.name] 25)) from ⟨by go_cell, by go_cell, by go_cell, by go_cell, by go_cell⟩)
  have Kn := Lib.hid (show OpAt w.heap.size o (w5.alloc (.cells #[.int .i64 q.n, .int .i64 q.r, .int .i64 q.node, .int .i64 q.par, .string q.name] 25)) from K.out.below ((Below.refl _ _).alloc (Nat.le_refl _) _)); clear K; have K := Kn; clear Kn
  have hb0 : (0 : Int) ≤ (k : Int) := by omega
  have hb1 : (k : Int) ≤ d := by omega
  go_region_held3 (fun W => W.cell? ⟨w5.heap.size, 0, none⟩ = some (.int .i64 q.n) ∧ W.cell? ⟨w5.heap.size, 1, none⟩ = some (.int .i64 q.r) ∧ W.cell? ⟨w5.heap.size, 2, none⟩ = some (.int .i64 q.node) ∧ W.cell? ⟨w5.heap.size, 3, none⟩ = some (.int .i64 q.par) ∧ W.cell? ⟨w5.heap.size, 4, none⟩ = some (.string q.name)) (first | exact KQ.out.at_ (by rfl) | exact KQ.out) (first
    | (go_at_call 17; (refine Calls.mono (HPQ.out _ (HT.out.below (by repeat (first | (with_reducible exact HB.out) | apply below_alloc | apply pw_below_drewN | apply below_drew1 | exact HB.out)))) ?_); rintro e w7 ⟨v7, rfl, ho, hb⟩; obtain ⟨A7, c7, rfl, hr7⟩ := own_reads ho; have hc7 := own_cap ho; rw [HGL.out] at hr7 hc7 ⊢; have HR7 := Lib.hid hr7; have Kn := Lib.hid ((K.out.at_ (by rfl)).below hb); clear K; have K := Kn; clear Kn; have Kn := Lib.hid ((KQ.out.at_ (by rfl)).below hb); clear KQ; have KQ := Kn; clear Kn; clear ho hr7; have HBn := Lib.hid (below_step (by repeat (first | (with_reducible exact HB.out) | apply below_alloc | apply pw_below_drewN | apply below_drew1 | exact HB.out)) hb); clear hb HB; have HB := HBn; clear HBn)
    | (go_at_call 16; (refine Calls.mono (same_calls_eq _ (reads_at HR7.out (by rfl)) hc7 (reads_at (HBK.out.below HB.out) (by rfl)) (show k ≤ d by omega) rfl) ?_); rintro e w8 ⟨rfl, n8, rfl⟩)
    | (fail "no arm"))
  have Kn := Lib.hid (show OpAt w.heap.size o (w7.drewN n8) from K.out.at_ (by rfl)); clear K; have K := Kn; clear Kn
  obtain ⟨c0, c1, c2, c3, c4⟩ := K.out
  go_wp2_with (first
    | (go_at_call 17; go_loud ((refine Calls.mono (HP.out _ (HT.out.below (by repeat (first | (with_reducible exact HB.out) | apply below_alloc | apply pw_below_drewN | apply below_drew1 | exact HB.out)))) ?_); rintro e w9 ⟨v9, rfl, ho, hb⟩; obtain ⟨A9, f9, rfl, hr9⟩ := own_reads ho; rw [HLF.out] at hr9 ho ⊢; have HO9 := Lib.hid (OwnB.le ho (show w.heap.size + 1 ≤ _ from World.block_lt_of_cell? _ _ K.out.1)); clear ho hr9; clear c0 c1 c2 c3 c4; have Kn := Lib.hid (K.out.below hb); clear K; have K := Kn; clear Kn; have HBn := Lib.hid (below_step (by repeat (first | (with_reducible exact HB.out) | apply below_alloc | apply pw_below_drewN | apply below_drew1 | exact HB.out)) hb); clear hb HB; have HB := HBn; clear HBn; have c0 : w9.cell? ⟨w.heap.size, 0, none⟩ = some (.int .i64 o.n) := K.out.1; have c1 : w9.cell? ⟨w.heap.size, 1, none⟩ = some (.int .i64 o.r) := K.out.2.1; have c2 : w9.cell? ⟨w.heap.size, 2, none⟩ = some (.int .i64 o.node) := K.out.2.2.1; have c3 : w9.cell? ⟨w.heap.size, 3, none⟩ = some (.int .i64 o.par) := K.out.2.2.2.1; have c4 : w9.cell? ⟨w.heap.size, 4, none⟩ = some (.string o.name) := K.out.2.2.2.2))
    | (at_builtin; go_loud ((refine print_append_row (w0 := w9) (w.heap.size + 1) rfl (.tmp 62) (.tmp 63) 33 5 .u8 1 rfl Tryd.underlying33 pkInfo5 (by decide) _ F M A n c rfl rfl ?cO ?cR ?cB ?cS ?cL ?_; (case cO => exact HO9.out); (case cR => exact HM.out.below HB.out); (case cB => exact Below.refl _ _); (case cS => exact World.block_lt_of_cell? _ _ K.out.1); (case cL => rw [HLF.out]; omega); intro v10 w10 ho hb hg hat; obtain ⟨A10, f10, rfl, hr10⟩ := own_reads ho; rw [HLM.out] at hr10 ⊢; have HR10 := Lib.hid hr10; have Kn := Lib.hid (K.out.keep hb (by omega)); clear K; have K := Kn; clear Kn; have HBn := Lib.hid (below_wide HB.out hb (by omega)); clear HB ho hb hg hat hr10 c0 c1 c2 c3 c4; have HB := HBn; clear HBn)))
    | (go_at_call 20; go_loud ((refine (new_calls _ A10 (L + n) f10 (F ++ M) HR10.out (by omega) HXr.out).mono ?_); rintro e w11 ⟨a2, d2, rfl, hd, hb, ha, hda, hdl⟩; have HD2 := Lib.hid hd; have HA2 := Lib.hid (show w.heap.size ≤ a2 from Nat.le_trans HB.out.size ha); have HNE2 := Lib.hid (show w.heap.size ≠ a2 by have h1 : w.heap.size < _ := World.block_lt_of_cell? _ _ K.out.1; omega); have HDL2 := Lib.hid hdl; clear hd ha hda hdl; have Kn := Lib.hid (K.out.below hb); clear K; have K := Kn; clear Kn; have HBn := Lib.hid (below_step (by repeat (first | (with_reducible exact HB.out) | apply below_alloc | apply pw_below_drewN | apply below_drew1 | exact HB.out)) hb); clear hb HB; have HB := HBn; clear HBn; have c0 : w11.cell? ⟨w.heap.size, 0, none⟩ = some (.int .i64 o.n) := K.out.1; have c1 : w11.cell? ⟨w.heap.size, 1, none⟩ = some (.int .i64 o.r) := K.out.2.1; have c2 : w11.cell? ⟨w.heap.size, 2, none⟩ = some (.int .i64 o.node) := K.out.2.2.1; have c3 : w11.cell? ⟨w.heap.size, 3, none⟩ = some (.int .i64 o.par) := K.out.2.2.2.1; have c4 : w11.cell? ⟨w.heap.size, 4, none⟩ = some (.string o.name) := K.out.2.2.2.2))
    | (go_at_call 12; go_loud ((refine Calls.mono (HRC.out _ (HT.out.below (by repeat (first | (with_reducible exact HB.out) | apply below_alloc | apply pw_below_drewN | apply below_drew1 | exact HB.out)))) ?_); rintro e w12 ⟨rfl, hb⟩; have HD3 := Lib.hid (HD2.out.below hb); have HDL3 := Lib.hid (show d2 < w12.heap.size from Nat.lt_of_lt_of_le HDL2.out hb.size); clear c0 c1 c2 c3 c4; have Kn := Lib.hid (K.out.below hb); clear K; have K := Kn; clear Kn; have HBn := Lib.hid (below_step (by repeat (first | (with_reducible exact HB.out) | apply below_alloc | apply pw_below_drewN | apply below_drew1 | exact HB.out)) hb); clear hb HB; have HB := HBn; clear HBn; have c0 : w12.cell? ⟨w.heap.size, 0, none⟩ = some (.int .i64 o.n) := K.out.1; have c1 : w12.cell? ⟨w.heap.size, 1, none⟩ = some (.int .i64 o.r) := K.out.2.1; have c2 : w12.cell? ⟨w.heap.size, 2, none⟩ = some (.int .i64 o.node) := K.out.2.2.1; have c3 : w12.cell? ⟨w.heap.size, 3, none⟩ = some (.int .i64 o.par) := K.out.2.2.2.1; have c4 : w12.cell? ⟨w.heap.size, 4, none⟩ = some (.string o.name) := K.out.2.2.2.2))
    | (go_at_call 21; go_loud ((refine Calls.mono (HTK2.out _ a2 d2 HD3.out HDL3.out HB.out HA2.out) ?_); rintro e w13 ⟨rfl, hd, hw5⟩; have HD6 := Lib.hid hd; have Kn := Lib.hid (K.out.wide hw5 HNE2.out); clear K; have K := Kn; clear Kn; have HBn := Lib.hid (hw5.below HB.out HA2.out HB.out.size); clear hd hw5 HB; have HB := HBn; clear HBn; clear c0 c1 c2 c3 c4; have c0 : w13.cell? ⟨w.heap.size, 0, none⟩ = some (.int .i64 o.n) := K.out.1; have c1 : w13.cell? ⟨w.heap.size, 1, none⟩ = some (.int .i64 o.r) := K.out.2.1; have c2 : w13.cell? ⟨w.heap.size, 2, none⟩ = some (.int .i64 o.node) := K.out.2.2.1; have c3 : w13.cell? ⟨w.heap.size, 3, none⟩ = some (.int .i64 o.par) := K.out.2.2.2.1; have c4 : w13.cell? ⟨w.heap.size, 4, none⟩ = some (.string o.name) := K.out.2.2.2.2; have hlt : w.heap.size < w13.heap.size := World.block_lt_of_cell? _ _ c0))
    | (go_at_call 22; go_loud ((refine Calls.mono (HL2.out _ a2 d2 _ (HD6.out.below ((Below.refl _ _).alloc (Nat.le_refl _) _))) ?_); rintro e w14 ⟨rfl, rfl⟩))
    | (fail "no arm"))
  go_ret
  exact ⟨rfl, (by repeat (first | (with_reducible exact HB.out) | apply below_alloc | apply pw_below_drewN | apply below_drew1 | exact HB.out))⟩

set_option maxHeartbeats 4000000 in
theorem opBack_can_wrong (o : OpR) (A : Option Addr) (n c : Nat) (M : List Int) (B : Option Addr) (m d k : Nat) (b : List Int) (w : World) (hT : Tabs w) (hk : o.name.size ≤ 60)
    (hM : ReadsInt w .u8 A n M) (hn : n ≤ 300) (hMr : ∀ x ∈ M, 0 ≤ x ∧ x < 256) (hb : ReadsInt w .u8 B (k + m) b) (hkd : k + m ≤ d) (hm : k + m ≤ 300) (hbr : ∀ x ∈ b, 0 ≤ x ∧ x < 256)
    (hl : (tk5 b 0).2.1.length = m) (hc : opRight (tkOp b 0) = true) (hr : opRight o = false) (hq : opForm (tkOp b 0) = b.take k) :
    Calls Tryd.prog 6 #[opV o, .slice A n c, .slice B (k + m) d] w fun e w' => e = .returned (.bool true) ∧ Below w.heap.size w w' := by
  have HT := Lib.hid hT
  have HB := Lib.hid (Below.refl w.heap.size w)
  have HS : Hid (∀ (g : Nat) (w : World), w.cell? ⟨g, 4, none⟩ = some (.string o.name) → Calls Tryd.prog 9 #[.slice (some ⟨g, 0, none⟩) 1 1] w (fun e w' => e = .returned (.bool true) ∧ Below w.heap.size w w')) :=
    Lib.hid fun g w h0 => (shortOne_calls g o.name w h0).mono (by rintro e w' ⟨rfl, rfl⟩; exact ⟨by rw [decide_eq_true hk], Below.refl _ _⟩)
  have ht := fun (v : World) (a d : Nat) h hd hw ha => take_calls w v a d b 0 h (by decide) hd hT hw ha
  have hp := fun w (h : Tabs w) => put_calls o w (by omega) h
  have hrc := fun w (h : Tabs w) => right_calls o w (by omega) h
  have hFl := opForm_length o
  have hFr := opForm_range o
  have HLeft := Lib.hid (fun (w : World) (a d : Nat) (e : Int) (h : RD 63 w a d (tk5 b 0).2.1 e) => left_calls w a d (tk5 b 0).2.1 e h)
  rw [hl] at HLeft
  rw [hc] at ht
  rw [hr] at hrc
  have hql : (tkOp b 0).name.size ≤ 20 := (right_bounds hc).2.2.2.2.2
  have hpq := fun w (h : Tabs w) => put_calls (tkOp b 0) w (by omega) h
  rw [if_pos rfl] at ht
  rw [hq] at hpq
  generalize tkOp b 0 = q at *
  clear hql
  have hbk := hb.take_ k (by omega)
  have hGL : (b.take k).length = k := by rw [List.length_take, hb.1]; omega
  clear hq
  generalize b.take k = G at *
  rw [opForm_nil hr] at hp hFl hFr
  generalize (tk5 b 0).2.1 = ys at *
  generalize (tk5 b 0).2.2 = e5 at *
  have HXr := Lib.hid (show ∀ x ∈ [] ++ M, 0 ≤ x ∧ x < 256 from fun x hx => hMr x (by simpa using hx))
  obtain ⟨F, hF⟩ : ∃ F : List Int, F = [] := ⟨_, rfl⟩
  rw [← hF] at hp hFl HXr
  generalize hLF : F.length = L at *
  obtain rfl : L = 0 := by rw [← hLF, hF]; rfl
  simp only [opV] at *
  have HMl := Lib.hid hM.1
  have HTK := Lib.hid ht
  have HP := Lib.hid hp
  have HRC := Lib.hid hrc
  have HLF := Lib.hid hLF
  have HLM := Lib.hid (show (F ++ M).length = n by rw [List.length_append, hLF, hM.1]; omega)
  have HM := Lib.hid hM
  have HBB := Lib.hid hb
  have HBR := Lib.hid hbr
  have HPQ := Lib.hid hpq
  have HBK := Lib.hid hbk
  have HGL := Lib.hid hGL
  clear hpq hbk hGL
  clear ht hp hrc hLF hT hM hb hbr hMr hl hc hr hFr hF hk
  go_enter Tryd.func6, Tryd.ntmps6
  go_wp2_with (first
    | (go_at_call 8; (refine Calls.mono (awake_calls _ (HT.out.below (by repeat (first | (with_reducible exact HB.out) | apply below_alloc | apply pw_below_drewN | apply below_drew1 | exact HB.out)))) ?_); rintro e w1 ⟨rfl, hb⟩; have K := Lib.hid (OpAt.below (g := w.heap.size) (o := o) ⟨by go_cell, by go_cell, by go_cell, by go_cell, by go_cell⟩ hb); obtain ⟨c0, c1, c2, c3, c4⟩ := K.out; have HBn := Lib.hid (below_step (by repeat (first | (with_reducible exact HB.out) | apply below_alloc | apply pw_below_drewN | apply below_drew1 | exact HB.out)) hb); clear hb HB; have HB := HBn; clear HBn)
    | (go_at_call 9; (refine (HS.out _ _ (by go_cell)).mono ?_); rintro e w2 ⟨rfl, hb⟩; clear c0 c1 c2 c3 c4; have Kn := Lib.hid ((K.out.below ((Below.refl _ _).alloc (Nat.le_refl _) _)).below hb); clear K; have K := Kn; clear Kn; have HBn := Lib.hid (below_step (by repeat (first | (with_reducible exact HB.out) | apply below_alloc | apply pw_below_drewN | apply below_drew1 | exact HB.out)) hb); clear hb HB; have HB := HBn; clear HBn)
    | (go_at_call 20; go_loud ((refine (new_calls _ B (k + m) d b (HBB.out.below (by repeat (first | (with_reducible exact HB.out) | apply below_alloc | apply pw_below_drewN | apply below_drew1 | exact HB.out))) (by omega) HBR.out).mono ?_); rintro e w3 ⟨a, dd, rfl, hd, hb, ha, hda, hdl⟩; have HD := Lib.hid hd; have HA := Lib.hid (show w.heap.size ≤ a from Nat.le_trans HB.out.size ha); have HNE := Lib.hid (show w.heap.size ≠ a by have h1 : w.heap.size < _ := World.block_lt_of_cell? _ _ K.out.1; omega); have HDL := Lib.hid hdl; clear hd ha hda hdl; have Kn := Lib.hid (K.out.below hb); clear K; have K := Kn; clear Kn; have HBn := Lib.hid (below_step (by repeat (first | (with_reducible exact HB.out) | apply below_alloc | apply pw_below_drewN | apply below_drew1 | exact HB.out)) hb); clear hb HB; have HB := HBn; clear HBn))
    | (go_at_call 21; (refine (HTK.out _ a dd HD.out HDL.out HB.out HA.out).mono ?_); rintro e w5 ⟨rfl, hd, hw5⟩; have HD5 := Lib.hid hd; have Kn := Lib.hid (K.out.wide hw5 HNE.out); clear K; have K := Kn; clear Kn; have HBn := Lib.hid (hw5.below HB.out HA.out HB.out.size); clear hd hw5 HB; have HB := HBn; clear HBn)
    | (go_at_call 22; (refine (HLeft.out _ a dd _ (HD5.out.below ((Below.refl _ _).alloc (Nat.le_refl _) _))).mono ?_); rintro e w6 ⟨rfl, rfl⟩)
    | (fail "no arm"))
  have KQ := Lib.hid (show OpAt w5.heap.size q (w5.alloc (.cells #[.int .i64 q.n, .int .i64 q.r, .int .i64 q.node, .int .i64 q.par, .string q.name] 25)) from ⟨by go_cell, by go_cell, by go_cell, by go_cell, by go_cell⟩)
  have Kn := Lib.hid (show OpAt w.heap.size o (w5.alloc (.cells #[.int .i64 q.n, .int .i64 q.r, .int .i64 q.node, .int .i64 q.par, .string q.name] 25)) from K.out.below ((Below.refl _ _).alloc (Nat.le_refl _) _)); clear K; have K := Kn; clear Kn
  have hb0 : (0 : Int) ≤ (k : Int) := by omega
  have hb1 : (k : Int) ≤ d := by omega
  go_region_held3 (fun W => W.cell? ⟨w5.heap.size, 0, none⟩ = some (.int .i64 q.n) ∧ W.cell? ⟨w5.heap.size, 1, none⟩ = some (.int .i64 q.r) ∧ W.cell? ⟨w5.heap.size, 2, none⟩ = some (.int .i64 q.node) ∧ W.cell? ⟨w5.heap.size, 3, none⟩ = some (.int .i64 q.par) ∧ W.cell? ⟨w5.heap.size, 4, none⟩ = some (.string q.name)) (first | exact KQ.out.at_ (by rfl) | exact KQ.out) (first
    | (go_at_call 17; (refine Calls.mono (HPQ.out _ (HT.out.below (by repeat (first | (with_reducible exact HB.out) | apply below_alloc | apply pw_below_drewN | apply below_drew1 | exact HB.out)))) ?_); rintro e w7 ⟨v7, rfl, ho, hb⟩; obtain ⟨A7, c7, rfl, hr7⟩ := own_reads ho; have hc7 := own_cap ho; rw [HGL.out] at hr7 hc7 ⊢; have HR7 := Lib.hid hr7; have Kn := Lib.hid ((K.out.at_ (by rfl)).below hb); clear K; have K := Kn; clear Kn; have Kn := Lib.hid ((KQ.out.at_ (by rfl)).below hb); clear KQ; have KQ := Kn; clear Kn; clear ho hr7; have HBn := Lib.hid (below_step (by repeat (first | (with_reducible exact HB.out) | apply below_alloc | apply pw_below_drewN | apply below_drew1 | exact HB.out)) hb); clear hb HB; have HB := HBn; clear HBn)
    | (go_at_call 16; (refine Calls.mono (same_calls_eq _ (reads_at HR7.out (by rfl)) hc7 (reads_at (HBK.out.below HB.out) (by rfl)) (show k ≤ d by omega) rfl) ?_); rintro e w8 ⟨rfl, n8, rfl⟩)
    | (fail "no arm"))
  have Kn := Lib.hid (show OpAt w.heap.size o (w7.drewN n8) from K.out.at_ (by rfl)); clear K; have K := Kn; clear Kn
  obtain ⟨c0, c1, c2, c3, c4⟩ := K.out
  go_wp2_with (first
    | (go_at_call 17; go_loud ((refine Calls.mono (HP.out _ (HT.out.below (by repeat (first | (with_reducible exact HB.out) | apply below_alloc | apply pw_below_drewN | apply below_drew1 | exact HB.out)))) ?_); rintro e w9 ⟨v9, rfl, ho, hb⟩; obtain ⟨A9, f9, rfl, hr9⟩ := own_reads ho; rw [HLF.out] at hr9 ho ⊢; have HO9 := Lib.hid (OwnB.le ho (show w.heap.size + 1 ≤ _ from World.block_lt_of_cell? _ _ K.out.1)); clear ho hr9; clear c0 c1 c2 c3 c4; have Kn := Lib.hid (K.out.below hb); clear K; have K := Kn; clear Kn; have HBn := Lib.hid (below_step (by repeat (first | (with_reducible exact HB.out) | apply below_alloc | apply pw_below_drewN | apply below_drew1 | exact HB.out)) hb); clear hb HB; have HB := HBn; clear HBn; have c0 : w9.cell? ⟨w.heap.size, 0, none⟩ = some (.int .i64 o.n) := K.out.1; have c1 : w9.cell? ⟨w.heap.size, 1, none⟩ = some (.int .i64 o.r) := K.out.2.1; have c2 : w9.cell? ⟨w.heap.size, 2, none⟩ = some (.int .i64 o.node) := K.out.2.2.1; have c3 : w9.cell? ⟨w.heap.size, 3, none⟩ = some (.int .i64 o.par) := K.out.2.2.2.1; have c4 : w9.cell? ⟨w.heap.size, 4, none⟩ = some (.string o.name) := K.out.2.2.2.2))
    | (at_builtin; go_loud ((refine print_append_row (w0 := w9) (w.heap.size + 1) rfl (.tmp 62) (.tmp 63) 33 5 .u8 1 rfl Tryd.underlying33 pkInfo5 (by decide) _ F M A n c rfl rfl ?cO ?cR ?cB ?cS ?cL ?_; (case cO => exact HO9.out); (case cR => exact HM.out.below HB.out); (case cB => exact Below.refl _ _); (case cS => exact World.block_lt_of_cell? _ _ K.out.1); (case cL => rw [HLF.out]; omega); intro v10 w10 ho hb hg hat; obtain ⟨A10, f10, rfl, hr10⟩ := own_reads ho; rw [HLM.out] at hr10 ⊢; have HR10 := Lib.hid hr10; have Kn := Lib.hid (K.out.keep hb (by omega)); clear K; have K := Kn; clear Kn; have HBn := Lib.hid (below_wide HB.out hb (by omega)); clear HB ho hb hg hat hr10 c0 c1 c2 c3 c4; have HB := HBn; clear HBn)))
    | (go_at_call 20; go_loud ((refine (new_calls _ A10 n f10 (F ++ M) HR10.out (by omega) HXr.out).mono ?_); rintro e w11 ⟨a2, d2, rfl, hd, hb, ha, hda, hdl⟩; have HD2 := Lib.hid hd; have HA2 := Lib.hid (show w.heap.size ≤ a2 from Nat.le_trans HB.out.size ha); have HNE2 := Lib.hid (show w.heap.size ≠ a2 by have h1 : w.heap.size < _ := World.block_lt_of_cell? _ _ K.out.1; omega); have HDL2 := Lib.hid hdl; clear hd ha hda hdl; have Kn := Lib.hid (K.out.below hb); clear K; have K := Kn; clear Kn; have HBn := Lib.hid (below_step (by repeat (first | (with_reducible exact HB.out) | apply below_alloc | apply pw_below_drewN | apply below_drew1 | exact HB.out)) hb); clear hb HB; have HB := HBn; clear HBn; have c0 : w11.cell? ⟨w.heap.size, 0, none⟩ = some (.int .i64 o.n) := K.out.1; have c1 : w11.cell? ⟨w.heap.size, 1, none⟩ = some (.int .i64 o.r) := K.out.2.1; have c2 : w11.cell? ⟨w.heap.size, 2, none⟩ = some (.int .i64 o.node) := K.out.2.2.1; have c3 : w11.cell? ⟨w.heap.size, 3, none⟩ = some (.int .i64 o.par) := K.out.2.2.2.1; have c4 : w11.cell? ⟨w.heap.size, 4, none⟩ = some (.string o.name) := K.out.2.2.2.2))
    | (go_at_call 12; go_loud ((refine Calls.mono (HRC.out _ (HT.out.below (by repeat (first | (with_reducible exact HB.out) | apply below_alloc | apply pw_below_drewN | apply below_drew1 | exact HB.out)))) ?_); rintro e w12 ⟨rfl, hb⟩; have HD3 := Lib.hid (HD2.out.below hb); have HDL3 := Lib.hid (show d2 < w12.heap.size from Nat.lt_of_lt_of_le HDL2.out hb.size); clear c0 c1 c2 c3 c4; have Kn := Lib.hid (K.out.below hb); clear K; have K := Kn; clear Kn; have HBn := Lib.hid (below_step (by repeat (first | (with_reducible exact HB.out) | apply below_alloc | apply pw_below_drewN | apply below_drew1 | exact HB.out)) hb); clear hb HB; have HB := HBn; clear HBn; have c0 : w12.cell? ⟨w.heap.size, 0, none⟩ = some (.int .i64 o.n) := K.out.1; have c1 : w12.cell? ⟨w.heap.size, 1, none⟩ = some (.int .i64 o.r) := K.out.2.1; have c2 : w12.cell? ⟨w.heap.size, 2, none⟩ = some (.int .i64 o.node) := K.out.2.2.1; have c3 : w12.cell? ⟨w.heap.size, 3, none⟩ = some (.int .i64 o.par) := K.out.2.2.2.1; have c4 : w12.cell? ⟨w.heap.size, 4, none⟩ = some (.string o.name) := K.out.2.2.2.2))
    | (fail "no arm"))
  go_ret
  exact ⟨rfl, (by repeat (first | (with_reducible exact HB.out) | apply below_alloc | apply pw_below_drewN | apply below_drew1 | exact HB.out))⟩

set_option maxHeartbeats 4000000 in
theorem opBack_not_right (o : OpR) (A : Option Addr) (n c : Nat) (M : List Int) (B : Option Addr) (m d k : Nat) (b : List Int) (w : World) (hT : Tabs w) (hk : o.name.size ≤ 60)
    (hM : ReadsInt w .u8 A n M) (hn : n ≤ 300) (hMr : ∀ x ∈ M, 0 ≤ x ∧ x < 256) (hb : ReadsInt w .u8 B (k + m) b) (_ : k + m ≤ d) (hm : k + m ≤ 300) (hbr : ∀ x ∈ b, 0 ≤ x ∧ x < 256)
    (hl : (tk5 b 0).2.1.length = m) (hc : opRight (tkOp b 0) = false) (hr : opRight o = true) :
    Calls Tryd.prog 6 #[opV o, .slice A n c, .slice B (k + m) d] w fun e w' => e = .returned (.bool true) ∧ Below w.heap.size w w' := by
  have HT := Lib.hid hT
  have HB := Lib.hid (Below.refl w.heap.size w)
  have HS : Hid (∀ (g : Nat) (w : World), w.cell? ⟨g, 4, none⟩ = some (.string o.name) → Calls Tryd.prog 9 #[.slice (some ⟨g, 0, none⟩) 1 1] w (fun e w' => e = .returned (.bool true) ∧ Below w.heap.size w w')) :=
    Lib.hid fun g w h0 => (shortOne_calls g o.name w h0).mono (by rintro e w' ⟨rfl, rfl⟩; exact ⟨by rw [decide_eq_true hk], Below.refl _ _⟩)
  have ht := fun (v : World) (a d : Nat) h hd hw ha => take_calls w v a d b 0 h (by decide) hd hT hw ha
  have hp := fun w (h : Tabs w) => put_calls o w (by omega) h
  have hrc := fun w (h : Tabs w) => right_calls o w (by omega) h
  have hFl := opForm_length o
  have hFr := opForm_range o
  have HLeft := Lib.hid (fun (w : World) (a d : Nat) (e : Int) (h : RD 63 w a d (tk5 b 0).2.1 e) => left_calls w a d (tk5 b 0).2.1 e h)
  rw [hl] at HLeft
  rw [hc] at ht
  rw [hr] at hrc
  rw [if_neg (by decide)] at ht
  have ht2 := fun (v : World) (a d : Nat) h hd hw ha => take_calls w v a d (opForm o ++ M) 0 h (by decide) hd hT hw ha
  obtain ⟨q1, q2, q3⟩ := put_take hr M
  rw [q1, q2, hr, if_pos rfl] at ht2
  generalize (tk5 b 0).2.1 = ys at *
  generalize (tk5 b 0).2.2 = e5 at *
  have HXr := Lib.hid (show ∀ x ∈ opForm o ++ M, 0 ≤ x ∧ x < 256 from fun x hx => by rcases List.mem_append.1 hx with h | h; exact hFr x h; exact hMr x h)
  clear q1 q2 q3
  generalize (tk5 (opForm o ++ M) 0).2.2 = e6 at *
  have HL2 := Lib.hid (fun (w : World) (a d : Nat) (e : Int) (h : RD 63 w a d M e) => left_calls w a d M e h)
  rw [hM.1] at HL2
  have heq := (eqB_iff o o).2 rfl
  generalize hF : opForm o = F at *
  generalize hLF : F.length = L at *
  simp only [opV, zeroOp] at *
  have HMl := Lib.hid hM.1
  have HTK := Lib.hid ht
  have HP := Lib.hid hp
  have HRC := Lib.hid hrc
  have HLF := Lib.hid hLF
  have HLM := Lib.hid (show (F ++ M).length = L + n by rw [List.length_append, hLF, hM.1])
  have HM := Lib.hid hM
  have HBB := Lib.hid hb
  have HBR := Lib.hid hbr
  have HTK2 := Lib.hid ht2
  clear ht2
  clear ht hp hrc hLF hT hM hb hbr hMr hl hc hr hFr hF hk
  go_enter Tryd.func6, Tryd.ntmps6
  go_wp2_with (first
    | (go_at_call 8; (refine Calls.mono (awake_calls _ (HT.out.below (by repeat (first | (with_reducible exact HB.out) | apply below_alloc | apply pw_below_drewN | apply below_drew1 | exact HB.out)))) ?_); rintro e w1 ⟨rfl, hb⟩; have K := Lib.hid (OpAt.below (g := w.heap.size) (o := o) ⟨by go_cell, by go_cell, by go_cell, by go_cell, by go_cell⟩ hb); obtain ⟨c0, c1, c2, c3, c4⟩ := K.out; have HBn := Lib.hid (below_step (by repeat (first | (with_reducible exact HB.out) | apply below_alloc | apply pw_below_drewN | apply below_drew1 | exact HB.out)) hb); clear hb HB; have HB := HBn; clear HBn)
    | (go_at_call 9; (refine (HS.out _ _ (by go_cell)).mono ?_); rintro e w2 ⟨rfl, hb⟩; clear c0 c1 c2 c3 c4; have Kn := Lib.hid ((K.out.below ((Below.refl _ _).alloc (Nat.le_refl _) _)).below hb); clear K; have K := Kn; clear Kn; have HBn := Lib.hid (below_step (by repeat (first | (with_reducible exact HB.out) | apply below_alloc | apply pw_below_drewN | apply below_drew1 | exact HB.out)) hb); clear hb HB; have HB := HBn; clear HBn)
    | (go_at_call 20; go_loud ((refine (new_calls _ B (k + m) d b (HBB.out.below (by repeat (first | (with_reducible exact HB.out) | apply below_alloc | apply pw_below_drewN | apply below_drew1 | exact HB.out))) (by omega) HBR.out).mono ?_); rintro e w3 ⟨a, dd, rfl, hd, hb, ha, hda, hdl⟩; have HD := Lib.hid hd; have HA := Lib.hid (show w.heap.size ≤ a from Nat.le_trans HB.out.size ha); have HNE := Lib.hid (show w.heap.size ≠ a by have h1 : w.heap.size < _ := World.block_lt_of_cell? _ _ K.out.1; omega); have HDL := Lib.hid hdl; clear hd ha hda hdl; have Kn := Lib.hid (K.out.below hb); clear K; have K := Kn; clear Kn; have HBn := Lib.hid (below_step (by repeat (first | (with_reducible exact HB.out) | apply below_alloc | apply pw_below_drewN | apply below_drew1 | exact HB.out)) hb); clear hb HB; have HB := HBn; clear HBn))
    | (go_at_call 21; (refine (HTK.out _ a dd HD.out HDL.out HB.out HA.out).mono ?_); rintro e w5 ⟨rfl, hd, hw5⟩; have HD5 := Lib.hid hd; have Kn := Lib.hid (K.out.wide hw5 HNE.out); clear K; have K := Kn; clear Kn; have HBn := Lib.hid (hw5.below HB.out HA.out HB.out.size); clear hd hw5 HB; have HB := HBn; clear HBn)
    | (go_at_call 22; (refine (HLeft.out _ a dd _ (HD5.out.below ((Below.refl _ _).alloc (Nat.le_refl _) _))).mono ?_); rintro e w6 ⟨rfl, rfl⟩)
    | (fail "no arm"))
  go_quiet (fail)
  have Kn := Lib.hid (show OpAt w.heap.size o ((w5.alloc (.cells #[.int .i64 0, .int .i64 0, .int .i64 0, .int .i64 0, .string ⟨#[]⟩] 25)).drewN nq) from OpAt.at_ (K.out.below ((Below.refl _ _).alloc (Nat.le_refl _) _)) (by rfl)); clear K; have K := Kn; clear Kn
  obtain ⟨c0, c1, c2, c3, c4⟩ := K.out
  go_wp2_with (first
    | (go_at_call 17; go_loud ((refine Calls.mono (HP.out _ (HT.out.below (by repeat (first | (with_reducible exact HB.out) | apply below_alloc | apply pw_below_drewN | apply below_drew1 | exact HB.out)))) ?_); rintro e w9 ⟨v9, rfl, ho, hb⟩; obtain ⟨A9, f9, rfl, hr9⟩ := own_reads ho; rw [HLF.out] at hr9 ho ⊢; have HO9 := Lib.hid (OwnB.le ho (show w.heap.size + 1 ≤ _ from World.block_lt_of_cell? _ _ K.out.1)); clear ho hr9; clear c0 c1 c2 c3 c4; have Kn := Lib.hid (K.out.below hb); clear K; have K := Kn; clear Kn; have HBn := Lib.hid (below_step (by repeat (first | (with_reducible exact HB.out) | apply below_alloc | apply pw_below_drewN | apply below_drew1 | exact HB.out)) hb); clear hb HB; have HB := HBn; clear HBn; have c0 : w9.cell? ⟨w.heap.size, 0, none⟩ = some (.int .i64 o.n) := K.out.1; have c1 : w9.cell? ⟨w.heap.size, 1, none⟩ = some (.int .i64 o.r) := K.out.2.1; have c2 : w9.cell? ⟨w.heap.size, 2, none⟩ = some (.int .i64 o.node) := K.out.2.2.1; have c3 : w9.cell? ⟨w.heap.size, 3, none⟩ = some (.int .i64 o.par) := K.out.2.2.2.1; have c4 : w9.cell? ⟨w.heap.size, 4, none⟩ = some (.string o.name) := K.out.2.2.2.2))
    | (at_builtin; go_loud ((refine print_append_row (w0 := w9) (w.heap.size + 1) rfl (.tmp 62) (.tmp 63) 33 5 .u8 1 rfl Tryd.underlying33 pkInfo5 (by decide) _ F M A n c rfl rfl ?cO ?cR ?cB ?cS ?cL ?_; (case cO => exact HO9.out); (case cR => exact HM.out.below HB.out); (case cB => exact Below.refl _ _); (case cS => exact World.block_lt_of_cell? _ _ K.out.1); (case cL => rw [HLF.out]; omega); intro v10 w10 ho hb hg hat; obtain ⟨A10, f10, rfl, hr10⟩ := own_reads ho; rw [HLM.out] at hr10 ⊢; have HR10 := Lib.hid hr10; have Kn := Lib.hid (K.out.keep hb (by omega)); clear K; have K := Kn; clear Kn; have HBn := Lib.hid (below_wide HB.out hb (by omega)); clear HB ho hb hg hat hr10 c0 c1 c2 c3 c4; have HB := HBn; clear HBn)))
    | (go_at_call 20; go_loud ((refine (new_calls _ A10 (L + n) f10 (F ++ M) HR10.out (by omega) HXr.out).mono ?_); rintro e w11 ⟨a2, d2, rfl, hd, hb, ha, hda, hdl⟩; have HD2 := Lib.hid hd; have HA2 := Lib.hid (show w.heap.size ≤ a2 from Nat.le_trans HB.out.size ha); have HNE2 := Lib.hid (show w.heap.size ≠ a2 by have h1 : w.heap.size < _ := World.block_lt_of_cell? _ _ K.out.1; omega); have HDL2 := Lib.hid hdl; clear hd ha hda hdl; have Kn := Lib.hid (K.out.below hb); clear K; have K := Kn; clear Kn; have HBn := Lib.hid (below_step (by repeat (first | (with_reducible exact HB.out) | apply below_alloc | apply pw_below_drewN | apply below_drew1 | exact HB.out)) hb); clear hb HB; have HB := HBn; clear HBn; have c0 : w11.cell? ⟨w.heap.size, 0, none⟩ = some (.int .i64 o.n) := K.out.1; have c1 : w11.cell? ⟨w.heap.size, 1, none⟩ = some (.int .i64 o.r) := K.out.2.1; have c2 : w11.cell? ⟨w.heap.size, 2, none⟩ = some (.int .i64 o.node) := K.out.2.2.1; have c3 : w11.cell? ⟨w.heap.size, 3, none⟩ = some (.int .i64 o.par) := K.out.2.2.2.1; have c4 : w11.cell? ⟨w.heap.size, 4, none⟩ = some (.string o.name) := K.out.2.2.2.2))
    | (go_at_call 12; go_loud ((refine Calls.mono (HRC.out _ (HT.out.below (by repeat (first | (with_reducible exact HB.out) | apply below_alloc | apply pw_below_drewN | apply below_drew1 | exact HB.out)))) ?_); rintro e w12 ⟨rfl, hb⟩; have HD3 := Lib.hid (HD2.out.below hb); have HDL3 := Lib.hid (show d2 < w12.heap.size from Nat.lt_of_lt_of_le HDL2.out hb.size); clear c0 c1 c2 c3 c4; have Kn := Lib.hid (K.out.below hb); clear K; have K := Kn; clear Kn; have HBn := Lib.hid (below_step (by repeat (first | (with_reducible exact HB.out) | apply below_alloc | apply pw_below_drewN | apply below_drew1 | exact HB.out)) hb); clear hb HB; have HB := HBn; clear HBn; have c0 : w12.cell? ⟨w.heap.size, 0, none⟩ = some (.int .i64 o.n) := K.out.1; have c1 : w12.cell? ⟨w.heap.size, 1, none⟩ = some (.int .i64 o.r) := K.out.2.1; have c2 : w12.cell? ⟨w.heap.size, 2, none⟩ = some (.int .i64 o.node) := K.out.2.2.1; have c3 : w12.cell? ⟨w.heap.size, 3, none⟩ = some (.int .i64 o.par) := K.out.2.2.2.1; have c4 : w12.cell? ⟨w.heap.size, 4, none⟩ = some (.string o.name) := K.out.2.2.2.2))
    | (go_at_call 21; go_loud ((refine Calls.mono (HTK2.out _ a2 d2 HD3.out HDL3.out HB.out HA2.out) ?_); rintro e w13 ⟨rfl, hd, hw5⟩; have HD6 := Lib.hid hd; have Kn := Lib.hid (K.out.wide hw5 HNE2.out); clear K; have K := Kn; clear Kn; have HBn := Lib.hid (hw5.below HB.out HA2.out HB.out.size); clear hd hw5 HB; have HB := HBn; clear HBn; clear c0 c1 c2 c3 c4; have c0 : w13.cell? ⟨w.heap.size, 0, none⟩ = some (.int .i64 o.n) := K.out.1; have c1 : w13.cell? ⟨w.heap.size, 1, none⟩ = some (.int .i64 o.r) := K.out.2.1; have c2 : w13.cell? ⟨w.heap.size, 2, none⟩ = some (.int .i64 o.node) := K.out.2.2.1; have c3 : w13.cell? ⟨w.heap.size, 3, none⟩ = some (.int .i64 o.par) := K.out.2.2.2.1; have c4 : w13.cell? ⟨w.heap.size, 4, none⟩ = some (.string o.name) := K.out.2.2.2.2; have hlt : w.heap.size < w13.heap.size := World.block_lt_of_cell? _ _ c0))
    | (go_at_call 22; go_loud ((refine Calls.mono (HL2.out _ a2 d2 _ (HD6.out.below ((Below.refl _ _).alloc (Nat.le_refl _) _))) ?_); rintro e w14 ⟨rfl, rfl⟩))
    | (fail "no arm"))
  go_ret
  exact ⟨rfl, (by repeat (first | (with_reducible exact HB.out) | apply below_alloc | apply pw_below_drewN | apply below_drew1 | exact HB.out))⟩

set_option maxHeartbeats 4000000 in
theorem opBack_not_wrong (o : OpR) (A : Option Addr) (n c : Nat) (M : List Int) (B : Option Addr) (m d k : Nat) (b : List Int) (w : World) (hT : Tabs w) (hk : o.name.size ≤ 60)
    (hM : ReadsInt w .u8 A n M) (hn : n ≤ 300) (hMr : ∀ x ∈ M, 0 ≤ x ∧ x < 256) (hb : ReadsInt w .u8 B (k + m) b) (_ : k + m ≤ d) (hm : k + m ≤ 300) (hbr : ∀ x ∈ b, 0 ≤ x ∧ x < 256)
    (hl : (tk5 b 0).2.1.length = m) (hc : opRight (tkOp b 0) = false) (hr : opRight o = false) :
    Calls Tryd.prog 6 #[opV o, .slice A n c, .slice B (k + m) d] w fun e w' => e = .returned (.bool true) ∧ Below w.heap.size w w' := by
  have HT := Lib.hid hT
  have HB := Lib.hid (Below.refl w.heap.size w)
  have HS : Hid (∀ (g : Nat) (w : World), w.cell? ⟨g, 4, none⟩ = some (.string o.name) → Calls Tryd.prog 9 #[.slice (some ⟨g, 0, none⟩) 1 1] w (fun e w' => e = .returned (.bool true) ∧ Below w.heap.size w w')) :=
    Lib.hid fun g w h0 => (shortOne_calls g o.name w h0).mono (by rintro e w' ⟨rfl, rfl⟩; exact ⟨by rw [decide_eq_true hk], Below.refl _ _⟩)
  have ht := fun (v : World) (a d : Nat) h hd hw ha => take_calls w v a d b 0 h (by decide) hd hT hw ha
  have hp := fun w (h : Tabs w) => put_calls o w (by omega) h
  have hrc := fun w (h : Tabs w) => right_calls o w (by omega) h
  have hFl := opForm_length o
  have hFr := opForm_range o
  have HLeft := Lib.hid (fun (w : World) (a d : Nat) (e : Int) (h : RD 63 w a d (tk5 b 0).2.1 e) => left_calls w a d (tk5 b 0).2.1 e h)
  rw [hl] at HLeft
  rw [hc] at ht
  rw [hr] at hrc
  rw [if_neg (by decide)] at ht
  rw [opForm_nil hr] at hp hFl hFr
  generalize (tk5 b 0).2.1 = ys at *
  generalize (tk5 b 0).2.2 = e5 at *
  have HXr := Lib.hid (show ∀ x ∈ [] ++ M, 0 ≤ x ∧ x < 256 from fun x hx => hMr x (by simpa using hx))
  obtain ⟨F, hF⟩ : ∃ F : List Int, F = [] := ⟨_, rfl⟩
  rw [← hF] at hp hFl HXr
  generalize hLF : F.length = L at *
  obtain rfl : L = 0 := by rw [← hLF, hF]; rfl
  simp only [opV, zeroOp] at *
  have HMl := Lib.hid hM.1
  have HTK := Lib.hid ht
  have HP := Lib.hid hp
  have HRC := Lib.hid hrc
  have HLF := Lib.hid hLF
  have HLM := Lib.hid (show (F ++ M).length = n by rw [List.length_append, hLF, hM.1]; omega)
  have HM := Lib.hid hM
  have HBB := Lib.hid hb
  have HBR := Lib.hid hbr
  clear ht hp hrc hLF hT hM hb hbr hMr hl hc hr hFr hF hk
  go_enter Tryd.func6, Tryd.ntmps6
  go_wp2_with (first
    | (go_at_call 8; (refine Calls.mono (awake_calls _ (HT.out.below (by repeat (first | (with_reducible exact HB.out) | apply below_alloc | apply pw_below_drewN | apply below_drew1 | exact HB.out)))) ?_); rintro e w1 ⟨rfl, hb⟩; have K := Lib.hid (OpAt.below (g := w.heap.size) (o := o) ⟨by go_cell, by go_cell, by go_cell, by go_cell, by go_cell⟩ hb); obtain ⟨c0, c1, c2, c3, c4⟩ := K.out; have HBn := Lib.hid (below_step (by repeat (first | (with_reducible exact HB.out) | apply below_alloc | apply pw_below_drewN | apply below_drew1 | exact HB.out)) hb); clear hb HB; have HB := HBn; clear HBn)
    | (go_at_call 9; (refine (HS.out _ _ (by go_cell)).mono ?_); rintro e w2 ⟨rfl, hb⟩; clear c0 c1 c2 c3 c4; have Kn := Lib.hid ((K.out.below ((Below.refl _ _).alloc (Nat.le_refl _) _)).below hb); clear K; have K := Kn; clear Kn; have HBn := Lib.hid (below_step (by repeat (first | (with_reducible exact HB.out) | apply below_alloc | apply pw_below_drewN | apply below_drew1 | exact HB.out)) hb); clear hb HB; have HB := HBn; clear HBn)
    | (go_at_call 20; go_loud ((refine (new_calls _ B (k + m) d b (HBB.out.below (by repeat (first | (with_reducible exact HB.out) | apply below_alloc | apply pw_below_drewN | apply below_drew1 | exact HB.out))) (by omega) HBR.out).mono ?_); rintro e w3 ⟨a, dd, rfl, hd, hb, ha, hda, hdl⟩; have HD := Lib.hid hd; have HA := Lib.hid (show w.heap.size ≤ a from Nat.le_trans HB.out.size ha); have HNE := Lib.hid (show w.heap.size ≠ a by have h1 : w.heap.size < _ := World.block_lt_of_cell? _ _ K.out.1; omega); have HDL := Lib.hid hdl; clear hd ha hda hdl; have Kn := Lib.hid (K.out.below hb); clear K; have K := Kn; clear Kn; have HBn := Lib.hid (below_step (by repeat (first | (with_reducible exact HB.out) | apply below_alloc | apply pw_below_drewN | apply below_drew1 | exact HB.out)) hb); clear hb HB; have HB := HBn; clear HBn))
    | (go_at_call 21; (refine (HTK.out _ a dd HD.out HDL.out HB.out HA.out).mono ?_); rintro e w5 ⟨rfl, hd, hw5⟩; have HD5 := Lib.hid hd; have Kn := Lib.hid (K.out.wide hw5 HNE.out); clear K; have K := Kn; clear Kn; have HBn := Lib.hid (hw5.below HB.out HA.out HB.out.size); clear hd hw5 HB; have HB := HBn; clear HBn)
    | (go_at_call 22; (refine (HLeft.out _ a dd _ (HD5.out.below ((Below.refl _ _).alloc (Nat.le_refl _) _))).mono ?_); rintro e w6 ⟨rfl, rfl⟩)
    | (fail "no arm"))
  go_quiet (fail)
  have Kn := Lib.hid (show OpAt w.heap.size o ((w5.alloc (.cells #[.int .i64 0, .int .i64 0, .int .i64 0, .int .i64 0, .string ⟨#[]⟩] 25)).drewN nq) from OpAt.at_ (K.out.below ((Below.refl _ _).alloc (Nat.le_refl _) _)) (by rfl)); clear K; have K := Kn; clear Kn
  obtain ⟨c0, c1, c2, c3, c4⟩ := K.out
  go_wp2_with (first
    | (go_at_call 17; go_loud ((refine Calls.mono (HP.out _ (HT.out.below (by repeat (first | (with_reducible exact HB.out) | apply below_alloc | apply pw_below_drewN | apply below_drew1 | exact HB.out)))) ?_); rintro e w9 ⟨v9, rfl, ho, hb⟩; obtain ⟨A9, f9, rfl, hr9⟩ := own_reads ho; rw [HLF.out] at hr9 ho ⊢; have HO9 := Lib.hid (OwnB.le ho (show w.heap.size + 1 ≤ _ from World.block_lt_of_cell? _ _ K.out.1)); clear ho hr9; clear c0 c1 c2 c3 c4; have Kn := Lib.hid (K.out.below hb); clear K; have K := Kn; clear Kn; have HBn := Lib.hid (below_step (by repeat (first | (with_reducible exact HB.out) | apply below_alloc | apply pw_below_drewN | apply below_drew1 | exact HB.out)) hb); clear hb HB; have HB := HBn; clear HBn; have c0 : w9.cell? ⟨w.heap.size, 0, none⟩ = some (.int .i64 o.n) := K.out.1; have c1 : w9.cell? ⟨w.heap.size, 1, none⟩ = some (.int .i64 o.r) := K.out.2.1; have c2 : w9.cell? ⟨w.heap.size, 2, none⟩ = some (.int .i64 o.node) := K.out.2.2.1; have c3 : w9.cell? ⟨w.heap.size, 3, none⟩ = some (.int .i64 o.par) := K.out.2.2.2.1; have c4 : w9.cell? ⟨w.heap.size, 4, none⟩ = some (.string o.name) := K.out.2.2.2.2))
    | (at_builtin; go_loud ((refine print_append_row (w0 := w9) (w.heap.size + 1) rfl (.tmp 62) (.tmp 63) 33 5 .u8 1 rfl Tryd.underlying33 pkInfo5 (by decide) _ F M A n c rfl rfl ?cO ?cR ?cB ?cS ?cL ?_; (case cO => exact HO9.out); (case cR => exact HM.out.below HB.out); (case cB => exact Below.refl _ _); (case cS => exact World.block_lt_of_cell? _ _ K.out.1); (case cL => rw [HLF.out]; omega); intro v10 w10 ho hb hg hat; obtain ⟨A10, f10, rfl, hr10⟩ := own_reads ho; rw [HLM.out] at hr10 ⊢; have HR10 := Lib.hid hr10; have Kn := Lib.hid (K.out.keep hb (by omega)); clear K; have K := Kn; clear Kn; have HBn := Lib.hid (below_wide HB.out hb (by omega)); clear HB ho hb hg hat hr10 c0 c1 c2 c3 c4; have HB := HBn; clear HBn)))
    | (go_at_call 20; go_loud ((refine (new_calls _ A10 n f10 (F ++ M) HR10.out (by omega) HXr.out).mono ?_); rintro e w11 ⟨a2, d2, rfl, hd, hb, ha, hda, hdl⟩; have HD2 := Lib.hid hd; have HA2 := Lib.hid (show w.heap.size ≤ a2 from Nat.le_trans HB.out.size ha); have HNE2 := Lib.hid (show w.heap.size ≠ a2 by have h1 : w.heap.size < _ := World.block_lt_of_cell? _ _ K.out.1; omega); have HDL2 := Lib.hid hdl; clear hd ha hda hdl; have Kn := Lib.hid (K.out.below hb); clear K; have K := Kn; clear Kn; have HBn := Lib.hid (below_step (by repeat (first | (with_reducible exact HB.out) | apply below_alloc | apply pw_below_drewN | apply below_drew1 | exact HB.out)) hb); clear hb HB; have HB := HBn; clear HBn; have c0 : w11.cell? ⟨w.heap.size, 0, none⟩ = some (.int .i64 o.n) := K.out.1; have c1 : w11.cell? ⟨w.heap.size, 1, none⟩ = some (.int .i64 o.r) := K.out.2.1; have c2 : w11.cell? ⟨w.heap.size, 2, none⟩ = some (.int .i64 o.node) := K.out.2.2.1; have c3 : w11.cell? ⟨w.heap.size, 3, none⟩ = some (.int .i64 o.par) := K.out.2.2.2.1; have c4 : w11.cell? ⟨w.heap.size, 4, none⟩ = some (.string o.name) := K.out.2.2.2.2))
    | (go_at_call 12; go_loud ((refine Calls.mono (HRC.out _ (HT.out.below (by repeat (first | (with_reducible exact HB.out) | apply below_alloc | apply pw_below_drewN | apply below_drew1 | exact HB.out)))) ?_); rintro e w12 ⟨rfl, hb⟩; have HD3 := Lib.hid (HD2.out.below hb); have HDL3 := Lib.hid (show d2 < w12.heap.size from Nat.lt_of_lt_of_le HDL2.out hb.size); clear c0 c1 c2 c3 c4; have Kn := Lib.hid (K.out.below hb); clear K; have K := Kn; clear Kn; have HBn := Lib.hid (below_step (by repeat (first | (with_reducible exact HB.out) | apply below_alloc | apply pw_below_drewN | apply below_drew1 | exact HB.out)) hb); clear hb HB; have HB := HBn; clear HBn; have c0 : w12.cell? ⟨w.heap.size, 0, none⟩ = some (.int .i64 o.n) := K.out.1; have c1 : w12.cell? ⟨w.heap.size, 1, none⟩ = some (.int .i64 o.r) := K.out.2.1; have c2 : w12.cell? ⟨w.heap.size, 2, none⟩ = some (.int .i64 o.node) := K.out.2.2.1; have c3 : w12.cell? ⟨w.heap.size, 3, none⟩ = some (.int .i64 o.par) := K.out.2.2.2.1; have c4 : w12.cell? ⟨w.heap.size, 4, none⟩ = some (.string o.name) := K.out.2.2.2.2))
    | (fail "no arm"))
  go_ret
  exact ⟨rfl, (by repeat (first | (with_reducible exact HB.out) | apply below_alloc | apply pw_below_drewN | apply below_drew1 | exact HB.out))⟩

theorem rdNum_len (xs : List Int) (e most : Int) (hx : ∀ x ∈ xs, 0 ≤ x ∧ x < 256) : (rdNum xs e most).2.1.length ≤ xs.length ∧ ∀ x ∈ (rdNum xs e most).2.1, 0 ≤ x ∧ x < 256 := by
  by_cases he : e = 0
  · subst he
    rcases rdNum_cases xs most hx with ⟨e', h, _⟩ | ⟨k, n, h, _⟩
    · rw [h]; simp
    · rw [h]; exact ⟨by simp, fun x hx' => hx x (List.mem_of_mem_drop hx')⟩
  · rw [rdNum_err he]; exact ⟨Nat.le_refl _, hx⟩
theorem rdText_len (xs : List Int) (e most : Int) (hx : ∀ x ∈ xs, 0 ≤ x ∧ x < 256) : (rdText xs e most).2.1.length ≤ xs.length := by
  have h := (rdNum_len xs e most hx).1
  unfold rdText
  split
  · exact h
  · split
    · simp
    · simp only [List.length_drop]; omega
theorem tk5_len (b : List Int) (hb : ∀ x ∈ b, 0 ≤ x ∧ x < 256) : (tk5 b 0).2.1.length ≤ b.length := by
  have h1 := rdNum_len b 0 16777215 hb
  have h2 := rdNum_len (tk1 b 0).2.1 (tk1 b 0).2.2 255 h1.2
  have h3 := rdNum_len (tk2 b 0).2.1 (tk2 b 0).2.2 4294967295 h2.2
  have h4 := rdNum_len (tk3 b 0).2.1 (tk3 b 0).2.2 4294967295 h3.2
  have h5 := rdText_len (tk4 b 0).2.1 (tk4 b 0).2.2 20 h4.2
  exact Nat.le_trans h5 (Nat.le_trans h4.1 (Nat.le_trans h3.1 (Nat.le_trans h2.1 h1.1)))

theorem opBack_walk (o : OpR) (A : Option Addr) (c : Nat) (M : List Int) (B : Option Addr) (d : Nat) (b : List Int) (w : World) (ho : o.name.size ≤ 9223372036854775807)
    (hr : (Kd.int .u8).C w A M.length M) (_ : M.length ≤ c) (hok : M.length ≤ maxLen ∧ ∀ x ∈ M, (Lit.int .u8 x).wf = true)
    (hr2 : (Kd.int .u8).C w B b.length b) (hc2 : b.length ≤ d) (hok2 : b.length ≤ maxLen ∧ ∀ x ∈ b, (Lit.int .u8 x).wf = true) (hT : Tabs w) :
    Calls Tryd.prog 6 #[opV o, .slice A M.length c, .slice B b.length d] w fun e w' => e = .returned (.bool true) ∧ Below w.heap.size w w' := by
  have hM := int_of_C hr
  have hB := int_of_C hr2
  have hMr : ∀ x ∈ M, 0 ≤ x ∧ x < 256 := fun x hx => byte_wf (hok.2 x hx)
  have hBr : ∀ x ∈ b, 0 ≤ x ∧ x < 256 := fun x hx => byte_wf (hok2.2 x hx)
  by_cases h : 60 < o.name.size ∨ 300 < M.length ∨ 300 < b.length
  · exact opBack_long o A M.length c B b.length d w hT hM.2.1 hB.2.1 h
  · have hl := tk5_len b hBr
    obtain ⟨m, hm⟩ : ∃ m, m = (tk5 b 0).2.1.length := ⟨_, rfl⟩
    obtain ⟨k, hk⟩ : ∃ k, b.length = k + m := ⟨b.length - m, by omega⟩
    rw [hk] at hB hc2 h ⊢
    cases hcan : opRight (tkOp b 0)
    · cases hright : opRight o
      · exact opBack_not_wrong o A _ c M B m d k b w hT (by omega) hM (by omega) hMr hB hc2 (by omega) hBr hm.symm hcan hright
      · exact opBack_not_right o A _ c M B m d k b w hT (by omega) hM (by omega) hMr hB hc2 (by omega) hBr hm.symm hcan hright
    · have hq : opForm (tkOp b 0) = b.take k := by
        obtain ⟨j, hj, h1, h2⟩ := take_put b hBr hcan
        rw [h2, List.length_drop] at hm
        rw [h1, show j = k by omega]
      cases hright : opRight o
      · exact opBack_can_wrong o A _ c M B m d k b w hT (by omega) hM (by omega) hMr hB hc2 (by omega) hBr hm.symm hcan hright hq
      · exact opBack_can_right o A _ c M B m d k b w hT (by omega) hM (by omega) hMr hB hc2 (by omega) hBr hm.symm hcan hright hq
end Go.Proofs.YtbekfoldohhbpaaDoor
