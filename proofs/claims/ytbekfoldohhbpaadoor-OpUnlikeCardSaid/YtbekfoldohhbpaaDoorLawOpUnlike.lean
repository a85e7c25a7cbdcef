/-
  Unlike operations have unlike bytes: the plain law and the walk of the law OpUnlike.
-/
import Derived.Test.YtbekfoldohhbpaaDoorOpAwake
import Derived.Test.YtbekfoldohhbpaaDoorOpP
import Derived.Test.YtbekfoldohhbpaaDoorOpQ
import Derived.Test.YtbekfoldohhbpaaDoorOpTiny
import Derived.Test.YtbekfoldohhbpaaDoorWEqStruct
import Derived.Deep.RegionHeld3
import Derived.Deep.QuietTactic
namespace Go.Proofs.YtbekfoldohhbpaaDoor
open Go.RowKit Go.Proofs.YtbekfoldohhbpaaDoorW.PrintWords

theorem prefix_eq {a b : OpR} (ha : opRight a = true) (hb : opRight b = true) (h : (opForm b).take (opForm a).length = opForm a) : a = b := by
  have e : opForm b = opForm a ++ (opForm b).drop (opForm a).length := by
    conv => lhs; rw [← List.take_append_drop (opForm a).length (opForm b), h]
  have h1 := (put_take ha ((opForm b).drop (opForm a).length)).1
  have h2 := (put_take hb []).1
  rw [List.append_nil] at h2
  rw [← e, h2] at h1
  exact h1.symm
theorem opForm_nil {o : OpR} (h : opRight o = false) : opForm o = [] := by rw [opForm, if_neg (by rw [h]; decide)]
theorem opForm_pos {o : OpR} (h : opRight o = true) : 1 ≤ (opForm o).length := by
  obtain ⟨b1, _⟩ := right_bounds h
  rw [opForm, if_pos h, pre_four]
  have := form_pos o.n (by omega) (by omega)
  simp only [List.length_append]; omega
theorem opForm_range (o : OpR) : ∀ x ∈ opForm o, 0 ≤ x ∧ x < 256 := by
  unfold opForm
  split
  · intro x hx
    rcases List.mem_append.1 hx with h | h
    · rw [pre_four] at h
      simp only [List.mem_append] at h
      rcases h with ((h | h) | h) | h <;> exact form_range _ x h
    · exact textForm_range _ x h
  · simp
theorem opForm_length (o : OpR) : (opForm o).length ≤ 45 := by
  unfold opForm
  split
  · rename_i hR
    obtain ⟨b1, b2, b3, b4, b5⟩ := right_bounds hR
    rw [List.length_append]
    have h1 := pre_length o 4 (by omega)
    have h2 := textForm_length o.name (by omega)
    have h3 := form_length o.name.size
    omega
  · simp

/-- Whether two operations' fields are the same. -/
def eqB (n r node par : Int) (name : ByteArray) (n' r' node' par' : Int) (name' : ByteArray) : Bool :=
  ((n == n') && (r == r')) && ((node == node') && ((par == par') && (name.toList == name'.toList)))
theorem eqB_iff (a b : OpR) : eqB a.n a.r a.node a.par a.name b.n b.r b.node b.par b.name = true ↔ a = b := by
  obtain ⟨n, r, node, par, name⟩ := a
  obtain ⟨n', r', node', par', name'⟩ := b
  simp only [eqB, Bool.and_eq_true, beq_iff_eq, OpR.mk.injEq, and_assoc]
  have : name.toList = name'.toList ↔ name = name' := ⟨fun h => by rw [ByteArray.toList_eq, ByteArray.toList_eq] at h; exact ByteArray.ext (Array.toList_inj.1 h), fun h => by rw [h]⟩
  rw [this]
theorem eqStamp (d : Nat) (w : World) (n r n' r' : Int) :
    (Op.equalIn (d + 2) 23 (.agg #[.int .i64 n, .int .i64 r]) (.agg #[.int .i64 n', .int .i64 r'])).run Tryd.prog w = .ok ((n == n') && (r == r')) w := by
  refine eqA_of Tryd.underlying23 (by kernel_rfl) ?_
  refine eqf_cons (by rfl) (by go_simp; rfl) (by go_simp; rfl) (by go_simp) ?_
  exact eqf_last (by rfl) (by go_simp; rfl) (by go_simp; rfl) (by go_simp)
theorem eqOp (d : Nat) (w : World) (n r node par : Int) (name : ByteArray) (n' r' node' par' : Int) (name' : ByteArray) :
    (Op.equalIn (d + 3) 25 (.agg #[.int .i64 n, .int .i64 r, .int .i64 node, .int .i64 par, .string name]) (.agg #[.int .i64 n', .int .i64 r', .int .i64 node', .int .i64 par', .string name'])).run Tryd.prog w = .ok (eqB n r node par name n' r' node' par' name') w := by
  unfold eqB
  refine eqA_of Tryd.underlying25 (by kernel_rfl) ?_
  refine eqf_cons (by rfl) (by go_simp) (by go_simp) (eqStamp d w _ _ _ _) ?_
  refine eqf_cons (by rfl) (by go_simp; rfl) (by go_simp; rfl) (by go_simp) ?_
  refine eqf_cons (by rfl) (by go_simp; rfl) (by go_simp; rfl) (by go_simp) ?_
  exact eqf_last (by rfl) (by go_simp; rfl) (by go_simp; rfl) (by go_simp)

/-- Of two right operations the one's bytes begin the other's only where they are one. -/
theorem same_eqB {a b : OpR} (ha : opRight a = true) (hb : opRight b = true) :
    ((strOfNums (opForm a)).toList == (strOfNums ((opForm b).take (opForm a).length)).toList) = eqB a.n a.r a.node a.par a.name b.n b.r b.node b.par b.name := by
  rw [Bool.eq_iff_iff, eqB_iff, beq_iff_eq]
  constructor
  · intro h
    refine prefix_eq ha hb ?_
    rw [ByteArray.toList_eq, ByteArray.toList_eq] at h
    have h2 : strOfNums (opForm a) = strOfNums ((opForm b).take (opForm a).length) := ByteArray.ext (Array.toList_inj.1 h)
    have h3 := bytesOf_strOf (opForm a) (opForm_range a)
    have h4 := bytesOf_strOf ((opForm b).take (opForm a).length) (fun x hx => opForm_range b x (List.mem_of_mem_take hx))
    rw [← h4, ← h2, h3]
  · rintro rfl
    rw [List.take_length]

theorem shortOne_calls (g : Nat) (s0 : ByteArray) (w : World) (h0 : w.cell? ⟨g, 4, none⟩ = some (.string s0)) :
    Calls Tryd.prog 9 #[.slice (some ⟨g, 0, none⟩) 1 1] w fun e w' => e = .returned (.bool (decide (s0.size ≤ 60))) ∧ w' = w := by
  by_cases k0 : s0.size ≤ 60
  · go_enter Tryd.func9, Tryd.ntmps9
    go_wp2
    go_rounds 2
    go_ret
    simp [k0]
  · have q0 : 60 < s0.size := by omega
    go_enter Tryd.func9, Tryd.ntmps9
    go_wp2
    go_rounds 1
    go_ret
    simp [k0]
attribute [local go_sem high] eqOp

/-- Three operations lie in block g, one behind the other. -/
def L3 (g : Nat) (f : Nat → OpR) (w : World) : Prop := ∀ i : Nat, i < 3 →
  w.cell? ⟨g, i * 5, none⟩ = some (.int .i64 (f i).n) ∧ w.cell? ⟨g, i * 5 + 1, none⟩ = some (.int .i64 (f i).r) ∧ w.cell? ⟨g, i * 5 + 2, none⟩ = some (.int .i64 (f i).node) ∧ w.cell? ⟨g, i * 5 + 3, none⟩ = some (.int .i64 (f i).par) ∧ w.cell? ⟨g, i * 5 + 4, none⟩ = some (.string (f i).name)
theorem L3.below {g : Nat} {f : Nat → OpR} {w w1 : World} (k : L3 g f w) (hb : Below w.heap.size w w1) : L3 g f w1 := fun i hi =>
  ⟨pw_cell_below hb (k i hi).1, pw_cell_below hb (k i hi).2.1, pw_cell_below hb (k i hi).2.2.1, pw_cell_below hb (k i hi).2.2.2.1, pw_cell_below hb (k i hi).2.2.2.2⟩
theorem L3.at_ {g : Nat} {f : Nat → OpR} {w W : World} (k : L3 g f w) (h : W.heap = w.heap) : L3 g f W := fun i hi =>
  ⟨(World.cell?_of_block (by rw [h])).trans (k i hi).1, (World.cell?_of_block (by rw [h])).trans (k i hi).2.1, (World.cell?_of_block (by rw [h])).trans (k i hi).2.2.1, (World.cell?_of_block (by rw [h])).trans (k i hi).2.2.2.1, (World.cell?_of_block (by rw [h])).trans (k i hi).2.2.2.2⟩
def pick3 (a b c : OpR) (i : Nat) : OpR := if i = 0 then a else if i = 1 then b else c
/-- A small operation's fields lie in block g. -/
def TinyAt (g : Nat) (x0 x1 x2 x3 x4 : Int) (w : World) : Prop :=
  w.cell? ⟨g, 0, none⟩ = some (.int .u8 x0) ∧ w.cell? ⟨g, 1, none⟩ = some (.int .u8 x1) ∧ w.cell? ⟨g, 2, none⟩ = some (.int .u8 x2) ∧ w.cell? ⟨g, 3, none⟩ = some (.int .u8 x3) ∧ w.cell? ⟨g, 4, none⟩ = some (.int .u8 x4)
theorem TinyAt.below {g : Nat} {x0 x1 x2 x3 x4 : Int} {w w1 : World} (k : TinyAt g x0 x1 x2 x3 x4 w) (hb : Below w.heap.size w w1) : TinyAt g x0 x1 x2 x3 x4 w1 :=
  ⟨pw_cell_below hb k.1, pw_cell_below hb k.2.1, pw_cell_below hb k.2.2.1, pw_cell_below hb k.2.2.2.1, pw_cell_below hb k.2.2.2.2⟩
theorem TinyAt.at_ {g : Nat} {x0 x1 x2 x3 x4 : Int} {w W : World} (k : TinyAt g x0 x1 x2 x3 x4 w) (h : W.heap = w.heap) : TinyAt g x0 x1 x2 x3 x4 W :=
  ⟨(World.cell?_of_block (by rw [h])).trans k.1, (World.cell?_of_block (by rw [h])).trans k.2.1, (World.cell?_of_block (by rw [h])).trans k.2.2.1, (World.cell?_of_block (by rw [h])).trans k.2.2.2.1, (World.cell?_of_block (by rw [h])).trans k.2.2.2.2⟩
theorem OpAt.at_ {g : Nat} {o : OpR} {w W : World} (k : OpAt g o w) (h : W.heap = w.heap) : OpAt g o W :=
  ⟨(World.cell?_of_block (by rw [h])).trans k.1, (World.cell?_of_block (by rw [h])).trans k.2.1, (World.cell?_of_block (by rw [h])).trans k.2.2.1, (World.cell?_of_block (by rw [h])).trans k.2.2.2.1, (World.cell?_of_block (by rw [h])).trans k.2.2.2.2⟩
theorem reads_at {w W : World} {k : IntKind} {A : Option Addr} {n : Nat} {xs : List Int} (hr : ReadsInt w k A n xs) (hW : W.heap = w.heap) : ReadsInt W k A n xs :=
  ⟨hr.1, hr.2.1, fun hn => by
    obtain ⟨ad, e, hc⟩ := hr.2.2 hn
    exact ⟨ad, e, fun j hj => (World.cell?_of_block (by rw [hW])).trans (hc j hj)⟩⟩
theorem s15 {g g2 g3 : Nat} {x0 x1 x2 x3 x4 y0 y1 y2 y3 y4 : Int} {o : OpR} {W : World} (h : TinyAt g x0 x1 x2 x3 x4 W) (k : TinyAt g2 y0 y1 y2 y3 y4 W) (l : OpAt g3 o W) :
    W.cell? ⟨g, 0, none⟩ = some (.int .u8 x0) ∧ W.cell? ⟨g, 1, none⟩ = some (.int .u8 x1) ∧ W.cell? ⟨g, 2, none⟩ = some (.int .u8 x2) ∧ W.cell? ⟨g, 3, none⟩ = some (.int .u8 x3) ∧ W.cell? ⟨g, 4, none⟩ = some (.int .u8 x4) ∧ W.cell? ⟨g2, 0, none⟩ = some (.int .u8 y0) ∧ W.cell? ⟨g2, 1, none⟩ = some (.int .u8 y1) ∧ W.cell? ⟨g2, 2, none⟩ = some (.int .u8 y2) ∧ W.cell? ⟨g2, 3, none⟩ = some (.int .u8 y3) ∧ W.cell? ⟨g2, 4, none⟩ = some (.int .u8 y4) ∧ W.cell? ⟨g3, 0, none⟩ = some (.int .i64 o.n) ∧ W.cell? ⟨g3, 1, none⟩ = some (.int .i64 o.r) ∧ W.cell? ⟨g3, 2, none⟩ = some (.int .i64 o.node) ∧ W.cell? ⟨g3, 3, none⟩ = some (.int .i64 o.par) ∧ W.cell? ⟨g3, 4, none⟩ = some (.string o.name) :=
  ⟨h.1, h.2.1, h.2.2.1, h.2.2.2.1, h.2.2.2.2, k.1, k.2.1, k.2.2.1, k.2.2.2.1, k.2.2.2.2, l⟩

set_option maxHeartbeats 2000000 in
theorem opUnlike_walk0 (o p q : OpR) (x0 x1 x2 x3 x4 y0 y1 y2 y3 y4 : Int) (w : World) (hT : Tabs w) (hs : o.name.size ≤ 9223372036854775807) (hp : opRight p = true) (hq : opRight q = true)
    (hof : ∀ w, Calls Tryd.prog 19 #[.agg #[.int .u8 x0, .int .u8 x1, .int .u8 x2, .int .u8 x3, .int .u8 x4]] w fun e w' => e = .returned (opV p) ∧ Below w.heap.size w w')
    (hof2 : ∀ w, Calls Tryd.prog 19 #[.agg #[.int .u8 y0, .int .u8 y1, .int .u8 y2, .int .u8 y3, .int .u8 y4]] w fun e w' => e = .returned (opV q) ∧ Below w.heap.size w w') :
    Calls Tryd.prog 5 #[.agg #[.int .u8 x0, .int .u8 x1, .int .u8 x2, .int .u8 x3, .int .u8 x4], .agg #[.int .u8 y0, .int .u8 y1, .int .u8 y2, .int .u8 y3, .int .u8 y4], opV o] w fun e w' => e = .returned (.bool true) ∧ Below w.heap.size w w' := by
  have HT := Lib.hid hT
  have HB := Lib.hid (Below.refl w.heap.size w)
  have HS : Hid (∀ (g : Nat) (w : World), w.cell? ⟨g, 4, none⟩ = some (.string o.name) → Calls Tryd.prog 9 #[.slice (some ⟨g, 0, none⟩) 1 1] w (fun e w' => e = .returned (.bool (decide (o.name.size ≤ 60))) ∧ Below w.heap.size w w')) :=
    Lib.hid fun g w h0 => (shortOne_calls g o.name w h0).mono (by rintro e w' ⟨rfl, rfl⟩; exact ⟨rfl, Below.refl _ _⟩)
  have HN : Hid (∀ i, (pick3 p q o i).name.size ≤ 9223372036854775807) := Lib.hid fun i => by
    have h1 := right_bounds hp
    have h2 := right_bounds hq
    unfold pick3
    split
    · omega
    · split <;> omega
  simp only [opV] at hof hof2 ⊢
  have HO1 := Lib.hid hof
  have HO2 := Lib.hid hof2
  clear hof hof2 hT hp hq hs
  by_cases k : o.name.size ≤ 60
  · rw [decide_eq_true k] at HS
    clear k
    go_enter Tryd.func5, Tryd.ntmps5
    go_wp2_with (first
      | (go_at_call 8; (refine Calls.mono (awake_calls _ (HT.out.below (by repeat (first | (with_reducible exact HB.out) | apply below_alloc | apply pw_below_drewN | apply below_drew1 | exact HB.out)))) ?_); rintro e w1 ⟨rfl, hb⟩; have K1 := Lib.hid (TinyAt.below (g := w.heap.size) (x0 := x0) (x1 := x1) (x2 := x2) (x3 := x3) (x4 := x4) ⟨by go_cell, by go_cell, by go_cell, by go_cell, by go_cell⟩ hb); have K2 := Lib.hid (TinyAt.below (g := w.heap.size + 1) (x0 := y0) (x1 := y1) (x2 := y2) (x3 := y3) (x4 := y4) ⟨by go_cell, by go_cell, by go_cell, by go_cell, by go_cell⟩ hb); have K3 := Lib.hid (OpAt.below (g := w.heap.size + 2) (o := o) ⟨by go_cell, by go_cell, by go_cell, by go_cell, by go_cell⟩ hb); obtain ⟨c0, c1, c2, c3, c4⟩ := K1.out; obtain ⟨d0, d1, d2, d3, d4⟩ := K2.out; obtain ⟨e0, e1, e2, e3, e4⟩ := K3.out; have hlt := World.block_lt_of_cell? w1 _ K3.out.1; have HBn := Lib.hid (below_step (by repeat (first | (with_reducible exact HB.out) | apply below_alloc | apply pw_below_drewN | apply below_drew1 | exact HB.out)) hb); clear hb HB; have HB := HBn; clear HBn)
      | (go_at_call 9; (refine (HS.out _ _ (by go_cell)).mono ?_); rintro e w2 ⟨rfl, hb⟩; clear c0 c1 c2 c3 c4 d0 d1 d2 d3 d4 e0 e1 e2 e3 e4; have Kn := Lib.hid ((K1.out.below ((Below.refl _ _).alloc (Nat.le_refl _) _)).below hb); clear K1; have K1 := Kn; clear Kn; have Kn := Lib.hid ((K2.out.below ((Below.refl _ _).alloc (Nat.le_refl _) _)).below hb); clear K2; have K2 := Kn; clear Kn; have Kn := Lib.hid ((K3.out.below ((Below.refl _ _).alloc (Nat.le_refl _) _)).below hb); clear K3; have K3 := Kn; clear Kn; have HBn := Lib.hid (below_step (by repeat (first | (with_reducible exact HB.out) | apply below_alloc | apply pw_below_drewN | apply below_drew1 | exact HB.out)) hb); clear hb HB; have HB := HBn; clear HBn)
      | (fail "no arm"))
    clear hlt
    obtain ⟨c0, c1, c2, c3, c4⟩ := K1.out
    obtain ⟨d0, d1, d2, d3, d4⟩ := K2.out
    obtain ⟨e0, e1, e2, e3, e4⟩ := K3.out
    go_region_held3 (fun W => W.cell? ⟨w.heap.size, 0, none⟩ = some (.int .u8 x0) ∧ W.cell? ⟨w.heap.size, 1, none⟩ = some (.int .u8 x1) ∧ W.cell? ⟨w.heap.size, 2, none⟩ = some (.int .u8 x2) ∧ W.cell? ⟨w.heap.size, 3, none⟩ = some (.int .u8 x3) ∧ W.cell? ⟨w.heap.size, 4, none⟩ = some (.int .u8 x4) ∧ W.cell? ⟨w.heap.size + 1, 0, none⟩ = some (.int .u8 y0) ∧ W.cell? ⟨w.heap.size + 1, 1, none⟩ = some (.int .u8 y1) ∧ W.cell? ⟨w.heap.size + 1, 2, none⟩ = some (.int .u8 y2) ∧ W.cell? ⟨w.heap.size + 1, 3, none⟩ = some (.int .u8 y3) ∧ W.cell? ⟨w.heap.size + 1, 4, none⟩ = some (.int .u8 y4) ∧ W.cell? ⟨w.heap.size + 2, 0, none⟩ = some (.int .i64 o.n) ∧ W.cell? ⟨w.heap.size + 2, 1, none⟩ = some (.int .i64 o.r) ∧ W.cell? ⟨w.heap.size + 2, 2, none⟩ = some (.int .i64 o.node) ∧ W.cell? ⟨w.heap.size + 2, 3, none⟩ = some (.int .i64 o.par) ∧ W.cell? ⟨w.heap.size + 2, 4, none⟩ = some (.string o.name)) (first | exact s15 (K1.out.at_ (by rfl)) (K2.out.at_ (by rfl)) (K3.out.at_ (by rfl)) | exact s15 (K1.out.below ((Below.refl _ _).alloc (Nat.le_refl _) _)) (K2.out.below ((Below.refl _ _).alloc (Nat.le_refl _) _)) (K3.out.below ((Below.refl _ _).alloc (Nat.le_refl _) _))) (first
      | (go_at_call 19; ((with_reducible refine (HO1.out _).mono ?_)); rintro e v1 ⟨rfl, hb⟩; have Kn := Lib.hid ((K1.out.at_ (by rfl)).below hb); clear K1; have K1 := Kn; clear Kn; have Kn := Lib.hid ((K2.out.at_ (by rfl)).below hb); clear K2; have K2 := Kn; clear Kn; have Kn := Lib.hid ((K3.out.at_ (by rfl)).below hb); clear K3; have K3 := Kn; clear Kn; have HBn := Lib.hid (below_step (by repeat (first | (with_reducible exact HB.out) | apply below_alloc | apply pw_below_drewN | apply below_drew1 | exact HB.out)) hb); clear hb HB; have HB := HBn; clear HBn)
      | (go_at_call 19; ((with_reducible refine (HO2.out _).mono ?_)); rintro e v2 ⟨rfl, hb⟩; have Kn := Lib.hid ((K1.out.at_ (by rfl)).below hb); clear K1; have K1 := Kn; clear Kn; have Kn := Lib.hid ((K2.out.at_ (by rfl)).below hb); clear K2; have K2 := Kn; clear Kn; have Kn := Lib.hid ((K3.out.at_ (by rfl)).below hb); clear K3; have K3 := Kn; clear Kn; have HBn := Lib.hid (below_step (by repeat (first | (with_reducible exact HB.out) | apply below_alloc | apply pw_below_drewN | apply below_drew1 | exact HB.out)) hb); clear hb HB; have HB := HBn; clear HBn)
      | (fail "no arm"))
    go_wp2
    go_loopw [10] (fun vi W => ∃ i : Nat, vi = .int .i64 i ∧ i ≤ 3 ∧ Hid (L3 v2.heap.size (pick3 p q o) W) ∧ Hid (Below w.heap.size w W)) (fun vi _ => (3 - intOf vi).toNat)
    case atStart =>
      refine ⟨0, rfl, by omega, Lib.hid ?_, Lib.hid (by repeat (first | (with_reducible exact HB.out) | apply below_alloc | apply pw_below_drewN | apply below_drew1 | exact HB.out))⟩
      intro i hi
      rcases (show i = 0 ∨ i = 1 ∨ i = 2 by omega) with rfl | rfl | rfl
      · rw [show pick3 p q o 0 = p from rfl]; exact ⟨by go_cell, by go_cell, by go_cell, by go_cell, by go_cell⟩
      · rw [show pick3 p q o 1 = q from rfl]; exact ⟨by go_cell, by go_cell, by go_cell, by go_cell, by go_cell⟩
      · rw [show pick3 p q o 2 = o from rfl]; exact ⟨by go_cell, by go_cell, by go_cell, by go_cell, by go_cell⟩
    case round =>
      clear HB c0 c1 c2 c3 c4 d0 d1 d2 d3 d4 e0 e1 e2 e3 e4 K1 K2 K3
      obtain ⟨i, rfl, hi, HL, HB⟩ := hrel
      by_cases hgo : i < 3
      · have hbi : decide ((i : Int) < 3) = true := decide_eq_true (by omega)
        go_wp2
        go_loopw [11] (fun vk W => ∃ k : Nat, vk = .int .i64 k ∧ k ≤ 3 ∧ Hid (L3 v2.heap.size (pick3 p q o) W) ∧ Hid (Below w.heap.size w W)) (fun vk _ => (3 - intOf vk).toNat)
        case atStart => exact ⟨0, rfl, by omega, HL, HB⟩
        case round =>
          clear HL HB
          obtain ⟨k, rfl, hk, HL, HB⟩ := hrel
          by_cases hk3 : k < 3
          · have LA := HL.out i hgo
            have LB := HL.out k hk3
            have na := HN.out i
            have nb := HN.out k
            generalize pick3 p q o i = a at LA na
            generalize pick3 p q o k = b at LB nb
            obtain ⟨ca0, ca1, ca2, ca3, ca4⟩ := LA
            obtain ⟨cb0, cb1, cb2, cb3, cb4⟩ := LB
            have la := opForm_length a
            have lb := opForm_length b
            have ra := show opRight a = true ↔ 1 ≤ (opForm a).length from ⟨opForm_pos, fun h => by
              by_cases hr : opRight a = true
              · exact hr
              · rw [opForm_nil (by simpa using hr)] at h; simp at h⟩
            have rb := show opRight b = true ↔ 1 ≤ (opForm b).length from ⟨opForm_pos, fun h => by
              by_cases hr : opRight b = true
              · exact hr
              · rw [opForm_nil (by simpa using hr)] at h; simp at h⟩
            have hpa := fun w (h : Tabs w) => put_calls a w na h
            have hpb := fun w (h : Tabs w) => put_calls b w nb h
            have HE := Lib.hid (show opRight a = true → opRight b = true → _ from fun h1 h2 => same_eqB h1 h2)
            have HR1 := Lib.hid ra
            have HR2 := Lib.hid rb
            clear ra rb
            simp only [opV] at hpa hpb
            generalize opForm a = F at *
            generalize opForm b = G at *
            generalize hLa : F.length = La at *
            generalize hLb : G.length = Lb at *
            have HPA := Lib.hid hpa
            have HPB := Lib.hid hpb
            have HLa := Lib.hid hLa
            have HLb := Lib.hid hLb
            clear hpa hpb hLa hLb na nb
            have key : La = 0 ∨ (1 ≤ La ∧ Lb = 0) ∨ (1 ≤ La ∧ 1 ≤ Lb ∧ Lb < La) ∨ (1 ≤ La ∧ 1 ≤ Lb ∧ La ≤ Lb) := by omega
            rcases key with rfl | ⟨h1, rfl⟩ | ⟨h1, h2, h3⟩ | ⟨h1, h2, h3⟩
            all_goals
              go_wp2_with (first
                | (go_at_call 17; (with_reducible refine Calls.mono (HPA.out _ (HT.out.below (by repeat (first | (with_reducible exact HB.out) | apply below_alloc | apply pw_below_drewN | apply below_drew1 | exact HB.out)))) ?_); rintro e v3 ⟨z3, rfl, ho, hb⟩; clear HPA; obtain ⟨A3, f3, rfl, hr⟩ := own_reads ho; have hc3 := own_cap ho; rw [HLa.out] at hr hc3 ⊢; have HRa := Lib.hid hr; clear ho hr; have xx : v3.cell? ⟨v2.heap.size, i * 5, none⟩ = some (.int .i64 a.n) := pw_cell_below hb ca0; clear ca0; have ca0 := xx; clear xx; have xx : v3.cell? ⟨v2.heap.size, i * 5 + 1, none⟩ = some (.int .i64 a.r) := pw_cell_below hb ca1; clear ca1; have ca1 := xx; clear xx; have xx : v3.cell? ⟨v2.heap.size, i * 5 + 2, none⟩ = some (.int .i64 a.node) := pw_cell_below hb ca2; clear ca2; have ca2 := xx; clear xx; have xx : v3.cell? ⟨v2.heap.size, i * 5 + 3, none⟩ = some (.int .i64 a.par) := pw_cell_below hb ca3; clear ca3; have ca3 := xx; clear xx; have xx : v3.cell? ⟨v2.heap.size, i * 5 + 4, none⟩ = some (.string a.name) := pw_cell_below hb ca4; clear ca4; have ca4 := xx; clear xx; have xx : v3.cell? ⟨v2.heap.size, k * 5, none⟩ = some (.int .i64 b.n) := pw_cell_below hb cb0; clear cb0; have cb0 := xx; clear xx; have xx : v3.cell? ⟨v2.heap.size, k * 5 + 1, none⟩ = some (.int .i64 b.r) := pw_cell_below hb cb1; clear cb1; have cb1 := xx; clear xx; have xx : v3.cell? ⟨v2.heap.size, k * 5 + 2, none⟩ = some (.int .i64 b.node) := pw_cell_below hb cb2; clear cb2; have cb2 := xx; clear xx; have xx : v3.cell? ⟨v2.heap.size, k * 5 + 3, none⟩ = some (.int .i64 b.par) := pw_cell_below hb cb3; clear cb3; have cb3 := xx; clear xx; have xx : v3.cell? ⟨v2.heap.size, k * 5 + 4, none⟩ = some (.string b.name) := pw_cell_below hb cb4; clear cb4; have cb4 := xx; clear xx; have Ln := Lib.hid (HL.out.below hb); clear HL; have HL := Ln; clear Ln; have HBn := Lib.hid (below_step (by repeat (first | (with_reducible exact HB.out) | apply below_alloc | apply pw_below_drewN | apply below_drew1 | exact HB.out)) hb); clear hb HB; have HB := HBn; clear HBn)
                | (go_at_call 17; (with_reducible refine Calls.mono (HPB.out _ (HT.out.below (by repeat (first | (with_reducible exact HB.out) | apply below_alloc | apply pw_below_drewN | apply below_drew1 | exact HB.out)))) ?_); rintro e v4 ⟨z4, rfl, ho, hb⟩; clear HPB; obtain ⟨A4, f4, rfl, hr⟩ := own_reads ho; have hc4 := own_cap ho; rw [HLb.out] at hr hc4 ⊢; have HRb := Lib.hid hr; clear ho hr; have HRn := Lib.hid (HRa.out.below hb); clear HRa; have HRa := HRn; clear HRn; have xx : v4.cell? ⟨v2.heap.size, i * 5, none⟩ = some (.int .i64 a.n) := pw_cell_below hb ca0; clear ca0; have ca0 := xx; clear xx; have xx : v4.cell? ⟨v2.heap.size, i * 5 + 1, none⟩ = some (.int .i64 a.r) := pw_cell_below hb ca1; clear ca1; have ca1 := xx; clear xx; have xx : v4.cell? ⟨v2.heap.size, i * 5 + 2, none⟩ = some (.int .i64 a.node) := pw_cell_below hb ca2; clear ca2; have ca2 := xx; clear xx; have xx : v4.cell? ⟨v2.heap.size, i * 5 + 3, none⟩ = some (.int .i64 a.par) := pw_cell_below hb ca3; clear ca3; have ca3 := xx; clear xx; have xx : v4.cell? ⟨v2.heap.size, i * 5 + 4, none⟩ = some (.string a.name) := pw_cell_below hb ca4; clear ca4; have ca4 := xx; clear xx; have xx : v4.cell? ⟨v2.heap.size, k * 5, none⟩ = some (.int .i64 b.n) := pw_cell_below hb cb0; clear cb0; have cb0 := xx; clear xx; have xx : v4.cell? ⟨v2.heap.size, k * 5 + 1, none⟩ = some (.int .i64 b.r) := pw_cell_below hb cb1; clear cb1; have cb1 := xx; clear xx; have xx : v4.cell? ⟨v2.heap.size, k * 5 + 2, none⟩ = some (.int .i64 b.node) := pw_cell_below hb cb2; clear cb2; have cb2 := xx; clear xx; have xx : v4.cell? ⟨v2.heap.size, k * 5 + 3, none⟩ = some (.int .i64 b.par) := pw_cell_below hb cb3; clear cb3; have cb3 := xx; clear xx; have xx : v4.cell? ⟨v2.heap.size, k * 5 + 4, none⟩ = some (.string b.name) := pw_cell_below hb cb4; clear cb4; have cb4 := xx; clear xx; have Ln := Lib.hid (HL.out.below hb); clear HL; have HL := Ln; clear Ln; have HBn := Lib.hid (below_step (by repeat (first | (with_reducible exact HB.out) | apply below_alloc | apply pw_below_drewN | apply below_drew1 | exact HB.out)) hb); clear hb HB; have HB := HBn; clear HBn)
                | (fail "no arm"))
            iterate 4
              · go_roundw
                case rel => exact ⟨k + 1, by go_num, by omega, HL, HB⟩
                case measure => simp [intOf] <;> omega
            have he := HE.out (HR1.out.2 h1) (HR2.out.2 h2)
            have hsm := fun (W : World) (hW : W.heap = v4.heap) => same_calls2 W (reads_at HRa.out hW) hc3 (reads_at (HRb.out.take_ La h3) hW) (show La ≤ f4 by omega)
            rw [he] at hsm
            have HSM := Lib.hid hsm
            clear hsm he HE HR1 HR2
            have hb1 : (0 : Int) ≤ La := by omega
            have hb2 : (La : Int) ≤ f4 := by omega
            have hi0 : (0 : Int) ≤ (i : Int) := by omega
            have hi1 : (i : Int) < 3 := by omega
            have hk0 : (0 : Int) ≤ (k : Int) := by omega
            have hk1 : (k : Int) < 3 := by omega
            go_region_held3 (fun W => W.cell? ⟨v2.heap.size, i * 5, none⟩ = some (.int .i64 a.n) ∧ W.cell? ⟨v2.heap.size, i * 5 + 1, none⟩ = some (.int .i64 a.r) ∧ W.cell? ⟨v2.heap.size, i * 5 + 2, none⟩ = some (.int .i64 a.node) ∧ W.cell? ⟨v2.heap.size, i * 5 + 3, none⟩ = some (.int .i64 a.par) ∧ W.cell? ⟨v2.heap.size, i * 5 + 4, none⟩ = some (.string a.name) ∧ W.cell? ⟨v2.heap.size, k * 5, none⟩ = some (.int .i64 b.n) ∧ W.cell? ⟨v2.heap.size, k * 5 + 1, none⟩ = some (.int .i64 b.r) ∧ W.cell? ⟨v2.heap.size, k * 5 + 2, none⟩ = some (.int .i64 b.node) ∧ W.cell? ⟨v2.heap.size, k * 5 + 3, none⟩ = some (.int .i64 b.par) ∧ W.cell? ⟨v2.heap.size, k * 5 + 4, none⟩ = some (.string b.name)) (exact ⟨ca0, ca1, ca2, ca3, ca4, cb0, cb1, cb2, cb3, cb4⟩) (first | (go_at_call 16; (refine (HSM.out _ (by rfl)).mono ?_); rintro e v5 ⟨rfl, n5, rfl⟩) | (fail "no arm"))
            go_wp2
            go_roundw
            case rel => exact ⟨k + 1, by go_num, by omega, Lib.hid (HL.out.at_ (by rfl)), Lib.hid (by repeat (first | (with_reducible exact HB.out) | apply below_alloc | apply pw_below_drewN | apply below_drew1 | exact HB.out))⟩
            case measure => simp [intOf] <;> omega
          · obtain rfl : k = 3 := by omega
            go_wp2
            go_roundw
            case rel => exact ⟨i + 1, by go_num, by omega, HL, HB⟩
            case measure => simp [intOf] <;> omega
      · obtain rfl : i = 3 := by omega
        go_wp2
        go_ret
        exact ⟨rfl, HB.out⟩
  · rw [decide_eq_false k] at HS
    clear k
    go_enter Tryd.func5, Tryd.ntmps5
    go_wp2_with (first
      | (go_at_call 8; (refine Calls.mono (awake_calls _ (HT.out.below (by repeat (first | (with_reducible exact HB.out) | apply below_alloc | apply pw_below_drewN | apply below_drew1 | exact HB.out)))) ?_); rintro e w1 ⟨rfl, hb⟩; have K3 := Lib.hid (OpAt.below (g := w.heap.size + 2) (o := o) ⟨by go_cell, by go_cell, by go_cell, by go_cell, by go_cell⟩ hb); obtain ⟨e0, e1, e2, e3, e4⟩ := K3.out; have HBn := Lib.hid (below_step (by repeat (first | (with_reducible exact HB.out) | apply below_alloc | apply pw_below_drewN | apply below_drew1 | exact HB.out)) hb); clear hb HB; have HB := HBn; clear HBn)
      | (go_at_call 9; (refine (HS.out _ _ (by go_cell)).mono ?_); rintro e w2 ⟨rfl, hb⟩; clear e0 e1 e2 e3 e4; have HBn := Lib.hid (below_step (by repeat (first | (with_reducible exact HB.out) | apply below_alloc | apply pw_below_drewN | apply below_drew1 | exact HB.out)) hb); clear hb HB; have HB := HBn; clear HBn)
      | (fail "no arm"))
    go_ret
    exact ⟨rfl, HB.out⟩

theorem opUnlike_walk (x y : TinyT) (o : OpR) (w : World) (hx : TinyIn x) (hy : TinyIn y) (ho : o.name.size ≤ 9223372036854775807) (hT : Tabs w) :
    Calls Tryd.prog 5 #[.agg (tinyCs x), .agg (tinyCs y), opV o] w fun e w' => e = .returned (.bool true) ∧ Below w.heap.size w w' :=
  opUnlike_walk0 o (ofOp x.1 x.2.1 x.2.2.1 x.2.2.2.1 x.2.2.2.2) (ofOp y.1 y.2.1 y.2.2.1 y.2.2.2.1 y.2.2.2.2) x.1 x.2.1 x.2.2.1 x.2.2.2.1 x.2.2.2.2 y.1 y.2.1 y.2.2.1 y.2.2.2.1 y.2.2.2.2 w hT ho (of_right _ _ _ _ _) (of_right _ _ _ _ _) (fun w => of_calls _ _ _ _ _ w hx.1 hx.2.1 hx.2.2.1 hx.2.2.2.1 hx.2.2.2.2) (fun w => of_calls _ _ _ _ _ w hy.1 hy.2.1 hy.2.2.1 hy.2.2.2.1 hy.2.2.2.2)
end Go.Proofs.YtbekfoldohhbpaaDoor
