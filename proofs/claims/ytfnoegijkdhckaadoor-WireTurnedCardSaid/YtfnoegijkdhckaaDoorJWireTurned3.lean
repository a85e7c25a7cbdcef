/-
  Package wire's Decode, where the bytes are a batch; What is encoded is decoded: the plain law; the chapter's example (batches); The reference's Short and Same, over lists of operations in memory; The reference's Same, over lists of operations in memory; The reference's Formed, as it was printed, tells what is well-formed: plain lemmas; What the reference's Right for names comes to; Whether an operation is right: the reference; The bytes of an operation: the reference; The reference's Encode; The chapter's example (batches): what awake answers; Package wire where it panics: wrong, and inside
-/
import Derived.Test.YtfnoegijkdhckaaDoorJWireTurned2
import Derived.Defers
import Derived.Recover
import Derived.Test.YtfnoegijkdhckaaDoorWEqStruct
import Derived.Test.YtfnoegijkdhckaaDoorPWireEncodesx1
import Derived.Test.YtfnoegijkdhckaaDoorPWireEncodesx2
import Derived.Test.YtfnoegijkdhckaaDoorPWireEncodesx3
import Derived.Test.YtfnoegijkdhckaaDoorPWireEncodesx4
import Derived.Test.YtfnoegijkdhckaaDoorPWireEncodesx5
/- Package wire's Decode, where the bytes are a batch. -/
namespace Go.Proofs.YtfnoegijkdhckaaDoor
open Go.RowKit Go.Proofs.YtfnoegijkdhckaaDoorW.PrintWords

theorem dec_idle (p q : Addr) (w : World) :
    CallsD Tryd.prog 32 #[.pointer (some p), .pointer (some q)] .returning w fun e u' w' => e = .returned (.tuple #[]) ∧ u' = .returning ∧ w' = w := by
  refine callsD_of_wpS Tryd.func32 rfl fun c₀ cs hu => ?_
  apply wpS_seq
  apply wpS_region
  simp [wpOpsS, go_sem, recoverD, hu, Tryd.ntmps32, Exit.thenS]
  refine wpS_cond (t := false) (by simp [Act.eval, Array.replicate]) ?_
  simp only [Bool.false_eq_true, if_false]
  refine wpS_of_wp (wp_skip ?_)
  cases c₀
  simp_all [bodyPostS, results, Tryd.results32]

theorem OwnB.set {w : World} {base g j : Nat} {v u : Value} {xs : List Int} (h : OwnB w base v xs) (hg : g < base) : OwnB (w.setCell ⟨g, j, none⟩ u) base v xs :=
  own_move h (fun k hk => by
    have := own_base h k hk
    exact Below.heap_setCell w ⟨g, j, none⟩ u k (by show k ≠ g; omega))

theorem OwnO.set {w : World} {base g j : Nat} {v u : Value} {os : List OpR} (h : OwnO w base v os) (hg : g < base) : OwnO (w.setCell ⟨g, j, none⟩ u) base v os := by
  obtain ⟨inner, ho, hr⟩ := h
  exact ⟨inner, own_move ho (fun k hk => by
    have := own_base ho k hk
    exact Below.heap_setCell w ⟨g, j, none⟩ u k (by show k ≠ g; omega)), hr⟩

set_option maxRecDepth 100000 in
set_option maxHeartbeats 1000000 in
theorem decode_ok (ad : Addr) (n c : Nat) (xs : List Int) (os : List OpR) (w : World) (hr : ReadsInt w .u8 (some ad) n xs) (hc : n ≤ c) (hn : n ≤ 1000000) (hx : ∀ x ∈ xs, 0 ≤ x ∧ x < 256) (hT : Tabs w) (j k : Nat) (ys : List Int) (hnj : n = j + (k + 4)) (hq : rdNum xs 0 65535 = (((k + 4 : Nat) : Int), ys, 0)) (hk : ys.length = k + 4) (hy : xs.drop j = ys)
    (hsum : fourL (sumN (ys.take k)) = ys.drop k) (hin : insR (ys.take k) = some os) :
    Calls Tryd.prog 14 #[.slice (some ad) n c] w fun e w' => ∃ v, e = .returned (.tuple #[v, .int .i64 0]) ∧ OwnO w' w.heap.size v os ∧ Below w.heap.size w w' := by
  have hmf : ∀ (fn : Fn) (first cap : Array Value) (w : World), (Instr.makeFunc fn first cap).run Tryd.prog w = .ok (.func fn first cap) w := fun _ _ _ _ => rfl
  have hcut := fun (W : World) (hb : Below w.heap.size w W) => wcut_ok ad n c xs W (hr.below hb) hc hn hx (k + 4) ys hq (by omega) (by omega)
  rw [show n - ys.length + (k + 4) = n by omega, List.take_of_length_le (by rw [hr.1]; exact Nat.le_refl _), List.drop_eq_nil_of_le (by rw [hr.1]; exact Nat.le_refl _)] at hcut
  have HCUT := Lib.hid hcut
  have HX := Lib.hid hx
  have HT := Lib.hid hT
  have HL := Lib.hid hr.1
  have HB := Lib.hid (Below.refl w.heap.size w)
  have HNJ := Lib.hid hnj
  have HQ := Lib.hid hq
  have HK := Lib.hid hk
  have HY := Lib.hid hy
  have HSUM := Lib.hid hsum
  have HIN := Lib.hid hin
  clear hcut hr hT hnj hq hk hy hsum hin hx
  go_enter_defers Tryd.func14, Tryd.ntmps14
  go_wp2_with (first
    | (go_at_call 16; go_loud ((refine Calls.mono (HCUT.out _ (by repeat (first | (with_reducible exact HB.out) | apply below_alloc | apply pw_below_drewN | apply below_drew1 | exact HB.out))) ?_); rintro e w1 ⟨v1, v2, rfl, ho1, ho2, hb⟩; obtain ⟨A1, c1, rfl, hr1⟩ := own_reads ho1; obtain ⟨A2, c2, rfl, _⟩ := own_reads ho2; have hc1 := own_cap ho1; rw [HL.out] at hc1 ho1; have HO1 := Lib.hid (OwnB.le ho1 (show w.heap.size + 2 ≤ _ by simp)); rw [HL.out] at hr1 ⊢; have G2 := Lib.hid (show w1.heap[w.heap.size]? = some (.cells #[.slice none 0 0] 22 (0, 0)) from blk_below (blk_alloc (blk_new _ _) _) hb); have G3 := Lib.hid (show w1.heap[w.heap.size + 1]? = some (.cells #[.int .i64 0] 26 (0, 0)) from blk_below (by have := blk_new (w.alloc (.cells #[.slice none 0 0] 22)) (.cells #[.int .i64 0] 26); rw [World.size_alloc] at this; exact this) hb); have e0 : w1.cell? ⟨w.heap.size + 1, 0, none⟩ = some (.int .i64 0) := blk_cell G3.out 0; have z0 := blk_frozen G3.out 0; have HR1 := Lib.hid hr1; clear ho1 ho2 hr1; have HBn := Lib.hid (below_step (by repeat (first | (with_reducible exact HB.out) | apply below_alloc | apply pw_below_drewN | apply below_drew1 | exact HB.out)) hb); clear hb HB; have HB := HBn; clear HBn))
    | (fail "no arm"))
  refine (wrongF_calls _).mono ?_
  rintro e w2 ⟨rfl, rfl⟩
  have HB2 := Lib.hid (HB.out.setCell (p := ⟨w.heap.size + 1, 0, none⟩) (by simp) (.int .i64 0))
  have G22 := Lib.hid (blk_far G2.out (p := ⟨w.heap.size + 1, 0, none⟩) (show w.heap.size ≠ w.heap.size + 1 by omega) (.int .i64 0))
  have G33 := Lib.hid (blk_put G3.out 0 (.int .i64 0) (cs' := #[.int .i64 0]) rfl)
  have HO2 := Lib.hid (HO1.out.set (j := 0) (u := .int .i64 0) (show w.heap.size + 1 < w.heap.size + 2 by omega))
  clear HB G2 G3 HO1 HR1 e0 z0
  generalize w1.setCell ⟨w.heap.size + 1, 0, none⟩ (.int .i64 0) = W at *
  have HW0 := HB2
  clear HB2
  obtain ⟨A', c', he, hr'⟩ := own_reads HO2.out
  injection he with e1 e2 e3
  subst e1 e3
  rw [HL.out] at hr'
  obtain rfl := HNJ.out
  obtain ⟨ad1, rfl, _⟩ := hr'.2.2 (by omega)
  have hys := hr'.drop_ (c := c1) j (by omega) hc1
  rw [if_neg (show ¬ c1 = j by omega), HY.out, show j + (k + 4) - j = k + 4 by omega] at hys
  have hbody := hys.take_ k (by omega)
  have hsm := hys.drop_ (c := c1 - j) k (by omega) (by omega)
  rw [if_neg (show ¬ c1 - j = k by omega), show k + 4 - k = 4 by omega] at hsm
  have hyr : ∀ x ∈ ys, 0 ≤ x ∧ x < 256 := fun x h => HX.out x (by rw [← HY.out] at h; exact List.mem_of_mem_drop h)
  have hbr : ∀ x ∈ ys.take k, 0 ≤ x ∧ x < 256 := fun x h => hyr x (List.mem_of_mem_take h)
  have HN := Lib.hid (new_calls W (some ad1) (j + (k + 4)) c1 xs hr' (by omega) HX.out)
  have HNU := Lib.hid (fun (V : World) (a d : Nat) (h : RD 79 V a d xs 0) => num_calls_eq V a d xs 0 65535 h HQ.out)
  have his := fun (V : World) (hb : Below W.heap.size W V) => is_calls (some (ad1.add j)) k (c1 - j) (ys.take k) (some ((ad1.add j).add k)) 4 (c1 - j - k) (ys.drop k) V (hbody.below hb) hbr (hsm.below hb)
  rw [HSUM.out, beq_self_eq_true] at his
  have HIS := Lib.hid his
  have HINS := Lib.hid (fun (V : World) (hb : Below W.heap.size W V) => inside_calls (some (ad1.add j)) k (c1 - j) (ys.take k) os V (hbody.below hb) (by omega) hbr (HT.out.below (below_wide HW0.out hb HW0.out.size)) HIN.out)
  have HB := Lib.hid (Below.refl W.heap.size W)
  have hj0 : (0 : Int) ≤ (j : Int) := by omega
  have hj1 : (j : Int) ≤ c1 := by omega
  have hk0 : (0 : Int) ≤ (k : Int) := by omega
  have hk1 : (k : Int) ≤ ((c1 - j : Nat) : Int) := by omega
  have hk2 : (k : Int) ≤ (k : Int) + 4 := by omega
  have hk3 : (k : Int) ≤ ((k + 4 : Nat) : Int) := by omega
  have hcj : ¬ c1 = j := by omega
  have hck : ¬ c1 - j = k := by omega
  clear hr' hys hbody hsm hyr hbr his e2 HCUT HO2
  go_wp2_with (first
    | (go_at_call 34; (refine HN.out.mono ?_); rintro e w3 ⟨a, d, rfl, hd, hb, ha, _, _⟩; have HD := Lib.hid hd; have HA := ha; clear hd ha; have HBn := Lib.hid (below_step (by repeat (first | (with_reducible exact HB.out) | apply below_alloc | apply pw_below_drewN | apply below_drew1 | exact HB.out)) hb); clear hb HB; have HB := HBn; clear HBn)
    | (go_at_call 35; (refine (HNU.out _ a d HD.out).mono ?_); rintro e w4 ⟨rfl, hd, ho⟩; clear hd; have HBn := Lib.hid (Below.trans (by repeat (first | (with_reducible exact HB.out) | apply below_alloc | apply pw_below_drewN | apply below_drew1 | exact HB.out)) (ho.below HA)); clear ho HB; have HB := HBn; clear HBn)
    | (go_at_call 33; (refine (wrongF_calls _).mono ?_); rintro e w5 ⟨rfl, rfl⟩)
    | (fail "no arm"))
  go_region_held3 (fun _ => True) (exact trivial) (first
    | (go_at_call 36; (refine Calls.mono (HIS.out _ (by repeat (first | (with_reducible exact HB.out) | apply below_alloc | apply pw_below_drewN | apply below_drew1 | exact HB.out))) ?_); rintro e w6 ⟨rfl, hb⟩; have HBn := Lib.hid (below_step (by repeat (first | (with_reducible exact HB.out) | apply below_alloc | apply pw_below_drewN | apply below_drew1 | exact HB.out)) hb); clear hb HB; have HB := HBn; clear HBn)
    | (go_at_call 33; (refine (wrongF_calls _).mono ?_); rintro e w7 ⟨rfl, rfl⟩)
    | (fail "no arm"))
  go_wp2_with (first
    | (go_at_call 37; go_loud ((refine Calls.mono (HINS.out _ (by repeat (first | (with_reducible exact HB.out) | apply below_alloc | apply pw_below_drewN | apply below_drew1 | exact HB.out))) ?_); rintro e w8 ⟨v8, rfl, ho, hb⟩; obtain ⟨A8, c8, rfl, _, _⟩ := OwnO.ops ho; have HO8 := Lib.hid (show OwnO _ W.heap.size _ os from OwnRow.lower ho (Below.size (by repeat (first | (with_reducible exact HB.out) | apply below_alloc | apply pw_below_drewN | apply below_drew1 | exact HB.out)))); have HBn := Lib.hid (below_step (by repeat (first | (with_reducible exact HB.out) | apply below_alloc | apply pw_below_drewN | apply below_drew1 | exact HB.out)) hb); clear hb HB; have HB := HBn; clear HBn; have g2 := Lib.hid (blk_below G22.out HB.out); have g3 := Lib.hid (blk_below G33.out HB.out); have e2 : w8.cell? ⟨w.heap.size, 0, none⟩ = some (.slice none 0 0) := blk_cell g2.out 0; have e3 : w8.cell? ⟨w.heap.size + 1, 0, none⟩ = some (.int .i64 0) := blk_cell g3.out 0; have z2 := blk_frozen g2.out 0; have z3 := blk_frozen g3.out 0; clear ho))
    | (fail "no arm"))
  refine leaves_cons (f := 32) (args := #[.pointer (some ⟨w.heap.size, 0, none⟩), .pointer (some ⟨w.heap.size + 1, 0, none⟩)]) (by simp) (by simp [go_sem]) ?_
  refine (dec_idle _ _ _).mono ?_
  rintro e u' w'' ⟨rfl, rfl, rfl⟩
  have hlt := blk_lt G33.out
  have hm2 := blk_far (blk_put g2.out 0 (.slice A8 os.length c8) (cs' := #[.slice A8 os.length c8]) rfl) (p := ⟨w.heap.size + 1, 0, none⟩) (show w.heap.size ≠ w.heap.size + 1 by omega) (.int .i64 0)
  have hm3 := blk_put (blk_far g3.out (p := ⟨w.heap.size, 0, none⟩) (show w.heap.size + 1 ≠ w.heap.size by omega) (.slice A8 os.length c8)) 0 (.int .i64 0) (cs' := #[.int .i64 0]) rfl
  have hO := OwnRow.lower (OwnO.set (j := 0) (u := .int .i64 0) (OwnO.set (j := 0) (u := .slice A8 os.length c8) HO8.out (show w.heap.size < W.heap.size by omega)) (show w.heap.size + 1 < W.heap.size by omega)) (show w.heap.size ≤ W.heap.size by omega)
  have hB := ((below_wide HW0.out HB.out HW0.out.size).setCell (p := ⟨w.heap.size, 0, none⟩) (Nat.le_refl _) (.slice A8 os.length c8)).setCell (p := ⟨w.heap.size + 1, 0, none⟩) (by simp) (.int .i64 0)
  have HO9 := Lib.hid hO
  have HB9 := Lib.hid hB
  clear hO hB e2 e3 z2 z3
  generalize (w8.setCell ⟨w.heap.size, 0, none⟩ (.slice A8 os.length c8)).setCell ⟨w.heap.size + 1, 0, none⟩ (.int .i64 0) = V at *
  have k2 : V.cell? ⟨w.heap.size, 0, none⟩ = some (.slice A8 os.length c8) := blk_cell hm2 0
  have k3 : V.cell? ⟨w.heap.size + 1, 0, none⟩ = some (.int .i64 0) := blk_cell hm3 0
  clear hm2 hm3
  simp [Leaves, settle, results, Tryd.results14, go_sem, k2, k3]
  exact ⟨HO9.out, HB9.out⟩
end Go.Proofs.YtfnoegijkdhckaaDoor
/- What is encoded is decoded: the plain law; the chapter's example (batches). -/
namespace Go.Proofs.YtfnoegijkdhckaaDoor
open Go.RowKit Go.Proofs.YtfnoegijkdhckaaDoorW.PrintWords

theorem runO_forms (os : List OpR) (h : os.all opRight = true) : runO os.length (forms os) 0 = some os := by
  induction os with
  | nil => rfl
  | cons o os ih =>
    simp only [List.all_cons, Bool.and_eq_true] at h
    obtain ⟨h1, h2, h3⟩ := put_take h.1 (forms os)
    have e : forms (o :: os) = opForm o ++ forms os := by simp [forms]
    rw [List.length_cons, runO, e, h1, h2, h3, if_pos h.1, ih h.2]
    rfl
theorem insR_encA (os : List OpR) (h : encOk os = true) : insR (encA os) = some os := by
  unfold encOk at h
  simp only [Bool.and_eq_true, decide_eq_true_eq] at h
  have e1 : encA os = form 1 ++ (form os.length ++ forms os) := by rw [encA, List.append_assoc]; rfl
  have r1 := rdNum_form 1 (by decide) (by decide) (form os.length ++ forms os) 1
  rw [if_neg (by decide), ← e1] at r1
  have r2 := rdNum_form os.length (by omega) (by omega) (forms os) 64
  rw [if_neg (by omega)] at r2
  unfold insR
  rw [r1]
  simp only [if_true]
  rw [r2]
  simp only [if_true, Int.toNat_natCast]
  exact runO_forms os h.2
theorem encB_range (os : List OpR) : ∀ x ∈ encB os, 0 ≤ x ∧ x < 256 := by
  intro x hx
  simp only [encB, encS, List.mem_append] at hx
  rcases hx with h | h | h
  · exact form_range _ x h
  · exact encA_range os x h
  · exact fourL_range _ x h
theorem encS_len (os : List OpR) : (encS os).length = (encA os).length + 4 := by rw [encS, List.length_append]; rfl
theorem encB_len (os : List OpR) (h : encOk os = true) : (encB os).length ≤ 3000 := by
  unfold encOk at h
  simp only [Bool.and_eq_true, decide_eq_true_eq] at h
  have h1 := encA_len os
  have h2 := form_length (encS os).length
  rw [encB, List.length_append, encS_len] at *
  omega
/-- Decode of what was encoded. -/
theorem decode_enc (A : Option Addr) (n c : Nat) (os : List OpR) (w : World) (hok : encOk os = true) (hr : ReadsInt w .u8 A n (encB os)) (hc : n ≤ c) (hT : Tabs w) :
    Calls Tryd.prog 14 #[.slice A n c] w fun e w' => ∃ v, e = .returned (.tuple #[v, .int .i64 0]) ∧ OwnO w' w.heap.size v os ∧ Below w.heap.size w w' := by
  have hl := encB_len os hok
  have hs := encS_len os
  have hf := form_length (encS os).length
  have hn := hr.1
  have hpos : 0 < n := by rw [← hn, encB, List.length_append]; omega
  obtain ⟨ad, rfl, _⟩ := hr.2.2 hpos
  have hA := encA_len os
  have hk64 : os.length ≤ 64 := by
    unfold encOk at hok
    simp only [Bool.and_eq_true, decide_eq_true_eq] at hok
    exact hok.1
  have hq := rdNum_form (encS os).length (by omega) (by omega) (encS os) 65535
  rw [if_neg (by omega), hs] at hq
  have e1 : form (((encA os).length + 4 : Nat) : Int) ++ encS os = encB os := by rw [encB, hs]
  rw [e1] at hq
  refine decode_ok ad n c (encB os) os w hr hc (by omega) (encB_range os) hT (form (encS os).length).length (encA os).length (encS os) ?_ hq hs ?_ ?_ ?_
  · rw [← hn, encB, List.length_append, hs]
  · rw [encB, List.drop_left]
  · rw [encS, List.take_left, List.drop_left]
  · rw [encS, List.take_left]; exact insR_encA os hok

def exO : OpR := ⟨5, 7, 1287, 0, ⟨#[97]⟩⟩
theorem exO_ok : encOk [exO] = true := by decide +kernel
theorem ex0_ok : encOk [] = true := by decide +kernel
theorem ex0_enc : encB [] = [6, 1, 0] ++ fourL (sumN [1, 0]) := by rw [encB, encS]; rfl
end Go.Proofs.YtfnoegijkdhckaaDoor
/- The reference's Short and Same, over lists of operations in memory. -/
namespace Go.Proofs.YtfnoegijkdhckaaDoor
open Go.RowKit Go.Proofs.YtfnoegijkdhckaaDoorW.PrintWords

def shortB (os : List OpR) : Bool := os.all fun o => decide (o.name.size ≤ 60)
set_option maxHeartbeats 1000000 in
theorem short_calls (A : Option Addr) (n c : Nat) (os : List OpR) (w : World) (hr : OpsAt w A n os) (hs : ∀ o ∈ os, o.name.size ≤ 9223372036854775807) :
    Calls Tryd.prog 10 #[.slice A n c] w fun e w' => e = .returned (.bool (shortB os)) ∧ w' = w := by
  have hm := hr.2.1
  have HR := Lib.hid hr
  have HS := Lib.hid hs
  have HL := Lib.hid hr.1
  clear hr hs
  go_enter Tryd.func10, Tryd.ntmps10
  go_wp2
  go_loop [3] (fun vi => ∃ i : Nat, vi = .int .i64 i ∧ i ≤ n ∧ Hid (shortB (os.take i) = true)) (fun vi => (n - (RowKit.intOf vi).toNat))
  case atStart => exact ⟨0, rfl, by omega, Lib.hid (by simp [shortB])⟩
  case round =>
    obtain ⟨i, rfl, hi, HA⟩ := hrel
    by_cases hlt : i < n
    · have hlt2 : i < os.length := by rw [HL.out]; exact hlt
      obtain ⟨b, o, rfl, hcell⟩ := HR.out.2.2 (show 0 < n by omega)
      have hci := hcell i hlt2
      have hps := HS.out os[i] (List.getElem_mem hlt2)
      have hsn : shortB (os.take (i + 1)) = decide (os[i].name.size ≤ 60) := by
        have hA := HA.out
        unfold shortB at hA ⊢
        rw [List.take_succ_eq_append_getElem hlt2, List.all_append, hA, List.all_cons]; simp
      have hno : ¬ os[i].name.size ≤ 60 → shortB os = false := fun h => by
        unfold shortB
        rw [← Bool.not_eq_true, List.all_eq_true]
        intro hh
        have := hh _ (List.getElem_mem hlt2)
        exact h (by simpa using this)
      generalize os[i] = p at *
      obtain ⟨c0, c1, c2, c3, c4⟩ := hci
      by_cases h60 : p.name.size ≤ 60
      · have HSN := Lib.hid (show shortB (os.take (i + 1)) = true by rw [hsn, decide_eq_true h60])
        clear hsn hno hcell
        go_wp2
        go_round
        case rel => exact ⟨i + 1, by go_num, by omega, HSN⟩
        case measure => simp [RowKit.intOf] <;> omega
      · have HNO := Lib.hid (hno h60)
        have h61 : 60 < p.name.size := by omega
        clear hsn hno hcell h60
        go_wp2
        go_ret
        rw [HNO.out]
        exact ⟨rfl, rfl⟩
    · obtain rfl : i = n := by omega
      have hall := HA.out
      rw [List.take_of_length_le (by rw [HL.out]; exact Nat.le_refl _)] at hall
      have HALL := Lib.hid hall
      clear hall
      go_wp2
      go_ret
      rw [HALL.out]
      exact ⟨rfl, rfl⟩
end Go.Proofs.YtfnoegijkdhckaaDoor
/- The reference's Same, over lists of operations in memory. -/
namespace Go.Proofs.YtfnoegijkdhckaaDoor
open Go.RowKit Go.Proofs.YtfnoegijkdhckaaDoorW.PrintWords

/-- Whether two operations' fields are the same. -/
def eqB (n r node par : Int) (name : ByteArray) (n' r' node' par' : Int) (name' : ByteArray) : Bool :=
  ((n == n') && (r == r')) && ((node == node') && ((par == par') && (name.toList == name'.toList)))
theorem eqB_iff (a b : OpR) : eqB a.n a.r a.node a.par a.name b.n b.r b.node b.par b.name = true ↔ a = b := by
  obtain ⟨n, r, node, par, name⟩ := a
  obtain ⟨n', r', node', par', name'⟩ := b
  simp only [eqB, Bool.and_eq_true, beq_iff_eq, OpR.mk.injEq, and_assoc]
  have : name.toList = name'.toList ↔ name = name' := ⟨fun h => by rw [ByteArray.toList_eq, ByteArray.toList_eq] at h; exact ByteArray.ext (Array.toList_inj.1 h), fun h => by rw [h]⟩
  rw [this]
theorem eqStamp (d : Nat) (w : World) (n r n' r' : Int) :
    (Op.equalIn (d + 2) 46 (.agg #[.int .i64 n, .int .i64 r]) (.agg #[.int .i64 n', .int .i64 r'])).run Tryd.prog w = .ok ((n == n') && (r == r')) w := by
  refine eqA_of Tryd.underlying46 (by kernel_rfl) ?_
  refine eqf_cons (by rfl) (by go_simp; rfl) (by go_simp; rfl) (by go_simp) ?_
  exact eqf_last (by rfl) (by go_simp; rfl) (by go_simp; rfl) (by go_simp)
theorem eqOp (d : Nat) (w : World) (n r node par : Int) (name : ByteArray) (n' r' node' par' : Int) (name' : ByteArray) :
    (Op.equalIn (d + 3) 48 (.agg #[.int .i64 n, .int .i64 r, .int .i64 node, .int .i64 par, .string name]) (.agg #[.int .i64 n', .int .i64 r', .int .i64 node', .int .i64 par', .string name'])).run Tryd.prog w = .ok (eqB n r node par name n' r' node' par' name') w := by
  unfold eqB
  refine eqA_of Tryd.underlying48 (by kernel_rfl) ?_
  refine eqf_cons (by rfl) (by go_simp) (by go_simp) (eqStamp d w _ _ _ _) ?_
  refine eqf_cons (by rfl) (by go_simp; rfl) (by go_simp; rfl) (by go_simp) ?_
  refine eqf_cons (by rfl) (by go_simp; rfl) (by go_simp; rfl) (by go_simp) ?_
  exact eqf_last (by rfl) (by go_simp; rfl) (by go_simp; rfl) (by go_simp)

attribute [local go_sem high] eqOp

/-- Whether two lists of operations are one. -/
noncomputable def sameO (us bs : List OpR) : Bool := by classical exact decide (us = bs)
set_option maxHeartbeats 2000000 in
theorem sameO_calls (A : Option Addr) (n c : Nat) (us : List OpR) (B : Option Addr) (m d : Nat) (bs : List OpR) (w : World) (ha : OpsAt w A n us) (hb : OpsAt w B m bs) :
    Calls Tryd.prog 18 #[.slice A n c, .slice B m d] w fun e w' => e = .returned (.bool (sameO us bs)) ∧ ∃ k, w' = w.drewN k := by
  have hm := ha.2.1
  have hm2 := hb.2.1
  have HA := Lib.hid ha
  have HB := Lib.hid hb
  have hlen : n ≠ m → sameO us bs = false := fun h => by
    simp only [sameO, decide_eq_false_iff_not]
    intro e
    rw [← ha.1, ← hb.1, e] at h
    exact h rfl
  by_cases hnm : n = m
  · subst hnm
    clear hlen ha hb
    go_enter Tryd.func18, Tryd.ntmps18
    go_wp2
    go_loopw [5] (fun vi W => ∃ i : Nat, vi = .int .i64 i ∧ i ≤ n ∧ Hid (us.take i = bs.take i) ∧ Hid (∃ k, W = w.drewN k)) (fun vi _ => (n - (RowKit.intOf vi).toNat))
    case atStart => exact ⟨0, rfl, by omega, Lib.hid (by simp), Lib.hid ⟨0, rfl⟩⟩
    case round =>
      obtain ⟨i, rfl, hi, HT, HW⟩ := hrel
      obtain ⟨kw, rfl⟩ := HW.out
      by_cases hlt : i < n
      · have hltA : i < us.length := by rw [HA.out.1]; exact hlt
        have hltB : i < bs.length := by rw [HB.out.1]; exact hlt
        obtain ⟨xb, xo, rfl, hcellA⟩ := HA.out.2.2 (show 0 < n by omega)
        obtain ⟨yb, yo, rfl, hcellB⟩ := HB.out.2.2 (show 0 < n by omega)
        have hca := hcellA i hltA
        have hcb := hcellB i hltB
        have HS := Lib.hid (show us[i] = bs[i] → us.take (i + 1) = bs.take (i + 1) from fun h => by
          rw [List.take_succ_eq_append_getElem hltA, List.take_succ_eq_append_getElem hltB, HT.out, h])
        have HNO := Lib.hid (show us[i] ≠ bs[i] → sameO us bs = false from fun h => by
          simp only [sameO, decide_eq_false_iff_not]
          intro e
          subst e
          exact h rfl)
        have HEQ := Lib.hid (eqB_iff us[i] bs[i])
        generalize us[i] = p at *
        generalize bs[i] = q at *
        obtain ⟨a0, a1, a2, a3, a4⟩ := hca
        obtain ⟨b0, b1, b2, b3, b4⟩ := hcb
        clear hcellA hcellB hltA hltB
        have hi1 : (0 : Int) ≤ (i : Int) := by omega
        have hi2 : (i : Int) < (n : Int) := by omega
        cases he : eqB p.n p.r p.node p.par p.name q.n q.r q.node q.par q.name
        · have HR := Lib.hid (HNO.out (fun h => by rw [HEQ.out.2 h] at he; cases he))
          have HE := Lib.hid he
          clear he
          go_wp2
          go_quiet (fail)
          rw [HE.out]
          go_wp2
          go_ret
          rw [HR.out]
          exact ⟨rfl, _, World.drewN_drewN _ _ _⟩
        · have HR := Lib.hid (HS.out (HEQ.out.1 he))
          have HE := Lib.hid he
          clear he
          go_wp2
          go_quiet (fail)
          rw [HE.out]
          go_wp2
          go_roundw
          case rel => exact ⟨i + 1, by go_num, by omega, HR, Lib.hid ⟨_, rfl⟩⟩
          case measure => simp [RowKit.intOf] <;> omega
      · obtain rfl : i = n := by omega
        have hall := HT.out
        rw [List.take_of_length_le (by rw [HA.out.1]; exact Nat.le_refl _), List.take_of_length_le (by rw [HB.out.1]; exact Nat.le_refl _)] at hall
        have HALL := Lib.hid (show sameO us bs = true by simp only [sameO, decide_eq_true_eq]; exact hall)
        clear hall
        go_wp2
        go_ret
        rw [HALL.out]
        exact ⟨rfl, _, rfl⟩
  · have HF := Lib.hid (hlen hnm)
    have q1 : ((n : Int) != (m : Int)) = true := by rw [bne_iff_ne]; omega
    have q2 : (n != m) = true := by rw [bne_iff_ne]; exact hnm
    clear hlen ha hb hnm
    go_enter Tryd.func18, Tryd.ntmps18
    go_wp2
    go_ret
    rw [HF.out]
    exact ⟨rfl, 0, rfl⟩
end Go.Proofs.YtfnoegijkdhckaaDoor
/- The reference's Formed, as it was printed, tells what is well-formed: plain lemmas. -/
namespace Go.Proofs.YtfnoegijkdhckaaDoor
open Go.RowKit Go.Proofs.YtfnoegijkdhckaaDoorW.PrintWords Go.Lib
open PWireEncodes

theorem tails_at (c : Nat) (h : c < 256) : holtref03_tails.f 4 (c : Int) = some (
    if c < 128 then (0, 128, 191) else if 194 ≤ c ∧ c ≤ 223 then (1, 128, 191) else if c = 224 then (2, 160, 191) else if c = 237 then (2, 128, 159)
    else if 225 ≤ c ∧ c ≤ 239 then (2, 128, 191) else if c = 240 then (3, 144, 191) else if 241 ≤ c ∧ c ≤ 243 then (3, 128, 191) else if c = 244 then (3, 128, 143) else (-1, 0, 0)) := by
  have key : ∀ c : Fin 256, holtref03_tails.f 4 (c.val : Int) = some (
    if c.val < 128 then (0, 128, 191) else if 194 ≤ c.val ∧ c.val ≤ 223 then (1, 128, 191) else if c.val = 224 then (2, 160, 191) else if c.val = 237 then (2, 128, 159)
    else if 225 ≤ c.val ∧ c.val ≤ 239 then (2, 128, 191) else if c.val = 240 then (3, 144, 191) else if 241 ≤ c.val ∧ c.val ≤ 243 then (3, 128, 191) else if c.val = 244 then (3, 128, 143) else (-1, 0, 0)) := by decide +kernel
  exact key ⟨c, h⟩
theorem tails_ge (k c : Nat) (h : c < 256) (hk : 4 ≤ k) : holtref03_tails.f k (c : Int) = some (
    if c < 128 then (0, 128, 191) else if 194 ≤ c ∧ c ≤ 223 then (1, 128, 191) else if c = 224 then (2, 160, 191) else if c = 237 then (2, 128, 159)
    else if 225 ≤ c ∧ c ≤ 239 then (2, 128, 191) else if c = 240 then (3, 144, 191) else if 241 ≤ c ∧ c ≤ 243 then (3, 128, 191) else if c = 244 then (3, 128, 143) else (-1, 0, 0)) :=
  at_rounds (g := fun k => holtref03_tails.f k (c : Int)) (fun k => holtref03_tails.mono _ k) hk (tails_at c h)

theorem bt_bN (s : ByteArray) (i j : Nat) : bt s ((i : Int) + j) = ((bN (s.data.toList.drop i) j : Nat) : Int) := by
  have e : ((i : Int) + j) = ((i + j : Nat) : Int) := by omega
  rw [e]
  unfold bt bN
  rw [Int.toNat_natCast, List.getD_eq_getElem?_getD, List.getElem?_drop]
  split
  · rename_i h
    rw [List.getElem?_eq_getElem (by rw [Array.length_toList]; exact h)]
    rfl
  · rename_i h
    rw [List.getElem?_eq_none (by rw [Array.length_toList]; exact Nat.le_of_not_lt h)]
    rfl

theorem wr_end (i n m : Nat) (hi : i ≤ 1000000) (hn : n ≤ 3) (hm : m = n + 1) : wrap64 (wrap64 ((i : Int) + 1) + (n : Int)) = ((i + m : Nat) : Int) := by
  subst hm
  unfold wrap64; omega
section
variable (s : ByteArray) (i : Nat) (hs : s.size ≤ 1000000)
include hs
theorem l1_0 (k : Nat) (lo hi : Int) (hi1 : i + 0 < s.size) : holtref03_Formed.l1 (k + 1) s i 0 lo hi 1 = holtref03_Formed.l0 k s ((i + 1 : Nat) : Int) := by
  rw [holtref03_Formed.l1, if_neg (by omega)]
  congr 1
  exact wr_end i 0 1 (by omega) (by omega) rfl
theorem l1_1 (k : Nat) (lo hi : Int) (hi1 : i + 1 < s.size) : holtref03_Formed.l1 (k + 2) s i 1 lo hi 1 =
    if lo ≤ (bN (s.data.toList.drop i) 1 : Int) ∧ (bN (s.data.toList.drop i) 1 : Int) ≤ hi then holtref03_Formed.l0 k s ((i + 2 : Nat) : Int) else some false := by
  have w1 : wrap64 ((i : Int) + 1) = (i : Int) + (1 : Nat) := by unfold wrap64; omega
  rw [holtref03_Formed.l1, if_pos (by omega), w1, if_pos (by omega), if_pos (by omega), bt_bN]
  by_cases h1 : (bN (s.data.toList.drop i) 1 : Int) < lo
  · rw [if_pos h1, if_neg (by omega)]
  · rw [if_neg h1]
    by_cases h2 : (bN (s.data.toList.drop i) 1 : Int) > hi
    · rw [if_pos h2, if_neg (by omega)]
    · rw [if_neg h2, if_pos (by omega), show wrap64 (1 + 1) = 2 by unfold wrap64; omega, holtref03_Formed.l1, if_neg (by omega)]
      congr 1
      exact wr_end i 1 2 (by omega) (by omega) rfl
theorem l1_2 (k : Nat) (lo hi : Int) (hi1 : i + 2 < s.size) : holtref03_Formed.l1 (k + 3) s i 2 lo hi 1 =
    if (lo ≤ (bN (s.data.toList.drop i) 1 : Int) ∧ (bN (s.data.toList.drop i) 1 : Int) ≤ hi) ∧ (128 ≤ bN (s.data.toList.drop i) 2 ∧ bN (s.data.toList.drop i) 2 ≤ 191) then holtref03_Formed.l0 k s ((i + 3 : Nat) : Int) else some false := by
  have w1 : wrap64 ((i : Int) + 1) = (i : Int) + (1 : Nat) := by unfold wrap64; omega
  have w2 : wrap64 ((i : Int) + 2) = (i : Int) + (2 : Nat) := by unfold wrap64; omega
  rw [holtref03_Formed.l1, if_pos (by omega), w1, if_pos (by omega), if_pos (by omega), bt_bN]
  by_cases h1 : (bN (s.data.toList.drop i) 1 : Int) < lo
  · rw [if_pos h1, if_neg (by omega)]
  · rw [if_neg h1]
    by_cases h2 : (bN (s.data.toList.drop i) 1 : Int) > hi
    · rw [if_pos h2, if_neg (by omega)]
    · rw [if_neg h2, show wrap64 (1 + 1) = 2 by unfold wrap64; omega, holtref03_Formed.l1, if_pos (by omega), w2, if_pos (by omega), if_pos (by omega), bt_bN]
      by_cases h3 : (bN (s.data.toList.drop i) 2 : Int) < 128
      · rw [if_pos h3, if_neg (by omega)]
      · rw [if_neg h3]
        by_cases h4 : (bN (s.data.toList.drop i) 2 : Int) > 191
        · rw [if_pos h4, if_neg (by omega)]
        · rw [if_neg h4, if_pos (by omega), show wrap64 (2 + 1) = 3 by unfold wrap64; omega, holtref03_Formed.l1, if_neg (by omega)]
          congr 1
          exact wr_end i 2 3 (by omega) (by omega) rfl
theorem l1_3 (k : Nat) (lo hi : Int) (hi1 : i + 3 < s.size) : holtref03_Formed.l1 (k + 4) s i 3 lo hi 1 =
    if (lo ≤ (bN (s.data.toList.drop i) 1 : Int) ∧ (bN (s.data.toList.drop i) 1 : Int) ≤ hi) ∧ (128 ≤ bN (s.data.toList.drop i) 2 ∧ bN (s.data.toList.drop i) 2 ≤ 191) ∧ (128 ≤ bN (s.data.toList.drop i) 3 ∧ bN (s.data.toList.drop i) 3 ≤ 191) then holtref03_Formed.l0 k s ((i + 4 : Nat) : Int) else some false := by
  have w1 : wrap64 ((i : Int) + 1) = (i : Int) + (1 : Nat) := by unfold wrap64; omega
  have w2 : wrap64 ((i : Int) + 2) = (i : Int) + (2 : Nat) := by unfold wrap64; omega
  have w3 : wrap64 ((i : Int) + 3) = (i : Int) + (3 : Nat) := by unfold wrap64; omega
  rw [holtref03_Formed.l1, if_pos (by omega), w1, if_pos (by omega), if_pos (by omega), bt_bN]
  by_cases h1 : (bN (s.data.toList.drop i) 1 : Int) < lo
  · rw [if_pos h1, if_neg (by omega)]
  · rw [if_neg h1]
    by_cases h2 : (bN (s.data.toList.drop i) 1 : Int) > hi
    · rw [if_pos h2, if_neg (by omega)]
    · rw [if_neg h2, show wrap64 (1 + 1) = 2 by unfold wrap64; omega, holtref03_Formed.l1, if_pos (by omega), w2, if_pos (by omega), if_pos (by omega), bt_bN]
      by_cases h3 : (bN (s.data.toList.drop i) 2 : Int) < 128
      · rw [if_pos h3, if_neg (by omega)]
      · rw [if_neg h3]
        by_cases h4 : (bN (s.data.toList.drop i) 2 : Int) > 191
        · rw [if_pos h4, if_neg (by omega)]
        · rw [if_neg h4, show wrap64 (2 + 1) = 3 by unfold wrap64; omega, holtref03_Formed.l1, if_pos (by omega), w3, if_pos (by omega), if_pos (by omega), bt_bN]
          by_cases h5 : (bN (s.data.toList.drop i) 3 : Int) < 128
          · rw [if_pos h5, if_neg (by omega)]
          · rw [if_neg h5]
            by_cases h6 : (bN (s.data.toList.drop i) 3 : Int) > 191
            · rw [if_pos h6, if_neg (by omega)]
            · rw [if_neg h6, if_pos (by omega), show wrap64 (3 + 1) = 4 by unfold wrap64; omega, holtref03_Formed.l1, if_neg (by omega)]
              congr 1
              exact wr_end i 3 4 (by omega) (by omega) rfl
theorem br (k n : Nat) (lo hi : Int) (hn : n ≤ 3) (hsz : i < s.size) : holtref03_Formed.j1 (k + 9) s i n lo hi (decide (wrap64 ((i : Int) + n) ≥ (s.size : Int))) =
    if i + n < s.size ∧ (1 ≤ n → lo ≤ (bN (s.data.toList.drop i) 1 : Int) ∧ (bN (s.data.toList.drop i) 1 : Int) ≤ hi) ∧ (2 ≤ n → 128 ≤ bN (s.data.toList.drop i) 2 ∧ bN (s.data.toList.drop i) 2 ≤ 191) ∧ (3 ≤ n → 128 ≤ bN (s.data.toList.drop i) 3 ∧ bN (s.data.toList.drop i) 3 ≤ 191)
    then holtref03_Formed.l0 (k + 7 - n) s ((i + (n + 1) : Nat) : Int) else some false := by
  have w1 : wrap64 ((i : Int) + n) = (i : Int) + n := by unfold wrap64; omega
  rw [holtref03_Formed.j1, w1]
  by_cases hin : i + n < s.size
  · rw [if_neg (by simp; omega)]
    match n, hn with
    | 0, _ => rw [show k + 8 = (k + 7) + 1 by omega, show ((0 : Nat) : Int) = 0 from rfl, l1_0 s i hs _ _ _ hin, if_pos ⟨hin, by omega, by omega, by omega⟩]; rfl
    | 1, _ =>
      rw [show k + 8 = (k + 6) + 2 by omega, show ((1 : Nat) : Int) = 1 from rfl, l1_1 s i hs _ _ _ hin]
      by_cases h : lo ≤ (bN (s.data.toList.drop i) 1 : Int) ∧ (bN (s.data.toList.drop i) 1 : Int) ≤ hi
      · rw [if_pos h, if_pos ⟨hin, fun _ => h, by omega, by omega⟩]; rfl
      · rw [if_neg h, if_neg (fun hh => h (hh.2.1 (by omega)))]
    | 2, _ =>
      rw [show k + 8 = (k + 5) + 3 by omega, show ((2 : Nat) : Int) = 2 from rfl, l1_2 s i hs _ _ _ hin]
      by_cases h : (lo ≤ (bN (s.data.toList.drop i) 1 : Int) ∧ (bN (s.data.toList.drop i) 1 : Int) ≤ hi) ∧ (128 ≤ bN (s.data.toList.drop i) 2 ∧ bN (s.data.toList.drop i) 2 ≤ 191)
      · rw [if_pos h, if_pos ⟨hin, fun _ => h.1, fun _ => h.2, by omega⟩]; rfl
      · rw [if_neg h, if_neg (fun hh => h ⟨hh.2.1 (by omega), hh.2.2.1 (by omega)⟩)]
    | 3, _ =>
      rw [show k + 8 = (k + 4) + 4 by omega, show ((3 : Nat) : Int) = 3 from rfl, l1_3 s i hs _ _ _ hin]
      by_cases h : (lo ≤ (bN (s.data.toList.drop i) 1 : Int) ∧ (bN (s.data.toList.drop i) 1 : Int) ≤ hi) ∧ (128 ≤ bN (s.data.toList.drop i) 2 ∧ bN (s.data.toList.drop i) 2 ≤ 191) ∧ (128 ≤ bN (s.data.toList.drop i) 3 ∧ bN (s.data.toList.drop i) 3 ≤ 191)
      · rw [if_pos h, if_pos ⟨hin, fun _ => h.1, fun _ => h.2.1, fun _ => h.2.2⟩]; rfl
      · rw [if_neg h, if_neg (fun hh => h ⟨hh.2.1 (by omega), hh.2.2.1 (by omega), hh.2.2.2 (by omega)⟩)]
  · rw [if_pos (by simp; omega), if_neg (fun hh => hin hh.1)]
theorem l0_step (k : Nat) (hsz : i < s.size) : (∃ m k', stepL (s.data.toList.drop i) = some m ∧ k ≤ k' ∧ holtref03_Formed.l0 (k + 10) s i = holtref03_Formed.l0 k' s ((i + m : Nat) : Int)) ∨
    (stepL (s.data.toList.drop i) = none ∧ holtref03_Formed.l0 (k + 10) s i = some false) := by
  have hlen : (s.data.toList.drop i).length = s.size - i := by rw [List.length_drop, Array.length_toList]; rfl
  have hb0 := bt_bN s i 0
  rw [show ((i : Int) + ((0 : Nat) : Int)) = (i : Int) by omega] at hb0
  have hc := bN_lt (s.data.toList.drop i) 0
  have h1lt := bN_lt (s.data.toList.drop i) 1
  have e : stepL (s.data.toList.drop i) = stepN (s.size - i) (bN (s.data.toList.drop i) 0) (bN (s.data.toList.drop i) 1) (bN (s.data.toList.drop i) 2) (bN (s.data.toList.drop i) 3) := by unfold stepL; rw [hlen]
  rw [e]
  rw [holtref03_Formed.l0, if_pos (by omega), if_pos (by omega), hb0, tails_ge (k + 9) _ hc (by omega)]
  have b := br s i hs k
  generalize bN (s.data.toList.drop i) 0 = c at *
  generalize bN (s.data.toList.drop i) 1 = c1 at *
  generalize bN (s.data.toList.drop i) 2 = c2 at *
  generalize bN (s.data.toList.drop i) 3 = c3 at *
  simp only [Option.bind_some]
  have fin : ∀ (n : Nat) (lo hi : Int) (X : Option Nat), n ≤ 3 → (X = if i + n < s.size ∧ (1 ≤ n → lo ≤ (c1 : Int) ∧ (c1 : Int) ≤ hi) ∧ (2 ≤ n → 128 ≤ c2 ∧ c2 ≤ 191) ∧ (3 ≤ n → 128 ≤ c3 ∧ c3 ≤ 191) then some (n + 1) else none) →
      (∃ m k', X = some m ∧ k ≤ k' ∧ holtref03_Formed.j1 (k + 9) s i n lo hi (decide (wrap64 ((i : Int) + n) ≥ (s.size : Int))) = holtref03_Formed.l0 k' s ((i + m : Nat) : Int)) ∨ (X = none ∧ holtref03_Formed.j1 (k + 9) s i n lo hi (decide (wrap64 ((i : Int) + n) ≥ (s.size : Int))) = some false) := by
    intro n lo hi X hn hX
    rw [b n lo hi hn hsz, hX]
    by_cases hcond : i + n < s.size ∧ (1 ≤ n → lo ≤ (c1 : Int) ∧ (c1 : Int) ≤ hi) ∧ (2 ≤ n → 128 ≤ c2 ∧ c2 ≤ 191) ∧ (3 ≤ n → 128 ≤ c3 ∧ c3 ≤ 191)
    · rw [if_pos hcond, if_pos hcond]; exact .inl ⟨n + 1, _, rfl, by omega, rfl⟩
    · rw [if_neg hcond, if_neg hcond]; exact .inr ⟨rfl, rfl⟩
  have pick : ∀ (A B : Prop) [Decidable A] [Decidable B] (x : Nat), (A ↔ B) → (if A then some x else none) = (if B then some x else (none : Option Nat)) := by
    intro A B _ _ x h
    by_cases hA : A
    · rw [if_pos hA, if_pos (h.1 hA)]
    · rw [if_neg hA, if_neg (fun hB => hA (h.2 hB))]
  unfold stepN
  by_cases d0 : c < 128
  · rw [if_pos d0, if_pos d0, if_neg (show ¬ ((0, 128, 191) : Int × Int × Int).1 < 0 by decide)]
    exact fin 0 128 191 _ (by omega) (by rw [if_pos ⟨by omega, by omega, by omega, by omega⟩])
  · rw [if_neg d0, if_neg d0]
    by_cases d1 : 194 ≤ c ∧ c ≤ 223
    · rw [if_pos d1, if_pos d1, if_neg (show ¬ ((1, 128, 191) : Int × Int × Int).1 < 0 by decide)]
      exact fin 1 128 191 _ (by omega) (pick _ _ 2 (by omega))
    · rw [if_neg d1, if_neg d1]
      by_cases d2 : c = 224
      · rw [if_pos d2, if_pos d2, if_neg (show ¬ ((2, 160, 191) : Int × Int × Int).1 < 0 by decide)]
        exact fin 2 160 191 _ (by omega) (pick _ _ 3 (by omega))
      · rw [if_neg d2, if_neg d2]
        by_cases d3 : c = 237
        · rw [if_pos d3, if_pos d3, if_neg (show ¬ ((2, 128, 159) : Int × Int × Int).1 < 0 by decide)]
          exact fin 2 128 159 _ (by omega) (pick _ _ 3 (by omega))
        · rw [if_neg d3, if_neg d3]
          by_cases d4 : 225 ≤ c ∧ c ≤ 239
          · rw [if_pos d4, if_pos d4, if_neg (show ¬ ((2, 128, 191) : Int × Int × Int).1 < 0 by decide)]
            exact fin 2 128 191 _ (by omega) (pick _ _ 3 (by omega))
          · rw [if_neg d4, if_neg d4]
            by_cases d5 : c = 240
            · rw [if_pos d5, if_pos d5, if_neg (show ¬ ((3, 144, 191) : Int × Int × Int).1 < 0 by decide)]
              exact fin 3 144 191 _ (by omega) (pick _ _ 4 (by omega))
            · rw [if_neg d5, if_neg d5]
              by_cases d6 : 241 ≤ c ∧ c ≤ 243
              · rw [if_pos d6, if_pos d6, if_neg (show ¬ ((3, 128, 191) : Int × Int × Int).1 < 0 by decide)]
                exact fin 3 128 191 _ (by omega) (pick _ _ 4 (by omega))
              · rw [if_neg d6, if_neg d6]
                by_cases d7 : c = 244
                · rw [if_pos d7, if_pos d7, if_neg (show ¬ ((3, 128, 143) : Int × Int × Int).1 < 0 by decide)]
                  exact fin 3 128 143 _ (by omega) (pick _ _ 4 (by omega))
                · rw [if_neg d7, if_neg d7, if_pos (show ((-1, 0, 0) : Int × Int × Int).1 < 0 by decide), holtref03_Formed.j1, if_pos rfl]
                  exact .inr ⟨rfl, rfl⟩
end
theorem l0_formed (s : ByteArray) (hs : s.size ≤ 1000000) (n : Nat) : ∀ (i k : Nat), i ≤ s.size → s.size - i ≤ n → 10 * n + 1 ≤ k → holtref03_Formed.l0 k s i = some (formedL n (s.data.toList.drop i)) := by
  have hlen : ∀ i, (s.data.toList.drop i).length = s.size - i := by intro i; rw [List.length_drop, Array.length_toList]; rfl
  have hend : ∀ (i k : Nat), i = s.size → 1 ≤ k → holtref03_Formed.l0 k s i = some true := by
    intro i k hi hk
    obtain ⟨k, rfl⟩ : ∃ m, k = m + 1 := ⟨k - 1, by omega⟩
    rw [holtref03_Formed.l0, if_neg (by omega)]
  induction n with
  | zero => intro i k hi hn hk; rw [hend i k (by omega) (by omega)]; rfl
  | succ n ih =>
    intro i k hi hn hk
    rw [formedL]
    by_cases hsz : i < s.size
    · have hne : s.data.toList.drop i ≠ [] := by
        intro h; have := congrArg List.length h; rw [hlen] at this; simp at this; omega
      rw [if_neg hne]
      obtain ⟨k, rfl⟩ : ∃ m, k = m + 10 := ⟨k - 10, by omega⟩
      rcases l0_step s i hs k hsz with ⟨m, k', h1, h2, h3⟩ | ⟨h1, h2⟩
      · have hm := stepL_le _ hne m h1
        rw [hlen] at hm
        rw [h1, h3, ih (i + m) k' (by omega) (by omega) (by omega)]
        show some (formedL n (List.drop (i + m) s.data.toList)) = some (formedL n (List.drop m (List.drop i s.data.toList)))
        rw [List.drop_drop]
      · rw [h1, h2]
    · rw [if_pos (List.eq_nil_of_length_eq_zero (by rw [hlen]; omega)), hend i k (by omega) (by omega)]
/-- What the reference's Formed tells. -/
theorem formed_tells (s : ByteArray) (hs : s.size ≤ 1000000) : holtref03_Formed.f (10 * s.size + 1) s = some (formedL s.data.toList.length s.data.toList) := by
  have hsz : s.data.toList.length = s.size := by rw [Array.length_toList]; rfl
  unfold holtref03_Formed.f
  have := l0_formed s hs s.size 0 (10 * s.size + 1) (by omega) (by omega) (by omega)
  rw [List.drop_zero] at this
  rw [hsz]
  exact this
end Go.Proofs.YtfnoegijkdhckaaDoor
/- What the reference's Right for names comes to. -/
namespace Go.Proofs.YtfnoegijkdhckaaDoor
open Go.RowKit Go.Proofs.YtfnoegijkdhckaaDoorW.PrintWords Go.Lib

theorem okB_at (s : ByteArray) (i : Nat) (h : i < s.size) : okB (s.data.toList[i]'(by rw [Array.length_toList]; exact h)) = (decide (32 ≤ ((s[i]'h).toNat : Int)) && (((s[i]'h).toNat : Int) != 47 && ((s[i]'h).toNat : Int) != 127)) := by
  have hb : s.data.toList[i]'(by rw [Array.length_toList]; exact h) = s[i]'h := rfl
  rw [hb]
  unfold okB
  generalize (s[i]'h).toNat = c
  have e1 : decide (32 ≤ c) = decide ((32 : Int) ≤ (c : Int)) := decide_eq_decide.2 (by omega)
  have e2 : (c != 47) = ((c : Int) != 47) := by rw [Bool.eq_iff_iff, bne_iff_ne, bne_iff_ne]; omega
  have e3 : (c != 127) = ((c : Int) != 127) := by rw [Bool.eq_iff_iff, bne_iff_ne, bne_iff_ne]; omega
  rw [e1, e2, e3]

set_option maxHeartbeats 1000000 in
theorem rright_calls (s : ByteArray) (w : World) (hs : s.size ≤ 9223372036854775807) : Calls Tryd.prog 51 #[.string s] w fun e w' => e = .returned (.bool (nameB s.data.toList)) ∧ ∃ n, w' = w.drewN n := by
  have hsz : s.data.toList.length = s.size := by rw [Array.length_toList]; rfl
  have HN := Lib.hid (show nameB s.data.toList = ((decide (1 ≤ s.size) && decide (s.size ≤ 20)) && (s.data.toList.all okB && formedL s.data.toList.length s.data.toList)) by unfold nameB; rw [hsz])
  have HSZ := Lib.hid hsz
  clear hsz
  by_cases h1 : 1 ≤ s.size
  · by_cases h2 : s.size ≤ 20
    · have HF := Lib.hid (show nameB s.data.toList = (s.data.toList.all okB && formedL s.data.toList.length s.data.toList) by rw [HN.out, decide_eq_true h1, decide_eq_true h2]; rfl)
      have HFC := Lib.hid (fun w => PWireEncodes.holtref03_Formed.calls _ s _ w (formed_tells s (by omega)))
      clear HN
      go_enter Tryd.func51, Tryd.ntmps51
      go_wp2
      go_loop [3] (fun vi => ∃ i : Nat, vi = .int .i64 i ∧ i ≤ s.size ∧ Hid ((s.data.toList.take i).all okB = true)) (fun vi => (20 - RowKit.intOf vi).toNat)
      case atStart => exact ⟨0, rfl, by omega, Lib.hid (by simp)⟩
      case round =>
        obtain ⟨i, rfl, hi, HA⟩ := hrel
        by_cases hlt : i < s.size
        · have hb := okB_at s i hlt
          have hl : i < s.data.toList.length := by rw [HSZ.out]; exact hlt
          by_cases hok : 32 ≤ ((s[i]'hlt).toNat : Int) ∧ ((s[i]'hlt).toNat : Int) ≠ 47 ∧ ((s[i]'hlt).toNat : Int) ≠ 127
          · obtain ⟨k1, k2, k3⟩ := hok
            have e2 : (((s[i]'hlt).toNat : Int) == 47) = false := beq_eq_false_iff_ne.2 k2
            have e3 : (((s[i]'hlt).toNat : Int) == 127) = false := beq_eq_false_iff_ne.2 k3
            have HA2 := Lib.hid (show (s.data.toList.take (i + 1)).all okB = true by
              rw [List.take_succ_eq_append_getElem hl, List.all_append, HA.out, List.all_cons, hb, decide_eq_true k1, bne_iff_ne.2 k2, bne_iff_ne.2 k3]
              rfl)
            clear hb HA k2 k3
            go_wp2
            go_round
            case rel => exact ⟨i + 1, by go_num, by omega, HA2⟩
            case measure => simp [RowKit.intOf] <;> omega
          · have HF2 := Lib.hid (show nameB s.data.toList = false by
              rw [HF.out]
              have : s.data.toList.all okB = false := by
                rw [← Bool.not_eq_true, List.all_eq_true]
                intro hall
                have := hall _ (List.getElem_mem hl)
                rw [hb] at this
                simp only [Bool.and_eq_true, decide_eq_true_eq, bne_iff_ne] at this
                exact hok this
              rw [this, Bool.false_and])
            clear hb HA
            by_cases k1 : ((s[i]'hlt).toNat : Int) < 32
            · go_wp2
              go_ret
              rw [HF2.out]
              exact ⟨rfl, 0, rfl⟩
            · by_cases k2 : ((s[i]'hlt).toNat : Int) = 47
              · have e2 : (((s[i]'hlt).toNat : Int) == 47) = true := beq_iff_eq.2 k2
                clear k2 hok
                go_wp2
                go_ret
                rw [HF2.out]
                exact ⟨rfl, 0, rfl⟩
              · have e2 : (((s[i]'hlt).toNat : Int) == 47) = false := beq_eq_false_iff_ne.2 k2
                have e3 : (((s[i]'hlt).toNat : Int) == 127) = true := by rw [beq_iff_eq]; omega
                clear k2 hok
                go_wp2
                go_ret
                rw [HF2.out]
                exact ⟨rfl, 0, rfl⟩
        · have HA2 := Lib.hid (show s.data.toList.all okB = true by have := HA.out; rw [List.take_of_length_le (by rw [HSZ.out]; omega)] at this; exact this)
          go_wp2_with (go_at_call 63; refine (HFC.out _).mono ?_; rintro e w' ⟨rfl, hd⟩; obtain ⟨n, rfl⟩ := hd.out)
          go_ret
          rw [HF.out, HA2.out, Bool.true_and]
          exact ⟨rfl, n, rfl⟩
    · go_enter Tryd.func51, Tryd.ntmps51
      go_wp2
      go_ret
      rw [HN.out, decide_eq_false h2]
      exact ⟨by simp, 0, rfl⟩
  · go_enter Tryd.func51, Tryd.ntmps51
    go_wp2
    go_ret
    rw [HN.out, decide_eq_false h1]
    exact ⟨by simp, 0, rfl⟩
end Go.Proofs.YtfnoegijkdhckaaDoor
/- Whether an operation is right: the reference. -/
namespace Go.Proofs.YtfnoegijkdhckaaDoor
open Go.RowKit Go.Proofs.YtfnoegijkdhckaaDoorW.PrintWords

set_option maxHeartbeats 2000000 in
theorem refright_calls (o : OpR) (w : World) (hs : o.name.size ≤ 9223372036854775807) : Calls Tryd.prog 28 #[opV o] w fun e w' => e = .returned (.bool (opRight o)) ∧ Below w.heap.size w w' := by
  obtain ⟨n, r, node, par, name⟩ := o
  simp only [opV] at hs ⊢
  have HR := Lib.hid (show opRight ⟨n, r, node, par, name⟩ = (stampR n r && (nodeR node && ((par == 0 || (par == 1 || nodeR par)) && nameB name.data.toList))) from rfl)
  have hc1 := rstamp_calls n r
  have hc2 := rnode_calls node
  have hc3 := rnode_calls par
  have hc4 := fun w => rright_calls name w hs
  generalize opRight ⟨n, r, node, par, name⟩ = R at *
  generalize stampR n r = S at *
  generalize nodeR node = N at *
  generalize nodeR par = N2 at *
  generalize nameB name.data.toList = M at *
  have HC1 := Lib.hid hc1
  have HC2 := Lib.hid hc2
  have HC3 := Lib.hid hc3
  have HC4 := Lib.hid hc4
  have HB := Lib.hid (Below.refl w.heap.size w)
  clear hc1 hc2 hc3 hc4
  go_enter Tryd.func28, Tryd.ntmps28
  go_wp2_with (first
    | (go_at_call 52; (with_reducible refine (HC3.out _).mono ?_); rintro e w1 ⟨rfl, m1, rfl⟩)
    | (go_at_call 50; refine (HC1.out _).mono ?_; rintro e w2 ⟨rfl, hb⟩; have c2 : w2.cell? ⟨w.heap.size, 2, none⟩ = some (.int .i64 node) := pw_cell_below hb (by go_cell); have c4 : w2.cell? ⟨w.heap.size, 4, none⟩ = some (.string name) := pw_cell_below hb (by go_cell); have c3 : w2.cell? ⟨w.heap.size, 3, none⟩ = some (.int .i64 par) := pw_cell_below hb (by go_cell); have HBn := Lib.hid (below_step (by repeat (first | (with_reducible exact HB.out) | apply below_alloc | apply pw_below_drewN | apply below_drew1 | exact HB.out)) hb); clear hb HB; have HB := HBn; clear HBn)
    | (go_at_call 52; (with_reducible refine (HC2.out _).mono ?_); rintro e w3 ⟨rfl, m3, rfl⟩)
    | (go_at_call 51; refine (HC4.out _).mono ?_; rintro e w4 ⟨rfl, m4, rfl⟩))
  go_ways
  all_goals (go_ret; refine ⟨?_, (by repeat (first | (with_reducible exact HB.out) | apply below_alloc | apply pw_below_drewN | apply below_drew1 | exact HB.out))⟩; rw [HR.out]; clear HC1 HC2 HC3 HC4; simp_all)
end Go.Proofs.YtfnoegijkdhckaaDoor
/- The bytes of an operation: the reference. -/
namespace Go.Proofs.YtfnoegijkdhckaaDoor
open Go.RowKit Go.Proofs.YtfnoegijkdhckaaDoorW.PrintWords

theorem below_stepB {B : Nat} {w W w' : World} (h : Below B w W) (hB : B ≤ w.heap.size) (k : Below W.heap.size W w') : Below B w w' := below_then h (Nat.le_trans hB h.size) k

set_option maxHeartbeats 2000000 in
theorem refput_calls (o : OpR) (w : World) (hs : o.name.size ≤ 9223372036854775807) : Calls Tryd.prog 29 #[opV o] w fun e w' => ∃ v, e = .returned v ∧ OwnB w' w.heap.size v (opForm o) ∧ Below w.heap.size w w' := by
  by_cases hR : opRight o = true
  · have hc := fun w => refright_calls o w hs
    rw [hR] at hc
    simp only [opV] at hc ⊢
    have HC := Lib.hid hc
    have HF := Lib.hid (show opForm o = pre o 4 ++ textForm o.name by rw [opForm, if_pos hR])
    have HL : Hid (o.name.size ≤ 20) := Lib.hid (by
      have : nameB o.name.data.toList = true := by
        unfold opRight at hR
        simp only [Bool.and_eq_true] at hR
        exact hR.2.2.2
      unfold nameB at this
      simp only [Bool.and_eq_true, decide_eq_true_eq] at this
      have h2 : o.name.data.toList.length = o.name.size := by rw [Array.length_toList]; rfl
      omega)
    have hf1 := form_length o.n
    have hf2 := form_length o.r
    have hf3 := form_length o.node
    have hf4 := form_length o.par
    have hf5 : (textForm o.name).length ≤ 25 := by
      have h1 := HL.out
      have h2 := textForm_length o.name (by omega)
      have h3 := form_length o.name.size
      omega
    have L1 := Lib.hid (show (form o.n).length + (form o.r).length ≤ 140737488355328 by omega)
    have L2 := Lib.hid (show (form o.n ++ form o.r).length + (form o.node).length ≤ 140737488355328 by rw [List.length_append]; omega)
    have L3 := Lib.hid (show (form o.n ++ form o.r ++ form o.node).length + (form o.par).length ≤ 140737488355328 by rw [List.length_append, List.length_append]; omega)
    have L4 := Lib.hid (show (pre o 4).length + (textForm o.name).length ≤ 140737488355328 by rw [pre_four]; simp only [List.length_append]; omega)
    have HP := Lib.hid (pre_four o)
    clear hc hR hf1 hf2 hf3 hf4 hf5
    have HN := Lib.hid hs
    clear hs
    go_enter Tryd.func29, Tryd.ntmps29
    go_wp2_with (go_at_call 28; refine (HC.out _).mono ?_; rintro e w1 ⟨rfl, hb⟩; have c0 : w1.cell? ⟨w.heap.size, 0, none⟩ = some (.int .i64 o.n) := pw_cell_below hb (by go_cell); have c1 : w1.cell? ⟨w.heap.size, 1, none⟩ = some (.int .i64 o.r) := pw_cell_below hb (by go_cell); have c2 : w1.cell? ⟨w.heap.size, 2, none⟩ = some (.int .i64 o.node) := pw_cell_below hb (by go_cell); have c3 : w1.cell? ⟨w.heap.size, 3, none⟩ = some (.int .i64 o.par) := pw_cell_below hb (by go_cell); have c4 : w1.cell? ⟨w.heap.size, 4, none⟩ = some (.string o.name) := pw_cell_below hb (by go_cell); have hlt := World.block_lt_of_cell? w1 _ c4; have HB0 := Lib.hid (below_step (below_alloc (Below.refl w.heap.size w) _) hb); clear hb)
    have C0 := Lib.hid c0
    have C1 := Lib.hid c1
    have C2 := Lib.hid c2
    have C3 := Lib.hid c3
    have C4 := Lib.hid c4
    have HLT := Lib.hid (show w.heap.size + 1 ≤ w1.heap.size from hlt)
    have HB := Lib.hid (Below.refl (w.heap.size + 1) w1)
    clear c0 c1 c2 c3 c4 hlt
    go_region_held3 (fun w' => w'.cell? ⟨w.heap.size, 0, none⟩ = some (.int .i64 o.n) ∧ w'.cell? ⟨w.heap.size, 1, none⟩ = some (.int .i64 o.r)) (exact ⟨(Below.cell (by repeat (first | (with_reducible exact HB.out) | apply below_alloc | apply pw_below_drewN | apply below_drew1 | exact HB.out)) (Nat.lt_succ_self _)).trans C0.out, (Below.cell (by repeat (first | (with_reducible exact HB.out) | apply below_alloc | apply pw_below_drewN | apply below_drew1 | exact HB.out)) (Nat.lt_succ_self _)).trans C1.out⟩)
      (first
        | (go_at_call 27; (with_reducible refine (rwrite_calls _ o.n).mono ?_); rintro e w2 ⟨v2, rfl, ho, hb⟩; have HO2 := Lib.hid (ho.le (Nat.le_trans HLT.out (Below.size (show Below (w.heap.size + 1) w1 _ from (by repeat (first | (with_reducible exact HB.out) | apply below_alloc | apply pw_below_drewN | apply below_drew1 | exact HB.out)))))); have HBn := Lib.hid (below_stepB (by repeat (first | (with_reducible exact HB.out) | apply below_alloc | apply pw_below_drewN | apply below_drew1 | exact HB.out)) HLT.out hb); clear hb HB ho; have HB := HBn; clear HBn)
        | (go_at_call 27; (with_reducible refine (rwrite_calls _ o.r).mono ?_); rintro e w3 ⟨v3, rfl, ho, hb⟩; obtain ⟨A3, e3, rfl, hr3⟩ := own_reads ho; have HR3 := Lib.hid hr3; have HO3 := Lib.hid (HO2.out.now hb rfl); have HBn := Lib.hid (below_stepB (by repeat (first | (with_reducible exact HB.out) | apply below_alloc | apply pw_below_drewN | apply below_drew1 | exact HB.out)) HLT.out hb); clear hb HB ho hr3; have HB := HBn; clear HBn)
        | ((refine appB_step (w0 := w1) (w.heap.size + 1) (by rfl) (.tmp 12) (.tmp 16) (by rfl) v2 (form o.n) (form o.r) A3 (form o.r).length e3 (by rfl) (by rfl) HO3.out HR3.out HB.out (Nat.le_trans HLT.out (Below.size HB.out)) L1.out ?_); intro v4 w4 ho hb hg hat; have HO4 := Lib.hid ho; clear HB ho hg hat HO2 HO3; have HB := Lib.hid hb; clear hb)
        | (fail "no arm"))
    go_wp2
    go_region_held3 (fun w' => w'.cell? ⟨w.heap.size, 2, none⟩ = some (.int .i64 o.node) ∧ w'.cell? ⟨w.heap.size, 3, none⟩ = some (.int .i64 o.par)) (exact ⟨(Below.cell (by repeat (first | (with_reducible exact HB.out) | apply below_alloc | apply pw_below_drewN | apply below_drew1 | exact HB.out)) (Nat.lt_succ_self _)).trans C2.out, (Below.cell (by repeat (first | (with_reducible exact HB.out) | apply below_alloc | apply pw_below_drewN | apply below_drew1 | exact HB.out)) (Nat.lt_succ_self _)).trans C3.out⟩)
      (first
        | (go_at_call 27; (with_reducible refine (rwrite_calls _ o.node).mono ?_); rintro e w5 ⟨v5, rfl, ho, hb⟩; obtain ⟨A5, e5, rfl, hr3⟩ := own_reads ho; have HR5 := Lib.hid hr3; have HO5 := Lib.hid (HO4.out.now hb rfl); have HBn := Lib.hid (below_stepB (by repeat (first | (with_reducible exact HB.out) | apply below_alloc | apply pw_below_drewN | apply below_drew1 | exact HB.out)) HLT.out hb); clear hb HB ho hr3; have HB := HBn; clear HBn)
        | ((refine appB_step (w0 := w1) (w.heap.size + 1) (by rfl) (.tmp 18) (.tmp 21) (by rfl) v4 (form o.n ++ form o.r) (form o.node) A5 (form o.node).length e5 (by rfl) (by rfl) HO5.out HR5.out HB.out (Nat.le_trans HLT.out (Below.size HB.out)) L2.out ?_); intro v6 w6 ho hb hg hat; have HO6 := Lib.hid ho; clear HB ho hg hat; have HB := Lib.hid hb; clear hb)
        | (go_at_call 27; (with_reducible refine (rwrite_calls _ o.par).mono ?_); rintro e w7 ⟨v7, rfl, ho, hb⟩; obtain ⟨A7, e7, rfl, hr3⟩ := own_reads ho; have HR7 := Lib.hid hr3; have HO7 := Lib.hid (HO6.out.now hb rfl); have HBn := Lib.hid (below_stepB (by repeat (first | (with_reducible exact HB.out) | apply below_alloc | apply pw_below_drewN | apply below_drew1 | exact HB.out)) HLT.out hb); clear hb HB ho hr3; have HB := HBn; clear HBn)
        | ((refine appB_step (w0 := w1) (w.heap.size + 1) (by rfl) (.tmp 22) (.tmp 25) (by rfl) v6 (form o.n ++ form o.r ++ form o.node) (form o.par) A7 (form o.par).length e7 (by rfl) (by rfl) HO7.out HR7.out HB.out (Nat.le_trans HLT.out (Below.size HB.out)) L3.out ?_); intro v8 w8 ho hb hg hat; have HO8 := Lib.hid ho; clear HB ho hg hat; have HB := Lib.hid hb; clear hb)
        | (fail "no arm"))
    have c4 := (Below.cell HB.out (Nat.lt_succ_self _)).trans C4.out
    have HO9 := Lib.hid (show OwnB w8 (w.heap.size + 1) v8 (pre o 4) by rw [HP.out]; exact HO8.out)
    go_wp2_with (first
      | (go_at_call 53; refine (rtextw_calls _ _ HN.out).mono ?_; rintro e w9 ⟨v9, rfl, ho, hb⟩; obtain ⟨A9, e9, rfl, hr⟩ := own_reads ho; have HR9 := Lib.hid hr; have HO10 := Lib.hid (HO9.out.now hb rfl); have HBn := Lib.hid (below_stepB (by repeat (first | (with_reducible exact HB.out) | apply below_alloc | apply pw_below_drewN | apply below_drew1 | exact HB.out)) HLT.out hb); clear hb HB ho hr; have HB := HBn; clear HBn)
      | (at_builtin; (refine print_append_row (w0 := w1) (w.heap.size + 1) rfl (.tmp 27) (.tmp 30) 25 5 .u8 1 rfl Tryd.underlying25 pkInfo5 (by decide) _ (pre o 4) (textForm o.name) A9 (textForm o.name).length e9 rfl rfl ?cO ?cR ?cB ?cS ?cL ?_; (case cO => exact HO10.out); (case cR => exact HR9.out); (case cB => exact HB.out); (case cS => exact Nat.le_trans HLT.out (Below.size HB.out)); (case cL => (have := L4.out; omega)); intro v11 w11 ho hb hg hat; have HO11 := Lib.hid ho; clear ho hg hat HB; have HB := Lib.hid hb; clear hb)))
    go_ret
    rw [HF.out]
    exact ⟨_, rfl, OwnB.le HO11.out (Nat.le_succ _), below_wide HB0.out HB.out (Nat.le_succ _)⟩
  · have hc := fun w => refright_calls o w hs
    rw [Bool.not_eq_true] at hR
    rw [hR] at hc
    simp only [opV] at hc ⊢
    have HC := Lib.hid hc
    have HF := Lib.hid (show opForm o = [] by rw [opForm, if_neg (by rw [hR]; decide)])
    clear hc hR
    have HB := Lib.hid (Below.refl w.heap.size w)
    go_enter Tryd.func29, Tryd.ntmps29
    go_wp2_with (go_at_call 28; refine (HC.out _).mono ?_; rintro e w1 ⟨rfl, hb⟩; have HBn := Lib.hid (below_step (by repeat (first | (with_reducible exact HB.out) | apply below_alloc | apply pw_below_drewN | apply below_drew1 | exact HB.out)) hb); clear hb HB; have HB := HBn; clear HBn)
    go_ret
    rw [HF.out]
    exact ⟨_, rfl, own_nil _ _ _ _, HB.out⟩
end Go.Proofs.YtfnoegijkdhckaaDoor
/- The reference's Encode. -/
namespace Go.Proofs.YtfnoegijkdhckaaDoor
open Go.RowKit Go.Proofs.YtfnoegijkdhckaaDoorW.PrintWords

/-- What Encode answers: the word, and the bytes. -/
def encE (os : List OpR) : Int := if encOk os then 0 else 1
def encL (os : List OpR) : List Int := if encOk os then encB os else []
theorem encE_ok {os : List OpR} (h : encOk os = true) : encE os = 0 := by rw [encE, if_pos h]
theorem encL_ok {os : List OpR} (h : encOk os = true) : encL os = encB os := by rw [encL, if_pos h]
theorem encE_no {os : List OpR} (h : encOk os = false) : encE os = 1 := by rw [encE, if_neg (by rw [h]; decide)]
theorem encL_no {os : List OpR} (h : encOk os = false) : encL os = [] := by rw [encL, if_neg (by rw [h]; decide)]

set_option maxHeartbeats 4000000 in
theorem refencode_long (A : Option Addr) (n c : Nat) (os : List OpR) (w : World) (hr : OpsAt w A n os) (h64 : 64 < n) :
    Calls Tryd.prog 12 #[.slice A n c] w fun e w' => e = .returned (.tuple #[.slice none 0 0, .int .i64 1]) ∧ w' = w := by
  have hm := hr.2.1
  clear hr
  go_enter Tryd.func12, Tryd.ntmps12
  go_wp2
  go_ret2
  exact ⟨rfl, rfl⟩

set_option maxHeartbeats 4000000 in
theorem refencode_calls (A : Option Addr) (n c : Nat) (os : List OpR) (w : World) (hr : OpsAt w A n os) (hs : ∀ o ∈ os, o.name.size ≤ 9223372036854775807) (hn64 : n ≤ 64) :
    Calls Tryd.prog 12 #[.slice A n c] w fun e w' => ∃ v, e = .returned (.tuple #[v, .int .i64 (encE os)]) ∧ OwnB w' w.heap.size v (encL os) ∧ Below w.heap.size w w' := by
  have hm := hr.2.1
  have HR := Lib.hid hr
  have HS := Lib.hid hs
  have HL := Lib.hid hr.1
  have HB := Lib.hid (Below.refl w.heap.size w)
  have HF := Lib.hid (show encA os = [1] ++ form n ++ forms os by rw [encA, hr.1])
  have hfl := form_length n
  have hfsl : ∀ i, (forms (os.take i)).length ≤ 45 * n := fun i => by
    have := forms_len (os.take i)
    have h2 : (os.take i).length ≤ os.length := by rw [List.length_take]; omega
    rw [hr.1] at h2
    omega
  have HFS := Lib.hid hfsl
  have HOK := Lib.hid (show os.all opRight = true → encOk os = true from fun h => by unfold encOk; rw [h, decide_eq_true (show os.length ≤ 64 by rw [hr.1]; exact hn64)]; rfl)
  clear hr hs hfsl
  go_enter Tryd.func12, Tryd.ntmps12
  go_wp2_with (first
    | (go_at_call 27; (refine (rwrite_calls _ _).mono ?_); rintro e w2 ⟨v2, rfl, ho, hb⟩; obtain ⟨A2, c2, rfl, hr2⟩ := own_reads ho; have HR2 := Lib.hid hr2; have HO2 := Lib.hid (show OwnB w2 w.heap.size _ [1] from OwnB.below (own_lit w w.heap.size 5 .u8 [1] HB.out.size (by decide)) hb); clear ho hr2; have HBn := Lib.hid (below_step (by repeat (first | (with_reducible exact HB.out) | apply below_alloc | apply pw_below_drewN | apply below_drew1 | exact HB.out)) hb); clear hb HB; have HB := HBn; clear HBn)
    | (at_builtin; go_loud ((refine print_append_row (w0 := w) w.heap.size rfl (.tmp 10) (.tmp 13) 25 5 .u8 1 rfl Tryd.underlying25 pkInfo5 (by decide) _ [1] (form n) A2 (form n).length c2 rfl rfl ?cO ?cR ?cB ?cS ?cL ?_; (case cO => exact HO2.out); (case cR => exact HR2.out); (case cB => exact HB.out); (case cS => exact HB.out.size); (case cL => simp only [List.length_singleton]; omega); intro v3 w3 ho hb hg hat; have HO3 := Lib.hid ho; have HBn := Lib.hid hb; clear HB ho hb hg hat; have HB := HBn; clear HBn)))
    | (fail "no arm"))
  go_loopw [4, 5] (fun v vi W => ∃ i : Nat, vi = .int .i64 i ∧ i ≤ n ∧ Hid (OwnB W w.heap.size v ([1] ++ form n ++ forms (os.take i))) ∧ Hid ((os.take i).all opRight = true) ∧ Hid (Below w.heap.size w W)) (fun _ vi _ => (n - (RowKit.intOf vi).toNat))
  case atStart => exact ⟨0, rfl, by omega, Lib.hid (by have h := HO3.out; rw [show forms (os.take 0) = [] from rfl, List.append_nil]; exact h), Lib.hid (by simp), HB⟩
  case round =>
    clear HB HO3
    obtain ⟨i, rfl, hi, HO, HA, HB⟩ := hrel
    by_cases hlt : i < n
    · have hlt2 : i < os.length := by rw [HL.out]; exact hlt
      obtain ⟨b, o, rfl, hcell⟩ := HR.out.2.2 (show 0 < n by omega)
      have hci := (hcell i hlt2).below HB.out
      have hsn := forms_snoc os i hlt2
      have hps := HS.out os[i] (List.getElem_mem hlt2)
      have hp := fun w => refput_calls os[i] w hps
      have hrc := fun w => refright_calls os[i] w hps
      have hpl := opForm_length os[i]
      have hfi := HFS.out i
      have hno : opRight os[i] = false → encOk os = false := fun h => by
        have h2 : os.all opRight = false := by
          rw [← Bool.not_eq_true, List.all_eq_true]
          intro hh
          rw [hh _ (List.getElem_mem hlt2)] at h
          cases h
        unfold encOk
        rw [h2, Bool.and_false]
      have hya : opRight os[i] = true → (os.take (i + 1)).all opRight = true := fun h => by
        rw [List.take_succ_eq_append_getElem hlt2, List.all_append, HA.out, List.all_cons, h]; rfl
      generalize os[i] = p at *
      obtain ⟨c0, c1, c2', c3, c4⟩ := hci
      have hi1 : (0 : Int) ≤ (i : Int) := by omega
      have hi2 : (i : Int) < (n : Int) := by omega
      cases hrt : opRight p
      · have HNO := Lib.hid (hno hrt)
        rw [hrt] at hrc
        simp only [opV] at hrc
        have HRC := Lib.hid hrc
        clear hrc hp hsn hcell hfi hno hya hpl hrt
        go_wp2_with (first
          | (go_at_call 28; go_loud ((refine (HRC.out _).mono ?_); rintro e w5 ⟨rfl, hb⟩; have HBn := Lib.hid (below_step (by repeat (first | (with_reducible exact HB.out) | apply below_alloc | apply pw_below_drewN | apply below_drew1 | exact HB.out)) hb); clear hb HB; have HB := HBn; clear HBn))
          | (fail "no arm"))
        go_ret2
        refine ⟨.slice none 0 0, ?_, ?_, HB.out⟩
        · rw [encE_no HNO.out]; rfl
        · rw [encL_no HNO.out]; exact own_nil _ _ _ _
      · have HYA := Lib.hid (hya hrt)
        rw [hrt] at hrc
        simp only [opV] at hp hrc
        generalize opForm p = G at *
        generalize hX : [1] ++ form n ++ forms (os.take i) = X at HO
        have hXl : X.length ≤ 3000 := by
          rw [← hX]
          simp only [List.length_append, List.length_singleton]
          omega
        have HSN := Lib.hid (show [1] ++ form n ++ forms (os.take (i + 1)) = X ++ G by rw [hsn, ← hX]; simp only [List.append_assoc])
        have HP := Lib.hid hp
        have HRC := Lib.hid hrc
        clear hp hrc hsn hcell hX hfi hno hya hrt
        go_wp2_with (first
          | (go_at_call 28; go_loud ((refine (HRC.out _).mono ?_); rintro e w4 ⟨rfl, hb⟩; have d0 := pw_cell_below hb c0; have d1 := pw_cell_below hb c1; have d2 := pw_cell_below hb c2'; have d3 := pw_cell_below hb c3; have d4 := pw_cell_below hb c4; have HO4 := Lib.hid (show OwnB w4 w.heap.size _ X from OwnB.below HO.out hb); clear c0 c1 c2' c3 c4 HO; have HBn := Lib.hid (below_step (by repeat (first | (with_reducible exact HB.out) | apply below_alloc | apply pw_below_drewN | apply below_drew1 | exact HB.out)) hb); clear hb HB; have HB := HBn; clear HBn))
          | (go_at_call 29; go_loud ((refine (HP.out _).mono ?_); rintro e w5 ⟨v5, rfl, ho, hb⟩; obtain ⟨A5, c5, rfl, hr5⟩ := own_reads ho; have HR5 := Lib.hid hr5; have HO5 := Lib.hid (show OwnB w5 w.heap.size _ X from OwnB.below HO4.out hb); clear ho hr5 d0 d1 d2 d3 d4; have HBn := Lib.hid (below_step (by repeat (first | (with_reducible exact HB.out) | apply below_alloc | apply pw_below_drewN | apply below_drew1 | exact HB.out)) hb); clear hb HB; have HB := HBn; clear HBn))
          | (at_builtin; go_loud ((refine print_append_row (w0 := w) w.heap.size rfl (.tmp 28) (.tmp 33) 25 5 .u8 1 rfl Tryd.underlying25 pkInfo5 (by decide) _ X G A5 G.length c5 rfl rfl ?cO ?cR ?cB ?cS ?cL ?_; (case cO => exact HO5.out); (case cR => exact HR5.out); (case cB => exact HB.out); (case cS => exact HB.out.size); (case cL => omega); intro v6 w6 ho hb hg hat; have HO6 := Lib.hid ho; have HBn := Lib.hid hb; clear HB ho hb hg hat; have HB := HBn; clear HBn)))
          | (fail "no arm"))
        go_roundw
        case rel => exact ⟨i + 1, by go_num, by omega, Lib.hid (by rw [HSN.out]; exact HO6.out), HYA, HB⟩
        case measure => simp [RowKit.intOf] <;> omega
    · obtain rfl : i = n := by omega
      have hall : os.take i = os := List.take_of_length_le (by rw [HL.out]; exact Nat.le_refl _)
      have hO := HO.out
      have hA := HA.out
      rw [hall] at hA
      have HEK := Lib.hid (HOK.out hA)
      clear hA HA HOK
      rw [hall, ← HF.out] at hO
      have hEr := encA_range os
      have hEl := encA_len os
      rw [HL.out] at hEl
      have hsr := sumN_range (encA os) hEr
      have HE := Lib.hid (show encB os = form (encS os).length ++ encS os from rfl)
      have HE2 := Lib.hid (show encS os = encA os ++ fourL (sumN (encA os)) from rfl)
      generalize hEB : encB os = EB at *
      have HEB := Lib.hid hEB
      clear hEB
      generalize encS os = ES at *
      generalize encA os = E at *
      have hESl : ES.length ≤ 3000 := by rw [HE2.out, List.length_append, show (fourL (sumN E)).length = 4 from rfl]; omega
      obtain ⟨A7, c7, rfl, hr7⟩ := own_reads hO
      have hcap : E.length ≤ c7 := own_cap hO
      have hof := fun (W : World) (hr : ReadsInt W .u8 A7 E.length E) => (rthen_calls A7 E.length c7 E W hr hcap hEr (by omega)).mono (R' := fun e w' => e = .returned (.int .u32 (sumN E)) ∧ Below W.heap.size W w') fun _ _ ⟨he, k, hk⟩ => ⟨he, hk ▸ pw_below_drewN (Below.refl _ _) k⟩
      generalize hS : sumN E = S at *
      have HO7 := Lib.hid hO
      have HR7 := Lib.hid hr7
      have HOF := Lib.hid hof
      have HS4 := Lib.hid hsr
      have HER := Lib.hid hEr
      have h4 : (fourL S).length = 4 := rfl
      have hfe := form_length ES.length
      have HS2 := Lib.hid hS
      clear HO hO hr7 hof hsr hEr hall hS hcap
      generalize hFO : fourL S = F4 at *
      have HFO := Lib.hid hFO
      have H4 := Lib.hid h4
      clear hFO h4
      go_wp2_with (first
        | (go_at_call 31; go_loud ((refine (HOF.out _ HR7.out).mono ?_); rintro e w8 ⟨rfl, hb⟩; have HO8 := Lib.hid (HO7.out.below hb); have HR8 := Lib.hid (HR7.out.below hb); have HBn := Lib.hid (below_step (by repeat (first | (with_reducible exact HB.out) | apply below_alloc | apply pw_below_drewN | apply below_drew1 | exact HB.out)) hb); clear hb HB; have HB := HBn; clear HBn))
        | (go_at_call 30; go_loud ((refine (rfour_calls S _ HS4.out.1).mono ?_); rintro e w9 ⟨v9, rfl, ho, hb⟩; rw [HFO.out] at ho; obtain ⟨A9, c9, rfl, hr9⟩ := own_reads ho; rw [H4.out] at hr9 ⊢; have HR9 := Lib.hid hr9; have HO9 := Lib.hid (HO8.out.below hb); clear ho hr9; have HBn := Lib.hid (below_step (by repeat (first | (with_reducible exact HB.out) | apply below_alloc | apply pw_below_drewN | apply below_drew1 | exact HB.out)) hb); clear hb HB; have HB := HBn; clear HBn))
        | (at_builtin; (refine print_append_row (w0 := w) w.heap.size rfl (.tmp 35) (.tmp 38) 25 5 .u8 1 rfl Tryd.underlying25 pkInfo5 (by decide) _ E F4 A9 4 c9 rfl rfl ?cO ?cR ?cB ?cS ?cL ?_; (case cO => exact HO9.out); (case cR => exact HR9.out); (case cB => exact HB.out); (case cS => exact HB.out.size); (case cL => omega); intro v10 w10 ho hb hg hat; rw [← HE2.out] at ho; obtain ⟨A10, c10, rfl, hr10⟩ := own_reads ho; have HR10 := Lib.hid hr10; have HBn := Lib.hid hb; clear HB ho hb hg hat hr10; have HB := HBn; clear HBn))
        | (go_at_call 27; go_loud ((refine (rwrite_calls _ _).mono ?_); rintro e w11 ⟨v11, rfl, ho, hb⟩; have HO11 := Lib.hid (OwnB.le ho HB.out.size); have HR11 := Lib.hid (HR10.out.below hb); clear ho; have HBn := Lib.hid (below_step (by repeat (first | (with_reducible exact HB.out) | apply below_alloc | apply pw_below_drewN | apply below_drew1 | exact HB.out)) hb); clear hb HB; have HB := HBn; clear HBn))
        | (at_builtin; (refine print_append_row (w0 := w) w.heap.size rfl (.tmp 42) (.tmp 43) 25 5 .u8 1 rfl Tryd.underlying25 pkInfo5 (by decide) _ (form ES.length) ES A10 ES.length c10 rfl rfl ?cO ?cR ?cB ?cS ?cL ?_; (case cO => exact HO11.out); (case cR => exact HR11.out); (case cB => exact HB.out); (case cS => exact HB.out.size); (case cL => omega); intro v12 w12 ho hb hg hat; rw [← HE.out] at ho; have HO12 := Lib.hid ho; have HBn := Lib.hid hb; clear HB ho hb hg hat; have HB := HBn; clear HBn))
        | (fail "no arm"))
      go_ret2
      refine ⟨v12, ?_, ?_, HB.out⟩
      · rw [encE_ok HEK.out]; rfl
      · rw [encL_ok HEK.out, HEB.out]; exact HO12.out
end Go.Proofs.YtfnoegijkdhckaaDoor
/- The chapter's example (batches): what awake answers. -/
namespace Go.Proofs.YtfnoegijkdhckaaDoor
open Go.RowKit Go.Proofs.YtfnoegijkdhckaaDoorW.PrintWords

theorem OpsAt.nil (w : World) : OpsAt w none 0 [] := ⟨rfl, by omega, fun h => absurd h (by omega)⟩
theorem OpsAt.one {w : World} {b : Nat} {p : OpR} (h : OpIn b 0 p w) : OpsAt w (some ⟨b, 0, none⟩) 1 [p] :=
  ⟨rfl, by omega, fun _ => ⟨b, 0, rfl, fun i hi => by
    obtain rfl : i = 0 := by simp only [List.length_singleton] at hi; omega
    exact h⟩⟩

theorem opIn_ex {g : Nat} {w : World} (h0 : w.cell? ⟨g, 0, none⟩ = some (.int .i64 5)) (h1 : w.cell? ⟨g, 1, none⟩ = some (.int .i64 7)) (h2 : w.cell? ⟨g, 2, none⟩ = some (.int .i64 1287)) (h3 : w.cell? ⟨g, 3, none⟩ = some (.int .i64 0)) (h4 : w.cell? ⟨g, 4, none⟩ = some (.string ⟨#[97]⟩)) : OpIn g 0 exO w := ⟨h0, h1, h2, h3, h4⟩
theorem e0_cells {w : World} {ad : Addr} {E : List Int} (h : ReadsInt w .u8 (some ad) 7 E) (k : E.getD 0 0 = 6 ∧ E.getD 1 0 = 1 ∧ E.getD 2 0 = 0) : w.cell? ad = some (.int .u8 6) ∧ w.cell? ⟨ad.block, ad.off + 1, none⟩ = some (.int .u8 1) ∧ w.cell? ⟨ad.block, ad.off + 2, none⟩ = some (.int .u8 0) := by
  obtain ⟨ad', e, hc⟩ := h.2.2 (by omega)
  cases e
  have h0 := hc 0 (by omega)
  have h1 := hc 1 (by omega)
  have h2 := hc 2 (by omega)
  rw [k.1] at h0
  rw [k.2.1] at h1
  rw [k.2.2] at h2
  exact ⟨by simpa [go_sem] using h0, h1, h2⟩
theorem same_ex (A : Option Addr) (c g : Nat) (w : World) (ha : OpsAt w A 1 [exO]) (hb : OpIn g 0 exO w) : Calls Tryd.prog 18 #[.slice A 1 c, .slice (some ⟨g, 0, none⟩) 1 1] w fun e w' => e = .returned (.bool true) ∧ ∃ k, w' = w.drewN k :=
  (sameO_calls A 1 c [exO] (some ⟨g, 0, none⟩) 1 1 [exO] w ha (OpsAt.one hb)).mono fun _ _ ⟨he, h⟩ => ⟨he.trans (by rw [show sameO [exO] [exO] = true by simp [sameO]]), h⟩
theorem e0_facts : (encB []).length = 7 ∧ (encB []).getD 0 0 = 6 ∧ (encB []).getD 1 0 = 1 ∧ (encB []).getD 2 0 = 0 := by
  rw [ex0_enc]
  generalize sumN [1, 0] = S
  exact ⟨rfl, rfl, rfl, rfl⟩
theorem e0_calls (w : World) (h : Tabs w) : Calls Tryd.prog 11 #[.slice none 0 0] w fun e w' => ∃ v, e = .returned (.tuple #[v, .int .i64 0]) ∧ OwnB w' w.heap.size v (encB []) ∧ Below w.heap.size w w' :=
  encode_calls none 0 0 [] w (OpsAt.nil w) (fun o h => by cases h) h ex0_ok
theorem exO_small : exO.name.size ≤ 9223372036854775807 := by show (1 : Nat) ≤ 9223372036854775807; omega
theorem e1_calls (g : Nat) (w : World) (k : OpIn g 0 exO w) (h : Tabs w) : Calls Tryd.prog 11 #[.slice (some ⟨g, 0, none⟩) 1 1] w fun e w' => ∃ v, e = .returned (.tuple #[v, .int .i64 0]) ∧ OwnB w' w.heap.size v (encB [exO]) ∧ Below w.heap.size w w' :=
  encode_calls (some ⟨g, 0, none⟩) 1 1 [exO] w (OpsAt.one k) (fun o h => by rw [List.mem_singleton.1 h]; exact exO_small) h exO_ok
theorem d1_calls (A : Option Addr) (c : Nat) (w : World) (hr : ReadsInt w .u8 A (encB [exO]).length (encB [exO])) (hc : (encB [exO]).length ≤ c) (h : Tabs w) : Calls Tryd.prog 14 #[.slice A (encB [exO]).length c] w fun e w' => ∃ v, e = .returned (.tuple #[v, .int .i64 0]) ∧ OwnO w' w.heap.size v [exO] ∧ Below w.heap.size w w' :=
  decode_enc A (encB [exO]).length c [exO] w exO_ok hr hc h

set_option maxHeartbeats 1000000 in
theorem awake_calls (w : World) (hT : Tabs w) :
    Calls Tryd.prog 9 #[] w fun e w' => e = .returned (.bool true) ∧ Below w.heap.size w w' := by
  have HT := Lib.hid hT
  have HB := Lib.hid (Below.refl w.heap.size w)
  obtain ⟨E0, he0, hf0⟩ : ∃ E, (∀ w, Tabs w → Calls Tryd.prog 11 #[.slice none 0 0] w fun e w' => ∃ v, e = .returned (.tuple #[v, .int .i64 0]) ∧ OwnB w' w.heap.size v E ∧ Below w.heap.size w w') ∧ E.length = 7 ∧ E.getD 0 0 = 6 ∧ E.getD 1 0 = 1 ∧ E.getD 2 0 = 0 := ⟨_, e0_calls, e0_facts⟩
  obtain ⟨E1, he1, hd1⟩ : ∃ E, (∀ g w, OpIn g 0 exO w → Tabs w → Calls Tryd.prog 11 #[.slice (some ⟨g, 0, none⟩) 1 1] w fun e w' => ∃ v, e = .returned (.tuple #[v, .int .i64 0]) ∧ OwnB w' w.heap.size v E ∧ Below w.heap.size w w') ∧ ∀ A c w, ReadsInt w .u8 A E.length E → E.length ≤ c → Tabs w → Calls Tryd.prog 14 #[.slice A E.length c] w fun e w' => ∃ v, e = .returned (.tuple #[v, .int .i64 0]) ∧ OwnO w' w.heap.size v [exO] ∧ Below w.heap.size w w' := ⟨_, e1_calls, d1_calls⟩
  have HE0 := Lib.hid he0
  have HE1 := Lib.hid he1
  have HD1 := Lib.hid hd1
  have HF0 := Lib.hid hf0
  clear hT he0 he1 hd1 hf0
  go_enter Tryd.func9, Tryd.ntmps9
  go_wp2_with (first
    | (go_at_call 11; ((with_reducible refine Calls.mono (HE0.out _ HT.out) ?_); rintro e w1 ⟨v1, rfl, ho, hb⟩; obtain ⟨A1, c1, rfl, hr1⟩ := own_reads ho; rw [HF0.out.1] at hr1 ⊢; obtain ⟨ad, rfl, _⟩ := hr1.2.2 (by omega); have HR1 := Lib.hid hr1; clear ho hr1; have HBn := Lib.hid (below_step (by repeat (first | (with_reducible exact HB.out) | apply below_alloc | apply pw_below_drewN | apply below_drew1 | exact HB.out)) hb); clear hb HB; have HB := HBn; clear HBn))
    | (go_at_call 11; go_loud ((with_reducible refine Calls.mono (HE1.out (w1.heap.size + 1) _ (opIn_ex (by go_cell) (by go_cell) (by go_cell) (by go_cell) (by go_cell)) (HT.out.below (by repeat (first | (with_reducible exact HB.out) | apply below_alloc | apply pw_below_drewN | apply below_drew1 | exact HB.out)))) ?_); rintro e w2 ⟨v2, rfl, ho, hb⟩; obtain ⟨A2, c2, rfl, hr2⟩ := own_reads ho; have HC2 := Lib.hid (own_cap ho); have HR2 := Lib.hid hr2; have HR12 := Lib.hid ((HR1.out.below (below_alloc (below_alloc (Below.refl w1.heap.size w1) _) _)).below hb); have K2 := Lib.hid (show OpIn w1.heap.size 0 exO w2 from OpIn.below (opIn_ex (by go_cell) (by go_cell) (by go_cell) (by go_cell) (by go_cell)) hb); clear ho hr2; have HBn := Lib.hid (below_step (by repeat (first | (with_reducible exact HB.out) | apply below_alloc | apply pw_below_drewN | apply below_drew1 | exact HB.out)) hb); clear hb HB; have HB := HBn; clear HBn))
    | (go_at_call 14; go_loud ((with_reducible refine Calls.mono (HD1.out _ _ _ HR2.out HC2.out (HT.out.below (by repeat (first | (with_reducible exact HB.out) | apply below_alloc | apply pw_below_drewN | apply below_drew1 | exact HB.out)))) ?_); rintro e w3 ⟨v3, rfl, ho, hb⟩; obtain ⟨A3, c3, rfl, _, hr3⟩ := OwnO.ops ho; have HR3 := Lib.hid hr3; have HR13 := Lib.hid (HR12.out.below hb); have K3 := K2.out.below hb; obtain ⟨a0, a1, a2⟩ := e0_cells HR13.out HF0.out.2; have d0 : w3.cell? ⟨w1.heap.size, 0, none⟩ = some (.int .i64 5) := K3.1; have d1 : w3.cell? ⟨w1.heap.size, 1, none⟩ = some (.int .i64 7) := K3.2.1; have d2 : w3.cell? ⟨w1.heap.size, 2, none⟩ = some (.int .i64 1287) := K3.2.2.1; have d3 : w3.cell? ⟨w1.heap.size, 3, none⟩ = some (.int .i64 0) := K3.2.2.2.1; have d4 : w3.cell? ⟨w1.heap.size, 4, none⟩ = some (.string ⟨#[97]⟩) := K3.2.2.2.2; clear K3 ho hr3; have HBn := Lib.hid (below_step (by repeat (first | (with_reducible exact HB.out) | apply below_alloc | apply pw_below_drewN | apply below_drew1 | exact HB.out)) hb); clear hb HB; have HB := HBn; clear HBn))
    | (go_at_call 18; go_loud ((with_reducible refine Calls.mono (same_ex _ _ _ _ (HR3.out.below (by repeat (first | exact Below.refl _ _ | apply below_alloc | apply pw_below_drewN | apply below_drew1))) (opIn_ex (by go_cell) (by go_cell) (by go_cell) (by go_cell) (by go_cell))) ?_); rintro e w4 ⟨rfl, n4, rfl⟩))
    | (fail "no arm"))
  go_ret
  exact ⟨rfl, (by repeat (first | (with_reducible exact HB.out) | apply below_alloc | apply pw_below_drewN | apply below_drew1 | exact HB.out))⟩
end Go.Proofs.YtfnoegijkdhckaaDoor
/- Package wire where it panics: wrong, and inside. -/
namespace Go.Proofs.YtfnoegijkdhckaaDoor
open Go.RowKit Go.Proofs.YtfnoegijkdhckaaDoorW.PrintWords

theorem wrongT_calls (w : World) : Calls Tryd.prog 33 #[.bool true] w fun e w' => e = .panicked [{ v := .iface 26 (.int .i64 3), recovered := false }] ∧ w = w' := by
  go_enter Tryd.func33, Tryd.ntmps33
  go_wp2
  exact ⟨rfl, rfl, rfl⟩

/-- What goes wrong inside a batch. -/
theorem insR_none {xs : List Int} (hx : ∀ x ∈ xs, 0 ≤ x ∧ x < 256) (h : insR xs = none) : (rdNum xs 0 1).1 ≠ 1 ∨ (∃ ys zs m e, rdNum xs 0 1 = (1, ys, 0) ∧ rdNum ys 0 64 = (m, zs, e) ∧ e ≠ 0) ∨ ∃ (ys zs : List Int) (m : Nat), rdNum xs 0 1 = (1, ys, 0) ∧ rdNum ys 0 64 = ((m : Int), zs, 0) ∧ m ≤ 64 ∧ runO m zs 0 = none := by
  by_cases h1 : (rdNum xs 0 1).1 = 1
  · have hr := (rdNum_len xs 0 1 hx).2
    rcases rdNum_cases xs 1 hx with ⟨e', k, _⟩ | ⟨k, n, k1, _⟩
    · rw [k] at h1; cases h1
    · rw [k1] at h1 hr
      simp only at h1 hr
      subst h1
      rcases h2 : rdNum (xs.drop k) 0 64 with ⟨m, zs, e⟩
      by_cases he : e = 0
      · subst he
        have r2 := rdNum_range (xs.drop k) 0 64 (fun x h => (hr x h).1) (by decide)
        rw [h2] at r2
        obtain ⟨j, rfl⟩ := Int.eq_ofNat_of_zero_le r2.1
        refine .inr (.inr ⟨_, zs, j, k1, h2, by have := r2.2.2.1 rfl; omega, ?_⟩)
        unfold insR at h
        rw [k1] at h
        simp only [if_true] at h
        rw [h2] at h
        simpa using h
      · exact .inr (.inl ⟨_, zs, m, e, k1, h2, he⟩)
  · exact .inl h1
theorem runO_fails {j : Nat} {ys : List Int} (h : runO (j + 1) ys 0 = none) : opRight (tkOp ys 0) = false ∨ (opRight (tkOp ys 0) = true ∧ runO j (tk5 ys 0).2.1 0 = none) := by
  rw [runO] at h
  by_cases hr : opRight (tkOp ys 0) = true
  · rw [if_pos hr, tk5_zero hr] at h
    exact .inr ⟨hr, by simpa using h⟩
  · exact .inl (by simpa using hr)

set_option maxRecDepth 100000 in
set_option maxHeartbeats 4000000 in
theorem inside_dies (A : Option Addr) (n c : Nat) (xs : List Int) (w : World) (hr : ReadsInt w .u8 A n xs) (hn : n ≤ 1000000) (hx : ∀ x ∈ xs, 0 ≤ x ∧ x < 256) (hT : Tabs w) (hi : insR xs = none) :
    Calls Tryd.prog 37 #[.slice A n c] w fun e w' => e = .panicked [{ v := .iface 26 (.int .i64 3), recovered := false }] ∧ Below w.heap.size w w' := by
  have HN := Lib.hid (new_calls w A n c xs hr (by omega) hx)
  have HB := Lib.hid (Below.refl w.heap.size w)
  rcases insR_none hx hi with h1 | ⟨ys, zs, m, e, hq1, hq2, he⟩ | ⟨ys, zs, m, hq1, hq2, hm, hrun⟩
  · have hn1 := fun (W : World) (a d : Nat) (h : RD 79 W a d xs 0) => num_calls W a d xs 0 1 h
    generalize (rdNum xs 0 1).1 = v at *
    have q1 : (v != 1) = true := by rw [bne_iff_ne]; exact h1
    have H1 := Lib.hid hn1
    clear hr hx hi hn1 hT h1
    go_enter Tryd.func37, Tryd.ntmps37
    go_wp2_with (first
      | (go_at_call 34; (refine HN.out.mono ?_); rintro e w1 ⟨a, d, rfl, hd, hb, ha, hd0, hd1⟩; have HD := Lib.hid hd; have HA := ha; clear hd ha; have HBn := Lib.hid (below_step (by repeat (first | (with_reducible exact HB.out) | apply below_alloc | apply pw_below_drewN | apply below_drew1 | exact HB.out)) hb); clear hb HB; have HB := HBn; clear HBn)
      | (go_at_call 35; (with_reducible refine Calls.mono (H1.out _ a d HD.out) ?_); rintro e w2 ⟨rfl, _, ho⟩; have HBn := Lib.hid (Below.trans (by repeat (first | (with_reducible exact HB.out) | apply below_alloc | apply pw_below_drewN | apply below_drew1 | exact HB.out)) (ho.below HA)); clear ho HB; have HB := HBn; clear HBn)
      | (go_at_call 33; (with_reducible refine Calls.mono (wrongT_calls _) ?_); rintro e w5 ⟨rfl, rfl⟩)
      | (fail "no arm"))
    exact ⟨rfl, rfl, HB.out⟩
  · have hn1 := fun (W : World) (a d : Nat) (h : RD 79 W a d xs 0) => num_calls_eq W a d xs 0 1 h hq1
    have hn2 := fun (W : World) (a d : Nat) (h : RD 79 W a d ys 0) => num_calls_eq W a d ys 0 64 h hq2
    have q1 : (e != 0) = true := by rw [bne_iff_ne]; exact he
    have H1 := Lib.hid hn1
    have H2 := Lib.hid hn2
    clear hr hx hi hn1 hn2 hT he hq1 hq2
    go_enter Tryd.func37, Tryd.ntmps37
    go_wp2_with (first
      | (go_at_call 34; (refine HN.out.mono ?_); rintro e w1 ⟨a, d, rfl, hd, hb, ha, hd0, hd1⟩; have HD := Lib.hid hd; have HA := ha; clear hd ha; have HBn := Lib.hid (below_step (by repeat (first | (with_reducible exact HB.out) | apply below_alloc | apply pw_below_drewN | apply below_drew1 | exact HB.out)) hb); clear hb HB; have HB := HBn; clear HBn)
      | (go_at_call 35; (with_reducible refine Calls.mono (H1.out _ a d HD.out) ?_); rintro e w2 ⟨rfl, hd, ho⟩; have HD2 := Lib.hid hd; clear hd; have HBn := Lib.hid (Below.trans (by repeat (first | (with_reducible exact HB.out) | apply below_alloc | apply pw_below_drewN | apply below_drew1 | exact HB.out)) (ho.below HA)); clear ho HB; have HB := HBn; clear HBn)
      | (go_at_call 35; (with_reducible refine Calls.mono (H2.out _ a d HD2.out) ?_); rintro e w3 ⟨rfl, hd, ho⟩; have HD3 := Lib.hid hd; clear hd; have HBn := Lib.hid (Below.trans (by repeat (first | (with_reducible exact HB.out) | apply below_alloc | apply pw_below_drewN | apply below_drew1 | exact HB.out)) (ho.below HA)); clear ho HB; have HB := HBn; clear HBn)
      | (go_at_call 40; (refine (err_calls _ a d _ _ HD3.out).mono ?_); rintro e w4 ⟨rfl, rfl⟩)
      | (go_at_call 33; (with_reducible refine Calls.mono (wrongF_calls _) ?_); rintro e w5 ⟨rfl, rfl⟩)
      | (go_at_call 33; (with_reducible refine Calls.mono (wrongT_calls _) ?_); rintro e w6 ⟨rfl, rfl⟩)
      | (fail "no arm"))
    exact ⟨rfl, rfl, HB.out⟩
  · have hn1 := fun (W : World) (a d : Nat) (h : RD 79 W a d xs 0) => num_calls_eq W a d xs 0 1 h hq1
    have hn2 := fun (W : World) (a d : Nat) (h : RD 79 W a d ys 0) => num_calls_eq W a d ys 0 64 h hq2
    have H1 := Lib.hid hn1
    have H2 := Lib.hid hn2
    have HT := Lib.hid hT
    have HRUN := Lib.hid hrun
    clear hr hx hi hq1 hq2 hn1 hn2 hT hrun
    go_enter Tryd.func37, Tryd.ntmps37
    go_wp2_with (first
      | (go_at_call 34; (refine HN.out.mono ?_); rintro e w1 ⟨a, d, rfl, hd, hb, ha, hd0, hd1⟩; have HD := Lib.hid hd; have hal := hd.lt; have HA := ha; have HA1 := hb.size; clear hd ha; have HBn := Lib.hid (below_step (by repeat (first | (with_reducible exact HB.out) | apply below_alloc | apply pw_below_drewN | apply below_drew1 | exact HB.out)) hb); clear hb HB; have HB := HBn; clear HBn)
      | (go_at_call 35; (with_reducible refine Calls.mono (H1.out _ a d HD.out) ?_); rintro e w2 ⟨rfl, hd, ho⟩; have HD2 := Lib.hid hd; have hs2 := Lib.hid ho.size; clear hd; have HBn := Lib.hid (Below.trans (by repeat (first | (with_reducible exact HB.out) | apply below_alloc | apply pw_below_drewN | apply below_drew1 | exact HB.out)) (ho.below HA)); clear ho HB; have HB := HBn; clear HBn)
      | (go_at_call 35; (with_reducible refine Calls.mono (H2.out _ a d HD2.out) ?_); rintro e w3 ⟨rfl, hd, ho⟩; have HD3 := Lib.hid hd; have hs3 := Lib.hid ho.size; clear hd; have HBn := Lib.hid (Below.trans (by repeat (first | (with_reducible exact HB.out) | apply below_alloc | apply pw_below_drewN | apply below_drew1 | exact HB.out)) (ho.below HA)); clear ho HB; have HB := HBn; clear HBn)
      | (go_at_call 40; (refine (err_calls _ a d _ _ HD3.out).mono ?_); rintro e w4 ⟨rfl, rfl⟩)
      | (go_at_call 33; (with_reducible refine Calls.mono (wrongF_calls _) ?_); rintro e w5 ⟨rfl, rfl⟩)
      | (fail "no arm"))
    have hsz : w4.heap.size = w1.heap.size := by rw [hs3.out, hs2.out]
    have HSZ := Lib.hid hsz
    clear hsz
    go_loopw [4, 21] (fun vo vi W => ∃ (k : Nat) (us : List Int) (os : List OpR), vi = .int .i64 k ∧ k ≤ m ∧ Hid (os.length = k) ∧ Hid (RD 79 W a d us 0) ∧ Hid (runO (m - k) us 0 = none) ∧ Hid (OwnO W w1.heap.size vo os) ∧ Hid (w1.heap.size ≤ W.heap.size) ∧ Hid (Below w.heap.size w W)) (fun _ vi _ => (m - (RowKit.intOf vi).toNat))
    case atStart => exact ⟨0, zs, [], rfl, by omega, Lib.hid rfl, HD3, HRUN, Lib.hid (OwnRow.none_ _ _ _ _ _), Lib.hid (Nat.le_of_eq HSZ.out.symm), HB⟩
    case round =>
      clear HB HD3 HRUN
      obtain ⟨k, us, os, rfl, hk, HLK, HD, HRU, HO, HLE, HB⟩ := hrel
      by_cases hlt : k < m
      · obtain ⟨j, hj⟩ : ∃ j, m - k = j + 1 := ⟨m - k - 1, by omega⟩
        have hru := HRU.out
        rw [hj] at hru
        have ht := fun (v : World) (a d : Nat) h hd hw ha => take_calls w v a d us 0 h (by decide) hd HT.out hw ha
        rcases runO_fails hru with hright | ⟨hright, hrest⟩
        · rw [hright, if_neg (by decide)] at ht
          simp only [opV, zeroOp] at ht
          have HTK := Lib.hid ht
          clear hru ht hright hj HRU
          go_wp2_with (first
            | (go_at_call 55; go_loud ((refine (HTK.out _ a d HD.out (Nat.lt_of_lt_of_le hd1 HLE.out) HB.out HA).mono ?_); rintro e w6 ⟨rfl, hd, hw⟩; have HBn := Lib.hid (hw.below HB.out HA HB.out.size); clear hd hw HB; have HB := HBn; clear HBn))
            | (go_at_call 33; (with_reducible refine Calls.mono (wrongT_calls _) ?_); rintro e w5 ⟨rfl, rfl⟩)
            | (fail "no arm"))
          exact ⟨rfl, rfl, (by repeat (first | (with_reducible exact HB.out) | apply below_alloc | apply pw_below_drewN | apply below_drew1 | exact HB.out))⟩
        · rw [if_pos hright, hright, tk5_zero hright] at ht
          have HRU2 := Lib.hid (show runO (m - (k + 1)) (tk5 us 0).2.1 0 = none by rw [show m - (k + 1) = j by omega]; exact hrest)
          have hplen : os.length ≤ 64 := by rw [HLK.out]; omega
          generalize tkOp us 0 = q at *
          generalize (tk5 us 0).2.1 = vs at *
          simp only [opV] at ht
          have HTK := Lib.hid ht
          have HL2 := Lib.hid (show (os ++ [q]).length = k + 1 by rw [List.length_append, HLK.out]; rfl)
          clear hru hright hrest ht hj HRU
          go_wp2_with (first
            | (go_at_call 55; go_loud ((refine (HTK.out _ a d HD.out (Nat.lt_of_lt_of_le hd1 HLE.out) HB.out HA).mono ?_); rintro e w6 ⟨rfl, hd, hw⟩; have HO6 := Lib.hid (OwnO.wide HO.out HD.out hw); have HD6 := Lib.hid hd; have HLE6 := Lib.hid (show w1.heap.size ≤ w6.heap.size from Nat.le_trans HLE.out hw.size); have HBn := Lib.hid (hw.below HB.out HA HB.out.size); clear hd hw HB; have HB := HBn; clear HBn))
            | (go_at_call 33; go_loud ((refine (wrongF_calls _).mono ?_); rintro e w7 ⟨rfl, rfl⟩))
            | (at_builtin; go_loud ((refine OwnRow.append (R := fun p cs => cs = opCells p) (w0 := w6.alloc (.cells #[.int .i64 q.n, .int .i64 q.r, .int .i64 q.node, .int .i64 q.par, .string q.name] 48)) (W := w6.alloc (.cells #[.int .i64 q.n, .int .i64 q.r, .int .i64 q.node, .int .i64 q.par, .string q.name] 48)) w1.heap.size rfl (.tmp 31) (.tmp 33) 22 48 _ 5 48 rfl Tryd.underlying22 opInfo rfl (by decide) (by decide) _ os q [.int .i64 q.n, .int .i64 q.r, .int .i64 q.node, .int .i64 q.par, .string q.name] (by rfl) (by simp [Act.eval, World.size_alloc]) rfl rfl (by simp [Value.oneCell']) (OwnRow.below HO6.out ((Below.refl _ _).alloc (Nat.le_refl _) _)) (Below.refl _ _) ?hbase ?hl ?_; (case hbase => rw [World.size_alloc]; exact Nat.le_succ_of_le HLE6.out); (case hl => omega); intro v8 w8 ho hb hg hat; have HO8 := Lib.hid ho; have HD8 := Lib.hid ((HD6.out.below ((Below.refl _ _).alloc (Nat.le_refl _) _)).keepB hb hal hd1); have HLE8 := Lib.hid (show w1.heap.size ≤ w8.heap.size from Nat.le_trans (by rw [World.size_alloc]; exact Nat.le_succ_of_le HLE6.out) hb.size); have HBn := Lib.hid (below_wide (HB.out.alloc HB.out.size _) hb (by omega)); clear HB ho hb hg hat; have HB := HBn; clear HBn)))
            | (fail "no arm"))
          go_roundw
          case rel => exact ⟨k + 1, vs, os ++ [q], by go_num, by omega, HL2, HD8, HRU2, HO8, HLE8, HB⟩
          case measure => simp [RowKit.intOf] <;> omega
      · obtain rfl : k = m := by omega
        have hru := HRU.out
        rw [Nat.sub_self, runO] at hru
        have hnil : us ≠ [] := by
          intro h
          rw [if_pos h] at hru; cases hru
        have hlen : 0 < us.length := List.length_pos_iff.2 hnil
        have HLF := Lib.hid (fun (W : World) (h : RD 79 W a d us 0) => left_calls W a d us 0 h)
        have hlen2 : (0 : Int) < (us.length : Int) := by omega
        clear hru hnil HO HRU
        generalize us.length = L at *
        go_wp2_with (first
          | (go_at_call 41; (refine (HLF.out _ HD.out).mono ?_); rintro e w6 ⟨rfl, rfl⟩)
          | (go_at_call 33; (with_reducible refine Calls.mono (wrongT_calls _) ?_); rintro e w7 ⟨rfl, rfl⟩)
          | (fail "no arm"))
        exact ⟨rfl, rfl, HB.out⟩
end Go.Proofs.YtfnoegijkdhckaaDoor
