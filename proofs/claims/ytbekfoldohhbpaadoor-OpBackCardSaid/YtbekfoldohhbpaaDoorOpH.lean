/-
  The bytes of an operation: what package op writes.
-/
import Derived.Test.YtbekfoldohhbpaaDoorOpA
import Derived.Test.YtbekfoldohhbpaaDoorPkF
import Derived.Test.YtbekfoldohhbpaaDoorPkH
namespace Go.Proofs.YtbekfoldohhbpaaDoor
open Go.RowKit Go.Proofs.YtbekfoldohhbpaaDoorW.PrintWords

def putL (o : OpR) : List Int := [o.n, o.r, o.node, o.par]
def pre (o : OpR) (i : Nat) : List Int := ((putL o).take i).flatMap form
/-- An operation's bytes: none where it is none. -/
def opForm (o : OpR) : List Int := if opRight o = true then pre o 4 ++ textForm o.name else []

theorem pre_length (o : OpR) (i : Nat) (hi : i ≤ 4) : (pre o i).length ≤ 5 * i := by
  have h1 := form_length o.n
  have h2 := form_length o.r
  have h3 := form_length o.node
  have h4 := form_length o.par
  rcases (show i = 0 ∨ i = 1 ∨ i = 2 ∨ i = 3 ∨ i = 4 by omega) with rfl | rfl | rfl | rfl | rfl <;> simp [pre, putL] <;> omega
theorem pre_succ (o : OpR) (i : Nat) (hi : i < 4) : pre o (i + 1) = pre o i ++ form ((putL o).getD i 0) := by
  rcases (show i = 0 ∨ i = 1 ∨ i = 2 ∨ i = 3 by omega) with rfl | rfl | rfl | rfl <;> simp [pre, putL]
theorem pre_four (o : OpR) : pre o 4 = form o.n ++ form o.r ++ form o.node ++ form o.par := by simp [pre, putL]
theorem OwnB.le {w : World} {b c : Nat} {v : Value} {xs : List Int} (h : OwnB w c v xs) (hb : b ≤ c) : OwnB w b v xs := by
  obtain ⟨h1, h2⟩ := h
  refine ⟨h1, ?_⟩
  rcases h2 with h | ⟨g, cap, cur, rfl, hg, h⟩
  · exact .inl h
  · exact .inr ⟨g, cap, cur, rfl, Nat.le_trans hb hg, h⟩
theorem below_wide {B C : Nat} {w w1 w2 : World} (h : Below B w w1) (k : Below C w1 w2) (hB : B ≤ C) : Below B w w2 :=
  h.trans ⟨k.os, k.tape, k.output, k.size, fun i hi => k.block i (Nat.lt_of_lt_of_le hi hB)⟩

/-- The cells that the rounds read. -/
def PutHeld (g B : Nat) (o : OpR) (w : World) : Prop :=
  g < B ∧ B < w.heap.size ∧ w.cell? ⟨g, 4, none⟩ = some (.string o.name) ∧ w.cell? ⟨B, 0, none⟩ = some (.int .i64 o.n) ∧ w.cell? ⟨B, 1, none⟩ = some (.int .i64 o.r) ∧ w.cell? ⟨B, 2, none⟩ = some (.int .i64 o.node) ∧ w.cell? ⟨B, 3, none⟩ = some (.int .i64 o.par)
theorem PutHeld.keep {g B : Nat} {o : OpR} {w w1 : World} (k : PutHeld g B o w) (hb : Below (B + 1) w w1) : PutHeld g B o w1 := by
  obtain ⟨h1, h2, c4, a0, a1, a2, a3⟩ := k
  have := hb.size
  exact ⟨h1, by omega, (hb.cell (show g < B + 1 by omega)).trans c4, (hb.cell (show B < B + 1 by omega)).trans a0, (hb.cell (show B < B + 1 by omega)).trans a1, (hb.cell (show B < B + 1 by omega)).trans a2, (hb.cell (show B < B + 1 by omega)).trans a3⟩
theorem PutHeld.below {g B : Nat} {o : OpR} {w w1 : World} (k : PutHeld g B o w) (hb : Below w.heap.size w w1) : PutHeld g B o w1 :=
  k.keep ⟨hb.os, hb.tape, hb.output, hb.size, fun i hi => hb.block i (by have := k.2.1; omega)⟩

theorem PutHeld.at_ {g B : Nat} {o : OpR} {w : World} (k : PutHeld g B o w) (i : Nat) (hi : i < 4) : w.cell? ⟨B, i, none⟩ = some (.int .i64 ((putL o).getD i 0)) := by
  obtain ⟨h1, h2, c4, a0, a1, a2, a3⟩ := k
  rcases (show i = 0 ∨ i = 1 ∨ i = 2 ∨ i = 3 by omega) with rfl | rfl | rfl | rfl
  · exact a0
  · exact a1
  · exact a2
  · exact a3

set_option maxHeartbeats 2000000 in
theorem put_calls (o : OpR) (w : World) (hs : o.name.size ≤ 9223372036854775807) (hT : Tabs w) : Calls Tryd.prog 17 #[opV o] w fun e w' => ∃ v, e = .returned v ∧ OwnB w' w.heap.size v (opForm o) ∧ Below w.heap.size w w' := by
  have HB := Lib.hid (Below.refl w.heap.size w)
  by_cases hR : opRight o = true
  · have hc := fun w (h : Tabs w) => right_calls o w hs h
    rw [hR] at hc
    simp only [opV] at hc ⊢
    have HC := Lib.hid hc
    have HF := Lib.hid (show opForm o = pre o 4 ++ textForm o.name by rw [opForm, if_pos hR])
    have HT := Lib.hid hT
    have HL : Hid (o.name.size ≤ 20) := Lib.hid (by
      have : nameB o.name.data.toList = true := by
        unfold opRight at hR
        simp only [Bool.and_eq_true] at hR
        exact hR.2.2.2
      unfold nameB at this
      simp only [Bool.and_eq_true, decide_eq_true_eq] at this
      have h2 : o.name.data.toList.length = o.name.size := by rw [Array.length_toList]; rfl
      omega)
    clear hc hR hT
    go_enter Tryd.func17, Tryd.ntmps17
    go_wp2_with (go_at_call 12; refine (HC.out _ (HT.out.below (by repeat (first | (with_reducible exact HB.out) | apply below_alloc | apply pw_below_drewN | apply below_drew1 | exact HB.out)))).mono ?_; rintro e w1 ⟨rfl, hb⟩; have c0 : w1.cell? ⟨w.heap.size, 0, none⟩ = some (.int .i64 o.n) := pw_cell_below hb (by go_cell); have c1 : w1.cell? ⟨w.heap.size, 1, none⟩ = some (.int .i64 o.r) := pw_cell_below hb (by go_cell); have c2 : w1.cell? ⟨w.heap.size, 2, none⟩ = some (.int .i64 o.node) := pw_cell_below hb (by go_cell); have c3 : w1.cell? ⟨w.heap.size, 3, none⟩ = some (.int .i64 o.par) := pw_cell_below hb (by go_cell); have c4 : w1.cell? ⟨w.heap.size, 4, none⟩ = some (.string o.name) := pw_cell_below hb (by go_cell); have hlt := World.block_lt_of_cell? w1 _ c4; have HBn := Lib.hid (below_step (by repeat (first | (with_reducible exact HB.out) | apply below_alloc | apply pw_below_drewN | apply below_drew1 | exact HB.out)) hb); clear hb HB; have HB := HBn; clear HBn)
    go_loopw [3, 21] (fun v vi W => ∃ i : Nat, vi = .int .i64 i ∧ i ≤ 4 ∧ Hid (OwnB W (w1.heap.size + 1) v (pre o i)) ∧ Hid (PutHeld w.heap.size w1.heap.size o W) ∧ Hid (Below w.heap.size w W)) (fun _ vi _ => (4 - RowKit.intOf vi).toNat)
    case atStart =>
      refine ⟨0, rfl, by omega, Lib.hid (own_nil _ _ _ _), Lib.hid ?_, Lib.hid (by repeat (first | (with_reducible exact HB.out) | apply below_alloc | apply pw_below_drewN | apply below_drew1 | exact HB.out))⟩
      refine ⟨hlt, by simp, by go_cell, by go_cell, by go_cell, by go_cell, by go_cell⟩
    case round =>
      clear c0 c1 c2 c3 c4 HB
      obtain ⟨i, rfl, hi, HO, HK, HB⟩ := hrel
      have hw1 : w.heap.size + 1 ≤ w1.heap.size := hlt
      clear hlt
      by_cases hgo : i < 4
      · have hc := HK.out.at_ i hgo
        have hl := pre_length o i hi
        have HS := Lib.hid (pre_succ o i hgo)
        generalize (putL o).getD i 0 = x at *
        have hf := form_length x
        go_wp2_with (first
          | (go_at_call 33; refine (pwrite_calls _ _).mono ?_; rintro e w2 ⟨v2, rfl, ho, hb⟩; obtain ⟨A2, c2, rfl, hr⟩ := own_reads ho; have HK2 := Lib.hid (HK.out.below hb); have HO2 := Lib.hid (show OwnB w2 _ _ _ from pw_own_below HO.out hb); have HR2 := Lib.hid hr; clear ho hr; have HBn := Lib.hid (below_step (by repeat (first | (with_reducible exact HB.out) | apply below_alloc | apply pw_below_drewN | apply below_drew1 | exact HB.out)) hb); clear hb HB; have HB := HBn; clear HBn)
          | (at_builtin; (refine print_append_row (w0 := w2) (w1.heap.size + 1) rfl (.tmp 25) (.tmp 27) 33 5 .u8 1 rfl Tryd.underlying33 pkInfo5 (by decide) _ (pre o i) (form x) A2 (form x).length c2 rfl rfl ?cO ?cR ?cB ?cS ?cL ?_; (case cO => exact HO2.out); (case cR => exact HR2.out); (case cB => exact Below.refl _ _); (case cS => exact HK2.out.2.1); (case cL => omega); intro v1 w3 ho hb hg hat; have HO3 := Lib.hid ho; have HK3 := Lib.hid (HK2.out.keep hb); have HBn := Lib.hid (below_wide HB.out hb (by omega)); clear ho hb hg hat HB; have HB := HBn; clear HBn)))
        go_roundw
        case rel => exact ⟨i + 1, by go_num, by omega, by rw [HS.out]; exact HO3, HK3, HB⟩
        case measure => simp [intOf] <;> omega
      · obtain rfl : i = 4 := by omega
        have hc := HK.out.2.2.1
        have hl := pre_length o 4 hi
        have hl2 : (textForm o.name).length ≤ 25 := by
          have h1 := HL.out
          have h2 := textForm_length o.name (by omega)
          have h3 := form_length o.name.size
          omega
        go_wp2_with (first
          | (go_at_call 34; refine (ptext_calls _ _).mono ?_; rintro e w2 ⟨v2, rfl, ho, hb⟩; obtain ⟨A2, c2, rfl, hr⟩ := own_reads ho; have HK2 := Lib.hid (HK.out.below hb); have HO2 := Lib.hid (show OwnB w2 _ _ _ from pw_own_below HO.out hb); have HR2 := Lib.hid hr; clear ho hr; have HBn := Lib.hid (below_step (by repeat (first | (with_reducible exact HB.out) | apply below_alloc | apply pw_below_drewN | apply below_drew1 | exact HB.out)) hb); clear hb HB; have HB := HBn; clear HBn)
          | (at_builtin; (refine print_append_row (w0 := w2) (w1.heap.size + 1) rfl (.tmp 30) (.tmp 33) 33 5 .u8 1 rfl Tryd.underlying33 pkInfo5 (by decide) _ (pre o 4) (textForm o.name) A2 (textForm o.name).length c2 rfl rfl ?cO ?cR ?cB ?cS ?cL ?_; (case cO => exact HO2.out); (case cR => exact HR2.out); (case cB => exact Below.refl _ _); (case cS => exact HK2.out.2.1); (case cL => omega); intro v1 w3 ho hb hg hat; have HO3 := Lib.hid ho; have HBn := Lib.hid (below_wide HB.out hb (by omega)); clear ho hb hg hat HB; have HB := HBn; clear HBn)))
        go_ret
        rw [HF.out]
        exact ⟨_, rfl, OwnB.le HO3.out (by omega), HB.out⟩
  · have hc := fun w (h : Tabs w) => right_calls o w hs h
    rw [Bool.not_eq_true] at hR
    rw [hR] at hc
    simp only [opV] at hc ⊢
    have HC := Lib.hid hc
    have HF := Lib.hid (show opForm o = [] by rw [opForm, if_neg (by rw [hR]; decide)])
    have HT := Lib.hid hT
    clear hc hR hT
    go_enter Tryd.func17, Tryd.ntmps17
    go_wp2_with (go_at_call 12; refine (HC.out _ (HT.out.below (by repeat (first | (with_reducible exact HB.out) | apply below_alloc | apply pw_below_drewN | apply below_drew1 | exact HB.out)))).mono ?_; rintro e w1 ⟨rfl, hb⟩; have HBn := Lib.hid (below_step (by repeat (first | (with_reducible exact HB.out) | apply below_alloc | apply pw_below_drewN | apply below_drew1 | exact HB.out)) hb); clear hb HB; have HB := HBn; clear HBn)
    go_ret
    rw [HF.out]
    exact ⟨_, rfl, own_nil _ _ _ _, HB.out⟩
end Go.Proofs.YtbekfoldohhbpaaDoor
