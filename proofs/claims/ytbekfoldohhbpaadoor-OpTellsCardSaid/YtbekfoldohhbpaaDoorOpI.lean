/-
  The bytes of an operation: the reference.
-/
import Derived.Test.YtbekfoldohhbpaaDoorOpH
namespace Go.Proofs.YtbekfoldohhbpaaDoor
open Go.RowKit Go.Proofs.YtbekfoldohhbpaaDoorW.PrintWords

theorem below_stepB {B : Nat} {w W w' : World} (h : Below B w W) (hB : B ≤ w.heap.size) (k : Below W.heap.size W w') : Below B w w' := below_then h (Nat.le_trans hB h.size) k
theorem pre_four (o : OpR) : pre o 4 = form o.n ++ form o.r ++ form o.node ++ form o.par := by simp [pre, putL]

set_option maxHeartbeats 2000000 in
theorem refput_calls (o : OpR) (w : World) (hs : o.name.size ≤ 9223372036854775807) : Calls Tryd.prog 18 #[opV o] w fun e w' => ∃ v, e = .returned v ∧ OwnB w' w.heap.size v (opForm o) ∧ Below w.heap.size w w' := by
  by_cases hR : opRight o = true
  · have hc := fun w => refright_calls o w hs
    rw [hR] at hc
    simp only [opV] at hc ⊢
    have HC := Lib.hid hc
    have HF := Lib.hid (show opForm o = pre o 4 ++ textForm o.name by rw [opForm, if_pos hR])
    have HL : Hid (o.name.size ≤ 20) := Lib.hid (by
      have : nameB o.name.data.toList = true := by
        unfold opRight at hR
        simp only [Bool.and_eq_true] at hR
        exact hR.2.2.2
      unfold nameB at this
      simp only [Bool.and_eq_true, decide_eq_true_eq] at this
      have h2 : o.name.data.toList.length = o.name.size := by rw [Array.length_toList]; rfl
      omega)
    have hf1 := form_length o.n
    have hf2 := form_length o.r
    have hf3 := form_length o.node
    have hf4 := form_length o.par
    have hf5 : (textForm o.name).length ≤ 25 := by
      have h1 := HL.out
      have h2 := textForm_length o.name (by omega)
      have h3 := form_length o.name.size
      omega
    have L1 := Lib.hid (show (form o.n).length + (form o.r).length ≤ 140737488355328 by omega)
    have L2 := Lib.hid (show (form o.n ++ form o.r).length + (form o.node).length ≤ 140737488355328 by rw [List.length_append]; omega)
    have L3 := Lib.hid (show (form o.n ++ form o.r ++ form o.node).length + (form o.par).length ≤ 140737488355328 by rw [List.length_append, List.length_append]; omega)
    have L4 := Lib.hid (show (pre o 4).length + (textForm o.name).length ≤ 140737488355328 by rw [pre_four]; simp only [List.length_append]; omega)
    have HP := Lib.hid (pre_four o)
    clear hc hR hf1 hf2 hf3 hf4 hf5
    have HN := Lib.hid hs
    clear hs
    go_enter Tryd.func18, Tryd.ntmps18
    go_wp2_with (go_at_call 13; refine (HC.out _).mono ?_; rintro e w1 ⟨rfl, hb⟩; have c0 : w1.cell? ⟨w.heap.size, 0, none⟩ = some (.int .i64 o.n) := pw_cell_below hb (by go_cell); have c1 : w1.cell? ⟨w.heap.size, 1, none⟩ = some (.int .i64 o.r) := pw_cell_below hb (by go_cell); have c2 : w1.cell? ⟨w.heap.size, 2, none⟩ = some (.int .i64 o.node) := pw_cell_below hb (by go_cell); have c3 : w1.cell? ⟨w.heap.size, 3, none⟩ = some (.int .i64 o.par) := pw_cell_below hb (by go_cell); have c4 : w1.cell? ⟨w.heap.size, 4, none⟩ = some (.string o.name) := pw_cell_below hb (by go_cell); have hlt := World.block_lt_of_cell? w1 _ c4; have HB0 := Lib.hid (below_step (below_alloc (Below.refl w.heap.size w) _) hb); clear hb)
    have C0 := Lib.hid c0
    have C1 := Lib.hid c1
    have C2 := Lib.hid c2
    have C3 := Lib.hid c3
    have C4 := Lib.hid c4
    have HLT := Lib.hid (show w.heap.size + 1 ≤ w1.heap.size from hlt)
    have HB := Lib.hid (Below.refl (w.heap.size + 1) w1)
    clear c0 c1 c2 c3 c4 hlt
    go_region_held3 (fun w' => w'.cell? ⟨w.heap.size, 0, none⟩ = some (.int .i64 o.n) ∧ w'.cell? ⟨w.heap.size, 1, none⟩ = some (.int .i64 o.r)) (exact ⟨(Below.cell (by repeat (first | (with_reducible exact HB.out) | apply below_alloc | apply pw_below_drewN | apply below_drew1 | exact HB.out)) (Nat.lt_succ_self _)).trans C0.out, (Below.cell (by repeat (first | (with_reducible exact HB.out) | apply below_alloc | apply pw_below_drewN | apply below_drew1 | exact HB.out)) (Nat.lt_succ_self _)).trans C1.out⟩)
      (first
        | (go_at_call 35; (with_reducible refine (rwrite_calls _ o.n).mono ?_); rintro e w2 ⟨v2, rfl, ho, hb⟩; have HO2 := Lib.hid (ho.le (Nat.le_trans HLT.out (Below.size (show Below (w.heap.size + 1) w1 _ from (by repeat (first | (with_reducible exact HB.out) | apply below_alloc | apply pw_below_drewN | apply below_drew1 | exact HB.out)))))); have HBn := Lib.hid (below_stepB (by repeat (first | (with_reducible exact HB.out) | apply below_alloc | apply pw_below_drewN | apply below_drew1 | exact HB.out)) HLT.out hb); clear hb HB ho; have HB := HBn; clear HBn)
        | (go_at_call 35; (with_reducible refine (rwrite_calls _ o.r).mono ?_); rintro e w3 ⟨v3, rfl, ho, hb⟩; obtain ⟨A3, e3, rfl, hr3⟩ := own_reads ho; have HR3 := Lib.hid hr3; have HO3 := Lib.hid (HO2.out.now hb rfl); have HBn := Lib.hid (below_stepB (by repeat (first | (with_reducible exact HB.out) | apply below_alloc | apply pw_below_drewN | apply below_drew1 | exact HB.out)) HLT.out hb); clear hb HB ho hr3; have HB := HBn; clear HBn)
        | ((refine appB_step (w0 := w1) (w.heap.size + 1) (by rfl) (.tmp 12) (.tmp 16) (by rfl) v2 (form o.n) (form o.r) A3 (form o.r).length e3 (by rfl) (by rfl) HO3.out HR3.out HB.out (Nat.le_trans HLT.out (Below.size HB.out)) L1.out ?_); intro v4 w4 ho hb hg hat; have HO4 := Lib.hid ho; clear HB ho hg hat HO2 HO3; have HB := Lib.hid hb; clear hb)
        | (fail "no arm"))
    go_wp2
    go_region_held3 (fun w' => w'.cell? ⟨w.heap.size, 2, none⟩ = some (.int .i64 o.node) ∧ w'.cell? ⟨w.heap.size, 3, none⟩ = some (.int .i64 o.par)) (exact ⟨(Below.cell (by repeat (first | (with_reducible exact HB.out) | apply below_alloc | apply pw_below_drewN | apply below_drew1 | exact HB.out)) (Nat.lt_succ_self _)).trans C2.out, (Below.cell (by repeat (first | (with_reducible exact HB.out) | apply below_alloc | apply pw_below_drewN | apply below_drew1 | exact HB.out)) (Nat.lt_succ_self _)).trans C3.out⟩)
      (first
        | (go_at_call 35; (with_reducible refine (rwrite_calls _ o.node).mono ?_); rintro e w5 ⟨v5, rfl, ho, hb⟩; obtain ⟨A5, e5, rfl, hr3⟩ := own_reads ho; have HR5 := Lib.hid hr3; have HO5 := Lib.hid (HO4.out.now hb rfl); have HBn := Lib.hid (below_stepB (by repeat (first | (with_reducible exact HB.out) | apply below_alloc | apply pw_below_drewN | apply below_drew1 | exact HB.out)) HLT.out hb); clear hb HB ho hr3; have HB := HBn; clear HBn)
        | ((refine appB_step (w0 := w1) (w.heap.size + 1) (by rfl) (.tmp 18) (.tmp 21) (by rfl) v4 (form o.n ++ form o.r) (form o.node) A5 (form o.node).length e5 (by rfl) (by rfl) HO5.out HR5.out HB.out (Nat.le_trans HLT.out (Below.size HB.out)) L2.out ?_); intro v6 w6 ho hb hg hat; have HO6 := Lib.hid ho; clear HB ho hg hat; have HB := Lib.hid hb; clear hb)
        | (go_at_call 35; (with_reducible refine (rwrite_calls _ o.par).mono ?_); rintro e w7 ⟨v7, rfl, ho, hb⟩; obtain ⟨A7, e7, rfl, hr3⟩ := own_reads ho; have HR7 := Lib.hid hr3; have HO7 := Lib.hid (HO6.out.now hb rfl); have HBn := Lib.hid (below_stepB (by repeat (first | (with_reducible exact HB.out) | apply below_alloc | apply pw_below_drewN | apply below_drew1 | exact HB.out)) HLT.out hb); clear hb HB ho hr3; have HB := HBn; clear HBn)
        | ((refine appB_step (w0 := w1) (w.heap.size + 1) (by rfl) (.tmp 22) (.tmp 25) (by rfl) v6 (form o.n ++ form o.r ++ form o.node) (form o.par) A7 (form o.par).length e7 (by rfl) (by rfl) HO7.out HR7.out HB.out (Nat.le_trans HLT.out (Below.size HB.out)) L3.out ?_); intro v8 w8 ho hb hg hat; have HO8 := Lib.hid ho; clear HB ho hg hat; have HB := Lib.hid hb; clear hb)
        | (fail "no arm"))
    have c4 := (Below.cell HB.out (Nat.lt_succ_self _)).trans C4.out
    have HO9 := Lib.hid (show OwnB w8 (w.heap.size + 1) v8 (pre o 4) by rw [HP.out]; exact HO8.out)
    go_wp2_with (first
      | (go_at_call 36; refine (rtextw_calls _ _ HN.out).mono ?_; rintro e w9 ⟨v9, rfl, ho, hb⟩; obtain ⟨A9, e9, rfl, hr⟩ := own_reads ho; have HR9 := Lib.hid hr; have HO10 := Lib.hid (HO9.out.now hb rfl); have HBn := Lib.hid (below_stepB (by repeat (first | (with_reducible exact HB.out) | apply below_alloc | apply pw_below_drewN | apply below_drew1 | exact HB.out)) HLT.out hb); clear hb HB ho hr; have HB := HBn; clear HBn)
      | (at_builtin; (refine print_append_row (w0 := w1) (w.heap.size + 1) rfl (.tmp 27) (.tmp 30) 33 5 .u8 1 rfl Tryd.underlying33 pkInfo5 (by decide) _ (pre o 4) (textForm o.name) A9 (textForm o.name).length e9 rfl rfl ?cO ?cR ?cB ?cS ?cL ?_; (case cO => exact HO10.out); (case cR => exact HR9.out); (case cB => exact HB.out); (case cS => exact Nat.le_trans HLT.out (Below.size HB.out)); (case cL => (have := L4.out; omega)); intro v11 w11 ho hb hg hat; have HO11 := Lib.hid ho; clear ho hg hat HB; have HB := Lib.hid hb; clear hb)))
    go_ret
    rw [HF.out]
    exact ⟨_, rfl, OwnB.le HO11.out (Nat.le_succ _), below_wide HB0.out HB.out (Nat.le_succ _)⟩
  · have hc := fun w => refright_calls o w hs
    rw [Bool.not_eq_true] at hR
    rw [hR] at hc
    simp only [opV] at hc ⊢
    have HC := Lib.hid hc
    have HF := Lib.hid (show opForm o = [] by rw [opForm, if_neg (by rw [hR]; decide)])
    clear hc hR
    have HB := Lib.hid (Below.refl w.heap.size w)
    go_enter Tryd.func18, Tryd.ntmps18
    go_wp2_with (go_at_call 13; refine (HC.out _).mono ?_; rintro e w1 ⟨rfl, hb⟩; have HBn := Lib.hid (below_step (by repeat (first | (with_reducible exact HB.out) | apply below_alloc | apply pw_below_drewN | apply below_drew1 | exact HB.out)) hb); clear hb HB; have HB := HBn; clear HBn)
    go_ret
    rw [HF.out]
    exact ⟨_, rfl, own_nil _ _ _ _, HB.out⟩
end Go.Proofs.YtbekfoldohhbpaaDoor
