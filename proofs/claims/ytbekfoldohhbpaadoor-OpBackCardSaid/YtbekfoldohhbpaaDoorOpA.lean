/-
  Whether an operation is right: what package op, and the reference, come to.
-/
import Derived.Test.YtbekfoldohhbpaaDoorNmB
import Derived.Test.YtbekfoldohhbpaaDoorPOpTellsx1
namespace Go.Proofs.YtbekfoldohhbpaaDoor
open Go.RowKit Go.Proofs.YtbekfoldohhbpaaDoorW.PrintWords

structure OpR where
  n : Int
  r : Int
  node : Int
  par : Int
  name : ByteArray
def opV (o : OpR) : Value := .agg #[.int .i64 o.n, .int .i64 o.r, .int .i64 o.node, .int .i64 o.par, .string o.name]
def nodeR (n : Int) : Bool := decide (256 ≤ n) && decide (n ≤ 4294967295)
def stampR (n r : Int) : Bool := (decide (1 ≤ n) && decide (n ≤ 16777215)) && (decide (0 ≤ r) && decide (r ≤ 255))
def toR (n : Int) : Bool := n == 0 || (n == 1 || nodeR n)
def opRight (o : OpR) : Bool := stampR o.n o.r && (nodeR o.node && (toR o.par && nameB o.name.data.toList))

theorem node_f (n : Int) : POpTells.op_Node.f n = some (nodeR n) := by
  unfold POpTells.op_Node.f nodeR
  by_cases h : n ≥ 256
  · rw [if_pos h, decide_eq_true h, Bool.true_and]
  · rw [if_neg h, decide_eq_false h, Bool.false_and]
theorem rnode_f (n : Int) : POpTells.holtref05_Node.f n = some (nodeR n) := by
  unfold POpTells.holtref05_Node.f nodeR
  by_cases h : n ≥ 256
  · rw [if_pos h, decide_eq_true h, Bool.true_and]
  · rw [if_neg h, decide_eq_false h, Bool.false_and]
theorem stamp_f (n r : Int) : POpTells.stamp_Right.f n r = some (stampR n r) := by
  unfold POpTells.stamp_Right.f stampR
  have e4 : decide (r < 256) = decide (r ≤ 255) := decide_eq_decide.2 (by omega)
  by_cases h1 : n ≥ 1
  · by_cases h2 : n ≤ 16777215
    · by_cases h3 : r ≥ 0
      · rw [if_pos h1, if_pos h2, if_pos h3, decide_eq_true h1, decide_eq_true h2, decide_eq_true h3, e4]; rfl
      · rw [if_pos h1, if_pos h2, if_neg h3, decide_eq_false h3]; simp
    · rw [if_pos h1, if_neg h2, decide_eq_false h2]; simp
  · rw [if_neg h1, decide_eq_false h1]; simp
theorem rstamp_f (n r : Int) : POpTells.holtref04_Right.f n r = some (stampR n r) := by
  unfold POpTells.holtref04_Right.f stampR
  have e2 : decide (n ≤ 16777215) = decide (n < 16777216) := decide_eq_decide.2 (by omega)
  by_cases h1 : n > 0
  · by_cases h2 : n < 16777216
    · by_cases h3 : r ≥ 0
      · rw [if_pos h1, if_pos h2, if_pos h3, e2, decide_eq_true (show 1 ≤ n by omega), decide_eq_true h2, decide_eq_true h3]; rfl
      · rw [if_pos h1, if_pos h2, if_neg h3, decide_eq_false h3]; simp
    · rw [if_pos h1, if_neg h2, e2, decide_eq_false h2]; simp
  · rw [if_neg h1, decide_eq_false (show ¬ 1 ≤ n by omega)]; simp
theorem node_calls (n : Int) (w : World) : Calls Tryd.prog 10 #[.int .i64 n] w fun e w' => e = .returned (.bool (nodeR n)) ∧ ∃ m, w' = w.drewN m :=
  (POpTells.op_Node.calls n _ w (node_f n)).mono fun _ _ ⟨he, h⟩ => ⟨he, h.out⟩
theorem rnode_calls (n : Int) (w : World) : Calls Tryd.prog 11 #[.int .i64 n] w fun e w' => e = .returned (.bool (nodeR n)) ∧ ∃ m, w' = w.drewN m :=
  (POpTells.holtref05_Node.calls n _ w (rnode_f n)).mono fun _ _ ⟨he, h⟩ => ⟨he, h.out⟩
theorem stamp_calls (n r : Int) (w : World) : Calls Tryd.prog 24 #[.agg #[.int .i64 n, .int .i64 r]] w fun e w' => e = .returned (.bool (stampR n r)) ∧ Below w.heap.size w w' :=
  POpTells.stamp_Right.calls n r _ w (stamp_f n r)
theorem rstamp_calls (n r : Int) (w : World) : Calls Tryd.prog 26 #[.agg #[.int .i64 n, .int .i64 r]] w fun e w' => e = .returned (.bool (stampR n r)) ∧ Below w.heap.size w w' :=
  POpTells.holtref04_Right.calls n r _ w (rstamp_f n r)

set_option maxHeartbeats 2000000 in
theorem right_calls (o : OpR) (w : World) (hs : o.name.size ≤ 9223372036854775807) (hT : Tabs w) : Calls Tryd.prog 12 #[opV o] w fun e w' => e = .returned (.bool (opRight o)) ∧ Below w.heap.size w w' := by
  obtain ⟨n, r, node, par, name⟩ := o
  simp only [opV] at hs ⊢
  have HT := Lib.hid hT
  clear hT
  have HR := Lib.hid (show opRight ⟨n, r, node, par, name⟩ = (stampR n r && (nodeR node && ((par == 0 || (par == 1 || nodeR par)) && nameB name.data.toList))) from rfl)
  have hc1 := stamp_calls n r
  have hc2 := node_calls node
  have hc3 := node_calls par
  have hc4 := fun w (h : Tabs w) => nright_calls name w hs h
  generalize opRight ⟨n, r, node, par, name⟩ = R at *
  generalize stampR n r = S at *
  generalize nodeR node = N at *
  generalize nodeR par = N2 at *
  generalize nameB name.data.toList = M at *
  have HC1 := Lib.hid hc1
  have HC2 := Lib.hid hc2
  have HC3 := Lib.hid hc3
  have HC4 := Lib.hid hc4
  have HB := Lib.hid (Below.refl w.heap.size w)
  clear hc1 hc2 hc3 hc4
  go_enter Tryd.func12, Tryd.ntmps12
  go_wp2_with (first
    | (go_at_call 10; (with_reducible refine (HC3.out _).mono ?_); rintro e w1 ⟨rfl, m1, rfl⟩)
    | (go_at_call 24; refine (HC1.out _).mono ?_; rintro e w2 ⟨rfl, hb⟩; have c2 : w2.cell? ⟨w.heap.size, 2, none⟩ = some (.int .i64 node) := pw_cell_below hb (by go_cell); have c4 : w2.cell? ⟨w.heap.size, 4, none⟩ = some (.string name) := pw_cell_below hb (by go_cell); have HBn := Lib.hid (below_step (by repeat (first | (with_reducible exact HB.out) | apply below_alloc | apply pw_below_drewN | apply below_drew1 | exact HB.out)) hb); clear hb HB; have HB := HBn; clear HBn)
    | (go_at_call 10; (with_reducible refine (HC2.out _).mono ?_); rintro e w3 ⟨rfl, m3, rfl⟩)
    | (go_at_call 25; refine (HC4.out _ (HT.out.below (by repeat (first | (with_reducible exact HB.out) | apply below_alloc | apply pw_below_drewN | apply below_drew1 | exact HB.out)))).mono ?_; rintro e w4 ⟨rfl, hb⟩; have HBn := Lib.hid (below_step (by repeat (first | (with_reducible exact HB.out) | apply below_alloc | apply pw_below_drewN | apply below_drew1 | exact HB.out)) hb); clear hb HB; have HB := HBn; clear HBn))
  go_ways
  all_goals (go_ret; refine ⟨?_, (by repeat (first | (with_reducible exact HB.out) | apply below_alloc | apply pw_below_drewN | apply below_drew1 | exact HB.out))⟩; rw [HR.out]; clear HC1 HC2 HC3 HC4; simp_all)
end Go.Proofs.YtbekfoldohhbpaaDoor
