/-
  Whether an operation is right: the reference.
-/
import Derived.Test.YtbekfoldohhbpaaDoorOpA
namespace Go.Proofs.YtbekfoldohhbpaaDoor
open Go.RowKit Go.Proofs.YtbekfoldohhbpaaDoorW.PrintWords

set_option maxHeartbeats 2000000 in
theorem refright_calls (o : OpR) (w : World) (hs : o.name.size ≤ 9223372036854775807) : Calls Tryd.prog 13 #[opV o] w fun e w' => e = .returned (.bool (opRight o)) ∧ Below w.heap.size w w' := by
  obtain ⟨n, r, node, par, name⟩ := o
  simp only [opV] at hs ⊢
  have HR := Lib.hid (show opRight ⟨n, r, node, par, name⟩ = (stampR n r && (nodeR node && ((par == 0 || (par == 1 || nodeR par)) && nameB name.data.toList))) from rfl)
  have hc1 := rstamp_calls n r
  have hc2 := rnode_calls node
  have hc3 := rnode_calls par
  have hc4 := fun w => rright_calls name w hs
  generalize opRight ⟨n, r, node, par, name⟩ = R at *
  generalize stampR n r = S at *
  generalize nodeR node = N at *
  generalize nodeR par = N2 at *
  generalize nameB name.data.toList = M at *
  have HC1 := Lib.hid hc1
  have HC2 := Lib.hid hc2
  have HC3 := Lib.hid hc3
  have HC4 := Lib.hid hc4
  have HB := Lib.hid (Below.refl w.heap.size w)
  clear hc1 hc2 hc3 hc4
  go_enter Tryd.func13, Tryd.ntmps13
  go_wp2_with (first
    | (go_at_call 11; (with_reducible refine (HC3.out _).mono ?_); rintro e w1 ⟨rfl, m1, rfl⟩)
    | (go_at_call 26; refine (HC1.out _).mono ?_; rintro e w2 ⟨rfl, hb⟩; have c2 : w2.cell? ⟨w.heap.size, 2, none⟩ = some (.int .i64 node) := pw_cell_below hb (by go_cell); have c4 : w2.cell? ⟨w.heap.size, 4, none⟩ = some (.string name) := pw_cell_below hb (by go_cell); have c3 : w2.cell? ⟨w.heap.size, 3, none⟩ = some (.int .i64 par) := pw_cell_below hb (by go_cell); have HBn := Lib.hid (below_step (by repeat (first | (with_reducible exact HB.out) | apply below_alloc | apply pw_below_drewN | apply below_drew1 | exact HB.out)) hb); clear hb HB; have HB := HBn; clear HBn)
    | (go_at_call 11; (with_reducible refine (HC2.out _).mono ?_); rintro e w3 ⟨rfl, m3, rfl⟩)
    | (go_at_call 27; refine (HC4.out _).mono ?_; rintro e w4 ⟨rfl, m4, rfl⟩))
  go_ways
  all_goals (go_ret; refine ⟨?_, (by repeat (first | (with_reducible exact HB.out) | apply below_alloc | apply pw_below_drewN | apply below_drew1 | exact HB.out))⟩; rw [HR.out]; clear HC1 HC2 HC3 HC4; simp_all)
end Go.Proofs.YtbekfoldohhbpaaDoor
