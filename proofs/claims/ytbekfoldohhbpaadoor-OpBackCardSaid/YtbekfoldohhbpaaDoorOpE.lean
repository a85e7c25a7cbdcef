/-
  How two operations stand: what package op comes to.
-/
import Derived.Test.YtbekfoldohhbpaaDoorOpC
namespace Go.Proofs.YtbekfoldohhbpaaDoor
open Go.RowKit Go.Proofs.YtbekfoldohhbpaaDoorW.PrintWords

theorem stampcmp_calls (a b c d : Int) (w : World) : Calls Tryd.prog 44 #[.agg #[.int .i64 a, .int .i64 b], .agg #[.int .i64 c, .int .i64 d]] w fun e w' => e = .returned (.int .i64 (cmpT a b c d)) ∧ Below w.heap.size w w' := by
  have HC1 := Lib.hid (cmp_int_calls a c)
  have HC2 := Lib.hid (cmp_int_calls b d)
  have HF := Lib.hid (show ∀ (g : Nat) (w : World), w.cell? ⟨g, 0, none⟩ = some (.int .i64 (cmpI a c)) → w.cell? ⟨g, 1, none⟩ = some (.int .i64 (cmpI b d)) → Calls Tryd.prog 50 #[.slice (some ⟨g, 0, none⟩) 2 2] w (fun e w' => e = .returned (.int .i64 (cmpT a b c d)) ∧ w' = w) from fun g w h0 h1 => first_calls (cmpI a c) (cmpI b d) g w h0 h1)
  generalize cmpT a b c d = R at *
  generalize cmpI a c = X at *
  generalize cmpI b d = Y at *
  have HB := Lib.hid (Below.refl w.heap.size w)
  go_enter Tryd.func44, Tryd.ntmps44
  go_wp2
  go_region_held3 (fun w' => w'.cell? ⟨w.heap.size, 0, none⟩ = some (.int .i64 a) ∧ w'.cell? ⟨w.heap.size + 1, 0, none⟩ = some (.int .i64 c) ∧ w'.cell? ⟨w.heap.size, 1, none⟩ = some (.int .i64 b) ∧ w'.cell? ⟨w.heap.size + 1, 1, none⟩ = some (.int .i64 d)) (refine ⟨?_, ?_, ?_, ?_⟩ <;> go_cell)
    (first
      | (go_at_call 45; (with_reducible refine (HC1.out _).mono ?_); rintro e w1 ⟨rfl, rfl⟩)
      | (go_at_call 45; (with_reducible refine (HC2.out _).mono ?_); rintro e w1 ⟨rfl, rfl⟩)
      | (go_at_call 50; refine (HF.out _ _ (by go_cell) (by go_cell)).mono ?_; rintro e w1 ⟨rfl, rfl⟩))
  all_goals go_wp2
  all_goals (go_ret; exact ⟨rfl, (by repeat (first | (with_reducible exact HB.out) | apply below_alloc | apply pw_below_drewN | apply below_drew1 | exact HB.out))⟩)
end Go.Proofs.YtbekfoldohhbpaaDoor
