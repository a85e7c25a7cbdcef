/-
  The walk of the law PackWrites: whatever the input, the call returns true, and what was in memory stays.
-/
import Derived.Test.YtbekfoldohhbpaaPkF
namespace Go.Proofs.Ytbekfoldohhbpaa
open Go.RowKit Go.Proofs.YtbekfoldohhbpaaW.PrintWords
set_option maxHeartbeats 1000000 in
theorem packWrites_walk (n : Int) (s : ByteArray) (w : World) (_ : (Lit.int .i64 n).wf = true) (hs : s.size ≤ maxLen) :
    Calls Try.prog 3 #[.int .i64 n, .string s] w fun e w' => e = .returned (.bool true) ∧ Below w.heap.size w w' := by
  unfold maxLen at hs
  have HS := Lib.hid (show s.size ≤ 9223372036854775807 from hs)
  by_cases h : 5000 < s.size
  · go_enter Try.func3, Try.ntmps3
    go_wp2_with (go_at_call 9; refine (awake_calls _).mono ?_; rintro e w1 ⟨rfl, hb⟩; have HB := Lib.hid hb; clear hb)
    go_ret
    exact ⟨rfl, HB.out⟩
  · go_enter Try.func3, Try.ntmps3
    go_wp2_with (first
      | (go_at_call 9; refine (awake_calls _).mono ?_; rintro e w1 ⟨rfl, hb⟩; have HB := Lib.hid hb; clear hb)
      | (go_at_call 11; (refine (pwrite_calls _ _).mono ?_; rintro e w2 ⟨v2, rfl, ho, hb⟩; obtain ⟨A2, c2, rfl, hr⟩ := own_reads ho; have HC2 := Lib.hid (own_cap ho); have HR2 := Lib.hid hr; have HB2 := Lib.hid hb; clear hb ho hr))
      | (go_at_call 12; (refine (rwrite_calls _ _).mono ?_; rintro e w3 ⟨v3, rfl, ho, hb⟩; obtain ⟨A3, c3, rfl, hr⟩ := own_reads ho; have HC3 := Lib.hid (own_cap ho); have HR3 := Lib.hid hr; have HB3 := Lib.hid hb; clear hb ho hr))
      | (go_at_call 10; (refine (same_calls _ A2 c2 (form n) A3 c3 (form n) (HR2.out.below HB3.out) HC2.out HR3.out HC3.out).mono ?_; rintro e w4 ⟨rfl, n4, rfl⟩; rw [beq_self_eq_true]))
      | (go_at_call 13; (refine (ptext_calls _ _).mono ?_; rintro e w5 ⟨v5, rfl, ho, hb⟩; obtain ⟨A5, c5, rfl, hr⟩ := own_reads ho; have HC5 := Lib.hid (own_cap ho); have HR5 := Lib.hid hr; have HB5 := Lib.hid hb; clear hb ho hr))
      | (go_at_call 14; (refine (rtextw_calls _ _ HS.out).mono ?_; rintro e w6 ⟨v6, rfl, ho, hb⟩; obtain ⟨A6, c6, rfl, hr⟩ := own_reads ho; have HC6 := Lib.hid (own_cap ho); have HR6 := Lib.hid hr; have HB6 := Lib.hid hb; clear hb ho hr))
      | (go_at_call 10; (refine (same_calls _ A5 c5 (textForm s) A6 c6 (textForm s) (HR5.out.below HB6.out) HC5.out HR6.out HC6.out).mono ?_; rintro e w7 ⟨rfl, n7, rfl⟩; rw [beq_self_eq_true])))
    go_ret
    refine ⟨rfl, ?_⟩
    have h3 := below_step (below_step HB.out HB2.out) HB3.out
    have h5 := below_step (pw_below_drewN h3 n4) HB5.out
    exact pw_below_drewN (below_step h5 HB6.out) n7
end Go.Proofs.Ytbekfoldohhbpaa
