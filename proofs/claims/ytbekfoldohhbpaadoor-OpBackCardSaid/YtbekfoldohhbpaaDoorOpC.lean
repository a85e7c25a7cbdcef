/-
  How two operations stand: the words, and the small functions.
-/
import Derived.Test.YtbekfoldohhbpaaDoorOpA
import Derived.WalkLawsBesides
namespace Go.Proofs.YtbekfoldohhbpaaDoor
open Go.RowKit Go.Proofs.YtbekfoldohhbpaaDoorW.PrintWords

def cmpI (a b : Int) : Int := if a < b then -1 else if b < a then 1 else 0
def cmpS (a b : ByteArray) : Int := if Op.bytesLess a.toList b.toList = true then -1 else if (Op.bytesLess a.toList b.toList || a.toList == b.toList) = true then 0 else 1
def cmpT (a b c d : Int) : Int := if cmpI a c = 0 then cmpI b d else cmpI a c
def opCmp (a b : OpR) : Int := if cmpT a.n a.r b.n b.r = 0 then (if cmpI a.node b.node = 0 then (if cmpI a.par b.par = 0 then cmpS a.name b.name else cmpI a.par b.par) else cmpI a.node b.node) else cmpT a.n a.r b.n b.r

theorem isNaN_int_calls (a : Int) (w : World) : Calls Tryd.prog 51 #[.int .i64 a] w fun e w' => e = .returned (.bool false) ∧ w' = w := by
  go_enter Tryd.func51, Tryd.ntmps51
  go_wp2
  go_ret
  simp
theorem isNaN_str_calls (a : ByteArray) (w : World) : Calls Tryd.prog 52 #[.string a] w fun e w' => e = .returned (.bool false) ∧ w' = w := by
  go_enter Tryd.func52, Tryd.ntmps52
  go_wp2
  go_ret
  simp
theorem cmp_int_calls (a b : Int) (w : World) : Calls Tryd.prog 45 #[.int .i64 a, .int .i64 b] w fun e w' => e = .returned (.int .i64 (cmpI a b)) ∧ w' = w := by
  have HC := Lib.hid isNaN_int_calls
  have HE := Lib.hid (show cmpI a b = if a < b then -1 else if b < a then 1 else 0 from rfl)
  generalize cmpI a b = R at *
  by_cases h1 : a < b
  · go_enter Tryd.func45, Tryd.ntmps45
    go_wp2_with (go_at_call 51; refine (HC.out _ _).mono ?_; rintro e w1 ⟨rfl, rfl⟩)
    go_ret
    rw [HE.out, if_pos h1]
    exact ⟨rfl, rfl⟩
  · by_cases h2 : b < a
    · go_enter Tryd.func45, Tryd.ntmps45
      go_wp2_with (go_at_call 51; refine (HC.out _ _).mono ?_; rintro e w1 ⟨rfl, rfl⟩)
      go_ret
      rw [HE.out, if_neg (show ¬ a < b by omega), if_pos h2]
      exact ⟨rfl, rfl⟩
    · go_enter Tryd.func45, Tryd.ntmps45
      go_wp2_with (go_at_call 51; refine (HC.out _ _).mono ?_; rintro e w1 ⟨rfl, rfl⟩)
      go_ret
      rw [HE.out, if_neg (show ¬ a < b by omega), if_neg (show ¬ b < a by omega)]
      exact ⟨rfl, rfl⟩
theorem cmp_str_calls (a b : ByteArray) (w : World) : Calls Tryd.prog 46 #[.string a, .string b] w fun e w' => e = .returned (.int .i64 (cmpS a b)) ∧ w' = w := by
  have HC := Lib.hid isNaN_str_calls
  have HE := Lib.hid (show cmpS a b = if Op.bytesLess a.toList b.toList = true then -1 else if (Op.bytesLess a.toList b.toList || a.toList == b.toList) = true then 0 else 1 from rfl)
  generalize cmpS a b = R at *
  cases h1 : Op.bytesLess a.toList b.toList
  · cases h2 : (a.toList == b.toList)
    all_goals
      go_enter Tryd.func46, Tryd.ntmps46
      go_wp2_with (go_at_call 52; refine (HC.out _ _).mono ?_; rintro e w1 ⟨rfl, rfl⟩)
      go_ret
      rw [HE.out, h1, h2]
      exact ⟨rfl, rfl⟩
  · go_enter Tryd.func46, Tryd.ntmps46
    go_wp2_with (go_at_call 52; refine (HC.out _ _).mono ?_; rintro e w1 ⟨rfl, rfl⟩)
    go_ret
    rw [HE.out, h1]
    exact ⟨rfl, rfl⟩

/-- The first that isn't 0, of two. -/
theorem first_calls (a b : Int) (g : Nat) (w : World) (h0 : w.cell? ⟨g, 0, none⟩ = some (.int .i64 a)) (h1 : w.cell? ⟨g, 1, none⟩ = some (.int .i64 b)) : Calls Tryd.prog 50 #[.slice (some ⟨g, 0, none⟩) 2 2] w fun e w' => e = .returned (.int .i64 (if a = 0 then b else a)) ∧ w' = w := by
  by_cases ha : a = 0
  · subst ha
    by_cases hb : b = 0
    · subst hb
      go_enter Tryd.func50, Tryd.ntmps50
      go_wp2
      go_rounds 3
      go_ret
      simp
    · go_enter Tryd.func50, Tryd.ntmps50
      go_wp2
      go_rounds 2
      go_ret
      simp
  · go_enter Tryd.func50, Tryd.ntmps50
    go_wp2
    go_rounds 1
    go_ret
    simp
end Go.Proofs.YtbekfoldohhbpaaDoor
