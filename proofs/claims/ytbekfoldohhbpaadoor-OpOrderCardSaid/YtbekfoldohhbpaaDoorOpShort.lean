/-
  Whether names are short.
-/
import Derived.Test.YtbekfoldohhbpaaDoorOpAwake
namespace Go.Proofs.YtbekfoldohhbpaaDoor
open Go.RowKit Go.Proofs.YtbekfoldohhbpaaDoorW.PrintWords

theorem short1_calls (g : Nat) (s0 : ByteArray) (w : World) (h0 : w.cell? ⟨g, 4, none⟩ = some (.string s0)) :
    Calls Tryd.prog 9 #[.slice (some ⟨g, 0, none⟩) 1 1] w fun e w' => e = .returned (.bool (decide (s0.size ≤ 60))) ∧ w' = w := by
  by_cases k0 : s0.size ≤ 60
  · go_enter Tryd.func9, Tryd.ntmps9
    go_wp2
    go_rounds 2
    go_ret
    simp [k0]
  · have q0 : 60 < s0.size := by omega
    go_enter Tryd.func9, Tryd.ntmps9
    go_wp2
    go_rounds 1
    go_ret
    simp [k0]
theorem short2_calls (g : Nat) (s0 s1 : ByteArray) (w : World) (h0 : w.cell? ⟨g, 4, none⟩ = some (.string s0)) (h1 : w.cell? ⟨g, 9, none⟩ = some (.string s1)) :
    Calls Tryd.prog 9 #[.slice (some ⟨g, 0, none⟩) 2 2] w fun e w' => e = .returned (.bool (decide (s0.size ≤ 60) && decide (s1.size ≤ 60))) ∧ w' = w := by
  by_cases k0 : s0.size ≤ 60
  · by_cases k1 : s1.size ≤ 60
    · go_enter Tryd.func9, Tryd.ntmps9
      go_wp2
      go_rounds 3
      go_ret
      simp [k0, k1]
    · go_enter Tryd.func9, Tryd.ntmps9
      go_wp2
      go_rounds 2
      go_ret
      simp [k1]
  · go_enter Tryd.func9, Tryd.ntmps9
    go_wp2
    go_rounds 1
    go_ret
    simp [k0]
theorem short3_calls (g : Nat) (s0 s1 s2 : ByteArray) (w : World) (h0 : w.cell? ⟨g, 4, none⟩ = some (.string s0)) (h1 : w.cell? ⟨g, 9, none⟩ = some (.string s1)) (h2 : w.cell? ⟨g, 14, none⟩ = some (.string s2)) :
    Calls Tryd.prog 9 #[.slice (some ⟨g, 0, none⟩) 3 3] w fun e w' => e = .returned (.bool (decide (s0.size ≤ 60) && (decide (s1.size ≤ 60) && decide (s2.size ≤ 60)))) ∧ w' = w := by
  by_cases k0 : s0.size ≤ 60
  · by_cases k1 : s1.size ≤ 60
    · by_cases k2 : s2.size ≤ 60
      · go_enter Tryd.func9, Tryd.ntmps9
        go_wp2
        go_rounds 4
        go_ret
        simp [k0, k1, k2]
      · go_enter Tryd.func9, Tryd.ntmps9
        go_wp2
        go_rounds 3
        go_ret
        simp [k2]
    · go_enter Tryd.func9, Tryd.ntmps9
      go_wp2
      go_rounds 2
      go_ret
      simp [k1]
  · go_enter Tryd.func9, Tryd.ntmps9
    go_wp2
    go_rounds 1
    go_ret
    simp [k0]
end Go.Proofs.YtbekfoldohhbpaaDoor
