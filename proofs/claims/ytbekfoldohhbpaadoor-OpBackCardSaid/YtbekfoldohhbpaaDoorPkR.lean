/-
  What a number's form comes to, said by its last byte; plain lemmas on lists of bytes.
-/
import Derived.Test.YtbekfoldohhbpaaDoorPkC
namespace Go.Proofs.YtbekfoldohhbpaaDoor
open Go.RowKit Go.Proofs.YtbekfoldohhbpaaDoorW.PrintWords

/-- The number of the first k digits. -/
def lo (xs : List Int) : Nat → Int
  | 0 => 0
  | k + 1 => lo xs k + xs.getD k 0 % 128 * 128 ^ k
/-- The number of the first j digits, behind those that are there. -/
def valGo (xs : List Int) : Nat → Int → Int
  | 0, n => n
  | j + 1, n => valGo xs j (128 * n + xs.getD j 0 % 128)
theorem valGo_eq (xs : List Int) (j : Nat) : ∀ n, valGo xs j n = n * 128 ^ j + lo xs j := by
  induction j with
  | zero => intro n; simp [valGo, lo]
  | succ j ih =>
    intro n
    rw [valGo, ih, lo, Int.add_mul, Int.pow_succ]
    have h1 : 128 * n * 128 ^ j = n * (128 ^ j * 128) := by rw [Int.mul_comm 128 n, Int.mul_assoc, Int.mul_comm 128]
    rw [h1]
    omega
theorem valGo_zero (xs : List Int) (j : Nat) : valGo xs j 0 = lo xs j := by rw [valGo_eq]; simp
theorem all_snoc {P : Nat → Prop} {k : Nat} (h : ∀ j, j < k → P j) (hk : P k) : ∀ j, j < k + 1 → P j := by
  intro j hj
  rcases Nat.lt_or_ge j k with h1 | h1
  · exact h j h1
  · have : j = k := by omega
    exact this ▸ hk
theorem numGo_at (xs : List Int) (most : Int) (l : Nat) (hl : ∀ j, j < l → 128 ≤ xs.getD j 0) (hn : l ≤ xs.length) (h5 : l ≤ 5) : rdNum xs 0 most = numGo xs most (5 - l) l (lo xs l) (128 ^ l) := by
  induction l with
  | zero => rw [rdNum, if_pos rfl]; rfl
  | succ l ih =>
    rw [ih (fun j hj => hl j (by omega)) (by omega) (by omega)]
    obtain ⟨k, hk⟩ : ∃ k, 5 - l = k + 1 := ⟨4 - l, by omega⟩
    rw [hk, numGo, if_neg (by omega), if_pos (hl l (by omega)), show 5 - (l + 1) = k by omega, lo, Int.pow_succ]
theorem rdNum_none (xs : List Int) (most : Int) (l : Nat) (hl : ∀ j, j < l → 128 ≤ xs.getD j 0) (h : l = 5 ∧ l ≤ xs.length ∨ l = xs.length ∧ l < 5) : rdNum xs 0 most = (0, [], if xs.length < 5 then 2 else 3) := by
  rw [numGo_at xs most l hl (by omega) (by omega)]
  rcases h with ⟨rfl, h2⟩ | ⟨rfl, h2⟩
  · rw [if_neg (by omega)]; rfl
  · rw [if_pos h2]
    obtain ⟨k, hk⟩ : ∃ k, 5 - xs.length = k + 1 := ⟨4 - xs.length, by omega⟩
    rw [hk, numGo, if_pos (by omega)]
theorem rdNum_some (xs : List Int) (most : Int) (l : Nat) (hl : ∀ j, j < l → 128 ≤ xs.getD j 0) (hn : l < xs.length) (h5 : l < 5) (hy : xs.getD l 0 < 128) :
    rdNum xs 0 most = if (xs.getD l 0 = 0 ∧ 0 < l) ∨ 4294967295 < lo xs (l + 1) ∨ most < lo xs (l + 1) then (0, [], 3) else (lo xs (l + 1), xs.drop (l + 1), 0) := by
  rw [numGo_at xs most l hl (by omega) (by omega)]
  obtain ⟨k, hk⟩ : ∃ k, 5 - l = k + 1 := ⟨4 - l, by omega⟩
  rw [hk, numGo, if_neg (by omega), if_neg (by omega)]
  rfl
end Go.Proofs.YtbekfoldohhbpaaDoor
