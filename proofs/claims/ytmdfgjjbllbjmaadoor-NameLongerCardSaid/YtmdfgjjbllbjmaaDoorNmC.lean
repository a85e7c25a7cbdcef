/-
  The reference's Formed, as it was printed, tells what is well-formed: plain lemmas.
-/
import Derived.Test.YtmdfgjjbllbjmaaDoorNmA
import Derived.Test.YtmdfgjjbllbjmaaDoorPNameTellsx2
namespace Go.Proofs.YtmdfgjjbllbjmaaDoor
open Go.RowKit Go.Proofs.YtmdfgjjbllbjmaaDoorW.PrintWords Go.Lib
open PNameTells

theorem tails_at (c : Nat) (h : c < 256) : holtref03_tails.f 4 (c : Int) = some (
    if c < 128 then (0, 128, 191) else if 194 ≤ c ∧ c ≤ 223 then (1, 128, 191) else if c = 224 then (2, 160, 191) else if c = 237 then (2, 128, 159)
    else if 225 ≤ c ∧ c ≤ 239 then (2, 128, 191) else if c = 240 then (3, 144, 191) else if 241 ≤ c ∧ c ≤ 243 then (3, 128, 191) else if c = 244 then (3, 128, 143) else (-1, 0, 0)) := by
  have key : ∀ c : Fin 256, holtref03_tails.f 4 (c.val : Int) = some (
    if c.val < 128 then (0, 128, 191) else if 194 ≤ c.val ∧ c.val ≤ 223 then (1, 128, 191) else if c.val = 224 then (2, 160, 191) else if c.val = 237 then (2, 128, 159)
    else if 225 ≤ c.val ∧ c.val ≤ 239 then (2, 128, 191) else if c.val = 240 then (3, 144, 191) else if 241 ≤ c.val ∧ c.val ≤ 243 then (3, 128, 191) else if c.val = 244 then (3, 128, 143) else (-1, 0, 0)) := by decide +kernel
  exact key ⟨c, h⟩
theorem tails_ge (k c : Nat) (h : c < 256) (hk : 4 ≤ k) : holtref03_tails.f k (c : Int) = some (
    if c < 128 then (0, 128, 191) else if 194 ≤ c ∧ c ≤ 223 then (1, 128, 191) else if c = 224 then (2, 160, 191) else if c = 237 then (2, 128, 159)
    else if 225 ≤ c ∧ c ≤ 239 then (2, 128, 191) else if c = 240 then (3, 144, 191) else if 241 ≤ c ∧ c ≤ 243 then (3, 128, 191) else if c = 244 then (3, 128, 143) else (-1, 0, 0)) :=
  at_rounds (g := fun k => holtref03_tails.f k (c : Int)) (fun k => holtref03_tails.mono _ k) hk (tails_at c h)

theorem bt_bN (s : ByteArray) (i j : Nat) : bt s ((i : Int) + j) = ((bN (s.data.toList.drop i) j : Nat) : Int) := by
  have e : ((i : Int) + j) = ((i + j : Nat) : Int) := by omega
  rw [e]
  unfold bt bN
  rw [Int.toNat_natCast, List.getD_eq_getElem?_getD, List.getElem?_drop]
  split
  · rename_i h
    rw [List.getElem?_eq_getElem (by rw [Array.length_toList]; exact h)]
    rfl
  · rename_i h
    rw [List.getElem?_eq_none (by rw [Array.length_toList]; exact Nat.le_of_not_lt h)]
    rfl

theorem wr_end (i n m : Nat) (hi : i ≤ 1000000) (hn : n ≤ 3) (hm : m = n + 1) : wrap64 (wrap64 ((i : Int) + 1) + (n : Int)) = ((i + m : Nat) : Int) := by
  subst hm
  unfold wrap64; omega
section
variable (s : ByteArray) (i : Nat) (hs : s.size ≤ 1000000)
include hs
theorem l1_0 (k : Nat) (lo hi : Int) (hi1 : i + 0 < s.size) : holtref03_Formed.l1 (k + 1) s i 0 lo hi 1 = holtref03_Formed.l0 k s ((i + 1 : Nat) : Int) := by
  rw [holtref03_Formed.l1, if_neg (by omega)]
  congr 1
  exact wr_end i 0 1 (by omega) (by omega) rfl
theorem l1_1 (k : Nat) (lo hi : Int) (hi1 : i + 1 < s.size) : holtref03_Formed.l1 (k + 2) s i 1 lo hi 1 =
    if lo ≤ (bN (s.data.toList.drop i) 1 : Int) ∧ (bN (s.data.toList.drop i) 1 : Int) ≤ hi then holtref03_Formed.l0 k s ((i + 2 : Nat) : Int) else some false := by
  have w1 : wrap64 ((i : Int) + 1) = (i : Int) + (1 : Nat) := by unfold wrap64; omega
  rw [holtref03_Formed.l1, if_pos (by omega), w1, if_pos (by omega), if_pos (by omega), bt_bN]
  by_cases h1 : (bN (s.data.toList.drop i) 1 : Int) < lo
  · rw [if_pos h1, if_neg (by omega)]
  · rw [if_neg h1]
    by_cases h2 : (bN (s.data.toList.drop i) 1 : Int) > hi
    · rw [if_pos h2, if_neg (by omega)]
    · rw [if_neg h2, if_pos (by omega), show wrap64 (1 + 1) = 2 by unfold wrap64; omega, holtref03_Formed.l1, if_neg (by omega)]
      congr 1
      exact wr_end i 1 2 (by omega) (by omega) rfl
theorem l1_2 (k : Nat) (lo hi : Int) (hi1 : i + 2 < s.size) : holtref03_Formed.l1 (k + 3) s i 2 lo hi 1 =
    if (lo ≤ (bN (s.data.toList.drop i) 1 : Int) ∧ (bN (s.data.toList.drop i) 1 : Int) ≤ hi) ∧ (128 ≤ bN (s.data.toList.drop i) 2 ∧ bN (s.data.toList.drop i) 2 ≤ 191) then holtref03_Formed.l0 k s ((i + 3 : Nat) : Int) else some false := by
  have w1 : wrap64 ((i : Int) + 1) = (i : Int) + (1 : Nat) := by unfold wrap64; omega
  have w2 : wrap64 ((i : Int) + 2) = (i : Int) + (2 : Nat) := by unfold wrap64; omega
  rw [holtref03_Formed.l1, if_pos (by omega), w1, if_pos (by omega), if_pos (by omega), bt_bN]
  by_cases h1 : (bN (s.data.toList.drop i) 1 : Int) < lo
  · rw [if_pos h1, if_neg (by omega)]
  · rw [if_neg h1]
    by_cases h2 : (bN (s.data.toList.drop i) 1 : Int) > hi
    · rw [if_pos h2, if_neg (by omega)]
    · rw [if_neg h2, show wrap64 (1 + 1) = 2 by unfold wrap64; omega, holtref03_Formed.l1, if_pos (by omega), w2, if_pos (by omega), if_pos (by omega), bt_bN]
      by_cases h3 : (bN (s.data.toList.drop i) 2 : Int) < 128
      · rw [if_pos h3, if_neg (by omega)]
      · rw [if_neg h3]
        by_cases h4 : (bN (s.data.toList.drop i) 2 : Int) > 191
        · rw [if_pos h4, if_neg (by omega)]
        · rw [if_neg h4, if_pos (by omega), show wrap64 (2 + 1) = 3 by unfold wrap64; omega, holtref03_Formed.l1, if_neg (by omega)]
          congr 1
          exact wr_end i 2 3 (by omega) (by omega) rfl
theorem l1_3 (k : Nat) (lo hi : Int) (hi1 : i + 3 < s.size) : holtref03_Formed.l1 (k + 4) s i 3 lo hi 1 =
    if (lo ≤ (bN (s.data.toList.drop i) 1 : Int) ∧ (bN (s.data.toList.drop i) 1 : Int) ≤ hi) ∧ (128 ≤ bN (s.data.toList.drop i) 2 ∧ bN (s.data.toList.drop i) 2 ≤ 191) ∧ (128 ≤ bN (s.data.toList.drop i) 3 ∧ bN (s.data.toList.drop i) 3 ≤ 191) then holtref03_Formed.l0 k s ((i + 4 : Nat) : Int) else some false := by
  have w1 : wrap64 ((i : Int) + 1) = (i : Int) + (1 : Nat) := by unfold wrap64; omega
  have w2 : wrap64 ((i : Int) + 2) = (i : Int) + (2 : Nat) := by unfold wrap64; omega
  have w3 : wrap64 ((i : Int) + 3) = (i : Int) + (3 : Nat) := by unfold wrap64; omega
  rw [holtref03_Formed.l1, if_pos (by omega), w1, if_pos (by omega), if_pos (by omega), bt_bN]
  by_cases h1 : (bN (s.data.toList.drop i) 1 : Int) < lo
  · rw [if_pos h1, if_neg (by omega)]
  · rw [if_neg h1]
    by_cases h2 : (bN (s.data.toList.drop i) 1 : Int) > hi
    · rw [if_pos h2, if_neg (by omega)]
    · rw [if_neg h2, show wrap64 (1 + 1) = 2 by unfold wrap64; omega, holtref03_Formed.l1, if_pos (by omega), w2, if_pos (by omega), if_pos (by omega), bt_bN]
      by_cases h3 : (bN (s.data.toList.drop i) 2 : Int) < 128
      · rw [if_pos h3, if_neg (by omega)]
      · rw [if_neg h3]
        by_cases h4 : (bN (s.data.toList.drop i) 2 : Int) > 191
        · rw [if_pos h4, if_neg (by omega)]
        · rw [if_neg h4, show wrap64 (2 + 1) = 3 by unfold wrap64; omega, holtref03_Formed.l1, if_pos (by omega), w3, if_pos (by omega), if_pos (by omega), bt_bN]
          by_cases h5 : (bN (s.data.toList.drop i) 3 : Int) < 128
          · rw [if_pos h5, if_neg (by omega)]
          · rw [if_neg h5]
            by_cases h6 : (bN (s.data.toList.drop i) 3 : Int) > 191
            · rw [if_pos h6, if_neg (by omega)]
            · rw [if_neg h6, if_pos (by omega), show wrap64 (3 + 1) = 4 by unfold wrap64; omega, holtref03_Formed.l1, if_neg (by omega)]
              congr 1
              exact wr_end i 3 4 (by omega) (by omega) rfl
theorem br (k n : Nat) (lo hi : Int) (hn : n ≤ 3) (hsz : i < s.size) : holtref03_Formed.j1 (k + 9) s i n lo hi (decide (wrap64 ((i : Int) + n) ≥ (s.size : Int))) =
    if i + n < s.size ∧ (1 ≤ n → lo ≤ (bN (s.data.toList.drop i) 1 : Int) ∧ (bN (s.data.toList.drop i) 1 : Int) ≤ hi) ∧ (2 ≤ n → 128 ≤ bN (s.data.toList.drop i) 2 ∧ bN (s.data.toList.drop i) 2 ≤ 191) ∧ (3 ≤ n → 128 ≤ bN (s.data.toList.drop i) 3 ∧ bN (s.data.toList.drop i) 3 ≤ 191)
    then holtref03_Formed.l0 (k + 7 - n) s ((i + (n + 1) : Nat) : Int) else some false := by
  have w1 : wrap64 ((i : Int) + n) = (i : Int) + n := by unfold wrap64; omega
  rw [holtref03_Formed.j1, w1]
  by_cases hin : i + n < s.size
  · rw [if_neg (by simp; omega)]
    match n, hn with
    | 0, _ => rw [show k + 8 = (k + 7) + 1 by omega, show ((0 : Nat) : Int) = 0 from rfl, l1_0 s i hs _ _ _ hin, if_pos ⟨hin, by omega, by omega, by omega⟩]; rfl
    | 1, _ =>
      rw [show k + 8 = (k + 6) + 2 by omega, show ((1 : Nat) : Int) = 1 from rfl, l1_1 s i hs _ _ _ hin]
      by_cases h : lo ≤ (bN (s.data.toList.drop i) 1 : Int) ∧ (bN (s.data.toList.drop i) 1 : Int) ≤ hi
      · rw [if_pos h, if_pos ⟨hin, fun _ => h, by omega, by omega⟩]; rfl
      · rw [if_neg h, if_neg (fun hh => h (hh.2.1 (by omega)))]
    | 2, _ =>
      rw [show k + 8 = (k + 5) + 3 by omega, show ((2 : Nat) : Int) = 2 from rfl, l1_2 s i hs _ _ _ hin]
      by_cases h : (lo ≤ (bN (s.data.toList.drop i) 1 : Int) ∧ (bN (s.data.toList.drop i) 1 : Int) ≤ hi) ∧ (128 ≤ bN (s.data.toList.drop i) 2 ∧ bN (s.data.toList.drop i) 2 ≤ 191)
      · rw [if_pos h, if_pos ⟨hin, fun _ => h.1, fun _ => h.2, by omega⟩]; rfl
      · rw [if_neg h, if_neg (fun hh => h ⟨hh.2.1 (by omega), hh.2.2.1 (by omega)⟩)]
    | 3, _ =>
      rw [show k + 8 = (k + 4) + 4 by omega, show ((3 : Nat) : Int) = 3 from rfl, l1_3 s i hs _ _ _ hin]
      by_cases h : (lo ≤ (bN (s.data.toList.drop i) 1 : Int) ∧ (bN (s.data.toList.drop i) 1 : Int) ≤ hi) ∧ (128 ≤ bN (s.data.toList.drop i) 2 ∧ bN (s.data.toList.drop i) 2 ≤ 191) ∧ (128 ≤ bN (s.data.toList.drop i) 3 ∧ bN (s.data.toList.drop i) 3 ≤ 191)
      · rw [if_pos h, if_pos ⟨hin, fun _ => h.1, fun _ => h.2.1, fun _ => h.2.2⟩]; rfl
      · rw [if_neg h, if_neg (fun hh => h ⟨hh.2.1 (by omega), hh.2.2.1 (by omega), hh.2.2.2 (by omega)⟩)]
  · rw [if_pos (by simp; omega), if_neg (fun hh => hin hh.1)]
theorem l0_step (k : Nat) (hsz : i < s.size) : (∃ m k', stepL (s.data.toList.drop i) = some m ∧ k ≤ k' ∧ holtref03_Formed.l0 (k + 10) s i = holtref03_Formed.l0 k' s ((i + m : Nat) : Int)) ∨
    (stepL (s.data.toList.drop i) = none ∧ holtref03_Formed.l0 (k + 10) s i = some false) := by
  have hlen : (s.data.toList.drop i).length = s.size - i := by rw [List.length_drop, Array.length_toList]; rfl
  have hb0 := bt_bN s i 0
  rw [show ((i : Int) + ((0 : Nat) : Int)) = (i : Int) by omega] at hb0
  have hc := bN_lt (s.data.toList.drop i) 0
  have h1lt := bN_lt (s.data.toList.drop i) 1
  have e : stepL (s.data.toList.drop i) = stepN (s.size - i) (bN (s.data.toList.drop i) 0) (bN (s.data.toList.drop i) 1) (bN (s.data.toList.drop i) 2) (bN (s.data.toList.drop i) 3) := by unfold stepL; rw [hlen]
  rw [e]
  rw [holtref03_Formed.l0, if_pos (by omega), if_pos (by omega), hb0, tails_ge (k + 9) _ hc (by omega)]
  have b := br s i hs k
  generalize bN (s.data.toList.drop i) 0 = c at *
  generalize bN (s.data.toList.drop i) 1 = c1 at *
  generalize bN (s.data.toList.drop i) 2 = c2 at *
  generalize bN (s.data.toList.drop i) 3 = c3 at *
  simp only [Option.bind_some]
  have fin : ∀ (n : Nat) (lo hi : Int) (X : Option Nat), n ≤ 3 → (X = if i + n < s.size ∧ (1 ≤ n → lo ≤ (c1 : Int) ∧ (c1 : Int) ≤ hi) ∧ (2 ≤ n → 128 ≤ c2 ∧ c2 ≤ 191) ∧ (3 ≤ n → 128 ≤ c3 ∧ c3 ≤ 191) then some (n + 1) else none) →
      (∃ m k', X = some m ∧ k ≤ k' ∧ holtref03_Formed.j1 (k + 9) s i n lo hi (decide (wrap64 ((i : Int) + n) ≥ (s.size : Int))) = holtref03_Formed.l0 k' s ((i + m : Nat) : Int)) ∨ (X = none ∧ holtref03_Formed.j1 (k + 9) s i n lo hi (decide (wrap64 ((i : Int) + n) ≥ (s.size : Int))) = some false) := by
    intro n lo hi X hn hX
    rw [b n lo hi hn hsz, hX]
    by_cases hcond : i + n < s.size ∧ (1 ≤ n → lo ≤ (c1 : Int) ∧ (c1 : Int) ≤ hi) ∧ (2 ≤ n → 128 ≤ c2 ∧ c2 ≤ 191) ∧ (3 ≤ n → 128 ≤ c3 ∧ c3 ≤ 191)
    · rw [if_pos hcond, if_pos hcond]; exact .inl ⟨n + 1, _, rfl, by omega, rfl⟩
    · rw [if_neg hcond, if_neg hcond]; exact .inr ⟨rfl, rfl⟩
  have pick : ∀ (A B : Prop) [Decidable A] [Decidable B] (x : Nat), (A ↔ B) → (if A then some x else none) = (if B then some x else (none : Option Nat)) := by
    intro A B _ _ x h
    by_cases hA : A
    · rw [if_pos hA, if_pos (h.1 hA)]
    · rw [if_neg hA, if_neg (fun hB => hA (h.2 hB))]
  unfold stepN
  by_cases d0 : c < 128
  · rw [if_pos d0, if_pos d0, if_neg (show ¬ ((0, 128, 191) : Int × Int × Int).1 < 0 by decide)]
    exact fin 0 128 191 _ (by omega) (by rw [if_pos ⟨by omega, by omega, by omega, by omega⟩])
  · rw [if_neg d0, if_neg d0]
    by_cases d1 : 194 ≤ c ∧ c ≤ 223
    · rw [if_pos d1, if_pos d1, if_neg (show ¬ ((1, 128, 191) : Int × Int × Int).1 < 0 by decide)]
      exact fin 1 128 191 _ (by omega) (pick _ _ 2 (by omega))
    · rw [if_neg d1, if_neg d1]
      by_cases d2 : c = 224
      · rw [if_pos d2, if_pos d2, if_neg (show ¬ ((2, 160, 191) : Int × Int × Int).1 < 0 by decide)]
        exact fin 2 160 191 _ (by omega) (pick _ _ 3 (by omega))
      · rw [if_neg d2, if_neg d2]
        by_cases d3 : c = 237
        · rw [if_pos d3, if_pos d3, if_neg (show ¬ ((2, 128, 159) : Int × Int × Int).1 < 0 by decide)]
          exact fin 2 128 159 _ (by omega) (pick _ _ 3 (by omega))
        · rw [if_neg d3, if_neg d3]
          by_cases d4 : 225 ≤ c ∧ c ≤ 239
          · rw [if_pos d4, if_pos d4, if_neg (show ¬ ((2, 128, 191) : Int × Int × Int).1 < 0 by decide)]
            exact fin 2 128 191 _ (by omega) (pick _ _ 3 (by omega))
          · rw [if_neg d4, if_neg d4]
            by_cases d5 : c = 240
            · rw [if_pos d5, if_pos d5, if_neg (show ¬ ((3, 144, 191) : Int × Int × Int).1 < 0 by decide)]
              exact fin 3 144 191 _ (by omega) (pick _ _ 4 (by omega))
            · rw [if_neg d5, if_neg d5]
              by_cases d6 : 241 ≤ c ∧ c ≤ 243
              · rw [if_pos d6, if_pos d6, if_neg (show ¬ ((3, 128, 191) : Int × Int × Int).1 < 0 by decide)]
                exact fin 3 128 191 _ (by omega) (pick _ _ 4 (by omega))
              · rw [if_neg d6, if_neg d6]
                by_cases d7 : c = 244
                · rw [if_pos d7, if_pos d7, if_neg (show ¬ ((3, 128, 143) : Int × Int × Int).1 < 0 by decide)]
                  exact fin 3 128 143 _ (by omega) (pick _ _ 4 (by omega))
                · rw [if_neg d7, if_neg d7, if_pos (show ((-1, 0, 0) : Int × Int × Int).1 < 0 by decide), holtref03_Formed.j1, if_pos rfl]
                  exact .inr ⟨rfl, rfl⟩
end
theorem l0_formed (s : ByteArray) (hs : s.size ≤ 1000000) (n : Nat) : ∀ (i k : Nat), i ≤ s.size → s.size - i ≤ n → 10 * n + 1 ≤ k → holtref03_Formed.l0 k s i = some (formedL n (s.data.toList.drop i)) := by
  have hlen : ∀ i, (s.data.toList.drop i).length = s.size - i := by intro i; rw [List.length_drop, Array.length_toList]; rfl
  have hend : ∀ (i k : Nat), i = s.size → 1 ≤ k → holtref03_Formed.l0 k s i = some true := by
    intro i k hi hk
    obtain ⟨k, rfl⟩ : ∃ m, k = m + 1 := ⟨k - 1, by omega⟩
    rw [holtref03_Formed.l0, if_neg (by omega)]
  induction n with
  | zero => intro i k hi hn hk; rw [hend i k (by omega) (by omega)]; rfl
  | succ n ih =>
    intro i k hi hn hk
    rw [formedL]
    by_cases hsz : i < s.size
    · have hne : s.data.toList.drop i ≠ [] := by
        intro h; have := congrArg List.length h; rw [hlen] at this; simp at this; omega
      rw [if_neg hne]
      obtain ⟨k, rfl⟩ : ∃ m, k = m + 10 := ⟨k - 10, by omega⟩
      rcases l0_step s i hs k hsz with ⟨m, k', h1, h2, h3⟩ | ⟨h1, h2⟩
      · have hm := stepL_le _ hne m h1
        rw [hlen] at hm
        rw [h1, h3, ih (i + m) k' (by omega) (by omega) (by omega)]
        show some (formedL n (List.drop (i + m) s.data.toList)) = some (formedL n (List.drop m (List.drop i s.data.toList)))
        rw [List.drop_drop]
      · rw [h1, h2]
    · rw [if_pos (List.eq_nil_of_length_eq_zero (by rw [hlen]; omega)), hend i k (by omega) (by omega)]
/-- What the reference's Formed tells. -/
theorem formed_tells (s : ByteArray) (hs : s.size ≤ 1000000) : holtref03_Formed.f (10 * s.size + 1) s = some (formedL s.data.toList.length s.data.toList) := by
  have hsz : s.data.toList.length = s.size := by rw [Array.length_toList]; rfl
  unfold holtref03_Formed.f
  have := l0_formed s hs s.size 0 (10 * s.size + 1) (by omega) (by omega) (by omega)
  rw [List.drop_zero] at this
  rw [hsz]
  exact this
end Go.Proofs.YtmdfgjjbllbjmaaDoor
