/-
  Forms that are read, and what is read: plain lemmas on lists of bytes.
-/
import Derived.Test.YtbekfoldohhbpaaDoorPkE
namespace Go.Proofs.YtbekfoldohhbpaaDoor
open Go.RowKit Go.Proofs.YtbekfoldohhbpaaDoorW.PrintWords

/-- The number of a list of digits. -/
def val : List Int → Int
  | [] => 0
  | x :: xs => x % 128 + 128 * val xs
theorem val_snoc (xs : List Int) (y : Int) : val (xs ++ [y]) = val xs + y % 128 * 128 ^ xs.length := by
  induction xs with
  | nil => simp [val]
  | cons x xs ih =>
    rw [List.cons_append, val, val, ih, List.length_cons, Int.pow_succ, Int.mul_add]
    have : 128 * (y % 128 * 128 ^ xs.length) = y % 128 * (128 ^ xs.length * 128) := by rw [Int.mul_comm 128, Int.mul_assoc]
    omega
theorem lo_val (xs : List Int) (k : Nat) (hk : k ≤ xs.length) : lo xs k = val (xs.take k) := by
  induction k with
  | zero => simp [lo, val]
  | succ k ih =>
    have h : xs.getD k 0 = xs[k]'(by omega) := by rw [List.getD_eq_getElem?_getD, List.getElem?_eq_getElem (by omega)]; rfl
    rw [lo, ih (by omega), List.take_succ_eq_append_getElem (by omega), val_snoc, h, List.length_take, Nat.min_eq_left (by omega)]
theorem val_nonneg (xs : List Int) : 0 ≤ val xs := by
  induction xs with
  | nil => simp [val]
  | cons x xs ih => rw [val]; omega

/-- A list of bytes that is one number's form: all but the last one are 128 at least; the last one is less, and not 0, but where it stands alone. -/
def Formed : List Int → Prop
  | [] => False
  | [x] => 0 ≤ x ∧ x < 128
  | x :: y :: xs => 128 ≤ x ∧ x < 256 ∧ Formed (y :: xs) ∧ (xs = [] → y ≠ 0)
theorem formed_val_pos : ∀ (xs : List Int) (y : Int), Formed (y :: xs) → (xs = [] → y ≠ 0) → 0 < val (y :: xs)
  | [], y, h, hy => by have := hy rfl; simp only [Formed] at h; simp only [val]; omega
  | z :: xs, y, h, _ => by
    obtain ⟨_, _, h1, h2⟩ := h
    have := formed_val_pos xs z h1 h2
    rw [val]; omega
theorem formGo_val : ∀ (k : Nat) (xs : List Int), Formed xs → xs.length ≤ k + 1 → formGo k (val xs) = xs
  | 0, [], h, _ => h.elim
  | 0, [x], h, _ => by simp only [Formed] at h; simp only [formGo, val]; rw [Int.emod_eq_of_lt h.1 h.2]; simp
  | 0, x :: y :: xs, _, hl => by simp at hl
  | k + 1, [], h, _ => h.elim
  | k + 1, [x], h, _ => by
    simp only [Formed] at h
    have e : val [x] = x := by simp only [val]; omega
    rw [e, formGo, if_neg (by omega)]
  | k + 1, x :: y :: xs, h, hl => by
    obtain ⟨h0, h1, h2, h3⟩ := h
    have hp := formed_val_pos xs y h2 h3
    have hd : (x % 128 + 128 * val (y :: xs)) / 128 = val (y :: xs) := by omega
    have hm : (x % 128 + 128 * val (y :: xs)) % 128 + 128 = x := by omega
    rw [formGo, val, if_pos (by omega), hd, hm, formGo_val k (y :: xs) h2 (by simp at hl ⊢; omega)]
theorem formed_formGo (k : Nat) : ∀ n : Int, 0 ≤ n → n < 128 * 128 ^ k → Formed (formGo k n) ∧ val (formGo k n) = n ∧ (0 < n → ∀ y, formGo k n = [y] → y ≠ 0) := by
  induction k with
  | zero =>
    intro n h0 h1
    refine ⟨by simp only [formGo, Formed]; omega, by simp only [formGo, val]; omega, fun hn y hy => by simp only [formGo, List.cons.injEq, and_true] at hy; omega⟩
  | succ k ih =>
    intro n h0 h1
    rw [formGo]
    by_cases h : 128 ≤ n
    · obtain ⟨i1, i2, i3⟩ := ih (n / 128) (by omega) (by rw [Int.pow_succ] at h1; omega)
      rw [if_pos h]
      cases hf : formGo k (n / 128) with
      | nil => rw [hf] at i1; exact i1.elim
      | cons y ys =>
        rw [hf] at i1 i2 i3
        refine ⟨⟨by omega, by omega, i1, fun hy => i3 (by omega) y (by rw [hy])⟩, by rw [val, i2]; omega, fun _ z hz => by simp at hz⟩
    · rw [if_neg h]
      exact ⟨by simp only [Formed]; omega, by simp only [val]; omega, fun hn y hy => by simp only [List.cons.injEq, and_true] at hy; omega⟩
theorem formed_form (n : Int) (h0 : 0 ≤ n) (h1 : n ≤ 4294967295) : Formed (form n) ∧ val (form n) = n := by
  rw [form, if_neg (by omega)]
  have := formed_formGo 4 n h0 (by omega)
  exact ⟨this.1, this.2.1⟩
theorem formed_get : ∀ (xs : List Int), Formed xs → (∀ j, j + 1 < xs.length → 128 ≤ xs.getD j 0) ∧ xs.getD (xs.length - 1) 0 < 128 ∧ 1 ≤ xs.length ∧ (1 < xs.length → xs.getD (xs.length - 1) 0 ≠ 0)
  | [], h => h.elim
  | [x], h => by simp only [Formed] at h; simp; omega
  | x :: y :: xs, ⟨h0, h1, h2, h3⟩ => by
    obtain ⟨i1, i2, i3, i4⟩ := formed_get (y :: xs) h2
    refine ⟨?_, ?_, by simp, ?_⟩
    · intro j hj
      cases j with
      | zero => simpa using h0
      | succ j => have := i1 j (by simp at hj ⊢; omega); simpa using this
    · simpa using i2
    · intro _
      cases xs with
      | nil => simpa using h3 rfl
      | cons z zs => have := i4 (by simp); simpa using this

/-- A form, whatever is behind it, is read. -/
theorem rdNum_form (n : Int) (h0 : 0 ≤ n) (h1 : n ≤ 4294967295) (ys : List Int) (most : Int) : rdNum (form n ++ ys) 0 most = if most < n then (0, [], 3) else (n, ys, 0) := by
  obtain ⟨hf, hv⟩ := formed_form n h0 h1
  obtain ⟨g1, g2, g3, g4⟩ := formed_get _ hf
  have h5 := form_length n
  have hget : ∀ j, j < (form n).length → (form n ++ ys).getD j 0 = (form n).getD j 0 := by
    intro j hj; rw [List.getD_eq_getElem?_getD, List.getD_eq_getElem?_getD, List.getElem?_append_left hj]
  have hl : (form n).length - 1 + 1 = (form n).length := by omega
  rw [rdNum_some (form n ++ ys) most ((form n).length - 1) (fun j hj => by rw [hget j (by omega)]; exact g1 j (by omega)) (by simp; omega) (by omega) (by rw [hget _ (by omega)]; exact g2), hget _ (by omega), hl, lo_val _ _ (by simp), List.take_left, hv, List.drop_left]
  by_cases hm : most < n
  · rw [if_pos (.inr (.inr hm)), if_pos hm]
  · rw [if_neg hm, if_neg ?_]
    rintro (⟨hz, hp⟩ | h | h)
    · exact g4 (by omega) hz
    · omega
    · exact hm h
/-- What is cut off within a form is too short. -/
theorem rdNum_cut (n : Int) (h0 : 0 ≤ n) (h1 : n ≤ 4294967295) (k : Nat) (hk : k < (form n).length) (most : Int) : rdNum ((form n).take k) 0 most = (0, [], 2) := by
  obtain ⟨hf, hv⟩ := formed_form n h0 h1
  obtain ⟨g1, g2, g3, g4⟩ := formed_get _ hf
  have h5 := form_length n
  have hlen : ((form n).take k).length = k := by rw [List.length_take]; omega
  rw [rdNum_none _ most k (fun j hj => by rw [List.getD_eq_getElem?_getD, List.getElem?_take, if_pos hj, ← List.getD_eq_getElem?_getD]; exact g1 j (by omega)) (.inr ⟨by rw [hlen], by omega⟩), hlen, if_pos (by omega)]
theorem formed_take : ∀ (l : Nat) (xs : List Int), (∀ x ∈ xs, 0 ≤ x ∧ x < 256) → l < xs.length → (∀ j, j < l → 128 ≤ xs.getD j 0) → xs.getD l 0 < 128 → (0 < l → xs.getD l 0 ≠ 0) → Formed (xs.take (l + 1))
  | _, [], _, h, _, _, _ => by simp at h
  | 0, x :: xs, hx, _, _, h, _ => by
    have := hx x (by simp)
    simp only [List.getD_cons_zero] at h
    simp only [List.take_succ_cons, List.take_zero, Formed]; omega
  | l + 1, [x], _, h, _, _, _ => by simp at h
  | l + 1, x :: y :: xs, hx, hl, hall, h, hz => by
    have ih := formed_take l (y :: xs) (fun z hz' => hx z (List.mem_cons_of_mem _ hz')) (by simp at hl ⊢; omega) (fun j hj => by have := hall (j + 1) (by omega); simpa using this) (by simpa using h) (fun hl' => by have := hz (by omega); simpa using this)
    have h0 := hall 0 (by omega)
    have h1 := hx x (by simp)
    simp only [List.getD_cons_zero] at h0
    rw [List.take_succ_cons] at ih ⊢
    refine ⟨h0, h1.2, ih, fun hxs => ?_⟩
    have := hz (by omega)
    cases l with
    | zero => simpa using this
    | succ l => cases xs with
      | nil => simp only [List.length_cons, List.length_nil] at hl; omega
      | cons z zs => simp at hxs
/-- What any bytes are read as. -/
theorem rdNum_cases (xs : List Int) (most : Int) (hx : ∀ x ∈ xs, 0 ≤ x ∧ x < 256) :
    (∃ e, rdNum xs 0 most = (0, [], e) ∧ (e = 2 ∨ e = 3)) ∨ ∃ (k : Nat) (n : Int), rdNum xs 0 most = (n, xs.drop k, 0) ∧ 1 ≤ k ∧ k ≤ 5 ∧ k ≤ xs.length ∧ form n = xs.take k ∧ 0 ≤ n ∧ n ≤ 4294967295 ∧ n ≤ most := by
  have key : ∀ m, m ≤ 5 → m ≤ xs.length → (∀ j, j < m → 128 ≤ xs.getD j 0) ∨ ∃ l, l < m ∧ (∀ j, j < l → 128 ≤ xs.getD j 0) ∧ xs.getD l 0 < 128 := by
    intro m
    induction m with
    | zero => intro _ _; exact .inl (fun j hj => by omega)
    | succ m ih =>
      intro h5 hl
      rcases ih (by omega) (by omega) with h | ⟨l, h1, h2, h3⟩
      · by_cases hm : 128 ≤ xs.getD m 0
        · exact .inl (all_snoc h hm)
        · exact .inr ⟨m, by omega, h, by omega⟩
      · exact .inr ⟨l, by omega, h2, h3⟩
  have hnone : ∀ m, (∀ j, j < m → 128 ≤ xs.getD j 0) → (m = 5 ∧ m ≤ xs.length ∨ m = xs.length ∧ m < 5) → ∃ e, rdNum xs 0 most = (0, [], e) ∧ (e = 2 ∨ e = 3) := by
    intro m h hm
    exact ⟨_, rdNum_none xs most m h hm, by split <;> simp⟩
  have hsome : ∀ l, l < 5 → l < xs.length → (∀ j, j < l → 128 ≤ xs.getD j 0) → xs.getD l 0 < 128 → (∃ e, rdNum xs 0 most = (0, [], e) ∧ (e = 2 ∨ e = 3)) ∨ ∃ (k : Nat) (n : Int), rdNum xs 0 most = (n, xs.drop k, 0) ∧ 1 ≤ k ∧ k ≤ 5 ∧ k ≤ xs.length ∧ form n = xs.take k ∧ 0 ≤ n ∧ n ≤ 4294967295 ∧ n ≤ most := by
    intro l h5 hl hall hy
    have h := rdNum_some xs most l hall hl h5 hy
    by_cases hb : (xs.getD l 0 = 0 ∧ 0 < l) ∨ 4294967295 < lo xs (l + 1) ∨ most < lo xs (l + 1)
    · rw [if_pos hb] at h; exact .inl ⟨3, h, .inr rfl⟩
    · rw [if_neg hb] at h
      have hfm := formed_take l xs hx hl hall hy (fun hl' hz => hb (.inl ⟨hz, hl'⟩))
      have hlv := lo_val xs (l + 1) (by omega)
      have hn := val_nonneg (xs.take (l + 1))
      refine .inr ⟨l + 1, lo xs (l + 1), h, by omega, by omega, by omega, ?_, by omega, by omega, by omega⟩
      rw [form, if_neg (by omega), hlv]
      exact formGo_val 4 _ hfm (by rw [List.length_take]; omega)
  rcases Nat.lt_or_ge xs.length 5 with h5 | h5
  · rcases key xs.length (by omega) (Nat.le_refl _) with h | ⟨l, h1, h2, h3⟩
    · exact .inl (hnone _ h (.inr ⟨rfl, h5⟩))
    · exact hsome l (by omega) h1 h2 h3
  · rcases key 5 (by omega) h5 with h | ⟨l, h1, h2, h3⟩
    · exact .inl (hnone _ h (.inl ⟨rfl, h5⟩))
    · exact hsome l h1 (by omega) h2 h3

theorem num_calls_eq (w : World) (a d : Nat) (xs : List Int) (e most : Int) {n : Int} {ys : List Int} {e' : Int} (h : RD 63 w a d xs e) (hf : rdNum xs e most = (n, ys, e')) :
    Calls Tryd.prog 39 #[.pointer (some ⟨a, 0, none⟩), .int .i64 most] w fun r w' => r = .returned (.int .i64 n) ∧ RD 63 w' a d ys e' ∧ Only a w w' := by
  have := num_calls w a d xs e most h
  rw [hf] at this
  exact this
theorem text_calls_eq (w : World) (a d : Nat) (xs : List Int) (e most : Int) {s : ByteArray} {ys : List Int} {e' : Int} (h : RD 63 w a d xs e) (he : 0 ≤ e ∧ e ≤ 3) (hf : rdText xs e most = (s, ys, e')) :
    Calls Tryd.prog 40 #[.pointer (some ⟨a, 0, none⟩), .int .i64 most] w fun r w' => r = .returned (.string s) ∧ RD 63 w' a d ys e' ∧ Only a w w' := by
  have := text_calls w a d xs e most h he
  rw [hf] at this
  exact this
end Go.Proofs.YtbekfoldohhbpaaDoor
