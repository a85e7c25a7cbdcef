/-
  Paths and names: plain lemmas on lists of bytes.
-/
import Derived.Test.YtmdfgjjbllbjmaaDoorNmA
import Derived.Lib.SplitLaws
import Derived.Lib.IndexMore
import Derived.Lib.Replace
import Derived.Lib.Join
namespace Go.Proofs.YtmdfgjjbllbjmaaDoor
open Go.Lib

/-- What is between strokes. -/
def segs : List UInt8 → List (List UInt8)
  | [] => [[]]
  | c :: l => if c = 47 then [] :: segs l else (c :: (segs l).headD []) :: (segs l).tail
/-- Names with a stroke ahead of each. -/
def strokes (xs : List (List UInt8)) : List UInt8 := xs.flatMap (47 :: ·)

theorem segs_cons (l : List UInt8) : ∃ x r, segs l = x :: r := by
  cases l with
  | nil => exact ⟨_, _, rfl⟩
  | cons c l =>
    rw [segs]
    split
    · exact ⟨_, _, rfl⟩
    · exact ⟨_, _, rfl⟩
theorem segs_strokes (l : List UInt8) : strokes (segs l) = 47 :: l := by
  induction l with
  | nil => rfl
  | cons c l ih =>
    obtain ⟨x, r, h⟩ := segs_cons l
    rw [segs]
    by_cases hc : c = 47
    · rw [if_pos hc]; subst hc
      show 47 :: strokes (segs l) = _
      rw [ih]
    · rw [if_neg hc, h]
      rw [h] at ih
      simp only [strokes, List.flatMap_cons, List.cons_append, List.cons.injEq, true_and] at ih
      simp only [strokes, List.headD_cons, List.tail_cons, List.flatMap_cons, List.cons_append, List.cons.injEq, true_and]
      exact ih
theorem segs_length (l : List UInt8) : (segs l).length = l.count 47 + 1 := by
  induction l with
  | nil => rfl
  | cons c l ih =>
    obtain ⟨x, r, h⟩ := segs_cons l
    rw [segs]
    by_cases hc : c = 47
    · subst hc; rw [if_pos rfl, List.length_cons, ih, List.count_cons_self]
    · rw [if_neg hc, List.count_cons_of_ne (by simpa using hc), h]
      rw [h] at ih
      simpa using ih
theorem segs_clean (x l : List UInt8) (h : 47 ∉ x) : segs (x ++ l) = (x ++ (segs l).headD []) :: (segs l).tail := by
  induction x with
  | nil => obtain ⟨y, r, h⟩ := segs_cons l; rw [List.nil_append, h]; rfl
  | cons c x ih =>
    simp only [List.mem_cons, not_or] at h
    rw [List.cons_append, segs, if_neg (fun e => h.1 e.symm), ih h.2]
    rfl
theorem segs_join (xs : List (List UInt8)) : ∀ x : List UInt8, 47 ∉ x → (∀ y ∈ xs, 47 ∉ y) → segs (x ++ strokes xs) = x :: xs := by
  induction xs with
  | nil => intro x h _; rw [segs_clean x _ h]; simp [strokes, segs]
  | cons y xs ih =>
    intro x h hall
    rw [segs_clean x _ h]
    have e : strokes (y :: xs) = 47 :: (y ++ strokes xs) := by simp [strokes]
    rw [e, segs, if_pos rfl, ih y (hall y (by simp)) (fun z hz => hall z (by simp [hz]))]
    simp
theorem segs_le (l : List UInt8) : ∀ x ∈ segs l, x.length ≤ l.length := by
  induction l with
  | nil => simp [segs]
  | cons c l ih =>
    obtain ⟨y, r, h⟩ := segs_cons l
    rw [segs]
    rw [h] at ih
    intro x hx
    rw [h] at hx
    by_cases hc : c = 47
    · rw [if_pos hc] at hx
      rcases List.mem_cons.1 hx with rfl | h2
      · simp
      · have := ih x h2; simp only [List.length_cons]; omega
    · rw [if_neg hc] at hx
      rcases List.mem_cons.1 hx with rfl | h2
      · have := ih y (by simp); simp only [List.headD_cons, List.length_cons]; omega
      · have := ih x (by simp at h2; simp [h2]); simp only [List.length_cons]; omega
theorem splitK_segs (l : List UInt8) : splitK [47] 0 (l.count 47) l = segs l := by
  induction l with
  | nil => rfl
  | cons c l ih =>
    rw [segs]
    by_cases hc : c = 47
    · subst hc
      rw [if_pos rfl, List.count_cons_self, splitK]
      have hix : index (47 :: l) [47] = 0 := by rw [index]; simp [List.isPrefixOf]
      rw [hix, if_neg (by decide)]
      simp [ih]
    · rw [if_neg hc, List.count_cons_of_ne (by simpa using hc), ← ih]
      cases hk : l.count 47 with
      | zero => rfl
      | succ k =>
        obtain ⟨i, hi⟩ := index_of_count (s := l) (old := [47]) (by rw [count_one, hk]; omega)
        have hp : ([47] : List UInt8).isPrefixOf (c :: l) = false := by simp [List.isPrefixOf]; exact fun e => hc e.symm
        have hix : index (c :: l) [47] = ((i + 1 : Nat) : Int) := by
          rw [index, hp, hi, if_neg (by decide), if_neg (by simp)]; omega
        have n1 : ¬ ((((i + 1 : Nat) : Int) == -1) = true) := by rw [beq_iff_eq]; omega
        have n2 : ¬ (((i : Int) == -1) = true) := by rw [beq_iff_eq]; omega
        rw [splitK, hix, if_neg n1, splitK, hi, if_neg n2]
        simp only [Int.toNat_natCast, List.length_singleton, Nat.add_zero, List.take_succ_cons, List.drop_succ_cons, List.headD_cons, List.tail_cons]
theorem splitB_segs (s : ByteArray) : (splitB ⟨#[47]⟩ 0 (countB s ⟨#[47]⟩) s).map (·.data.toList) = segs s.data.toList := by
  rw [splitB_data]
  show splitK [47] 0 (count s.data.toList [47]) s.data.toList = _
  rw [count_one]
  exact splitK_segs _
theorem countB_segs (s : ByteArray) : countB s ⟨#[47]⟩ + 1 = (segs s.data.toList).length := by
  rw [segs_length, ← count_one]

theorem nameB_clean {l : List UInt8} (h : nameB l = true) : 47 ∉ l := by
  unfold nameB at h
  simp only [Bool.and_eq_true, List.all_eq_true] at h
  intro hm
  have := h.2.1 47 hm
  revert this
  decide
theorem nameB_len {l : List UInt8} (h : nameB l = true) : 1 ≤ l.length ∧ l.length ≤ 20 := by
  unfold nameB at h
  simp only [Bool.and_eq_true, decide_eq_true_eq] at h
  exact h.1

/-- A path's names, or that it is none. -/
def pathL (l : List UInt8) : Option (List (List UInt8)) :=
  if l.length ≤ 400 ∧ l.head? = some 47 then (if l.tail = [] then some [] else if (segs l.tail).all nameB = true then some (segs l.tail) else none) else none
/-- Names' path. -/
def pathS (xs : List (List UInt8)) : List UInt8 := if xs = [] then [47] else strokes xs
def joinP (xs : List (List UInt8)) : Option (List UInt8) := if xs.all nameB = true ∧ (pathS xs).length ≤ 400 then some (pathS xs) else none

theorem pathL_some {l : List UInt8} {xs : List (List UInt8)} (h : pathL l = some xs) : l = pathS xs ∧ xs.all nameB = true ∧ l.length ≤ 400 := by
  unfold pathL at h
  by_cases h1 : l.length ≤ 400 ∧ l.head? = some 47
  · rw [if_pos h1] at h
    cases l with
    | nil => simp at h1
    | cons c r =>
      obtain ⟨h2, h3⟩ := h1
      simp only [List.head?_cons, Option.some.injEq] at h3
      subst h3
      by_cases hr : r = []
      · rw [if_pos (show (47 :: r).tail = [] from hr)] at h
        injection h with h
        subst h hr
        exact ⟨rfl, rfl, h2⟩
      · rw [if_neg (show ¬ (47 :: r).tail = [] from hr)] at h
        by_cases ha : (segs r).all nameB = true
        · rw [if_pos (show (segs (47 :: r).tail).all nameB = true from ha)] at h
          injection h with h
          subst h
          obtain ⟨x, t, hs⟩ := segs_cons r
          refine ⟨?_, ha, h2⟩
          show 47 :: r = pathS (segs r)
          rw [pathS, if_neg (by rw [hs]; simp), segs_strokes]
        · rw [if_neg (show ¬ (segs (47 :: r).tail).all nameB = true from ha)] at h; cases h
  · rw [if_neg h1] at h; cases h
theorem all_clean {xs : List (List UInt8)} (h : xs.all nameB = true) : ∀ y ∈ xs, 47 ∉ y := fun y hy => nameB_clean (List.all_eq_true.1 h y hy)
theorem pathL_pathS {xs : List (List UInt8)} (h : xs.all nameB = true) (hl : (pathS xs).length ≤ 400) : pathL (pathS xs) = some xs := by
  cases xs with
  | nil => rfl
  | cons x xs =>
    have hc := all_clean h
    have hx : nameB x = true := List.all_eq_true.1 h x (by simp)
    have hn := nameB_len hx
    have e : pathS (x :: xs) = 47 :: (x ++ strokes xs) := by simp [pathS, strokes]
    have hs := segs_join xs x (hc x (by simp)) (fun y hy => hc y (by simp [hy]))
    have ht : x ++ strokes xs ≠ [] := by
      intro h0
      have : x = [] := (List.append_eq_nil_iff.1 h0).1
      rw [this] at hn; simp at hn
    rw [pathL, if_pos ⟨hl, by rw [e]; rfl⟩, e, List.tail_cons, if_neg ht, hs, if_pos h]
theorem pathL_iff {l : List UInt8} {xs : List (List UInt8)} : pathL l = some xs ↔ l = pathS xs ∧ xs.all nameB = true ∧ l.length ≤ 400 :=
  ⟨pathL_some, fun ⟨h1, h2, h3⟩ => by rw [h1]; exact pathL_pathS h2 (by rw [← h1]; exact h3)⟩
theorem joinP_some {xs : List (List UInt8)} {l : List UInt8} (h : joinP xs = some l) : pathL l = some xs := by
  unfold joinP at h
  split at h
  · rename_i hh
    injection h with h
    rw [← h]
    exact pathL_pathS hh.1 hh.2
  · cases h
theorem joinP_iff {xs : List (List UInt8)} {l : List UInt8} : joinP xs = some l ↔ pathL l = some xs :=
  ⟨joinP_some, fun h => by obtain ⟨h1, h2, h3⟩ := pathL_some h; rw [joinP, if_pos ⟨h2, by rw [← h1]; exact h3⟩, h1]⟩

/-- A stroke, and the names joined by strokes. -/
theorem stroke_join (xs : List (List UInt8)) : 47 :: join xs [47] = pathS xs := by
  cases xs with
  | nil => rfl
  | cons x xs =>
    rw [join_cons, pathS, if_neg (by simp)]
    simp only [strokes, List.flatMap_cons, joinTail, List.cons_append, List.cons.injEq, true_and]
    rw [List.flatMap_def]
    rfl
theorem strokes_count (xs : List (List UInt8)) : (strokes xs).count 47 = (xs.map (List.count 47)).sum + xs.length := by
  induction xs with
  | nil => rfl
  | cons x xs ih =>
    rw [strokes, List.flatMap_cons, List.cons_append, List.count_cons_self, List.count_append]
    rw [strokes] at ih
    rw [ih, List.map_cons, List.sum_cons, List.length_cons]; omega
theorem sum_zero : ∀ {l : List Nat}, l.sum = 0 → ∀ n ∈ l, n = 0
  | [], _, n, h => by simp at h
  | a :: l, h, n, hn => by
    rw [List.sum_cons] at h
    rcases List.mem_cons.1 hn with rfl | h2
    · omega
    · exact sum_zero (l := l) (by omega) n h2
/-- What is split into as many as were joined, are those. -/
theorem pathL_back {xs ys : List (List UInt8)} (h : pathL (pathS xs) = some ys) (hl : ys.length = xs.length) : joinP xs = some (pathS xs) := by
  have hy := pathL_some h
  cases xs with
  | nil => exact joinP_iff.2 (by rw [h]; rw [List.length_eq_zero_iff.1 hl])
  | cons x xs =>
    cases ys with
    | nil => simp at hl
    | cons y ys =>
      have e : strokes (x :: xs) = strokes (y :: ys) := by
        have := hy.1
        rwa [pathS, pathS, if_neg (by simp), if_neg (by simp)] at this
      have hc := all_clean hy.2.1
      have c1 := strokes_count (x :: xs)
      have c2 := strokes_count (y :: ys)
      have z : ∀ zs : List (List UInt8), (∀ y ∈ zs, 47 ∉ y) → (zs.map (List.count 47)).sum = 0 := by
        intro zs
        induction zs with
        | nil => intro _; rfl
        | cons a zs ih =>
          intro ha
          rw [List.map_cons, List.sum_cons, ih (fun y hy => ha y (by simp [hy])), List.count_eq_zero.2 (ha a (by simp))]
      rw [z _ hc] at c2
      rw [e, c2] at c1
      have hz : ((x :: xs).map (List.count 47)).sum = 0 := by omega
      have hcx : ∀ a ∈ x :: xs, 47 ∉ a := fun a ha => List.count_eq_zero.1 (sum_zero hz _ (List.mem_map_of_mem ha))
      have e2 : x ++ strokes xs = y ++ strokes ys := by
        simpa [strokes] using e
      have s1 := segs_join xs x (hcx x (by simp)) (fun b hb => hcx b (by simp [hb]))
      have s2 := segs_join ys y (hc y (by simp)) (fun b hb => hc b (by simp [hb]))
      rw [e2, s2] at s1
      injection s1 with q1 q2
      subst q1 q2
      rw [joinP, if_pos ⟨hy.2.1, hy.2.2⟩]
theorem joinP_cases (xs : List (List UInt8)) : (∃ ys, pathL (pathS xs) = some ys ∧ ys.length = xs.length ∧ joinP xs = some (pathS xs)) ∨ ((pathL (pathS xs) = none ∨ ∃ ys, pathL (pathS xs) = some ys ∧ ys.length ≠ xs.length) ∧ joinP xs = none) := by
  cases h : pathL (pathS xs) with
  | none =>
    refine .inr ⟨.inl rfl, ?_⟩
    cases hj : joinP xs with
    | none => rfl
    | some l =>
      have := joinP_some hj
      have h2 := (pathL_some this).1
      rw [← h2, this] at h; cases h
  | some ys =>
    by_cases hl : ys.length = xs.length
    · exact .inl ⟨ys, rfl, hl, pathL_back h hl⟩
    · refine .inr ⟨.inr ⟨ys, rfl, hl⟩, ?_⟩
      cases hj : joinP xs with
      | none => rfl
      | some l =>
        have := joinP_some hj
        have h2 := (pathL_some this).1
        rw [← h2, this] at h
        injection h with h
        rw [h] at hl; exact absurd rfl hl
end Go.Proofs.YtmdfgjjbllbjmaaDoor
