/-
  Paths: plain laws of splitting, joining and cutting.
-/
import Derived.Test.YtmdfgjjbllbjmaaDoorPaF
namespace Go.Proofs.YtmdfgjjbllbjmaaDoor
open Go.Lib

theorem segs_mid (a b : List UInt8) : segs (a ++ 47 :: b) = segs a ++ segs b := by
  induction a with
  | nil => show segs (47 :: b) = [] :: segs b; rw [segs, if_pos rfl]
  | cons c a ih =>
    obtain ⟨x, r, h⟩ := segs_cons a
    rw [List.cons_append, segs, segs]
    by_cases hc : c = 47
    · rw [if_pos hc, if_pos hc, ih]; rfl
    · rw [if_neg hc, if_neg hc, ih, h]; rfl
/-- What is split is joined again. -/
theorem joinR_splitR {s : ByteArray} (h : (splitR s).2 = 0) : joinR (splitR s).1 = (s, 0) := by
  cases hp : pathL s.data.toList with
  | none => rw [splitR_none hp] at h; cases h
  | some xs =>
    rw [splitR_some hp, joinR, datas, data_mkB, joinP_iff.2 hp]
/-- What is joined is split again. -/
theorem splitR_joinR {xs : List ByteArray} (h : (joinR xs).2 = 0) : splitR (joinR xs).1 = (xs, 0) := by
  cases hp : joinP (datas xs) with
  | none => rw [joinR, hp] at h; cases h
  | some l =>
    rw [joinR, hp]
    have := joinP_some hp
    rw [splitR_some (s := mkB l) (xs := datas xs) this, datas, map_mkB]
theorem joinR_err {xs : List ByteArray} (h : (joinR xs).2 ≠ 0) : joinR xs = (⟨#[]⟩, 4) := by
  cases hp : joinP (datas xs) with
  | none => rw [joinR, hp]
  | some l => rw [joinR, hp] at h; exact absurd rfl h
theorem splitR_err {s : ByteArray} (h : (splitR s).2 ≠ 0) : splitR s = ([], 4) := by
  cases hp : pathL s.data.toList with
  | none => exact splitR_none hp
  | some l => rw [splitR_some hp] at h; exact absurd rfl h
theorem splitR_len (s : ByteArray) : (splitR s).1.length ≤ 400 ∧ (pathS (datas (splitR s).1)).length ≤ 400 := by
  cases hp : pathL s.data.toList with
  | none => rw [splitR_none hp]; simp [pathS]
  | some xs =>
    obtain ⟨e, _, hl⟩ := pathL_some hp
    have := pathS_len xs
    rw [splitR_some hp]
    simp only [List.length_map, datas, data_mkB]
    rw [← e]
    rw [← e] at this
    exact ⟨by omega, hl⟩
theorem pathS_bound (xs : List ByteArray) (n : Nat) (h : ∀ x ∈ xs, x.size ≤ n) : (pathS (datas xs)).length ≤ xs.length * (n + 1) + 1 := by
  have key : (strokes (datas xs)).length ≤ xs.length * (n + 1) := by
    induction xs with
    | nil => simp [strokes]
    | cons x xs ih =>
      have h1 := ih (fun y hy => h y (by simp [hy]))
      have h2 := h x (by simp)
      have h3 : x.data.toList.length = x.size := by rw [Array.length_toList]; rfl
      simp only [datas, List.map_cons, strokes, List.flatMap_cons, List.length_append, List.length_cons] at h1 ⊢
      rw [Nat.add_mul]
      omega
  unfold pathS
  split
  · simp
  · omega

theorem splitR_cons {s : ByteArray} {x : List UInt8} {xs : List (List UInt8)} (h : pathL s.data.toList = some (x :: xs)) : s = mkB (strokes (x :: xs)) := by
  have e := (pathL_some h).1
  rw [pathS, if_neg (by simp)] at e
  rw [← e]
/-- Names that are in a path, without the last one, are a path. -/
theorem pathL_drop {l : List UInt8} {x : List UInt8} {xs : List (List UInt8)} (h : pathL l = some (x :: xs)) : pathL (pathS (x :: xs).dropLast) = some (x :: xs).dropLast := by
  obtain ⟨e, ha, hl⟩ := pathL_some h
  refine pathL_pathS (List.all_eq_true.2 fun y hy => List.all_eq_true.1 ha y (List.dropLast_subset _ hy)) ?_
  have := pathS_drop (x :: xs)
  rw [← e] at this
  omega
/-- What a cut leaves, and what is cut off. -/
theorem cut_law {s : ByteArray} {x : List UInt8} {xs : List (List UInt8)} (h : pathL s.data.toList = some (x :: xs)) :
    ∃ up last : List UInt8, cutR s = (mkB up, mkB last, 0) ∧ splitR (mkB up) = ((x :: xs).dropLast.map mkB, 0) ∧ nameB last = true ∧ last = (x :: xs).getLast (by simp) ∧
      ((up = [47] ∧ s = mkB (up ++ last)) ∨ (up ≠ [47] ∧ s = mkB (up ++ 47 :: last))) ∧ up.length ≤ 400 ∧ last.length ≤ 20 := by
  obtain ⟨e, ha, hl⟩ := pathL_some h
  have hx := splitR_cons h
  have hlast : nameB ((x :: xs).getLast (by simp)) = true := List.all_eq_true.1 ha _ (List.getLast_mem _)
  have hd := pathL_drop h
  have hcat := List.dropLast_concat_getLast (l := x :: xs) (by simp)
  have hs : strokes (x :: xs) = strokes (x :: xs).dropLast ++ 47 :: (x :: xs).getLast (by simp) := by
    conv => lhs; rw [← hcat, strokes_app]
    simp [strokes]
  have hup := pathS_drop (x :: xs)
  rw [← e] at hup
  refine ⟨pathS (x :: xs).dropLast, (x :: xs).getLast (by simp), by rw [cutR, h], splitR_some hd, hlast, rfl, ?_, by omega, (nameB_len hlast).2⟩
  by_cases hn : (x :: xs).dropLast = []
  · refine .inl ⟨by rw [hn]; rfl, ?_⟩
    rw [hx, hs, hn]; rfl
  · have hup2 : pathS (x :: xs).dropLast = strokes (x :: xs).dropLast := by rw [pathS, if_neg hn]
    refine .inr ⟨?_, by rw [hup2, hx, hs]⟩
    rw [hup2]
    intro h47
    obtain ⟨y, ys, hy⟩ := List.exists_cons_of_ne_nil hn
    have hyn : nameB y = true := List.all_eq_true.1 ha y (List.dropLast_subset _ (by rw [hy]; simp))
    have := nameB_len hyn
    rw [hy] at h47
    have h2 := congrArg List.length h47
    simp only [strokes, List.flatMap_cons, List.length_append, List.length_cons, List.length_nil] at h2
    omega

/-- A path, a stroke and a text: what it is split into. -/
theorem longer_law {s t : ByteArray} {xs : List (List UInt8)} (h : pathL s.data.toList = some xs) (more : List UInt8) (hm : more = if xs = [] then s.data.toList ++ t.data.toList else s.data.toList ++ 47 :: t.data.toList) :
    (xs = [] ∧ t.data.toList = [] ∧ pathL more = some []) ∨ (¬ (xs = [] ∧ t.data.toList = []) ∧ pathL more = if more.length ≤ 400 then (if (segs t.data.toList).all nameB = true then some (xs ++ segs t.data.toList) else none) else none) := by
  obtain ⟨e, ha, hl⟩ := pathL_some h
  by_cases hxs : xs = []
  · subst hxs
    rw [if_pos rfl] at hm
    have es : s.data.toList = [47] := e
    rw [es] at hm
    by_cases ht : t.data.toList = []
    · refine .inl ⟨rfl, ht, ?_⟩
      rw [hm, ht]; rfl
    · refine .inr ⟨fun h => ht h.2, ?_⟩
      by_cases hlen : more.length ≤ 400
      · have ht2 : more.tail = t.data.toList := by rw [hm]; rfl
        rw [if_pos hlen, pathL, if_pos ⟨hlen, by rw [hm]; rfl⟩, ht2, if_neg ht, List.nil_append]
      · rw [if_neg hlen, pathL, if_neg (fun h => hlen h.1)]
  · rw [if_neg hxs] at hm
    refine .inr ⟨fun h => hxs h.1, ?_⟩
    obtain ⟨x, r, rfl⟩ := List.exists_cons_of_ne_nil hxs
    have es : s.data.toList = 47 :: (x ++ strokes r) := by rw [e]; simp [pathS, strokes]
    have hc := all_clean ha
    have hsg := segs_join r x (hc x (by simp)) (fun y hy => hc y (by simp [hy]))
    by_cases hlen : more.length ≤ 400
    · have ht2 : more.tail = (x ++ strokes r) ++ 47 :: t.data.toList := by rw [hm, es]; rfl
      rw [if_pos hlen, pathL, if_pos ⟨hlen, by rw [hm, es]; rfl⟩, ht2, if_neg (by simp), segs_mid, hsg, List.all_append, ha, Bool.true_and]
    · rw [if_neg hlen, pathL, if_neg (fun h => hlen h.1)]
/-- A text behind a stroke. -/
theorem part_law (t : ByteArray) (ht : t.data.toList ≠ []) (hl : t.data.toList.length ≤ 100) : pathL (47 :: t.data.toList) = if (segs t.data.toList).all nameB = true then some (segs t.data.toList) else none := by
  have hlen : (47 :: t.data.toList).length ≤ 400 := by rw [List.length_cons]; omega
  rw [pathL, if_pos ⟨hlen, rfl⟩, if_neg (show ¬ (47 :: t.data.toList).tail = [] from ht)]; rfl
theorem one_law (l : List UInt8) (h : (segs l).all nameB = true) : nameB l = decide ((segs l).length = 1) := by
  by_cases h47 : 47 ∈ l
  · have hc : ¬ (segs l).length = 1 := by
      rw [segs_length]
      have := List.count_pos_iff.2 h47
      omega
    rw [decide_eq_false hc]
    cases hb : nameB l with
    | false => rfl
    | true => exact absurd h47 (nameB_clean hb)
  · have hs : segs l = [l] := by
      have := segs_clean l [] h47
      rw [List.append_nil] at this
      rw [this]; simp [segs]
    rw [hs] at h ⊢
    simpa using h
/-- What is ahead of a stroke in a path is a path of fewer names. -/
theorem prefix_law {l : List UInt8} {xs : List (List UInt8)} (h : pathL l = some xs) (i : Nat) (h1 : 1 ≤ i) (h2 : i < l.length) (h47 : l[i] = 47) : ∃ ys, pathL (l.take i) = some ys ∧ ys.length < xs.length := by
  obtain ⟨e, ha, hl⟩ := pathL_some h
  have hne : xs ≠ [] := by
    rintro rfl
    rw [e] at h2; simp [pathS] at h2; omega
  obtain ⟨x, r, rfl⟩ := List.exists_cons_of_ne_nil hne
  have es : l = 47 :: (x ++ strokes r) := by rw [e]; simp [pathS, strokes]
  have hc := all_clean ha
  have hsg := segs_join r x (hc x (by simp)) (fun y hy => hc y (by simp [hy]))
  obtain ⟨j, rfl⟩ : ∃ j, i = j + 1 := ⟨i - 1, by omega⟩
  generalize x ++ strokes r = R at es hsg
  subst es
  simp only [List.getElem_cons_succ] at h47
  simp only [List.length_cons] at h2
  have hj : j < R.length := by omega
  have hR : R = R.take j ++ 47 :: R.drop (j + 1) := by
    have h3 := (List.take_append_drop j R).symm
    rw [List.drop_eq_getElem_cons hj, h47] at h3
    exact h3
  have hsp : segs (R.take j) ++ segs (R.drop (j + 1)) = x :: r := by rw [← segs_mid, ← hR, hsg]
  have hall : (segs (R.take j)).all nameB = true := by
    rw [← hsp, List.all_append, Bool.and_eq_true] at ha
    exact ha.1
  have hnn : R.take j ≠ [] := by
    intro h0
    rw [h0] at hall
    revert hall
    decide +kernel
  have hlen : (47 :: R.take j).length ≤ 400 := by
    rw [List.length_cons, List.length_take]
    simp only [List.length_cons] at hl
    omega
  refine ⟨segs (R.take j), ?_, ?_⟩
  · rw [List.take_succ_cons, pathL, if_pos ⟨hlen, rfl⟩, if_neg (show ¬ (47 :: R.take j).tail = [] from hnn)]
    exact if_pos hall
  · rw [← hsp, List.length_append]
    obtain ⟨y, ys, hy⟩ := segs_cons (R.drop (j + 1))
    rw [hy]; simp
/-- Cut so often a path is the path of so many names less. -/
theorem cut_again {l : List UInt8} {xs : List (List UInt8)} (h : pathL l = some xs) (k : Nat) (hk : k < xs.length) : ∃ last, cutR (mkB (pathS (xs.take (xs.length - k)))) = (mkB (pathS (xs.take (xs.length - (k + 1)))), last, 0) ∧ (pathS (xs.take (xs.length - (k + 1)))).length ≤ 400 := by
  obtain ⟨e, ha, hl⟩ := pathL_some h
  have hle : ∀ j, (pathS (xs.take j)).length ≤ 400 := by
    intro j
    have h1 := strokes_len xs
    unfold pathS
    split
    · simp
    · have h2 : (strokes (xs.take j)).length ≤ (strokes xs).length := by
        conv => rhs; rw [← List.take_append_drop j xs, strokes_app]
        rw [List.length_append]; omega
      have hne : xs ≠ [] := by rintro rfl; simp at hk
      rw [pathS, if_neg hne] at e
      rw [← e] at h2
      omega
  have hp : pathL (pathS (xs.take (xs.length - k))) = some (xs.take (xs.length - k)) :=
    pathL_pathS (List.all_eq_true.2 fun y hy => List.all_eq_true.1 ha y (List.mem_of_mem_take hy)) (hle _)
  have hne : xs.take (xs.length - k) ≠ [] := by
    intro h0
    have := congrArg List.length h0
    rw [List.length_take] at this
    simp at this
    omega
  obtain ⟨y, ys, hy⟩ := List.exists_cons_of_ne_nil hne
  have hdl : (y :: ys).dropLast = xs.take (xs.length - (k + 1)) := by
    rw [← hy, List.dropLast_eq_take, List.length_take, List.take_take]
    congr 1
    omega
  refine ⟨mkB ((y :: ys).getLast (by simp)), ?_, hle _⟩
  rw [cutR]
  show (match pathL (pathS (xs.take (xs.length - k))) with
    | none => _
    | some [] => _
    | some (x :: xs) => _) = _
  rw [hp, hy, ← hdl]
end Go.Proofs.YtmdfgjjbllbjmaaDoor
