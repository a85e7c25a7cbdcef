/-
  What is put is taken: plain lemmas on bytes.
-/
import Derived.Test.YtbekfoldohhbpaaDoorOpH
import Derived.Test.YtbekfoldohhbpaaDoorOpT
namespace Go.Proofs.YtbekfoldohhbpaaDoor
open Go.RowKit Go.Proofs.YtbekfoldohhbpaaDoorW.PrintWords

theorem nameB_size {s : ByteArray} (h : nameB s.data.toList = true) : 1 ≤ s.size ∧ s.size ≤ 20 := by
  unfold nameB at h
  simp only [Bool.and_eq_true, decide_eq_true_eq] at h
  have h2 : s.data.toList.length = s.size := by rw [Array.length_toList]; rfl
  omega
/-- The bounds of a right operation. -/
theorem right_bounds {o : OpR} (h : opRight o = true) : (1 ≤ o.n ∧ o.n ≤ 16777215) ∧ (0 ≤ o.r ∧ o.r ≤ 255) ∧ (256 ≤ o.node ∧ o.node ≤ 4294967295) ∧ (0 ≤ o.par ∧ o.par ≤ 4294967295) ∧ 1 ≤ o.name.size ∧ o.name.size ≤ 20 := by
  unfold opRight stampR toR nodeR at h
  simp only [Bool.and_eq_true, Bool.or_eq_true, decide_eq_true_eq, beq_iff_eq] at h
  obtain ⟨⟨h1, h2⟩, h3, h4, h5⟩ := h
  have := nameB_size h5
  refine ⟨h1, h2, h3, ?_, this⟩
  omega
theorem put_take {o : OpR} (h : opRight o = true) (ys : List Int) : tkOp (opForm o ++ ys) 0 = o ∧ (tk5 (opForm o ++ ys) 0).2.1 = ys ∧ (tk5 (opForm o ++ ys) 0).2.2 = 0 := by
  obtain ⟨b1, b2, b3, b4, b5⟩ := right_bounds h
  have hF : opForm o ++ ys = form o.n ++ (form o.r ++ (form o.node ++ (form o.par ++ (textForm o.name ++ ys)))) := by
    rw [opForm, if_pos h, pre_four]; simp only [List.append_assoc]
  have t1 : tk1 (opForm o ++ ys) 0 = (o.n, form o.r ++ (form o.node ++ (form o.par ++ (textForm o.name ++ ys))), 0) := by
    rw [tk1, hF, rdNum_form _ (by omega) (by omega), if_neg (by omega)]
  have t2 : tk2 (opForm o ++ ys) 0 = (o.r, form o.node ++ (form o.par ++ (textForm o.name ++ ys)), 0) := by
    rw [tk2, t1]; simp only; rw [rdNum_form _ (by omega) (by omega), if_neg (by omega)]
  have t3 : tk3 (opForm o ++ ys) 0 = (o.node, form o.par ++ (textForm o.name ++ ys), 0) := by
    rw [tk3, t2]; simp only; rw [rdNum_form _ (by omega) (by omega), if_neg (by omega)]
  have t4 : tk4 (opForm o ++ ys) 0 = (o.par, textForm o.name ++ ys, 0) := by
    rw [tk4, t3]; simp only; rw [rdNum_form _ (by omega) (by omega), if_neg (by omega)]
  have t5 : tk5 (opForm o ++ ys) 0 = (o.name, ys, 0) := by
    rw [tk5, t4]; simp only; rw [rdText_form _ (by omega) _ _ (by omega)]
  rw [tkOp, t1, t2, t3, t4, t5]
  exact ⟨rfl, rfl, rfl⟩
/-- With an error at hand nothing is read. -/
theorem rdNum_err {xs : List Int} {e : Int} (he : e ≠ 0) (most : Int) : rdNum xs e most = (0, xs, e) := by rw [rdNum, if_neg he]
theorem rdText_err {xs : List Int} {e : Int} (he : e ≠ 0) (most : Int) : rdText xs e most = (strOfNums [], xs, e) := by
  unfold rdText
  rw [rdNum_err he, if_pos he]
theorem not_right_nil (n r node par : Int) : opRight ⟨n, r, node, par, strOfNums []⟩ = false := by
  have h : nameB (strOfNums []).data.toList = false := by decide +kernel
  unfold opRight
  simp only [h, Bool.and_false]
/-- What comes of an error in front: no operation. -/
theorem tk_err4 {xs : List Int} {e : Int} (h : (tk4 xs e).2.2 ≠ 0) : opRight (tkOp xs e) = false ∧ (tk5 xs e).2.2 = (tk4 xs e).2.2 ∧ (tk5 xs e).2.1 = (tk4 xs e).2.1 := by
  have t5 : tk5 xs e = (strOfNums [], (tk4 xs e).2.1, (tk4 xs e).2.2) := by rw [tk5, rdText_err h]
  rw [tkOp, t5]
  exact ⟨not_right_nil _ _ _ _, rfl, rfl⟩
theorem tk_err3 {xs : List Int} {e : Int} (h : (tk3 xs e).2.2 ≠ 0) : tk4 xs e = (0, (tk3 xs e).2.1, (tk3 xs e).2.2) := by rw [tk4, rdNum_err h]
theorem tk_err2 {xs : List Int} {e : Int} (h : (tk2 xs e).2.2 ≠ 0) : tk3 xs e = (0, (tk2 xs e).2.1, (tk2 xs e).2.2) := by rw [tk3, rdNum_err h]
theorem tk_err1 {xs : List Int} {e : Int} (h : (tk1 xs e).2.2 ≠ 0) : tk2 xs e = (0, (tk1 xs e).2.1, (tk1 xs e).2.2) := by rw [tk2, rdNum_err h]

theorem bytesOf_strOf (l : List Int) (h : ∀ x ∈ l, 0 ≤ x ∧ x < 256) : bytesOf (strOfNums l) = l := by
  induction l with
  | nil => rfl
  | cons x l ih =>
    have hx := h x (by simp)
    have e : bytesOf (strOfNums (x :: l)) = ((UInt8.ofNat x.toNat).toNat : Int) :: bytesOf (strOfNums l) := rfl
    rw [e, ih (fun y hy => h y (List.mem_cons_of_mem _ hy))]
    congr 1
    rw [UInt8.toNat_ofNat']
    omega
/-- What any bytes are read as, as a text of up to 20 bytes. -/
theorem rdText_cases (xs : List Int) (hx : ∀ x ∈ xs, 0 ≤ x ∧ x < 256) :
    (∃ ys e, rdText xs 0 20 = (strOfNums [], ys, e) ∧ (e = 2 ∨ e = 3)) ∨ ∃ (k : Nat) (s : ByteArray), rdText xs 0 20 = (s, xs.drop k, 0) ∧ k ≤ xs.length ∧ textForm s = xs.take k := by
  rcases rdNum_cases xs 20 hx with ⟨e, h, he⟩ | ⟨k, n, h, h1, h2, h3, h4, h5, _, h7⟩
  · refine .inl ⟨[], e, ?_, he⟩
    unfold rdText
    rw [h, if_pos (by rcases he with rfl | rfl <;> simp)]
  · by_cases hl : ((xs.drop k).length : Int) < n
    · refine .inl ⟨[], 2, ?_, .inl rfl⟩
      unfold rdText
      rw [h]
      simp only [ne_eq, not_true_eq_false, if_false]
      rw [if_pos hl]
    · refine .inr ⟨k + n.toNat, strOfNums ((xs.drop k).take n.toNat), ?_, ?_, ?_⟩
      · unfold rdText
        rw [h]
        simp only [ne_eq, not_true_eq_false, if_false]
        rw [if_neg hl, List.drop_drop]
      · rw [List.length_drop] at hl; omega
      · have hsz : (strOfNums ((xs.drop k).take n.toNat)).size = n.toNat := by
          rw [strOfNums_size, List.length_take]; omega
        rw [textForm, hsz, if_neg (by omega), Int.toNat_of_nonneg h5, h4, bytesOf_strOf _ (fun x hx' => hx x (List.mem_of_mem_drop (List.mem_of_mem_take hx'))), List.take_add]
/-- What is taken right, put again, is the bytes that were read. -/
theorem take_put (xs : List Int) (hx : ∀ x ∈ xs, 0 ≤ x ∧ x < 256) (hR : opRight (tkOp xs 0) = true) : ∃ k, k ≤ xs.length ∧ opForm (tkOp xs 0) = xs.take k ∧ (tk5 xs 0).2.1 = xs.drop k := by
  have no : (tk4 xs 0).2.2 = 0 := by
    by_cases h : (tk4 xs 0).2.2 = 0
    · exact h
    · have := (tk_err4 h).1; rw [hR] at this; cases this
  have n3 : (tk3 xs 0).2.2 = 0 := by
    by_cases h : (tk3 xs 0).2.2 = 0
    · exact h
    · rw [tk_err3 h] at no; exact absurd no h
  have n2 : (tk2 xs 0).2.2 = 0 := by
    by_cases h : (tk2 xs 0).2.2 = 0
    · exact h
    · rw [tk_err2 h] at n3; exact absurd n3 h
  have n1 : (tk1 xs 0).2.2 = 0 := by
    by_cases h : (tk1 xs 0).2.2 = 0
    · exact h
    · rw [tk_err1 h] at n2; exact absurd n2 h
  rcases rdNum_cases xs 16777215 hx with ⟨e, h, he⟩ | ⟨k1, a1, h1, _, _, l1, f1, _⟩
  · rw [tk1, h] at n1; rcases he with rfl | rfl <;> cases n1
  have x1 : ∀ x ∈ xs.drop k1, 0 ≤ x ∧ x < 256 := fun x h => hx x (List.mem_of_mem_drop h)
  have t1 : tk1 xs 0 = (a1, xs.drop k1, 0) := h1
  rcases rdNum_cases (xs.drop k1) 255 x1 with ⟨e, h, he⟩ | ⟨k2, a2, h2, _, _, l2, f2, _⟩
  · rw [tk2, t1] at n2; simp only at n2; rw [h] at n2; rcases he with rfl | rfl <;> cases n2
  have x2 : ∀ x ∈ (xs.drop k1).drop k2, 0 ≤ x ∧ x < 256 := fun x h => x1 x (List.mem_of_mem_drop h)
  have t2 : tk2 xs 0 = (a2, (xs.drop k1).drop k2, 0) := by rw [tk2, t1]; exact h2
  rcases rdNum_cases ((xs.drop k1).drop k2) 4294967295 x2 with ⟨e, h, he⟩ | ⟨k3, a3, h3, _, _, l3, f3, _⟩
  · rw [tk3, t2] at n3; simp only at n3; rw [h] at n3; rcases he with rfl | rfl <;> cases n3
  have x3 : ∀ x ∈ ((xs.drop k1).drop k2).drop k3, 0 ≤ x ∧ x < 256 := fun x h => x2 x (List.mem_of_mem_drop h)
  have t3 : tk3 xs 0 = (a3, ((xs.drop k1).drop k2).drop k3, 0) := by rw [tk3, t2]; exact h3
  rcases rdNum_cases (((xs.drop k1).drop k2).drop k3) 4294967295 x3 with ⟨e, h, he⟩ | ⟨k4, a4, h4, _, _, l4, f4, _⟩
  · rw [tk4, t3] at no; simp only at no; rw [h] at no; rcases he with rfl | rfl <;> cases no
  have x4 : ∀ x ∈ (((xs.drop k1).drop k2).drop k3).drop k4, 0 ≤ x ∧ x < 256 := fun x h => x3 x (List.mem_of_mem_drop h)
  have t4 : tk4 xs 0 = (a4, (((xs.drop k1).drop k2).drop k3).drop k4, 0) := by rw [tk4, t3]; exact h4
  rcases rdText_cases ((((xs.drop k1).drop k2).drop k3).drop k4) x4 with ⟨ys, e, h, he⟩ | ⟨k5, s, h5, l5, f5⟩
  · have t5 : tk5 xs 0 = (strOfNums [], ys, e) := by rw [tk5, t4]; exact h
    rw [tkOp, t5, not_right_nil] at hR
    cases hR
  have t5 : tk5 xs 0 = (s, ((((xs.drop k1).drop k2).drop k3).drop k4).drop k5, 0) := by rw [tk5, t4]; exact h5
  have t6 : tkOp xs 0 = ⟨a1, a2, a3, a4, s⟩ := by rw [tkOp, t1, t2, t3, t4, t5]
  refine ⟨k1 + k2 + k3 + k4 + k5, ?_, ?_, ?_⟩
  · simp only [List.length_drop] at l2 l3 l4 l5; omega
  · rw [opForm, if_pos hR, pre_four, t6]
    simp only
    rw [f1, f2, f3, f4, f5]
    simp only [List.take_add, List.drop_drop, List.append_assoc, Nat.add_assoc]
  · rw [t5]
    simp only [List.drop_drop]

theorem take_past (xs ys : List Int) (k : Nat) (h : xs.length ≤ k) : (xs ++ ys).take k = xs ++ ys.take (k - xs.length) := by
  rw [List.take_append, List.take_of_length_le h]
theorem take_in (xs ys : List Int) (k : Nat) (h : k < xs.length) : (xs ++ ys).take k = xs.take k := by
  rw [List.take_append_of_le_length (by omega)]
/-- Cut off anywhere an operation is none. -/
theorem put_cut {o : OpR} (h : opRight o = true) (k : Nat) (hk : k < (opForm o).length) : opRight (tkOp ((opForm o).take k) 0) = false ∧ (tk5 ((opForm o).take k) 0).2.2 = 2 := by
  obtain ⟨b1, b2, b3, b4, b5⟩ := right_bounds h
  have hF : opForm o = form o.n ++ (form o.r ++ (form o.node ++ (form o.par ++ textForm o.name))) := by
    rw [opForm, if_pos h, pre_four]; simp only [List.append_assoc]
  have fin : ∀ xs : List Int, (tk4 xs 0).2.2 = 2 → opRight (tkOp xs 0) = false ∧ (tk5 xs 0).2.2 = 2 := by
    intro xs h4
    have := tk_err4 (xs := xs) (e := 0) (by rw [h4]; decide)
    exact ⟨this.1, by rw [this.2.1, h4]⟩
  have fin3 : ∀ xs : List Int, (tk3 xs 0).2.2 = 2 → (tk4 xs 0).2.2 = 2 := by
    intro xs h3
    rw [tk_err3 (by rw [h3]; decide)]; exact h3
  have fin2 : ∀ xs : List Int, (tk2 xs 0).2.2 = 2 → (tk3 xs 0).2.2 = 2 := by
    intro xs h3
    rw [tk_err2 (by rw [h3]; decide)]; exact h3
  have fin1 : ∀ xs : List Int, (tk1 xs 0).2.2 = 2 → (tk2 xs 0).2.2 = 2 := by
    intro xs h3
    rw [tk_err1 (by rw [h3]; decide)]; exact h3
  rw [hF] at hk ⊢
  simp only [List.length_append] at hk
  by_cases k1 : k < (form o.n).length
  · rw [take_in _ _ _ k1]
    refine fin _ (fin3 _ (fin2 _ (fin1 _ ?_)))
    rw [tk1, rdNum_cut _ (by omega) (by omega) _ k1]
  rw [take_past _ _ _ (by omega)]
  have t1 : ∀ ys, tk1 (form o.n ++ ys) 0 = (o.n, ys, 0) := fun ys => by rw [tk1, rdNum_form _ (by omega) (by omega), if_neg (by omega)]
  generalize hk1 : k - (form o.n).length = j1
  by_cases k2 : j1 < (form o.r).length
  · rw [take_in _ _ _ k2]
    refine fin _ (fin3 _ (fin2 _ ?_))
    rw [tk2, t1]; simp only; rw [rdNum_cut _ (by omega) (by omega) _ k2]
  rw [take_past _ _ _ (by omega)]
  have t2 : ∀ ys, tk2 (form o.n ++ (form o.r ++ ys)) 0 = (o.r, ys, 0) := fun ys => by rw [tk2, t1]; simp only; rw [rdNum_form _ (by omega) (by omega), if_neg (by omega)]
  generalize hk2 : j1 - (form o.r).length = j2
  by_cases k3 : j2 < (form o.node).length
  · rw [take_in _ _ _ k3]
    refine fin _ (fin3 _ ?_)
    rw [tk3, t2]; simp only; rw [rdNum_cut _ (by omega) (by omega) _ k3]
  rw [take_past _ _ _ (by omega)]
  have t3 : ∀ ys, tk3 (form o.n ++ (form o.r ++ (form o.node ++ ys))) 0 = (o.node, ys, 0) := fun ys => by rw [tk3, t2]; simp only; rw [rdNum_form _ (by omega) (by omega), if_neg (by omega)]
  generalize hk3 : j2 - (form o.node).length = j3
  by_cases k4 : j3 < (form o.par).length
  · rw [take_in _ _ _ k4]
    refine fin _ ?_
    rw [tk4, t3]; simp only; rw [rdNum_cut _ (by omega) (by omega) _ k4]
  rw [take_past _ _ _ (by omega)]
  have t4 : ∀ ys, tk4 (form o.n ++ (form o.r ++ (form o.node ++ (form o.par ++ ys)))) 0 = (o.par, ys, 0) := fun ys => by rw [tk4, t3]; simp only; rw [rdNum_form _ (by omega) (by omega), if_neg (by omega)]
  generalize hk4 : j3 - (form o.par).length = j4
  have t5 : tk5 (form o.n ++ (form o.r ++ (form o.node ++ (form o.par ++ (textForm o.name).take j4)))) 0 = (strOfNums [], [], 2) := by
    rw [tk5, t4]; simp only; rw [rdText_cut _ (by omega) _ (by omega) _ (by omega)]
  rw [tkOp, t5]
  exact ⟨not_right_nil _ _ _ _, rfl⟩
end Go.Proofs.YtbekfoldohhbpaaDoor
