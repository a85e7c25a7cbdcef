/-
  What is put is taken: plain lemmas on bytes; Lists of operations in memory; whether all of them are right (slices.ContainsFunc); Sums of bytes: plain lemmas on numbers. One step per binary digit; four at once by a table; Package sum, and the reference's sums; Package sum: what bytes' sum comes to; Sums as four bytes; the reference's sums, digit by digit; What package wire's Encode comes to; Package wire's Cut; slices.Clone of bytes; wrong; Whether a sum is bytes'; What is inside a batch: package wire's inside, where it comes to an end
-/
import Derived.Test.YtfnoegijkdhckaaDoorJWireTurned1
import Derived.Laws.Entries
import Derived.Laws.Bits64
import Derived.Test.YtfnoegijkdhckaaDoorPWireEncodesx2
import Derived.Test.YtfnoegijkdhckaaDoorPWireEncodesx4
import Derived.Test.YtfnoegijkdhckaaDoorPWireEncodesx5
import Derived.Deep.RegionHeld3
import Derived.Deep.RegionWith
/- What is put is taken: plain lemmas on bytes. -/
namespace Go.Proofs.YtfnoegijkdhckaaDoor
open Go.RowKit Go.Proofs.YtfnoegijkdhckaaDoorW.PrintWords

theorem nameB_size {s : ByteArray} (h : nameB s.data.toList = true) : 1 ≤ s.size ∧ s.size ≤ 20 := by
  unfold nameB at h
  simp only [Bool.and_eq_true, decide_eq_true_eq] at h
  have h2 : s.data.toList.length = s.size := by rw [Array.length_toList]; rfl
  omega
/-- The bounds of a right operation. -/
theorem right_bounds {o : OpR} (h : opRight o = true) : (1 ≤ o.n ∧ o.n ≤ 16777215) ∧ (0 ≤ o.r ∧ o.r ≤ 255) ∧ (256 ≤ o.node ∧ o.node ≤ 4294967295) ∧ (0 ≤ o.par ∧ o.par ≤ 4294967295) ∧ 1 ≤ o.name.size ∧ o.name.size ≤ 20 := by
  unfold opRight stampR toR nodeR at h
  simp only [Bool.and_eq_true, Bool.or_eq_true, decide_eq_true_eq, beq_iff_eq] at h
  obtain ⟨⟨h1, h2⟩, h3, h4, h5⟩ := h
  have := nameB_size h5
  refine ⟨h1, h2, h3, ?_, this⟩
  omega
theorem put_take {o : OpR} (h : opRight o = true) (ys : List Int) : tkOp (opForm o ++ ys) 0 = o ∧ (tk5 (opForm o ++ ys) 0).2.1 = ys ∧ (tk5 (opForm o ++ ys) 0).2.2 = 0 := by
  obtain ⟨b1, b2, b3, b4, b5⟩ := right_bounds h
  have hF : opForm o ++ ys = form o.n ++ (form o.r ++ (form o.node ++ (form o.par ++ (textForm o.name ++ ys)))) := by
    rw [opForm, if_pos h, pre_four]; simp only [List.append_assoc]
  have t1 : tk1 (opForm o ++ ys) 0 = (o.n, form o.r ++ (form o.node ++ (form o.par ++ (textForm o.name ++ ys))), 0) := by
    rw [tk1, hF, rdNum_form _ (by omega) (by omega), if_neg (by omega)]
  have t2 : tk2 (opForm o ++ ys) 0 = (o.r, form o.node ++ (form o.par ++ (textForm o.name ++ ys)), 0) := by
    rw [tk2, t1]; simp only; rw [rdNum_form _ (by omega) (by omega), if_neg (by omega)]
  have t3 : tk3 (opForm o ++ ys) 0 = (o.node, form o.par ++ (textForm o.name ++ ys), 0) := by
    rw [tk3, t2]; simp only; rw [rdNum_form _ (by omega) (by omega), if_neg (by omega)]
  have t4 : tk4 (opForm o ++ ys) 0 = (o.par, textForm o.name ++ ys, 0) := by
    rw [tk4, t3]; simp only; rw [rdNum_form _ (by omega) (by omega), if_neg (by omega)]
  have t5 : tk5 (opForm o ++ ys) 0 = (o.name, ys, 0) := by
    rw [tk5, t4]; simp only; rw [rdText_form _ (by omega) _ _ (by omega)]
  rw [tkOp, t1, t2, t3, t4, t5]
  exact ⟨rfl, rfl, rfl⟩
/-- With an error at hand nothing is read. -/
theorem rdNum_err {xs : List Int} {e : Int} (he : e ≠ 0) (most : Int) : rdNum xs e most = (0, xs, e) := by rw [rdNum, if_neg he]
theorem rdText_err {xs : List Int} {e : Int} (he : e ≠ 0) (most : Int) : rdText xs e most = (strOfNums [], xs, e) := by
  unfold rdText
  rw [rdNum_err he, if_pos he]
theorem not_right_nil (n r node par : Int) : opRight ⟨n, r, node, par, strOfNums []⟩ = false := by
  have h : nameB (strOfNums []).data.toList = false := by decide +kernel
  unfold opRight
  simp only [h, Bool.and_false]
/-- What comes of an error in front: no operation. -/
theorem tk_err4 {xs : List Int} {e : Int} (h : (tk4 xs e).2.2 ≠ 0) : opRight (tkOp xs e) = false ∧ (tk5 xs e).2.2 = (tk4 xs e).2.2 ∧ (tk5 xs e).2.1 = (tk4 xs e).2.1 := by
  have t5 : tk5 xs e = (strOfNums [], (tk4 xs e).2.1, (tk4 xs e).2.2) := by rw [tk5, rdText_err h]
  rw [tkOp, t5]
  exact ⟨not_right_nil _ _ _ _, rfl, rfl⟩
theorem tk_err3 {xs : List Int} {e : Int} (h : (tk3 xs e).2.2 ≠ 0) : tk4 xs e = (0, (tk3 xs e).2.1, (tk3 xs e).2.2) := by rw [tk4, rdNum_err h]
theorem tk_err2 {xs : List Int} {e : Int} (h : (tk2 xs e).2.2 ≠ 0) : tk3 xs e = (0, (tk2 xs e).2.1, (tk2 xs e).2.2) := by rw [tk3, rdNum_err h]
theorem tk_err1 {xs : List Int} {e : Int} (h : (tk1 xs e).2.2 ≠ 0) : tk2 xs e = (0, (tk1 xs e).2.1, (tk1 xs e).2.2) := by rw [tk2, rdNum_err h]

theorem bytesOf_strOf (l : List Int) (h : ∀ x ∈ l, 0 ≤ x ∧ x < 256) : bytesOf (strOfNums l) = l := by
  induction l with
  | nil => rfl
  | cons x l ih =>
    have hx := h x (by simp)
    have e : bytesOf (strOfNums (x :: l)) = ((UInt8.ofNat x.toNat).toNat : Int) :: bytesOf (strOfNums l) := rfl
    rw [e, ih (fun y hy => h y (List.mem_cons_of_mem _ hy))]
    congr 1
    rw [UInt8.toNat_ofNat']
    omega
/-- What any bytes are read as, as a text of up to 20 bytes. -/
theorem rdText_cases (xs : List Int) (hx : ∀ x ∈ xs, 0 ≤ x ∧ x < 256) :
    (∃ ys e, rdText xs 0 20 = (strOfNums [], ys, e) ∧ (e = 2 ∨ e = 3)) ∨ ∃ (k : Nat) (s : ByteArray), rdText xs 0 20 = (s, xs.drop k, 0) ∧ k ≤ xs.length ∧ textForm s = xs.take k := by
  rcases rdNum_cases xs 20 hx with ⟨e, h, he⟩ | ⟨k, n, h, h1, h2, h3, h4, h5, _, h7⟩
  · refine .inl ⟨[], e, ?_, he⟩
    unfold rdText
    rw [h, if_pos (by rcases he with rfl | rfl <;> simp)]
  · by_cases hl : ((xs.drop k).length : Int) < n
    · refine .inl ⟨[], 2, ?_, .inl rfl⟩
      unfold rdText
      rw [h]
      simp only [ne_eq, not_true_eq_false, if_false]
      rw [if_pos hl]
    · refine .inr ⟨k + n.toNat, strOfNums ((xs.drop k).take n.toNat), ?_, ?_, ?_⟩
      · unfold rdText
        rw [h]
        simp only [ne_eq, not_true_eq_false, if_false]
        rw [if_neg hl, List.drop_drop]
      · rw [List.length_drop] at hl; omega
      · have hsz : (strOfNums ((xs.drop k).take n.toNat)).size = n.toNat := by
          rw [strOfNums_size, List.length_take]; omega
        rw [textForm, hsz, if_neg (by omega), Int.toNat_of_nonneg h5, h4, bytesOf_strOf _ (fun x hx' => hx x (List.mem_of_mem_drop (List.mem_of_mem_take hx'))), List.take_add]
/-- What is taken right, put again, is the bytes that were read. -/
theorem take_put (xs : List Int) (hx : ∀ x ∈ xs, 0 ≤ x ∧ x < 256) (hR : opRight (tkOp xs 0) = true) : ∃ k, k ≤ xs.length ∧ opForm (tkOp xs 0) = xs.take k ∧ (tk5 xs 0).2.1 = xs.drop k := by
  have no : (tk4 xs 0).2.2 = 0 := by
    by_cases h : (tk4 xs 0).2.2 = 0
    · exact h
    · have := (tk_err4 h).1; rw [hR] at this; cases this
  have n3 : (tk3 xs 0).2.2 = 0 := by
    by_cases h : (tk3 xs 0).2.2 = 0
    · exact h
    · rw [tk_err3 h] at no; exact absurd no h
  have n2 : (tk2 xs 0).2.2 = 0 := by
    by_cases h : (tk2 xs 0).2.2 = 0
    · exact h
    · rw [tk_err2 h] at n3; exact absurd n3 h
  have n1 : (tk1 xs 0).2.2 = 0 := by
    by_cases h : (tk1 xs 0).2.2 = 0
    · exact h
    · rw [tk_err1 h] at n2; exact absurd n2 h
  rcases rdNum_cases xs 16777215 hx with ⟨e, h, he⟩ | ⟨k1, a1, h1, _, _, l1, f1, _⟩
  · rw [tk1, h] at n1; rcases he with rfl | rfl <;> cases n1
  have x1 : ∀ x ∈ xs.drop k1, 0 ≤ x ∧ x < 256 := fun x h => hx x (List.mem_of_mem_drop h)
  have t1 : tk1 xs 0 = (a1, xs.drop k1, 0) := h1
  rcases rdNum_cases (xs.drop k1) 255 x1 with ⟨e, h, he⟩ | ⟨k2, a2, h2, _, _, l2, f2, _⟩
  · rw [tk2, t1] at n2; simp only at n2; rw [h] at n2; rcases he with rfl | rfl <;> cases n2
  have x2 : ∀ x ∈ (xs.drop k1).drop k2, 0 ≤ x ∧ x < 256 := fun x h => x1 x (List.mem_of_mem_drop h)
  have t2 : tk2 xs 0 = (a2, (xs.drop k1).drop k2, 0) := by rw [tk2, t1]; exact h2
  rcases rdNum_cases ((xs.drop k1).drop k2) 4294967295 x2 with ⟨e, h, he⟩ | ⟨k3, a3, h3, _, _, l3, f3, _⟩
  · rw [tk3, t2] at n3; simp only at n3; rw [h] at n3; rcases he with rfl | rfl <;> cases n3
  have x3 : ∀ x ∈ ((xs.drop k1).drop k2).drop k3, 0 ≤ x ∧ x < 256 := fun x h => x2 x (List.mem_of_mem_drop h)
  have t3 : tk3 xs 0 = (a3, ((xs.drop k1).drop k2).drop k3, 0) := by rw [tk3, t2]; exact h3
  rcases rdNum_cases (((xs.drop k1).drop k2).drop k3) 4294967295 x3 with ⟨e, h, he⟩ | ⟨k4, a4, h4, _, _, l4, f4, _⟩
  · rw [tk4, t3] at no; simp only at no; rw [h] at no; rcases he with rfl | rfl <;> cases no
  have x4 : ∀ x ∈ (((xs.drop k1).drop k2).drop k3).drop k4, 0 ≤ x ∧ x < 256 := fun x h => x3 x (List.mem_of_mem_drop h)
  have t4 : tk4 xs 0 = (a4, (((xs.drop k1).drop k2).drop k3).drop k4, 0) := by rw [tk4, t3]; exact h4
  rcases rdText_cases ((((xs.drop k1).drop k2).drop k3).drop k4) x4 with ⟨ys, e, h, he⟩ | ⟨k5, s, h5, l5, f5⟩
  · have t5 : tk5 xs 0 = (strOfNums [], ys, e) := by rw [tk5, t4]; exact h
    rw [tkOp, t5, not_right_nil] at hR
    cases hR
  have t5 : tk5 xs 0 = (s, ((((xs.drop k1).drop k2).drop k3).drop k4).drop k5, 0) := by rw [tk5, t4]; exact h5
  have t6 : tkOp xs 0 = ⟨a1, a2, a3, a4, s⟩ := by rw [tkOp, t1, t2, t3, t4, t5]
  refine ⟨k1 + k2 + k3 + k4 + k5, ?_, ?_, ?_⟩
  · simp only [List.length_drop] at l2 l3 l4 l5; omega
  · rw [opForm, if_pos hR, pre_four, t6]
    simp only
    rw [f1, f2, f3, f4, f5]
    simp only [List.take_add, List.drop_drop, List.append_assoc, Nat.add_assoc]
  · rw [t5]
    simp only [List.drop_drop]

theorem take_past (xs ys : List Int) (k : Nat) (h : xs.length ≤ k) : (xs ++ ys).take k = xs ++ ys.take (k - xs.length) := by
  rw [List.take_append, List.take_of_length_le h]
theorem take_in (xs ys : List Int) (k : Nat) (h : k < xs.length) : (xs ++ ys).take k = xs.take k := by
  rw [List.take_append_of_le_length (by omega)]
/-- Cut off anywhere an operation is none. -/
theorem put_cut {o : OpR} (h : opRight o = true) (k : Nat) (hk : k < (opForm o).length) : opRight (tkOp ((opForm o).take k) 0) = false ∧ (tk5 ((opForm o).take k) 0).2.2 = 2 := by
  obtain ⟨b1, b2, b3, b4, b5⟩ := right_bounds h
  have hF : opForm o = form o.n ++ (form o.r ++ (form o.node ++ (form o.par ++ textForm o.name))) := by
    rw [opForm, if_pos h, pre_four]; simp only [List.append_assoc]
  have fin : ∀ xs : List Int, (tk4 xs 0).2.2 = 2 → opRight (tkOp xs 0) = false ∧ (tk5 xs 0).2.2 = 2 := by
    intro xs h4
    have := tk_err4 (xs := xs) (e := 0) (by rw [h4]; decide)
    exact ⟨this.1, by rw [this.2.1, h4]⟩
  have fin3 : ∀ xs : List Int, (tk3 xs 0).2.2 = 2 → (tk4 xs 0).2.2 = 2 := by
    intro xs h3
    rw [tk_err3 (by rw [h3]; decide)]; exact h3
  have fin2 : ∀ xs : List Int, (tk2 xs 0).2.2 = 2 → (tk3 xs 0).2.2 = 2 := by
    intro xs h3
    rw [tk_err2 (by rw [h3]; decide)]; exact h3
  have fin1 : ∀ xs : List Int, (tk1 xs 0).2.2 = 2 → (tk2 xs 0).2.2 = 2 := by
    intro xs h3
    rw [tk_err1 (by rw [h3]; decide)]; exact h3
  rw [hF] at hk ⊢
  simp only [List.length_append] at hk
  by_cases k1 : k < (form o.n).length
  · rw [take_in _ _ _ k1]
    refine fin _ (fin3 _ (fin2 _ (fin1 _ ?_)))
    rw [tk1, rdNum_cut _ (by omega) (by omega) _ k1]
  rw [take_past _ _ _ (by omega)]
  have t1 : ∀ ys, tk1 (form o.n ++ ys) 0 = (o.n, ys, 0) := fun ys => by rw [tk1, rdNum_form _ (by omega) (by omega), if_neg (by omega)]
  generalize hk1 : k - (form o.n).length = j1
  by_cases k2 : j1 < (form o.r).length
  · rw [take_in _ _ _ k2]
    refine fin _ (fin3 _ (fin2 _ ?_))
    rw [tk2, t1]; simp only; rw [rdNum_cut _ (by omega) (by omega) _ k2]
  rw [take_past _ _ _ (by omega)]
  have t2 : ∀ ys, tk2 (form o.n ++ (form o.r ++ ys)) 0 = (o.r, ys, 0) := fun ys => by rw [tk2, t1]; simp only; rw [rdNum_form _ (by omega) (by omega), if_neg (by omega)]
  generalize hk2 : j1 - (form o.r).length = j2
  by_cases k3 : j2 < (form o.node).length
  · rw [take_in _ _ _ k3]
    refine fin _ (fin3 _ ?_)
    rw [tk3, t2]; simp only; rw [rdNum_cut _ (by omega) (by omega) _ k3]
  rw [take_past _ _ _ (by omega)]
  have t3 : ∀ ys, tk3 (form o.n ++ (form o.r ++ (form o.node ++ ys))) 0 = (o.node, ys, 0) := fun ys => by rw [tk3, t2]; simp only; rw [rdNum_form _ (by omega) (by omega), if_neg (by omega)]
  generalize hk3 : j2 - (form o.node).length = j3
  by_cases k4 : j3 < (form o.par).length
  · rw [take_in _ _ _ k4]
    refine fin _ ?_
    rw [tk4, t3]; simp only; rw [rdNum_cut _ (by omega) (by omega) _ k4]
  rw [take_past _ _ _ (by omega)]
  have t4 : ∀ ys, tk4 (form o.n ++ (form o.r ++ (form o.node ++ (form o.par ++ ys)))) 0 = (o.par, ys, 0) := fun ys => by rw [tk4, t3]; simp only; rw [rdNum_form _ (by omega) (by omega), if_neg (by omega)]
  generalize hk4 : j3 - (form o.par).length = j4
  have t5 : tk5 (form o.n ++ (form o.r ++ (form o.node ++ (form o.par ++ (textForm o.name).take j4)))) 0 = (strOfNums [], [], 2) := by
    rw [tk5, t4]; simp only; rw [rdText_cut _ (by omega) _ (by omega) _ (by omega)]
  rw [tkOp, t5]
  exact ⟨not_right_nil _ _ _ _, rfl⟩
end Go.Proofs.YtfnoegijkdhckaaDoor
/- Lists of operations in memory; whether all of them are right (slices.ContainsFunc). -/
namespace Go.Proofs.YtfnoegijkdhckaaDoor
open Go.RowKit Go.Proofs.YtfnoegijkdhckaaDoorW.PrintWords

theorem opForm_nil {o : OpR} (h : opRight o = false) : opForm o = [] := by rw [opForm, if_neg (by rw [h]; decide)]
theorem opForm_pos {o : OpR} (h : opRight o = true) : 1 ≤ (opForm o).length := by
  obtain ⟨b1, _⟩ := right_bounds h
  rw [opForm, if_pos h, pre_four]
  have := form_pos o.n (by omega) (by omega)
  simp only [List.length_append]; omega
theorem opForm_range (o : OpR) : ∀ x ∈ opForm o, 0 ≤ x ∧ x < 256 := by
  unfold opForm
  split
  · intro x hx
    rcases List.mem_append.1 hx with h | h
    · rw [pre_four] at h
      simp only [List.mem_append] at h
      rcases h with ((h | h) | h) | h <;> exact form_range _ x h
    · exact textForm_range _ x h
  · simp
theorem opForm_length (o : OpR) : (opForm o).length ≤ 45 := by
  unfold opForm
  split
  · rename_i hR
    obtain ⟨b1, b2, b3, b4, b5⟩ := right_bounds hR
    rw [List.length_append]
    have h1 := pre_length o 4 (by omega)
    have h2 := textForm_length o.name (by omega)
    have h3 := form_length o.name.size
    omega
  · simp

/-- An operation's fields lie in block b from place o on. -/
def OpIn (b o : Nat) (p : OpR) (w : World) : Prop :=
  w.cell? ⟨b, o, none⟩ = some (.int .i64 p.n) ∧ w.cell? ⟨b, o + 1, none⟩ = some (.int .i64 p.r) ∧ w.cell? ⟨b, o + 2, none⟩ = some (.int .i64 p.node) ∧ w.cell? ⟨b, o + 3, none⟩ = some (.int .i64 p.par) ∧ w.cell? ⟨b, o + 4, none⟩ = some (.string p.name)
theorem OpIn.below {b o : Nat} {p : OpR} {w w1 : World} (k : OpIn b o p w) (hb : Below w.heap.size w w1) : OpIn b o p w1 :=
  ⟨pw_cell_below hb k.1, pw_cell_below hb k.2.1, pw_cell_below hb k.2.2.1, pw_cell_below hb k.2.2.2.1, pw_cell_below hb k.2.2.2.2⟩
theorem OpIn.at_ {b o : Nat} {p : OpR} {w W : World} (k : OpIn b o p w) (h : W.heap = w.heap) : OpIn b o p W :=
  ⟨(World.cell?_of_block (by rw [h])).trans k.1, (World.cell?_of_block (by rw [h])).trans k.2.1, (World.cell?_of_block (by rw [h])).trans k.2.2.1, (World.cell?_of_block (by rw [h])).trans k.2.2.2.1, (World.cell?_of_block (by rw [h])).trans k.2.2.2.2⟩
/-- A list of operations lies behind A. -/
def OpsAt (w : World) (A : Option Addr) (n : Nat) (os : List OpR) : Prop :=
  os.length = n ∧ n ≤ 9223372036854775807 ∧ (0 < n → ∃ b o, A = some ⟨b, o, none⟩ ∧ ∀ (i : Nat) (hi : i < os.length), OpIn b (o + i * 5) os[i] w)
theorem OpsAt.below {w w1 : World} {A : Option Addr} {n : Nat} {os : List OpR} (h : OpsAt w A n os) (hb : Below w.heap.size w w1) : OpsAt w1 A n os :=
  ⟨h.1, h.2.1, fun hn => by
    obtain ⟨b, o, e, hc⟩ := h.2.2 hn
    exact ⟨b, o, e, fun i hi => (hc i hi).below hb⟩⟩
theorem OpsAt.at_ {w W : World} {A : Option Addr} {n : Nat} {os : List OpR} (h : OpsAt w A n os) (hw : W.heap = w.heap) : OpsAt W A n os :=
  ⟨h.1, h.2.1, fun hn => by
    obtain ⟨b, o, e, hc⟩ := h.2.2 hn
    exact ⟨b, o, e, fun i hi => (hc i hi).at_ hw⟩⟩

set_option maxHeartbeats 1000000 in
theorem notRight_calls (o : OpR) (w : World) (hs : o.name.size ≤ 9223372036854775807) (hT : Tabs w) :
    Calls Tryd.prog 21 #[opV o] w fun e w' => e = .returned (.bool (!opRight o)) ∧ Below w.heap.size w w' := by
  have hc := fun w (h : Tabs w) => right_calls o w hs h
  generalize opRight o = R at *
  simp only [opV] at hc ⊢
  have HC := Lib.hid hc
  have HT := Lib.hid hT
  have HB := Lib.hid (Below.refl w.heap.size w)
  clear hc hT
  cases R
  all_goals
    go_enter Tryd.func21, Tryd.ntmps21
    go_wp2_with (first
      | (go_at_call 22; (refine (HC.out _ (HT.out.below (by repeat (first | (with_reducible exact HB.out) | apply below_alloc | apply pw_below_drewN | apply below_drew1 | exact HB.out)))).mono ?_); rintro e w1 ⟨rfl, hb⟩; have HBn := Lib.hid (below_step (by repeat (first | (with_reducible exact HB.out) | apply below_alloc | apply pw_below_drewN | apply below_drew1 | exact HB.out)) hb); clear hb HB; have HB := HBn; clear HBn)
      | (fail "no arm"))
    go_ret
    exact ⟨rfl, HB.out⟩

set_option maxHeartbeats 1000000 in
theorem indexFunc_calls (A : Option Addr) (n c : Nat) (os : List OpR) (w : World) (hr : OpsAt w A n os) (hs : ∀ o ∈ os, o.name.size ≤ 9223372036854775807) (hT : Tabs w) :
    Calls Tryd.prog 44 #[.slice A n c, .func (.func 21) #[] #[]] w fun e w' => ∃ r : Int, e = .returned (.int .i64 r) ∧ ((0 ≤ r ∧ os.all opRight = false) ∨ (r = -1 ∧ os.all opRight = true)) ∧ Below w.heap.size w w' := by
  have hm := hr.2.1
  have HR := Lib.hid hr
  have HS := Lib.hid hs
  have HT := Lib.hid hT
  have HL := Lib.hid hr.1
  have HB := Lib.hid (Below.refl w.heap.size w)
  clear hr hs hT
  go_enter Tryd.func44, Tryd.ntmps44
  go_wp2
  go_loopw [8] (fun vi W => ∃ i : Nat, vi = .int .i64 i ∧ i ≤ n ∧ Hid ((os.take i).all opRight = true) ∧ Hid (Below w.heap.size w W)) (fun vi _ => (n - (RowKit.intOf vi).toNat))
  case atStart => exact ⟨0, rfl, by omega, Lib.hid (by simp), HB⟩
  case round =>
    clear HB
    obtain ⟨i, rfl, hi, HA, HB⟩ := hrel
    by_cases hlt : i < n
    · have hlt2 : i < os.length := by rw [HL.out]; exact hlt
      obtain ⟨b, o, rfl, hcell⟩ := HR.out.2.2 (show 0 < n by omega)
      have hci := (hcell i hlt2).below HB.out
      have hsn : (os.take (i + 1)).all opRight = opRight os[i] := by
        rw [List.take_succ_eq_append_getElem hlt2, List.all_append, HA.out, List.all_cons]; simp
      have hno : opRight os[i] = false → os.all opRight = false := fun h => by
        rw [← Bool.not_eq_true, List.all_eq_true]
        intro hh
        have := hh _ (List.getElem_mem hlt2)
        rw [h] at this; cases this
      have hps := HS.out os[i] (List.getElem_mem hlt2)
      have hrc := fun w (h : Tabs w) => notRight_calls os[i] w hps h
      generalize os[i] = p at *
      obtain ⟨c0, c1, c2, c3, c4⟩ := hci
      simp only [opV] at hrc
      generalize opRight p = R at *
      have HRC := Lib.hid hrc
      have HSN := Lib.hid hsn
      have HNO := Lib.hid hno
      clear hrc hsn hno hcell
      cases R
      · go_wp2_with (first
          | (go_at_call 21; (refine (HRC.out _ (HT.out.below (by repeat (first | (with_reducible exact HB.out) | apply below_alloc | apply pw_below_drewN | apply below_drew1 | exact HB.out)))).mono ?_); rintro e w1 ⟨rfl, hb⟩; clear c0 c1 c2 c3 c4; have HBn := Lib.hid (below_step (by repeat (first | (with_reducible exact HB.out) | apply below_alloc | apply pw_below_drewN | apply below_drew1 | exact HB.out)) hb); clear hb HB; have HB := HBn; clear HBn)
          | (fail "no arm"))
        go_ret
        exact ⟨_, rfl, .inl ⟨by omega, HNO.out (by simp)⟩, HB.out⟩
      · go_wp2_with (first
          | (go_at_call 21; (refine (HRC.out _ (HT.out.below (by repeat (first | (with_reducible exact HB.out) | apply below_alloc | apply pw_below_drewN | apply below_drew1 | exact HB.out)))).mono ?_); rintro e w1 ⟨rfl, hb⟩; clear c0 c1 c2 c3 c4; have HBn := Lib.hid (below_step (by repeat (first | (with_reducible exact HB.out) | apply below_alloc | apply pw_below_drewN | apply below_drew1 | exact HB.out)) hb); clear hb HB; have HB := HBn; clear HBn)
          | (fail "no arm"))
        go_roundw
        case rel => exact ⟨i + 1, by go_num, by omega, HSN, HB⟩
        case measure => simp [RowKit.intOf] <;> omega
    · obtain rfl : i = n := by omega
      have hall := HA.out
      rw [List.take_of_length_le (by rw [HL.out]; exact Nat.le_refl _)] at hall
      have HALL := Lib.hid hall
      clear hall
      go_wp2
      go_ret
      exact ⟨-1, rfl, .inr ⟨rfl, HALL.out⟩, HB.out⟩
theorem containsFunc_calls (A : Option Addr) (n c : Nat) (os : List OpR) (w : World) (hr : OpsAt w A n os) (hs : ∀ o ∈ os, o.name.size ≤ 9223372036854775807) (hT : Tabs w) :
    Calls Tryd.prog 20 #[.slice A n c, .func (.func 21) #[] #[]] w fun e w' => e = .returned (.bool (!os.all opRight)) ∧ Below w.heap.size w w' := by
  have H := Lib.hid (indexFunc_calls A n c os w hr hs hT)
  have HB := Lib.hid (Below.refl w.heap.size w)
  clear hr hs hT
  generalize os.all opRight = R at *
  go_enter Tryd.func20, Tryd.ntmps20
  go_wp2_with (first
    | (go_at_call 44; (refine H.out.mono ?_); rintro e w1 ⟨r, rfl, hr, hb⟩; have HBn := Lib.hid (below_step (by repeat (first | (with_reducible exact HB.out) | apply below_alloc | apply pw_below_drewN | apply below_drew1 | exact HB.out)) hb); clear hb HB; have HB := HBn; clear HBn)
    | (fail "no arm"))
  go_ret
  rcases hr with ⟨h, rfl⟩ | ⟨rfl, rfl⟩
  · exact ⟨by simp [h], HB.out⟩
  · exact ⟨by simp, HB.out⟩
end Go.Proofs.YtfnoegijkdhckaaDoor
/- Sums of bytes: plain lemmas on numbers. One step per binary digit; four at once by a table. -/
namespace Go.Proofs.YtfnoegijkdhckaaDoor

/-- One binary digit. -/
def st (x : Nat) : Nat := x / 2 ^^^ (if x % 2 = 1 then 3988292384 else 0)
def stN : Nat → Nat → Nat
  | 0, x => x
  | k + 1, x => stN k (st x)

theorem xor_half (x y : Nat) : (x ^^^ y) / 2 = x / 2 ^^^ y / 2 := by
  have h := Nat.shiftRight_xor_distrib (a := x) (b := y) (i := 1)
  simpa [Nat.shiftRight_eq_div_pow] using h
theorem xor_par (x y : Nat) : (x ^^^ y) % 2 = (x % 2 + y % 2) % 2 := by
  have h := Nat.testBit_xor x y 0
  simp only [Nat.testBit_zero] at h
  have h1 := Nat.mod_two_eq_zero_or_one x
  have h2 := Nat.mod_two_eq_zero_or_one y
  have h3 := Nat.mod_two_eq_zero_or_one (x ^^^ y)
  rcases h1 with h1 | h1 <;> rcases h2 with h2 | h2 <;> rcases h3 with h3 | h3 <;> simp_all
theorem st_xor (x y : Nat) : st (x ^^^ y) = st x ^^^ st y := by
  unfold st
  rw [xor_half]
  have hp := xor_par x y
  have h1 := Nat.mod_two_eq_zero_or_one x
  have h2 := Nat.mod_two_eq_zero_or_one y
  generalize x / 2 = a
  generalize y / 2 = b
  rcases h1 with h1 | h1 <;> rcases h2 with h2 | h2
  · rw [h1, h2] at hp; rw [h1, h2, hp]; simp
  · rw [h1, h2] at hp; rw [h1, h2, hp]; simp [Nat.xor_assoc]
  · rw [h1, h2] at hp
    rw [h1, h2, hp]
    simp only [Nat.zero_ne_one, if_false, if_true, Nat.xor_zero]
    rw [Nat.xor_assoc, Nat.xor_comm b, ← Nat.xor_assoc]
  · rw [h1, h2] at hp
    rw [h1, h2, hp]
    simp only [Nat.reduceAdd, Nat.reduceMod, Nat.zero_ne_one, if_false, if_true, Nat.xor_zero]
    rw [Nat.xor_assoc, Nat.xor_comm b, ← Nat.xor_assoc 3988292384, Nat.xor_self, Nat.zero_xor]
theorem stN_xor (k : Nat) : ∀ x y, stN k (x ^^^ y) = stN k x ^^^ stN k y := by
  induction k with
  | zero => intro x y; rfl
  | succ k ih => intro x y; rw [stN, stN, stN, st_xor, ih]
theorem st_lt {x : Nat} (h : x < 4294967296) : st x < 4294967296 := by
  unfold st
  exact Nat.xor_lt_two_pow (n := 32) (by omega) (by split <;> omega)
theorem stN_lt (k : Nat) : ∀ {x : Nat}, x < 4294967296 → stN k x < 4294967296 := by
  induction k with
  | zero => intro x h; exact h
  | succ k ih => intro x h; exact ih (st_lt h)
theorem st_even (x : Nat) (h : x % 2 = 0) : st x = x / 2 := by unfold st; rw [if_neg (by omega), Nat.xor_zero]
theorem stN_mul (x : Nat) : stN 4 (16 * x) = x := by
  have h1 : st (16 * x) = 8 * x := by rw [st_even _ (by omega)]; omega
  have h2 : st (8 * x) = 4 * x := by rw [st_even _ (by omega)]; omega
  have h3 : st (4 * x) = 2 * x := by rw [st_even _ (by omega)]; omega
  have h4 : st (2 * x) = x := by rw [st_even _ (by omega)]; omega
  show st (st (st (st (16 * x)))) = x
  rw [h1, h2, h3, h4]
theorem nib_split (x : Nat) : 16 * (x / 16) ^^^ x % 16 = x := by
  have h := Nat.div_add_mod x 16
  conv => rhs; rw [← h]
  apply Nat.eq_of_testBit_eq
  intro i
  rw [Nat.testBit_xor]
  have e : 16 * (x / 16) + x % 16 = 2 ^ 4 * (x / 16) + x % 16 := rfl
  rw [e, Nat.testBit_two_pow_mul_add _ (by omega)]
  have e2 : 16 * (x / 16) = 2 ^ 4 * (x / 16) := rfl
  rw [e2, Nat.testBit_two_pow_mul]
  by_cases hi : i < 4
  · rw [if_pos hi]
    have : decide (i ≥ 4) = false := decide_eq_false (by omega)
    simp [this]
  · rw [if_neg hi]
    have : decide (i ≥ 4) = true := decide_eq_true (by omega)
    have h0 : (x % 16).testBit i = false := Nat.testBit_lt_two_pow (Nat.lt_of_lt_of_le (Nat.mod_lt x (by decide)) (show 2 ^ 4 ≤ 2 ^ i from Nat.pow_le_pow_right (by decide) (by omega)))
    simp [this, h0]
/-- Four digits at once: by a table of sixteen. -/
theorem nib_table (x : Nat) : x / 16 ^^^ stN 4 (x % 16) = stN 4 x := by
  conv => rhs; rw [← nib_split x]
  rw [stN_xor, stN_mul]
theorem stN_add (j : Nat) : ∀ (k x : Nat), stN (j + k) x = stN k (stN j x) := by
  induction j with
  | zero => intro k x; rw [Nat.zero_add]; rfl
  | succ j ih => intro k x; rw [show j + 1 + k = (j + k) + 1 by omega, stN, ih, stN]

/-- The sum's state behind bytes. -/
def crc (x : Nat) (bs : List Int) : Nat := bs.foldl (fun x c => stN 8 (x ^^^ c.toNat)) x
theorem crc_snoc (x : Nat) (bs : List Int) (c : Int) : crc x (bs ++ [c]) = stN 8 (crc x bs ^^^ c.toNat) := by rw [crc, List.foldl_append]; rfl
theorem crc_lt {x : Nat} (hx : x < 4294967296) (bs : List Int) (hb : ∀ c ∈ bs, 0 ≤ c ∧ c < 256) : crc x bs < 4294967296 := by
  induction bs generalizing x with
  | nil => exact hx
  | cons c bs ih =>
    have hc := hb c (by simp)
    exact ih (stN_lt 8 (Nat.xor_lt_two_pow (n := 32) hx (by omega))) (fun d hd => hb d (by simp [hd]))

theorem bits_xor_u32 (a b : Nat) (ha : a < 4294967296) (hb : b < 4294967296) : bits .xor .u32 (a : Int) (b : Int) = ((a ^^^ b : Nat) : Int) := by
  have h : a ^^^ b < 4294967296 := Nat.xor_lt_two_pow (n := 32) ha hb
  have e : IntKind.u32.bits = 32 := rfl
  unfold bits
  simp only [e, BitVec.ofInt_natCast, BitVec.toNat_xor, BitVec.toNat_ofNat]
  rw [Nat.mod_eq_of_lt (by omega), Nat.mod_eq_of_lt (by omega)]
  simp [IntKind.wrap, IntKind.bits, IntKind.signed]
  omega
theorem bits_and_one (a : Nat) (ha : a < 4294967296) : bits .and .u32 (a : Int) 1 = ((a % 2 : Nat) : Int) := by
  have h1 : (BitVec.ofInt 32 (a : Int)).toNat = a := by
    rw [BitVec.ofInt_natCast, BitVec.toNat_ofNat]; exact Nat.mod_eq_of_lt (by omega)
  have h2 : (BitVec.ofInt 32 (1 : Int)).toNat = 1 := by decide
  show IntKind.u32.wrap ((BitVec.ofInt 32 (a : Int) &&& BitVec.ofInt 32 (1 : Int)).toNat : Int) = _
  rw [BitVec.toNat_and, h1, h2, Nat.and_one_is_mod]
  simp [IntKind.wrap, IntKind.bits, IntKind.signed]
  omega
end Go.Proofs.YtfnoegijkdhckaaDoor
/- Package sum, and the reference's sums. -/
namespace Go.Proofs.YtfnoegijkdhckaaDoor
open Go.RowKit Go.Proofs.YtfnoegijkdhckaaDoorW.PrintWords

/-- The table, as far as it is filled. -/
def tabC (k : Nat) : Array Value := ((List.range 16).map fun i => Value.int .u32 (if i < k then ((stN 4 i : Nat) : Int) else 0)).toArray
theorem tabC_zero : tabC 0 = #[.int .u32 0, .int .u32 0, .int .u32 0, .int .u32 0, .int .u32 0, .int .u32 0, .int .u32 0, .int .u32 0, .int .u32 0, .int .u32 0, .int .u32 0, .int .u32 0, .int .u32 0, .int .u32 0, .int .u32 0, .int .u32 0] := rfl
theorem tabC_full : tabC 16 = #[.int .u32 ((stN 4 0 : Nat) : Int), .int .u32 ((stN 4 1 : Nat) : Int), .int .u32 ((stN 4 2 : Nat) : Int), .int .u32 ((stN 4 3 : Nat) : Int), .int .u32 ((stN 4 4 : Nat) : Int), .int .u32 ((stN 4 5 : Nat) : Int), .int .u32 ((stN 4 6 : Nat) : Int), .int .u32 ((stN 4 7 : Nat) : Int), .int .u32 ((stN 4 8 : Nat) : Int), .int .u32 ((stN 4 9 : Nat) : Int), .int .u32 ((stN 4 10 : Nat) : Int), .int .u32 ((stN 4 11 : Nat) : Int), .int .u32 ((stN 4 12 : Nat) : Int), .int .u32 ((stN 4 13 : Nat) : Int), .int .u32 ((stN 4 14 : Nat) : Int), .int .u32 ((stN 4 15 : Nat) : Int)] := rfl
theorem tabC_get (k i : Nat) (hi : i < 16) : (tabC k)[i]? = some (.int .u32 (if i < k then ((stN 4 i : Nat) : Int) else 0)) := by
  unfold tabC
  simp [hi]
theorem tabC_set (k : Nat) (hk : k < 16) : (tabC k).setIfInBounds k (.int .u32 ((stN 4 k : Nat) : Int)) = tabC (k + 1) := by
  apply Array.ext_getElem?
  intro i
  rw [Array.getElem?_setIfInBounds]
  have hsz : (tabC k).size = 16 := by simp [tabC]
  by_cases hi : i < 16
  · rw [tabC_get _ i hi, tabC_get _ i hi, hsz]
    by_cases h : k = i
    · subst h; simp [hk]
    · rw [if_neg h]
      by_cases h2 : i < k
      · rw [if_pos h2, if_pos (by omega)]
      · rw [if_neg h2, if_neg (by omega)]
  · have h1 : (tabC k)[i]? = none := Array.getElem?_eq_none (by rw [hsz]; omega)
    have h2 : (tabC (k + 1))[i]? = none := Array.getElem?_eq_none (by simp [tabC]; omega)
    rw [if_neg (by omega), h1, h2]

set_option maxHeartbeats 4000000 in
theorem table_calls (w : World) : Calls Tryd.prog 62 #[] w fun e w' => e = .returned (.agg (tabC 16)) ∧ Below w.heap.size w w' := by
  have hB := Lib.hid (((Below.refl w.heap.size w).alloc (Nat.le_refl _) (.cells #[.int .u32 0, .int .u32 0, .int .u32 0, .int .u32 0, .int .u32 0, .int .u32 0, .int .u32 0, .int .u32 0, .int .u32 0, .int .u32 0, .int .u32 0, .int .u32 0, .int .u32 0, .int .u32 0, .int .u32 0, .int .u32 0] 86)).alloc (by simp) (.cells #[.int .u32 0, .int .u32 0, .int .u32 0, .int .u32 0, .int .u32 0, .int .u32 0, .int .u32 0, .int .u32 0, .int .u32 0, .int .u32 0, .int .u32 0, .int .u32 0, .int .u32 0, .int .u32 0, .int .u32 0, .int .u32 0] 86))
  go_enter Tryd.func62, Tryd.ntmps62
  go_wp2
  go_loopw [4] (fun vi W => ∃ k : Nat, vi = .int .i64 k ∧ k ≤ 16 ∧ Hid (W.heap[w.heap.size]? = some (.cells (tabC 0) 86 (0, 0))) ∧ Hid (W.heap[w.heap.size + 1]? = some (.cells (tabC k) 86 (0, 0))) ∧ Hid (Below w.heap.size w W)) (fun vi _ => (16 - RowKit.intOf vi).toNat)
  case atStart => exact ⟨0, rfl, by omega, Lib.hid (blk_alloc (blk_new _ _) _), Lib.hid (by have := blk_new (w.alloc (.cells #[.int .u32 0, .int .u32 0, .int .u32 0, .int .u32 0, .int .u32 0, .int .u32 0, .int .u32 0, .int .u32 0, .int .u32 0, .int .u32 0, .int .u32 0, .int .u32 0, .int .u32 0, .int .u32 0, .int .u32 0, .int .u32 0] 86)) (.cells #[.int .u32 0, .int .u32 0, .int .u32 0, .int .u32 0, .int .u32 0, .int .u32 0, .int .u32 0, .int .u32 0, .int .u32 0, .int .u32 0, .int .u32 0, .int .u32 0, .int .u32 0, .int .u32 0, .int .u32 0, .int .u32 0] 86); rw [World.size_alloc] at this; exact this), hB⟩
  case round =>
    clear hB
    obtain ⟨k, rfl, hk, HZ, HT, HB⟩ := hrel
    by_cases hlt : k < 16
    · have hbk : decide ((k : Int) < 16) = true := decide_eq_true (by omega)
      go_wp2
      go_loop [3, 9] (fun vx vj => ∃ j x : Nat, vj = .int .i64 j ∧ j ≤ 4 ∧ vx = .int .u32 x ∧ x < 4294967296 ∧ Hid (stN (4 - j) x = stN 4 k)) (fun _ vj => (4 - RowKit.intOf vj).toNat)
      case atStart => exact ⟨0, k, rfl, by omega, rfl, by omega, Lib.hid rfl⟩
      case round =>
        obtain ⟨j, x, rfl, hj, rfl, hx, HX⟩ := hrel
        by_cases hj4 : j < 4
        · have hand := bits_and_one x hx
          have hxor := bits_xor_u32 (x / 2) (if x % 2 = 1 then 3988292384 else 0) (by omega) (by split <;> omega)
          have hst : x / 2 ^^^ (if x % 2 = 1 then 3988292384 else 0) = st x := rfl
          rw [hst] at hxor
          have hX2 := Lib.hid (show stN (4 - (j + 1)) (st x) = stN 4 k by rw [← HX.out, show 4 - j = (4 - (j + 1)) + 1 by omega]; rfl)
          have hlt2 := st_lt hx
          have hd : ((x / 2 : Nat) : Int) = (x : Int) / 2 := by omega
          clear hst
          rcases Nat.mod_two_eq_zero_or_one x with hm | hm
          · have hand' : bits .and .u32 (x : Int) 1 = 0 := by rw [hand, hm]; rfl
            have hxor' : bits .xor .u32 ((x : Int) / 2) 0 = ((st x : Nat) : Int) := by rw [hm, if_neg (by decide), hd] at hxor; exact hxor
            clear hm hd hand hxor
            go_wp2
            go_round
            case rel => exact ⟨j + 1, st x, by go_num, by omega, rfl, hlt2, hX2⟩
            case measure => simp [RowKit.intOf] <;> omega
          · have hand' : bits .and .u32 (x : Int) 1 = 1 := by rw [hand, hm]; rfl
            have hxor' : bits .xor .u32 ((x : Int) / 2) 3988292384 = ((st x : Nat) : Int) := by rw [hm, if_pos rfl, hd] at hxor; exact hxor
            clear hm hd hand hxor
            go_wp2
            go_round
            case rel => exact ⟨j + 1, st x, by go_num, by omega, rfl, hlt2, hX2⟩
            case measure => simp [RowKit.intOf] <;> omega
        · obtain rfl : j = 4 := by omega
          have hxe : x = stN 4 k := HX.out
          have c0 : wr.cell? ⟨w.heap.size + 1, k, none⟩ = some (.int .u32 0) := by rw [blk_cell HT.out k, tabC_get k k hlt, if_neg (by omega)]
          have z0 := blk_frozen HT.out k
          have HXE := Lib.hid hxe
          clear hxe
          go_wp2
          go_roundw
          case rel => exact ⟨k + 1, by go_num, by omega, Lib.hid (blk_far HZ.out (show w.heap.size ≠ w.heap.size + 1 by omega) _), Lib.hid (by have := blk_set HT.out k (.int .u32 x); rw [HXE.out, tabC_set k hlt] at this; rw [HXE.out]; exact this), Lib.hid (HB.out.setCell (by simp) _)⟩
          case measure => simp [RowKit.intOf] <;> omega
    · obtain rfl : k = 16 := by omega
      have HT2 := HT.out
      rw [tabC_full] at HT2
      have HZ2 := HZ.out
      rw [tabC_zero] at HZ2
      have c0 : wr.cell? ⟨w.heap.size + 1, 0, none⟩ = some (.int .u32 ((stN 4 0 : Nat) : Int)) := blk_cell HT2 0
      have d0 : wr.cell? ⟨w.heap.size, 0, none⟩ = some (.int .u32 0) := blk_cell HZ2 0
      have z0 := blk_frozen HZ2 0
      have c1 : wr.cell? ⟨w.heap.size + 1, 1, none⟩ = some (.int .u32 ((stN 4 1 : Nat) : Int)) := blk_cell HT2 1
      have d1 : wr.cell? ⟨w.heap.size, 1, none⟩ = some (.int .u32 0) := blk_cell HZ2 1
      have z1 := blk_frozen HZ2 1
      have c2 : wr.cell? ⟨w.heap.size + 1, 2, none⟩ = some (.int .u32 ((stN 4 2 : Nat) : Int)) := blk_cell HT2 2
      have d2 : wr.cell? ⟨w.heap.size, 2, none⟩ = some (.int .u32 0) := blk_cell HZ2 2
      have z2 := blk_frozen HZ2 2
      have c3 : wr.cell? ⟨w.heap.size + 1, 3, none⟩ = some (.int .u32 ((stN 4 3 : Nat) : Int)) := blk_cell HT2 3
      have d3 : wr.cell? ⟨w.heap.size, 3, none⟩ = some (.int .u32 0) := blk_cell HZ2 3
      have z3 := blk_frozen HZ2 3
      have c4 : wr.cell? ⟨w.heap.size + 1, 4, none⟩ = some (.int .u32 ((stN 4 4 : Nat) : Int)) := blk_cell HT2 4
      have d4 : wr.cell? ⟨w.heap.size, 4, none⟩ = some (.int .u32 0) := blk_cell HZ2 4
      have z4 := blk_frozen HZ2 4
      have c5 : wr.cell? ⟨w.heap.size + 1, 5, none⟩ = some (.int .u32 ((stN 4 5 : Nat) : Int)) := blk_cell HT2 5
      have d5 : wr.cell? ⟨w.heap.size, 5, none⟩ = some (.int .u32 0) := blk_cell HZ2 5
      have z5 := blk_frozen HZ2 5
      have c6 : wr.cell? ⟨w.heap.size + 1, 6, none⟩ = some (.int .u32 ((stN 4 6 : Nat) : Int)) := blk_cell HT2 6
      have d6 : wr.cell? ⟨w.heap.size, 6, none⟩ = some (.int .u32 0) := blk_cell HZ2 6
      have z6 := blk_frozen HZ2 6
      have c7 : wr.cell? ⟨w.heap.size + 1, 7, none⟩ = some (.int .u32 ((stN 4 7 : Nat) : Int)) := blk_cell HT2 7
      have d7 : wr.cell? ⟨w.heap.size, 7, none⟩ = some (.int .u32 0) := blk_cell HZ2 7
      have z7 := blk_frozen HZ2 7
      have c8 : wr.cell? ⟨w.heap.size + 1, 8, none⟩ = some (.int .u32 ((stN 4 8 : Nat) : Int)) := blk_cell HT2 8
      have d8 : wr.cell? ⟨w.heap.size, 8, none⟩ = some (.int .u32 0) := blk_cell HZ2 8
      have z8 := blk_frozen HZ2 8
      have c9 : wr.cell? ⟨w.heap.size + 1, 9, none⟩ = some (.int .u32 ((stN 4 9 : Nat) : Int)) := blk_cell HT2 9
      have d9 : wr.cell? ⟨w.heap.size, 9, none⟩ = some (.int .u32 0) := blk_cell HZ2 9
      have z9 := blk_frozen HZ2 9
      have c10 : wr.cell? ⟨w.heap.size + 1, 10, none⟩ = some (.int .u32 ((stN 4 10 : Nat) : Int)) := blk_cell HT2 10
      have d10 : wr.cell? ⟨w.heap.size, 10, none⟩ = some (.int .u32 0) := blk_cell HZ2 10
      have z10 := blk_frozen HZ2 10
      have c11 : wr.cell? ⟨w.heap.size + 1, 11, none⟩ = some (.int .u32 ((stN 4 11 : Nat) : Int)) := blk_cell HT2 11
      have d11 : wr.cell? ⟨w.heap.size, 11, none⟩ = some (.int .u32 0) := blk_cell HZ2 11
      have z11 := blk_frozen HZ2 11
      have c12 : wr.cell? ⟨w.heap.size + 1, 12, none⟩ = some (.int .u32 ((stN 4 12 : Nat) : Int)) := blk_cell HT2 12
      have d12 : wr.cell? ⟨w.heap.size, 12, none⟩ = some (.int .u32 0) := blk_cell HZ2 12
      have z12 := blk_frozen HZ2 12
      have c13 : wr.cell? ⟨w.heap.size + 1, 13, none⟩ = some (.int .u32 ((stN 4 13 : Nat) : Int)) := blk_cell HT2 13
      have d13 : wr.cell? ⟨w.heap.size, 13, none⟩ = some (.int .u32 0) := blk_cell HZ2 13
      have z13 := blk_frozen HZ2 13
      have c14 : wr.cell? ⟨w.heap.size + 1, 14, none⟩ = some (.int .u32 ((stN 4 14 : Nat) : Int)) := blk_cell HT2 14
      have d14 : wr.cell? ⟨w.heap.size, 14, none⟩ = some (.int .u32 0) := blk_cell HZ2 14
      have z14 := blk_frozen HZ2 14
      have c15 : wr.cell? ⟨w.heap.size + 1, 15, none⟩ = some (.int .u32 ((stN 4 15 : Nat) : Int)) := blk_cell HT2 15
      have d15 : wr.cell? ⟨w.heap.size, 15, none⟩ = some (.int .u32 0) := blk_cell HZ2 15
      have z15 := blk_frozen HZ2 15
      have HT3 := Lib.hid HT2
      have HZ3 := Lib.hid HZ2
      clear HT2 HZ2
      go_wp2
      refine (show ∀ W : World, (W.heap[w.heap.size]? = some (.cells (tabC 16) 86 (0, 0)) ∧ Below w.heap.size w W) → bodyPost _ _ _ _ _ W from fun W h => ?_) _ ⟨(blk_put (blk_put (blk_put (blk_put (blk_put (blk_put (blk_put (blk_put (blk_put (blk_put (blk_put (blk_put (blk_put (blk_put (blk_put (blk_put HZ3.out 0 (.int .u32 ((stN 4 0 : Nat) : Int)) rfl) 1 (.int .u32 ((stN 4 1 : Nat) : Int)) rfl) 2 (.int .u32 ((stN 4 2 : Nat) : Int)) rfl) 3 (.int .u32 ((stN 4 3 : Nat) : Int)) rfl) 4 (.int .u32 ((stN 4 4 : Nat) : Int)) rfl) 5 (.int .u32 ((stN 4 5 : Nat) : Int)) rfl) 6 (.int .u32 ((stN 4 6 : Nat) : Int)) rfl) 7 (.int .u32 ((stN 4 7 : Nat) : Int)) rfl) 8 (.int .u32 ((stN 4 8 : Nat) : Int)) rfl) 9 (.int .u32 ((stN 4 9 : Nat) : Int)) rfl) 10 (.int .u32 ((stN 4 10 : Nat) : Int)) rfl) 11 (.int .u32 ((stN 4 11 : Nat) : Int)) rfl) 12 (.int .u32 ((stN 4 12 : Nat) : Int)) rfl) 13 (.int .u32 ((stN 4 13 : Nat) : Int)) rfl) 14 (.int .u32 ((stN 4 14 : Nat) : Int)) rfl) 15 (.int .u32 ((stN 4 15 : Nat) : Int)) rfl), ((((((((((((((((HB.out.setCell (Nat.le_refl _) _).setCell (Nat.le_refl _) _).setCell (Nat.le_refl _) _).setCell (Nat.le_refl _) _).setCell (Nat.le_refl _) _).setCell (Nat.le_refl _) _).setCell (Nat.le_refl _) _).setCell (Nat.le_refl _) _).setCell (Nat.le_refl _) _).setCell (Nat.le_refl _) _).setCell (Nat.le_refl _) _).setCell (Nat.le_refl _) _).setCell (Nat.le_refl _) _).setCell (Nat.le_refl _) _).setCell (Nat.le_refl _) _).setCell (Nat.le_refl _) _)⟩
      obtain ⟨hG, hBW⟩ := h
      rw [tabC_full] at hG
      have k0 : W.cell? ⟨w.heap.size, 0, none⟩ = some (.int .u32 ((stN 4 0 : Nat) : Int)) := blk_cell hG 0
      have k1 : W.cell? ⟨w.heap.size, 1, none⟩ = some (.int .u32 ((stN 4 1 : Nat) : Int)) := blk_cell hG 1
      have k2 : W.cell? ⟨w.heap.size, 2, none⟩ = some (.int .u32 ((stN 4 2 : Nat) : Int)) := blk_cell hG 2
      have k3 : W.cell? ⟨w.heap.size, 3, none⟩ = some (.int .u32 ((stN 4 3 : Nat) : Int)) := blk_cell hG 3
      have k4 : W.cell? ⟨w.heap.size, 4, none⟩ = some (.int .u32 ((stN 4 4 : Nat) : Int)) := blk_cell hG 4
      have k5 : W.cell? ⟨w.heap.size, 5, none⟩ = some (.int .u32 ((stN 4 5 : Nat) : Int)) := blk_cell hG 5
      have k6 : W.cell? ⟨w.heap.size, 6, none⟩ = some (.int .u32 ((stN 4 6 : Nat) : Int)) := blk_cell hG 6
      have k7 : W.cell? ⟨w.heap.size, 7, none⟩ = some (.int .u32 ((stN 4 7 : Nat) : Int)) := blk_cell hG 7
      have k8 : W.cell? ⟨w.heap.size, 8, none⟩ = some (.int .u32 ((stN 4 8 : Nat) : Int)) := blk_cell hG 8
      have k9 : W.cell? ⟨w.heap.size, 9, none⟩ = some (.int .u32 ((stN 4 9 : Nat) : Int)) := blk_cell hG 9
      have k10 : W.cell? ⟨w.heap.size, 10, none⟩ = some (.int .u32 ((stN 4 10 : Nat) : Int)) := blk_cell hG 10
      have k11 : W.cell? ⟨w.heap.size, 11, none⟩ = some (.int .u32 ((stN 4 11 : Nat) : Int)) := blk_cell hG 11
      have k12 : W.cell? ⟨w.heap.size, 12, none⟩ = some (.int .u32 ((stN 4 12 : Nat) : Int)) := blk_cell hG 12
      have k13 : W.cell? ⟨w.heap.size, 13, none⟩ = some (.int .u32 ((stN 4 13 : Nat) : Int)) := blk_cell hG 13
      have k14 : W.cell? ⟨w.heap.size, 14, none⟩ = some (.int .u32 ((stN 4 14 : Nat) : Int)) := blk_cell hG 14
      have k15 : W.cell? ⟨w.heap.size, 15, none⟩ = some (.int .u32 ((stN 4 15 : Nat) : Int)) := blk_cell hG 15
      have HG := Lib.hid hG
      clear hG
      refine bodyPost_ret (by simp [results, Tryd.results62, go_sem, k0, k1, k2, k3, k4, k5, k6, k7, k8, k9, k10, k11, k12, k13, k14, k15]; try rfl) rfl ?_
      exact ⟨by rw [tabC_full], hBW⟩
end Go.Proofs.YtfnoegijkdhckaaDoor
/- Package sum: what bytes' sum comes to. -/
namespace Go.Proofs.YtfnoegijkdhckaaDoor
open Go.RowKit Go.Proofs.YtfnoegijkdhckaaDoorW.PrintWords

theorem nib_bits (z : Nat) (hz : z < 4294967296) : bits .xor .u32 ((z / 16 : Nat) : Int) ((stN 4 (z % 16) : Nat) : Int) = ((stN 4 z : Nat) : Int) := by
  rw [bits_xor_u32 _ _ (by omega) (stN_lt 4 (by omega)), nib_table]
theorem tab_cell {W : World} {g : Nat} (h : W.heap[g]? = some (.cells (tabC 16) 86 (0, 0))) (r : Nat) (hr : r < 16) : W.cell? ⟨g, r, none⟩ = some (.int .u32 ((stN 4 r : Nat) : Int)) := by
  rw [blk_cell h r, tabC_get 16 r hr, if_pos hr]

def topN : Nat := 4294967295
def notU (x : Nat) : Int := 4294967295 - x
theorem top_lt : topN < 4294967296 := by decide
theorem bits_not (x : Nat) (hx : x < 4294967296) : bits .xor .u32 IntKind.u32.max (x : Int) = notU x := by
  have h := bits_xor_u32 4294967295 x (by decide) hx
  have e : IntKind.u32.max = ((4294967295 : Nat) : Int) := by decide
  rw [e, h]
  have : 4294967295 ^^^ x = 4294967295 - x := by
    have e2 : 4294967295 - x = 2 ^ 32 - (x + 1) := by omega
    rw [e2]
    apply Nat.eq_of_testBit_eq
    intro i
    rw [Nat.testBit_xor, Nat.testBit_two_pow_sub_succ (by omega), show (4294967295 : Nat) = 2 ^ 32 - 1 from rfl, Nat.testBit_two_pow_sub_one]
    by_cases hi : i < 32
    · simp [hi]
    · have h0 : x.testBit i = false := Nat.testBit_lt_two_pow (Nat.lt_of_lt_of_le hx (show 2 ^ 32 ≤ 2 ^ i from Nat.pow_le_pow_right (by decide) (by omega)))
      simp [hi, h0]
  rw [this]
  unfold notU
  omega
theorem bits_not0 : bits .xor .u32 IntKind.u32.max 0 = ((topN : Nat) : Int) := by decide

set_option maxHeartbeats 2000000 in
theorem then_calls (A : Option Addr) (n c : Nat) (xs : List Int) (w : World) (hr : ReadsInt w .u8 A n xs) (hx : ∀ x ∈ xs, 0 ≤ x ∧ x < 256) :
    Calls Tryd.prog 49 #[.int .u32 0, .slice A n c] w fun e w' => e = .returned (.int .u32 (notU (crc topN xs))) ∧ Below w.heap.size w w' := by
  have HR := Lib.hid hr
  have HX := Lib.hid hx
  have hl := hr.1
  have hm : n ≤ 9223372036854775807 := hr.2.1
  have HL := Lib.hid hl
  have HB := Lib.hid (Below.refl w.heap.size w)
  have h0 := bits_not0
  have htc := table_calls
  rw [tabC_full] at htc
  have HTC := Lib.hid htc
  clear hr hx hl htc
  go_enter Tryd.func49, Tryd.ntmps49
  go_wp2_with (first
    | (go_at_call 62; (refine (HTC.out _).mono ?_); rintro e w1 ⟨rfl, hb⟩; have HBn := Lib.hid (below_step (by repeat (first | (with_reducible exact HB.out) | apply below_alloc | apply pw_below_drewN | apply below_drew1 | exact HB.out)) hb); clear hb HB; have HB := HBn; clear HBn)
    | (fail "no arm"))
  have HTB := Lib.hid (show (w1.alloc (.cells #[.int .u32 ((stN 4 0 : Nat) : Int), .int .u32 ((stN 4 1 : Nat) : Int), .int .u32 ((stN 4 2 : Nat) : Int), .int .u32 ((stN 4 3 : Nat) : Int), .int .u32 ((stN 4 4 : Nat) : Int), .int .u32 ((stN 4 5 : Nat) : Int), .int .u32 ((stN 4 6 : Nat) : Int), .int .u32 ((stN 4 7 : Nat) : Int), .int .u32 ((stN 4 8 : Nat) : Int), .int .u32 ((stN 4 9 : Nat) : Int), .int .u32 ((stN 4 10 : Nat) : Int), .int .u32 ((stN 4 11 : Nat) : Int), .int .u32 ((stN 4 12 : Nat) : Int), .int .u32 ((stN 4 13 : Nat) : Int), .int .u32 ((stN 4 14 : Nat) : Int), .int .u32 ((stN 4 15 : Nat) : Int)] 86)).heap[w1.heap.size]? = some (.cells (tabC 16) 86 (0, 0)) by rw [tabC_full]; exact blk_new _ _)
  have HBA := Lib.hid (show Below w.heap.size w (w1.alloc (.cells #[.int .u32 ((stN 4 0 : Nat) : Int), .int .u32 ((stN 4 1 : Nat) : Int), .int .u32 ((stN 4 2 : Nat) : Int), .int .u32 ((stN 4 3 : Nat) : Int), .int .u32 ((stN 4 4 : Nat) : Int), .int .u32 ((stN 4 5 : Nat) : Int), .int .u32 ((stN 4 6 : Nat) : Int), .int .u32 ((stN 4 7 : Nat) : Int), .int .u32 ((stN 4 8 : Nat) : Int), .int .u32 ((stN 4 9 : Nat) : Int), .int .u32 ((stN 4 10 : Nat) : Int), .int .u32 ((stN 4 11 : Nat) : Int), .int .u32 ((stN 4 12 : Nat) : Int), .int .u32 ((stN 4 13 : Nat) : Int), .int .u32 ((stN 4 14 : Nat) : Int), .int .u32 ((stN 4 15 : Nat) : Int)] 86)) from HB.out.alloc (HB.out.size) _)
  clear HB
  go_loopw [6, 14] (fun vx vi W => ∃ k x : Nat, vi = .int .i64 k ∧ k ≤ n ∧ vx = .int .u32 x ∧ x < 4294967296 ∧ Hid (x = crc topN (xs.take k)) ∧ Hid (W.heap[w1.heap.size]? = some (.cells (tabC 16) 86 (0, 0))) ∧ Hid (Below w.heap.size w W)) (fun _ vi _ => (n - (RowKit.intOf vi).toNat))
  case atStart => exact ⟨0, topN, rfl, by omega, rfl, top_lt, Lib.hid rfl, HTB, HBA⟩
  case round =>
    clear HTB HBA
    obtain ⟨k, x, rfl, hk, rfl, hx, HE, HTB, HB⟩ := hrel
    by_cases hlt : k < n
    · have hlt2 : k < xs.length := by rw [HL.out]; exact hlt
      obtain ⟨ad, rfl, hcell⟩ := HR.out.at_ k (by omega) (by omega)
      rw [Int.toNat_natCast] at hcell
      have hrd : rd xs k = xs[k] := by unfold rd; rw [Int.toNat_natCast, List.getD_eq_getElem?_getD, List.getElem?_eq_getElem hlt2]; rfl
      rw [hrd] at hcell
      have hc0 := HX.out xs[k] (List.getElem_mem hlt2)
      have hsn := crc_snoc topN (xs.take k) xs[k]
      rw [← List.take_succ_eq_append_getElem hlt2, ← HE.out] at hsn
      generalize xs[k] = d at *
      obtain ⟨e, rfl⟩ := Int.eq_ofNat_of_zero_le hc0.1
      have he : e < 256 := by omega
      rw [Int.toNat_natCast] at hsn
      have hc1 := pw_cell_below HB.out hcell
      have hw : IntKind.u32.wrap (e : Int) = e := by simp [IntKind.wrap, IntKind.bits, IntKind.signed]; omega
      have x1 := bits_xor_u32 x e hx (by omega)
      have hz : x ^^^ e < 4294967296 := Nat.xor_lt_two_pow (n := 32) hx (by omega)
      generalize x ^^^ e = z at *
      have n1 := nib_bits z hz
      have hy := stN_lt 4 hz
      have hs8 : stN 8 z = stN 4 (stN 4 z) := stN_add 4 4 z
      rw [hs8] at hsn
      generalize hyy : stN 4 z = y at *
      have n2 := nib_bits y hy
      have hv := stN_lt 4 hy
      generalize hvv : stN 4 y = v at *
      obtain ⟨q1, hq1⟩ : ∃ q, q = z / 16 := ⟨_, rfl⟩
      obtain ⟨r1, hr1⟩ : ∃ r, r = z % 16 := ⟨_, rfl⟩
      obtain ⟨q2, hq2⟩ : ∃ q, q = y / 16 := ⟨_, rfl⟩
      obtain ⟨r2, hr2⟩ : ∃ r, r = y % 16 := ⟨_, rfl⟩
      have hr1' : r1 < 16 := by omega
      have hr2' : r2 < 16 := by omega
      rw [← hq1, ← hr1] at n1
      rw [← hq2, ← hr2] at n2
      have t1 := tab_cell HTB.out r1 hr1'
      have t2 := tab_cell HTB.out r2 hr2'
      have d1 : (z : Int) / 16 = (q1 : Int) := by omega
      have m1 : (z : Int) % 16 = (r1 : Int) := by omega
      have d2 : (y : Int) / 16 = (q2 : Int) := by omega
      have m2 : (y : Int) % 16 = (r2 : Int) := by omega
      have m1' : Int.tmod (z : Int) 16 = (r1 : Int) := by rw [Int.tmod_eq_emod_of_nonneg (by omega)]; exact m1
      have m2' : Int.tmod (y : Int) 16 = (r2 : Int) := by rw [Int.tmod_eq_emod_of_nonneg (by omega)]; exact m2
      generalize stN 4 r1 = u1 at *
      generalize stN 4 r2 = u2' at *
      have HSN := Lib.hid hsn.symm
      clear hsn hs8 hyy hvv hq1 hr1 hq2 hr2 hcell hrd hc0
      go_wp2
      go_roundw
      case rel => exact ⟨k + 1, v, by go_num, by omega, rfl, hv, HSN, HTB, HB⟩
      case measure => simp [RowKit.intOf] <;> omega
    · obtain rfl : k = n := by omega
      have hx2 := bits_not x hx
      have hall : xs.take k = xs := List.take_of_length_le (by rw [HL.out]; exact Nat.le_refl _)
      have HA := Lib.hid hall
      clear hall
      go_wp2
      go_ret
      have h := HE.out
      rw [HA.out] at h
      rw [← h]
      exact ⟨rfl, HB.out⟩
/-- Bytes' sum. -/
def sumN (xs : List Int) : Int := notU (crc topN xs)
theorem sumN_range (xs : List Int) (hx : ∀ x ∈ xs, 0 ≤ x ∧ x < 256) : 0 ≤ sumN xs ∧ sumN xs < 4294967296 := by
  have := crc_lt top_lt xs hx
  unfold sumN notU
  omega
theorem of_calls (A : Option Addr) (n c : Nat) (xs : List Int) (w : World) (hr : ReadsInt w .u8 A n xs) (hx : ∀ x ∈ xs, 0 ≤ x ∧ x < 256) :
    Calls Tryd.prog 26 #[.slice A n c] w fun e w' => e = .returned (.int .u32 (sumN xs)) ∧ Below w.heap.size w w' := by
  have H := Lib.hid (then_calls A n c xs w hr hx)
  have HS := Lib.hid (show sumN xs = notU (crc topN xs) from rfl)
  clear hr hx
  generalize notU (crc topN xs) = t at *
  go_enter Tryd.func26, Tryd.ntmps26
  go_wp2_with (first
    | (go_at_call 49; (refine H.out.mono ?_); rintro e w1 ⟨rfl, hb⟩)
    | (fail "no arm"))
  go_ret
  rw [HS.out]
  exact ⟨rfl, hb⟩
end Go.Proofs.YtfnoegijkdhckaaDoor
/- Sums as four bytes; the reference's sums, digit by digit. -/
namespace Go.Proofs.YtfnoegijkdhckaaDoor
open Go.RowKit Go.Proofs.YtfnoegijkdhckaaDoorW.PrintWords Go.Proofs.YtfnoegijkdhckaaDoorW.PrintLast Go.Proofs.YtfnoegijkdhckaaDoorW.PrintMore

/-- A sum's bytes. -/
def fourL (s : Int) : List Int := [s % 256, s / 256 % 256, s / 65536 % 256, s / 16777216 % 256]
theorem fourL_range (s : Int) : ∀ x ∈ fourL s, 0 ≤ x ∧ x < 256 := by
  intro x hx
  simp only [fourL, List.mem_cons, List.not_mem_nil, or_false] at hx
  rcases hx with rfl | rfl | rfl | rfl <;> omega
theorem four_f (s : Int) : PWireEncodes.sum_Four.f 5 s = some (fourL s) := by
  have e0 : wrap64 (8 * 0) = 0 := by unfold wrap64; omega
  have e1 : wrap64 (0 + 1) = 1 := by unfold wrap64; omega
  have e2 : wrap64 (8 * 1) = 8 := by unfold wrap64; omega
  have e3 : wrap64 (1 + 1) = 2 := by unfold wrap64; omega
  have e4 : wrap64 (8 * 2) = 16 := by unfold wrap64; omega
  have e5 : wrap64 (2 + 1) = 3 := by unfold wrap64; omega
  have e6 : wrap64 (8 * 3) = 24 := by unfold wrap64; omega
  have e7 : wrap64 (3 + 1) = 4 := by unfold wrap64; omega
  have s0 : shr .u32 s 0 = s := by unfold shr; simp
  have s1 : shr .u32 s 8 = s / 256 := by unfold shr; simp [IntKind.bits]
  have s2 : shr .u32 s 16 = s / 65536 := by unfold shr; simp [IntKind.bits]
  have s3 : shr .u32 s 24 = s / 16777216 := by unfold shr; simp [IntKind.bits]
  unfold PWireEncodes.sum_Four.f
  rw [PWireEncodes.sum_Four.l0, if_pos (by decide), e0, if_pos (by decide), if_pos (by simp), s0, e1]
  rw [PWireEncodes.sum_Four.l0, if_pos (by decide), e2, if_pos (by decide), if_pos (by simp), s1, e3]
  rw [PWireEncodes.sum_Four.l0, if_pos (by decide), e4, if_pos (by decide), if_pos (by simp), s2, e5]
  rw [PWireEncodes.sum_Four.l0, if_pos (by decide), e6, if_pos (by decide), if_pos (by simp), s3, e7]
  rw [PWireEncodes.sum_Four.l0, if_neg (by decide)]
  rfl
theorem rfour_f (s : Int) (h0 : 0 ≤ s) : PWireEncodes.holtref02_Four.f s = some (fourL s) := by
  unfold PWireEncodes.holtref02_Four.f fourL
  simp only [Int.tmod_eq_emod_of_nonneg h0, Int.tdiv_eq_ediv_of_nonneg h0]
  have a1 : s % 256 % 256 = s % 256 := by omega
  have a2 : s / 256 % 4294967296 % 256 = s / 256 % 256 := by omega
  have a3 : s / 65536 % 4294967296 % 256 = s / 65536 % 256 := by omega
  have a4 : s / 16777216 % 4294967296 % 256 = s / 16777216 % 256 := by omega
  rw [a1, a2, a3, a4]
theorem four_calls (s : Int) (w : World) : Calls Tryd.prog 25 #[.int .u32 s] w fun e w' => ∃ v, e = .returned v ∧ OwnB w' w.heap.size v (fourL s) ∧ Below w.heap.size w w' :=
  (PWireEncodes.sum_Four.calls 5 s _ w (four_f s)).mono fun _ _ ⟨v, he, h, hb⟩ => ⟨v, he, OwnB.of_R h, hb⟩
theorem rfour_calls (s : Int) (w : World) (h0 : 0 ≤ s) : Calls Tryd.prog 30 #[.int .u32 s] w fun e w' => ∃ v, e = .returned v ∧ OwnB w' w.heap.size v (fourL s) ∧ Below w.heap.size w w' :=
  (PWireEncodes.holtref02_Four.calls s _ w (rfour_f s h0)).mono fun _ _ ⟨v, he, h, hb⟩ => ⟨v, he, OwnB.of_R h, hb⟩

theorem st_same (x c : Nat) (h : x % 2 = c % 2) : st (x ^^^ c) = x / 2 ^^^ c / 2 := by
  have hp : (x ^^^ c) % 2 = 0 := by rw [xor_par, h]; omega
  rw [st_even _ hp, xor_half]
theorem st_unlike (x c : Nat) (h : x % 2 ≠ c % 2) : st (x ^^^ c) = (x / 2 ^^^ 3988292384) ^^^ c / 2 := by
  have hp : (x ^^^ c) % 2 = 1 := by rw [xor_par]; omega
  unfold st
  rw [if_pos hp, xor_half, Nat.xor_assoc, Nat.xor_comm (c / 2), ← Nat.xor_assoc]
theorem rthen_l1 (xs : List Int) (i : Int) (d : Nat) : ∀ (x c k : Nat), d ≤ 8 → x < 4294967296 → c < 2 ^ d → PWireEncodes.holtref02_Then.l1 (k + d + 1) xs x i c ((8 - d : Nat) : Int) = PWireEncodes.holtref02_Then.l0 k xs ((stN d (x ^^^ c) : Nat) : Int) (wrap64 (i + 1)) := by
  induction d with
  | zero =>
    intro x c k _ _ hc
    obtain rfl : c = 0 := by simpa using hc
    rw [PWireEncodes.holtref02_Then.l1, if_neg (by decide), Nat.xor_zero]; rfl
  | succ d ih =>
    intro x c k hd hx hc
    have hc2 : c / 2 < 2 ^ d := by rw [Nat.pow_succ] at hc; omega
    have hw : wrap64 (((8 - (d + 1) : Nat) : Int) + 1) = ((8 - d : Nat) : Int) := by unfold wrap64; omega
    have t1 : Int.tmod (x : Int) 2 = ((x % 2 : Nat) : Int) := by rw [Int.tmod_eq_emod_of_nonneg (by omega)]; omega
    have t2 : (Int.tmod (c : Int) 2) % 4294967296 = ((c % 2 : Nat) : Int) := by rw [Int.tmod_eq_emod_of_nonneg (by omega)]; omega
    have t3 : (Int.tdiv (x : Int) 2) % 4294967296 = ((x / 2 : Nat) : Int) := by rw [Int.tdiv_eq_ediv_of_nonneg (by omega)]; omega
    have hc256 : c < 256 := Nat.lt_of_lt_of_le hc (show 2 ^ (d + 1) ≤ 2 ^ 8 from Nat.pow_le_pow_right (by decide) hd)
    have t4 : (Int.tdiv (c : Int) 2) % 256 = ((c / 2 : Nat) : Int) := by rw [Int.tdiv_eq_ediv_of_nonneg (by omega)]; omega
    rw [show k + (d + 1) + 1 = (k + d + 1) + 1 by omega, PWireEncodes.holtref02_Then.l1, if_pos (by omega), t1, t2, t3, t4, hw]
    by_cases h : x % 2 = c % 2
    · rw [if_pos (by omega), ih (x / 2) (c / 2) k (by omega) (by omega) hc2, stN, st_same x c h]
    · have hb : Go.bits .xor .u32 ((x / 2 : Nat) : Int) 3988292384 = ((x / 2 ^^^ 3988292384 : Nat) : Int) := bits_xor_u32 (x / 2) 3988292384 (by omega) (by decide)
      rw [if_neg (by omega), hb, ih (x / 2 ^^^ 3988292384) (c / 2) k (by omega) (Nat.xor_lt_two_pow (n := 32) (by omega) (by decide)) hc2, stN, st_unlike x c h]
theorem rthen_l0 (xs : List Int) (hx : ∀ x ∈ xs, 0 ≤ x ∧ x < 256) (hm : xs.length ≤ 1000000) (d : Nat) : ∀ i k : Nat, i ≤ xs.length → xs.length - i = d → 10 * d + 1 ≤ k → PWireEncodes.holtref02_Then.l0 k xs ((crc topN (xs.take i) : Nat) : Int) i = some (sumN xs) := by
  induction d with
  | zero =>
    intro i k hi hd hk
    obtain ⟨k, rfl⟩ : ∃ m, k = m + 1 := ⟨k - 1, by omega⟩
    have h := crc_lt top_lt xs hx
    rw [PWireEncodes.holtref02_Then.l0, if_neg (by omega), List.take_of_length_le (by omega)]
    unfold sumN notU
    congr 1
    omega
  | succ d ih =>
    intro i k hi hd hk
    obtain ⟨k, rfl⟩ : ∃ m, k = (m + 8 + 1) + 1 := ⟨k - 10, by omega⟩
    have hlt : i < xs.length := by omega
    have hrd : rd xs i = xs[i] := by unfold rd; rw [Int.toNat_natCast, List.getD_eq_getElem?_getD, List.getElem?_eq_getElem hlt]; rfl
    have hc := hx xs[i] (List.getElem_mem hlt)
    have hw : wrap64 ((i : Int) + 1) = ((i + 1 : Nat) : Int) := by unfold wrap64; omega
    obtain ⟨e, he⟩ := Int.eq_ofNat_of_zero_le hc.1
    have he2 : e < 256 := by omega
    have h1 : (i : Int) < xs.length := by omega
    have h2 : (0 : Int) ≤ i := by omega
    have ih' := ih (i + 1) k (by omega) (by omega) (by omega)
    have hsn := crc_snoc topN (xs.take i) xs[i]
    rw [← List.take_succ_eq_append_getElem hlt, he, Int.toNat_natCast] at hsn
    rw [hsn] at ih'
    have hlt2 : crc topN (xs.take i) < 4294967296 := crc_lt top_lt _ (fun y hy => hx y (List.mem_of_mem_take hy))
    generalize crc topN (xs.take i) = x at *
    have h3 := rthen_l1 xs i 8 x e k (Nat.le_refl _) hlt2 he2
    rw [show ((8 - 8 : Nat) : Int) = 0 from rfl] at h3
    rw [PWireEncodes.holtref02_Then.l0, if_pos h1, if_pos h2, hrd, he, h3, hw]
    exact ih'
theorem rthen_calls (A : Option Addr) (n c : Nat) (xs : List Int) (w : World) (hr : ReadsInt w .u8 A n xs) (hc : n ≤ c) (hx : ∀ x ∈ xs, 0 ≤ x ∧ x < 256) (hm : n ≤ 1000000) :
    Calls Tryd.prog 31 #[.int .u32 0, .slice A n c] w fun e w' => e = .returned (.int .u32 (sumN xs)) ∧ ∃ k, w' = w.drewN k := by
  have hl := hr.1
  have hf : PWireEncodes.holtref02_Then.f (10 * xs.length + 1) 0 xs = some (sumN xs) := by
    unfold PWireEncodes.holtref02_Then.f
    have := rthen_l0 xs hx (by omega) xs.length 0 (10 * xs.length + 1) (by omega) (by omega) (by omega)
    exact this
  subst hl
  exact (PWireEncodes.holtref02_Then.calls (10 * xs.length + 1) 0 A c xs _ w (Kd.C_of_reads (d := (0 : Int)) (h1 := fun _ => rfl) hr) hc hf).mono fun _ _ ⟨he, h⟩ => ⟨he, h.out⟩
end Go.Proofs.YtfnoegijkdhckaaDoor
/- What package wire's Encode comes to. -/
namespace Go.Proofs.YtfnoegijkdhckaaDoor
open Go.RowKit Go.Proofs.YtfnoegijkdhckaaDoorW.PrintWords

def forms (os : List OpR) : List Int := os.flatMap opForm
/-- A batch, without its length and its sum. -/
def encA (os : List OpR) : List Int := [1] ++ form os.length ++ forms os
/-- A batch with its sum. -/
def encS (os : List OpR) : List Int := encA os ++ fourL (sumN (encA os))
def encB (os : List OpR) : List Int := form (encS os).length ++ encS os
def encOk (os : List OpR) : Bool := decide (os.length ≤ 64) && os.all opRight

theorem forms_len (os : List OpR) : (forms os).length ≤ 45 * os.length := by
  induction os with
  | nil => simp [forms]
  | cons o os ih =>
    have := opForm_length o
    simp only [forms, List.flatMap_cons, List.length_append, List.length_cons] at ih ⊢
    omega
theorem forms_range (os : List OpR) : ∀ x ∈ forms os, 0 ≤ x ∧ x < 256 := by
  intro x hx
  obtain ⟨o, _, h⟩ := List.mem_flatMap.1 hx
  exact opForm_range o x h
theorem forms_snoc (os : List OpR) (i : Nat) (hi : i < os.length) : forms (os.take (i + 1)) = forms (os.take i) ++ opForm os[i] := by
  rw [List.take_succ_eq_append_getElem hi, forms, List.flatMap_append]; simp [forms]
theorem encA_range (os : List OpR) : ∀ x ∈ encA os, 0 ≤ x ∧ x < 256 := by
  intro x hx
  simp only [encA, List.mem_append, List.mem_singleton] at hx
  rcases hx with (rfl | h) | h
  · omega
  · exact form_range _ x h
  · exact forms_range _ x h
theorem encA_len (os : List OpR) : (encA os).length ≤ 6 + 45 * os.length := by
  have h1 := form_length os.length
  have h2 := forms_len os
  simp only [encA, List.length_append, List.length_singleton]; omega
theorem OwnB.below {w w1 : World} {b : Nat} {v : Value} {xs : List Int} (h : OwnB w b v xs) (hb : Below w.heap.size w w1) : OwnB w1 b v xs := pw_own_below h hb

set_option maxHeartbeats 4000000 in
theorem encode_calls (A : Option Addr) (n c : Nat) (os : List OpR) (w : World) (hr : OpsAt w A n os) (hs : ∀ o ∈ os, o.name.size ≤ 9223372036854775807) (hT : Tabs w) (hok : encOk os = true) :
    Calls Tryd.prog 11 #[.slice A n c] w fun e w' => ∃ v, e = .returned (.tuple #[v, .int .i64 0]) ∧ OwnB w' w.heap.size v (encB os) ∧ Below w.heap.size w w' := by
  have hm := hr.2.1
  have HR := Lib.hid hr
  have HS := Lib.hid hs
  have HT := Lib.hid hT
  have HL := Lib.hid hr.1
  have HB := Lib.hid (Below.refl w.heap.size w)
  unfold encOk at hok
  simp only [Bool.and_eq_true, decide_eq_true_eq] at hok
  have hn64 : n ≤ 64 := by rw [← hr.1]; exact hok.1
  have hcf := fun (W : World) (hr : OpsAt W A n os) (h : Tabs W) => containsFunc_calls A n c os W hr hs h
  rw [hok.2] at hcf
  have HCF := Lib.hid hcf
  have HF := Lib.hid (show encA os = [1] ++ form n ++ forms os by rw [encA, hr.1])
  have hfl := form_length n
  have hfsl : ∀ i, (forms (os.take i)).length ≤ 45 * n := fun i => by
    have := forms_len (os.take i)
    have h2 : (os.take i).length ≤ os.length := by rw [List.length_take]; omega
    rw [hr.1] at h2
    omega
  have HFS := Lib.hid hfsl
  clear hr hs hT hok hcf hfsl
  go_enter Tryd.func11, Tryd.ntmps11
  go_wp2_with (first
    | (go_at_call 20; (refine (HCF.out _ HR.out HT.out).mono ?_); rintro e w1 ⟨rfl, hb⟩; have HBn := Lib.hid (below_step (by repeat (first | (with_reducible exact HB.out) | apply below_alloc | apply pw_below_drewN | apply below_drew1 | exact HB.out)) hb); clear hb HB; have HB := HBn; clear HBn)
    | (go_at_call 23; (refine (pwrite_calls _ _).mono ?_); rintro e w2 ⟨v2, rfl, ho, hb⟩; obtain ⟨A2, c2, rfl, hr2⟩ := own_reads ho; have HR2 := Lib.hid hr2; have HO2 := Lib.hid (show OwnB w2 w.heap.size _ [1] from OwnB.below (own_lit w1 w.heap.size 5 .u8 [1] HB.out.size (by decide)) hb); clear ho hr2; have HBn := Lib.hid (below_step (by repeat (first | (with_reducible exact HB.out) | apply below_alloc | apply pw_below_drewN | apply below_drew1 | exact HB.out)) hb); clear hb HB; have HB := HBn; clear HBn)
    | (at_builtin; go_loud ((refine print_append_row (w0 := w) w.heap.size rfl (.tmp 14) (.tmp 17) 25 5 .u8 1 rfl Tryd.underlying25 pkInfo5 (by decide) _ [1] (form n) A2 (form n).length c2 rfl rfl ?cO ?cR ?cB ?cS ?cL ?_; (case cO => exact HO2.out); (case cR => exact HR2.out); (case cB => exact HB.out); (case cS => exact HB.out.size); (case cL => simp only [List.length_singleton]; omega); intro v3 w3 ho hb hg hat; have HO3 := Lib.hid ho; have HBn := Lib.hid hb; clear HB ho hb hg hat; have HB := HBn; clear HBn)))
    | (fail "no arm"))
  go_loopw [4, 21] (fun v vi W => ∃ i : Nat, vi = .int .i64 i ∧ i ≤ n ∧ Hid (OwnB W w.heap.size v ([1] ++ form n ++ forms (os.take i))) ∧ Hid (Below w.heap.size w W)) (fun _ vi _ => (n - (RowKit.intOf vi).toNat))
  case atStart => exact ⟨0, rfl, by omega, Lib.hid (by have h := HO3.out; rw [show forms (os.take 0) = [] from rfl, List.append_nil]; exact h), HB⟩
  case round =>
    clear HB HO3
    obtain ⟨i, rfl, hi, HO, HB⟩ := hrel
    by_cases hlt : i < n
    · have hlt2 : i < os.length := by rw [HL.out]; exact hlt
      obtain ⟨b, o, rfl, hcell⟩ := HR.out.2.2 (show 0 < n by omega)
      have hci := (hcell i hlt2).below HB.out
      have hsn := forms_snoc os i hlt2
      have hps := HS.out os[i] (List.getElem_mem hlt2)
      have hp := fun w (h : Tabs w) => put_calls os[i] w hps h
      have hpl := opForm_length os[i]
      have hfi := HFS.out i
      generalize os[i] = p at *
      obtain ⟨c0, c1, c2', c3, c4⟩ := hci
      simp only [opV] at hp
      generalize opForm p = G at *
      generalize hX : [1] ++ form n ++ forms (os.take i) = X at HO
      have hXl : X.length ≤ 3000 := by
        rw [← hX]
        simp only [List.length_append, List.length_singleton]
        omega
      have HSN := Lib.hid (show [1] ++ form n ++ forms (os.take (i + 1)) = X ++ G by rw [hsn, ← hX]; simp only [List.append_assoc])
      have HP := Lib.hid hp
      clear hp hsn hcell hX hfi
      go_wp2_with (first
        | (go_at_call 24; go_loud ((refine (HP.out _ (HT.out.below (by repeat (first | (with_reducible exact HB.out) | apply below_alloc | apply pw_below_drewN | apply below_drew1 | exact HB.out)))).mono ?_); rintro e w5 ⟨v5, rfl, ho, hb⟩; obtain ⟨A5, c5, rfl, hr5⟩ := own_reads ho; have HR5 := Lib.hid hr5; have HO5 := Lib.hid (show OwnB w5 w.heap.size _ X from OwnB.below (OwnB.below HO.out ((Below.refl _ _).alloc (Nat.le_refl _) _)) hb); clear ho hr5 c0 c1 c2' c3 c4; have HBn := Lib.hid (below_step (by repeat (first | (with_reducible exact HB.out) | apply below_alloc | apply pw_below_drewN | apply below_drew1 | exact HB.out)) hb); clear hb HB; have HB := HBn; clear HBn))
        | (at_builtin; go_loud ((refine print_append_row (w0 := w) w.heap.size rfl (.tmp 25) (.tmp 27) 25 5 .u8 1 rfl Tryd.underlying25 pkInfo5 (by decide) _ X G A5 G.length c5 rfl rfl ?cO ?cR ?cB ?cS ?cL ?_; (case cO => exact HO5.out); (case cR => exact HR5.out); (case cB => exact HB.out); (case cS => exact HB.out.size); (case cL => omega); intro v6 w6 ho hb hg hat; have HO6 := Lib.hid ho; have HBn := Lib.hid hb; clear HB ho hb hg hat; have HB := HBn; clear HBn)))
        | (fail "no arm"))
      go_roundw
      case rel => exact ⟨i + 1, by go_num, by omega, Lib.hid (by rw [HSN.out]; exact HO6.out), HB⟩
      case measure => simp [RowKit.intOf] <;> omega
    · obtain rfl : i = n := by omega
      have hall : os.take i = os := List.take_of_length_le (by rw [HL.out]; exact Nat.le_refl _)
      have hO := HO.out
      rw [hall, ← HF.out] at hO
      have hEr := encA_range os
      have hEl := encA_len os
      rw [HL.out] at hEl
      have hsr := sumN_range (encA os) hEr
      have HE := Lib.hid (show encB os = form (encS os).length ++ encS os from rfl)
      have HE2 := Lib.hid (show encS os = encA os ++ fourL (sumN (encA os)) from rfl)
      generalize hEB : encB os = EB at *
      have HEB := Lib.hid hEB
      clear hEB
      generalize encS os = ES at *
      generalize encA os = E at *
      have hESl : ES.length ≤ 3000 := by rw [HE2.out, List.length_append, show (fourL (sumN E)).length = 4 from rfl]; omega
      obtain ⟨A7, c7, rfl, hr7⟩ := own_reads hO
      have hof := fun (W : World) (hr : ReadsInt W .u8 A7 E.length E) => of_calls A7 E.length c7 E W hr hEr
      generalize hS : sumN E = S at *
      have HO7 := Lib.hid hO
      have HR7 := Lib.hid hr7
      have HOF := Lib.hid hof
      have HS4 := Lib.hid hsr
      have HER := Lib.hid hEr
      have h4 : (fourL S).length = 4 := rfl
      have hfe := form_length ES.length
      have HS2 := Lib.hid hS
      clear HO hO hr7 hof hsr hEr hall hS
      generalize hFO : fourL S = F4 at *
      have HFO := Lib.hid hFO
      have H4 := Lib.hid h4
      clear hFO h4
      go_wp2_with (first
        | (go_at_call 26; go_loud ((refine (HOF.out _ HR7.out).mono ?_); rintro e w8 ⟨rfl, hb⟩; have HO8 := Lib.hid (HO7.out.below hb); have HR8 := Lib.hid (HR7.out.below hb); have HBn := Lib.hid (below_step (by repeat (first | (with_reducible exact HB.out) | apply below_alloc | apply pw_below_drewN | apply below_drew1 | exact HB.out)) hb); clear hb HB; have HB := HBn; clear HBn))
        | (go_at_call 25; go_loud ((refine (four_calls S _).mono ?_); rintro e w9 ⟨v9, rfl, ho, hb⟩; rw [HFO.out] at ho; obtain ⟨A9, c9, rfl, hr9⟩ := own_reads ho; rw [H4.out] at hr9 ⊢; have HR9 := Lib.hid hr9; have HO9 := Lib.hid (HO8.out.below hb); clear ho hr9; have HBn := Lib.hid (below_step (by repeat (first | (with_reducible exact HB.out) | apply below_alloc | apply pw_below_drewN | apply below_drew1 | exact HB.out)) hb); clear hb HB; have HB := HBn; clear HBn))
        | (at_builtin; (refine print_append_row (w0 := w) w.heap.size rfl (.tmp 30) (.tmp 33) 25 5 .u8 1 rfl Tryd.underlying25 pkInfo5 (by decide) _ E F4 A9 4 c9 rfl rfl ?cO ?cR ?cB ?cS ?cL ?_; (case cO => exact HO9.out); (case cR => exact HR9.out); (case cB => exact HB.out); (case cS => exact HB.out.size); (case cL => omega); intro v10 w10 ho hb hg hat; rw [← HE2.out] at ho; obtain ⟨A10, c10, rfl, hr10⟩ := own_reads ho; have HR10 := Lib.hid hr10; have HBn := Lib.hid hb; clear HB ho hb hg hat hr10; have HB := HBn; clear HBn))
        | (go_at_call 23; go_loud ((refine (pwrite_calls _ _).mono ?_); rintro e w11 ⟨v11, rfl, ho, hb⟩; have HO11 := Lib.hid (OwnB.le ho HB.out.size); have HR11 := Lib.hid (HR10.out.below hb); clear ho; have HBn := Lib.hid (below_step (by repeat (first | (with_reducible exact HB.out) | apply below_alloc | apply pw_below_drewN | apply below_drew1 | exact HB.out)) hb); clear hb HB; have HB := HBn; clear HBn))
        | (at_builtin; (refine print_append_row (w0 := w) w.heap.size rfl (.tmp 37) (.tmp 38) 25 5 .u8 1 rfl Tryd.underlying25 pkInfo5 (by decide) _ (form ES.length) ES A10 ES.length c10 rfl rfl ?cO ?cR ?cB ?cS ?cL ?_; (case cO => exact HO11.out); (case cR => exact HR11.out); (case cB => exact HB.out); (case cS => exact HB.out.size); (case cL => omega); intro v12 w12 ho hb hg hat; rw [← HE.out] at ho; have HO12 := Lib.hid ho; have HBn := Lib.hid hb; clear HB ho hb hg hat; have HB := HBn; clear HBn))
        | (fail "no arm"))
      go_ret2
      exact ⟨v12, rfl, by rw [HEB.out]; exact HO12.out, HB.out⟩

set_option maxHeartbeats 1000000 in
theorem encode_none (A : Option Addr) (n c : Nat) (os : List OpR) (w : World) (hr : OpsAt w A n os) (hs : ∀ o ∈ os, o.name.size ≤ 9223372036854775807) (hT : Tabs w) (hok : encOk os = false) :
    Calls Tryd.prog 11 #[.slice A n c] w fun e w' => e = .returned (.tuple #[.slice none 0 0, .int .i64 1]) ∧ Below w.heap.size w w' := by
  have hm := hr.2.1
  have HR := Lib.hid hr
  have HT := Lib.hid hT
  have HB := Lib.hid (Below.refl w.heap.size w)
  by_cases h64 : 64 < n
  · clear hr hs hT hok
    go_enter Tryd.func11, Tryd.ntmps11
    go_wp2
    go_ret2
    exact ⟨rfl, HB.out⟩
  · have hcf := containsFunc_calls A n c os w hr hs hT
    have hall : os.all opRight = false := by
      unfold encOk at hok
      rw [hr.1, decide_eq_true (show n ≤ 64 by omega), Bool.true_and] at hok
      exact hok
    rw [hall] at hcf
    have HCF := Lib.hid hcf
    clear hr hs hT hok hcf hall
    go_enter Tryd.func11, Tryd.ntmps11
    go_wp2_with (first
      | (go_at_call 20; (refine HCF.out.mono ?_); rintro e w1 ⟨rfl, hb⟩; have HBn := Lib.hid (below_step (by repeat (first | (with_reducible exact HB.out) | apply below_alloc | apply pw_below_drewN | apply below_drew1 | exact HB.out)) hb); clear hb HB; have HB := HBn; clear HBn)
      | (fail "no arm"))
    go_ret2
    exact ⟨rfl, HB.out⟩
end Go.Proofs.YtfnoegijkdhckaaDoor
/- Package wire's Cut; slices.Clone of bytes; wrong. -/
namespace Go.Proofs.YtfnoegijkdhckaaDoor
open Go.RowKit Go.Proofs.YtfnoegijkdhckaaDoorW.PrintWords

theorem wrongF_calls (w : World) : Calls Tryd.prog 33 #[.bool false] w fun e w' => e = .returned (.tuple #[]) ∧ w = w' := by
  go_enter Tryd.func33, Tryd.ntmps33
  go_wp2
  go_end0
  exact ⟨rfl, rfl⟩

set_option maxHeartbeats 1000000 in
theorem clone_calls (ad : Addr) (n c : Nat) (xs : List Int) (w : World) (hr : ReadsInt w .u8 (some ad) n xs) (hn : n ≤ 140737488355328) :
    Calls Tryd.prog 42 #[.slice (some ad) n c] w fun e w' => ∃ v, e = .returned v ∧ OwnB w' w.heap.size v xs ∧ Below w.heap.size w w' := by
  have HR := Lib.hid hr
  obtain rfl : xs.length = n := hr.1
  have hnil := fun (w : World) => Lib.run_eql_slice_nil (P := Tryd.prog) w 25 5 (some ad) xs.length c 0 0 Tryd.underlying25
  clear hr
  go_enter Tryd.func42, Tryd.ntmps42
  go_wp2_with (at_builtin; (refine print_append_row (w0 := w) w.heap.size rfl (.tmp 5) (.tmp 6) 25 5 .u8 1 rfl Tryd.underlying25 pkInfo5 (by decide) _ [] xs (some ad) xs.length c rfl rfl ?cO ?cR ?cB ?cS ?cL ?_; (case cO => exact own_lit w w.heap.size 5 .u8 [] (Nat.le_refl _) (by decide)); (case cR => exact HR.out.below (below_alloc (Below.refl _ _) _)); (case cB => exact below_alloc (Below.refl _ _) _); (case cS => simp); (case cL => show (0 + xs.length) * 1 ≤ _; omega); intro v1 w1 ho hb hg hat; have HO := Lib.hid ho; have HB := Lib.hid hb; clear ho hb hg hat))
  go_ret
  exact ⟨_, rfl, HO.out, HB.out⟩

/-- What a batch's length says: how many bytes the batch has, or the error. -/
def cutE (xs : List Int) : Int := if (rdNum xs 0 65535).2.2 ≠ 0 then (rdNum xs 0 65535).2.2 else if ((rdNum xs 0 65535).2.1.length : Int) < (rdNum xs 0 65535).1 then 2 else 0
def cutK (xs : List Int) : Nat := xs.length - (rdNum xs 0 65535).2.1.length + (rdNum xs 0 65535).1.toNat

set_option maxHeartbeats 2000000 in
theorem wcut_err (A : Option Addr) (n c : Nat) (xs : List Int) (w : World) (hr : ReadsInt w .u8 A n xs) (hn : n ≤ 1000000) (hx : ∀ x ∈ xs, 0 ≤ x ∧ x < 256) (he : cutE xs ≠ 0) :
    Calls Tryd.prog 16 #[.slice A n c] w fun e w' => e = .returned (.tuple #[.slice none 0 0, .slice none 0 0, .int .i64 (cutE xs)]) ∧ Below w.heap.size w w' := by
  have HN := Lib.hid (new_calls w A n c xs hr (by omega) hx)
  have hnum := fun (W : World) (a d : Nat) (h : RD 79 W a d xs 0) => num_calls W a d xs 0 65535 h
  have hcase : ((rdNum xs 0 65535).2.2 ≠ 0 ∧ cutE xs = (rdNum xs 0 65535).2.2) ∨ ((rdNum xs 0 65535).2.2 = 0 ∧ ((rdNum xs 0 65535).2.1.length : Int) < (rdNum xs 0 65535).1 ∧ cutE xs = 2) := by
    unfold cutE at he ⊢
    by_cases h : (rdNum xs 0 65535).2.2 ≠ 0
    · exact .inl ⟨h, by rw [if_pos h]⟩
    · rw [if_neg h] at he ⊢
      by_cases h2 : ((rdNum xs 0 65535).2.1.length : Int) < (rdNum xs 0 65535).1
      · exact .inr ⟨by simpa using h, h2, by rw [if_pos h2]⟩
      · rw [if_neg h2] at he; exact absurd rfl he
  rcases hq : rdNum xs 0 65535 with ⟨k, ys, e⟩
  rw [hq] at hnum hcase
  simp only at hnum hcase
  have HNU := Lib.hid hnum
  have HE := Lib.hid (show ∀ v, v = cutE xs → v = cutE xs from fun _ h => h)
  have HB := Lib.hid (Below.refl w.heap.size w)
  clear hr hx he hnum hq HE
  generalize cutE xs = E at *
  rcases hcase with ⟨h1, rfl⟩ | ⟨rfl, h2, rfl⟩
  · have q1 : (E != 0) = true := by rw [bne_iff_ne]; exact h1
    clear h1
    go_enter Tryd.func16, Tryd.ntmps16
    go_wp2_with (first
      | (go_at_call 34; (refine HN.out.mono ?_); rintro e w1 ⟨a, d, rfl, hd, hb, ha, _, _⟩; have HD := Lib.hid hd; have HA := ha; clear hd ha; have HBn := Lib.hid (below_step (by repeat (first | (with_reducible exact HB.out) | apply below_alloc | apply pw_below_drewN | apply below_drew1 | exact HB.out)) hb); clear hb HB; have HB := HBn; clear HBn)
      | (go_at_call 35; (refine (HNU.out _ a d HD.out).mono ?_); rintro e w2 ⟨rfl, hd, ho⟩; have HD2 := Lib.hid hd; clear hd; have HBn := Lib.hid (Below.trans (by repeat (first | (with_reducible exact HB.out) | apply below_alloc | apply pw_below_drewN | apply below_drew1 | exact HB.out)) (ho.below HA)); clear ho HB; have HB := HBn; clear HBn)
      | (go_at_call 40; (refine (err_calls _ a d _ _ HD2.out).mono ?_); rintro e w3 ⟨rfl, rfl⟩)
      | (fail "no arm"))
    go_ret3
    exact ⟨rfl, HB.out⟩
  · go_enter Tryd.func16, Tryd.ntmps16
    go_wp2_with (first
      | (go_at_call 34; (refine HN.out.mono ?_); rintro e w1 ⟨a, d, rfl, hd, hb, ha, _, _⟩; have HD := Lib.hid hd; have HA := ha; clear hd ha; have HBn := Lib.hid (below_step (by repeat (first | (with_reducible exact HB.out) | apply below_alloc | apply pw_below_drewN | apply below_drew1 | exact HB.out)) hb); clear hb HB; have HB := HBn; clear HBn)
      | (go_at_call 35; (refine (HNU.out _ a d HD.out).mono ?_); rintro e w2 ⟨rfl, hd, ho⟩; have HD2 := Lib.hid hd; clear hd; have HBn := Lib.hid (Below.trans (by repeat (first | (with_reducible exact HB.out) | apply below_alloc | apply pw_below_drewN | apply below_drew1 | exact HB.out)) (ho.below HA)); clear ho HB; have HB := HBn; clear HBn)
      | (go_at_call 40; (refine (err_calls _ a d _ _ HD2.out).mono ?_); rintro e w3 ⟨rfl, rfl⟩)
      | (go_at_call 41; (refine (left_calls _ a d _ _ HD2.out).mono ?_); rintro e w4 ⟨rfl, rfl⟩)
      | (fail "no arm"))
    go_ret3
    exact ⟨rfl, HB.out⟩

set_option maxHeartbeats 2000000 in
theorem wcut_ok (ad : Addr) (n c : Nat) (xs : List Int) (w : World) (hr : ReadsInt w .u8 (some ad) n xs) (hc : n ≤ c) (hn : n ≤ 1000000) (hx : ∀ x ∈ xs, 0 ≤ x ∧ x < 256) (k : Nat) (ys : List Int) (hq : rdNum xs 0 65535 = ((k : Int), ys, 0)) (hk : k ≤ ys.length) (hy : ys.length ≤ n) :
    Calls Tryd.prog 16 #[.slice (some ad) n c] w fun e w' => ∃ v1 v2, e = .returned (.tuple #[v1, v2, .int .i64 0]) ∧ OwnB w' w.heap.size v1 (xs.take (n - ys.length + k)) ∧ OwnB w' w.heap.size v2 (xs.drop (n - ys.length + k)) ∧ Below w.heap.size w w' := by
  have HN := Lib.hid (new_calls w (some ad) n c xs hr (by omega) hx)
  have hnum := fun (W : World) (a d : Nat) (h : RD 79 W a d xs 0) => num_calls W a d xs 0 65535 h
  rw [hq] at hnum
  simp only at hnum
  obtain ⟨L, hL⟩ : ∃ L, L = ys.length := ⟨_, rfl⟩
  have hleft := fun (W : World) (a d : Nat) (h : RD 79 W a d ys 0) => left_calls W a d ys 0 h
  rw [← hL] at hleft hk hy
  obtain ⟨j, hj⟩ : ∃ j, n - ys.length + k = j := ⟨_, rfl⟩
  rw [hj]
  rw [← hL] at hj
  have hjn : j ≤ n := by omega
  have hjj : (n : Int) - (L : Int) + (k : Int) = (j : Int) := by omega
  have HT1 := Lib.hid (hr.take_ j hjn)
  have HD1 := Lib.hid (hr.drop_ (c := c) j hjn hc)
  have HNU := Lib.hid hnum
  have HLE := Lib.hid hleft
  have HB := Lib.hid (Below.refl w.heap.size w)
  have hjc : (j : Int) ≤ c := by omega
  have hj0 : (0 : Int) ≤ j := by omega
  clear hr hx hnum hq hleft hj hL
  have HC1 := Lib.hid (fun (W : World) (hb : Below w.heap.size w W) => clone_calls ad j c (xs.take j) W (HT1.out.below hb) (by omega))
  by_cases hcj : c = j
  · rw [if_pos hcj] at HD1
    have HC2 := Lib.hid (fun (W : World) (hb : Below w.heap.size w W) => clone_calls ad (n - j) (c - j) (xs.drop j) W (HD1.out.below hb) (by omega))
    subst hcj
    obtain rfl : n = c := by omega
    simp only [Nat.sub_self] at HC2
    go_enter Tryd.func16, Tryd.ntmps16
    go_wp2_with (first
      | (go_at_call 34; (refine HN.out.mono ?_); rintro e w1 ⟨a, d, rfl, hd, hb, ha, _, _⟩; have HD := Lib.hid hd; have HA := ha; clear hd ha; have HBn := Lib.hid (below_step (by repeat (first | (with_reducible exact HB.out) | apply below_alloc | apply pw_below_drewN | apply below_drew1 | exact HB.out)) hb); clear hb HB; have HB := HBn; clear HBn)
      | (go_at_call 35; (refine (HNU.out _ a d HD.out).mono ?_); rintro e w2 ⟨rfl, hd, ho⟩; have HD2 := Lib.hid hd; clear hd; have HBn := Lib.hid (Below.trans (by repeat (first | (with_reducible exact HB.out) | apply below_alloc | apply pw_below_drewN | apply below_drew1 | exact HB.out)) (ho.below HA)); clear ho HB; have HB := HBn; clear HBn)
      | (go_at_call 40; (refine (err_calls _ a d _ _ HD2.out).mono ?_); rintro e w3 ⟨rfl, rfl⟩)
      | (go_at_call 41; (refine (HLE.out _ a d HD2.out).mono ?_); rintro e w4 ⟨rfl, rfl⟩)
      | (fail "no arm"))
    go_region_held3 (fun _ => True) (exact trivial) (first
      | (go_at_call 42; (with_reducible refine Calls.mono (HC1.out _ (by repeat (first | (with_reducible exact HB.out) | apply below_alloc | apply pw_below_drewN | apply below_drew1 | exact HB.out))) ?_); rintro e w5 ⟨v1, rfl, ho, hb⟩; have HO1 := Lib.hid (OwnB.le ho (Below.size (by repeat (first | (with_reducible exact HB.out) | apply below_alloc | apply pw_below_drewN | apply below_drew1 | exact HB.out)))); (try (have HOn := Lib.hid (HO2.out.now hb (by rfl)); clear HO2; have HO2 := HOn; clear HOn)); clear ho; have HBn := Lib.hid (below_step (by repeat (first | (with_reducible exact HB.out) | apply below_alloc | apply pw_below_drewN | apply below_drew1 | exact HB.out)) hb); clear hb HB; have HB := HBn; clear HBn)
      | (go_at_call 42; (with_reducible refine Calls.mono (HC2.out _ (by repeat (first | (with_reducible exact HB.out) | apply below_alloc | apply pw_below_drewN | apply below_drew1 | exact HB.out))) ?_); rintro e w6 ⟨v2, rfl, ho, hb⟩; have HO2 := Lib.hid (OwnB.le ho (Below.size (by repeat (first | (with_reducible exact HB.out) | apply below_alloc | apply pw_below_drewN | apply below_drew1 | exact HB.out)))); (try (have HOn := Lib.hid (HO1.out.now hb (by rfl)); clear HO1; have HO1 := HOn; clear HOn)); clear ho; have HBn := Lib.hid (below_step (by repeat (first | (with_reducible exact HB.out) | apply below_alloc | apply pw_below_drewN | apply below_drew1 | exact HB.out)) hb); clear hb HB; have HB := HBn; clear HBn)
      | (fail "no arm"))
    go_wp2
    all_goals
      go_ret3
      exact ⟨v1, v2, rfl, HO1.out, HO2.out, (by repeat (first | (with_reducible exact HB.out) | apply below_alloc | apply pw_below_drewN | apply below_drew1 | exact HB.out))⟩
  · rw [if_neg hcj] at HD1
    have HC2 := Lib.hid (fun (W : World) (hb : Below w.heap.size w W) => clone_calls (ad.add j) (n - j) (c - j) (xs.drop j) W (HD1.out.below hb) (by omega))
    go_enter Tryd.func16, Tryd.ntmps16
    go_wp2_with (first
      | (go_at_call 34; (refine HN.out.mono ?_); rintro e w1 ⟨a, d, rfl, hd, hb, ha, _, _⟩; have HD := Lib.hid hd; have HA := ha; clear hd ha; have HBn := Lib.hid (below_step (by repeat (first | (with_reducible exact HB.out) | apply below_alloc | apply pw_below_drewN | apply below_drew1 | exact HB.out)) hb); clear hb HB; have HB := HBn; clear HBn)
      | (go_at_call 35; (refine (HNU.out _ a d HD.out).mono ?_); rintro e w2 ⟨rfl, hd, ho⟩; have HD2 := Lib.hid hd; clear hd; have HBn := Lib.hid (Below.trans (by repeat (first | (with_reducible exact HB.out) | apply below_alloc | apply pw_below_drewN | apply below_drew1 | exact HB.out)) (ho.below HA)); clear ho HB; have HB := HBn; clear HBn)
      | (go_at_call 40; (refine (err_calls _ a d _ _ HD2.out).mono ?_); rintro e w3 ⟨rfl, rfl⟩)
      | (go_at_call 41; (refine (HLE.out _ a d HD2.out).mono ?_); rintro e w4 ⟨rfl, rfl⟩)
      | (fail "no arm"))
    go_region_held3 (fun _ => True) (exact trivial) (first
      | (go_at_call 42; (with_reducible refine Calls.mono (HC1.out _ (by repeat (first | (with_reducible exact HB.out) | apply below_alloc | apply pw_below_drewN | apply below_drew1 | exact HB.out))) ?_); rintro e w5 ⟨v1, rfl, ho, hb⟩; have HO1 := Lib.hid (OwnB.le ho (Below.size (by repeat (first | (with_reducible exact HB.out) | apply below_alloc | apply pw_below_drewN | apply below_drew1 | exact HB.out)))); (try (have HOn := Lib.hid (HO2.out.now hb (by rfl)); clear HO2; have HO2 := HOn; clear HOn)); clear ho; have HBn := Lib.hid (below_step (by repeat (first | (with_reducible exact HB.out) | apply below_alloc | apply pw_below_drewN | apply below_drew1 | exact HB.out)) hb); clear hb HB; have HB := HBn; clear HBn)
      | (go_at_call 42; (with_reducible refine Calls.mono (HC2.out _ (by repeat (first | (with_reducible exact HB.out) | apply below_alloc | apply pw_below_drewN | apply below_drew1 | exact HB.out))) ?_); rintro e w6 ⟨v2, rfl, ho, hb⟩; have HO2 := Lib.hid (OwnB.le ho (Below.size (by repeat (first | (with_reducible exact HB.out) | apply below_alloc | apply pw_below_drewN | apply below_drew1 | exact HB.out)))); (try (have HOn := Lib.hid (HO1.out.now hb (by rfl)); clear HO1; have HO1 := HOn; clear HOn)); clear ho; have HBn := Lib.hid (below_step (by repeat (first | (with_reducible exact HB.out) | apply below_alloc | apply pw_below_drewN | apply below_drew1 | exact HB.out)) hb); clear hb HB; have HB := HBn; clear HBn)
      | (fail "no arm"))
    go_wp2
    all_goals
      go_ret3
      exact ⟨v1, v2, rfl, HO1.out, HO2.out, (by repeat (first | (with_reducible exact HB.out) | apply below_alloc | apply pw_below_drewN | apply below_drew1 | exact HB.out))⟩
end Go.Proofs.YtfnoegijkdhckaaDoor
/- Whether a sum is bytes'. -/
namespace Go.Proofs.YtfnoegijkdhckaaDoor
open Go.RowKit Go.Proofs.YtfnoegijkdhckaaDoorW.PrintWords

set_option maxHeartbeats 2000000 in
theorem is_calls (A : Option Addr) (n c : Nat) (xs : List Int) (B : Option Addr) (m d : Nat) (ys : List Int) (w : World) (hr : ReadsInt w .u8 A n xs) (hx : ∀ x ∈ xs, 0 ≤ x ∧ x < 256) (hy : ReadsInt w .u8 B m ys) :
    Calls Tryd.prog 36 #[.slice A n c, .slice B m d] w fun e w' => e = .returned (.bool ((strOfNums (fourL (sumN xs))).toList == (strOfNums ys).toList)) ∧ Below w.heap.size w w' := by
  have HX := Lib.hid hx
  have hof := fun (W : World) (hb : Below w.heap.size w W) => of_calls A n c xs W (hr.below hb) hx
  have hcv := fun (W : World) (hb : Below w.heap.size w W) => string_of_reads (P := Tryd.prog) (c := d) (src := 25) (dst := 9) Tryd.underlying25 Tryd.underlying5 Tryd.underlying9 (hy.below hb)
  have HR := Lib.hid hr
  have HY := Lib.hid hy
  have HOF := Lib.hid hof
  have HCV := Lib.hid hcv
  have HB := Lib.hid (Below.refl w.heap.size w)
  clear hr hx hy hof hcv
  generalize sumN xs = S at *
  generalize hF : fourL S = F at *
  have HF := Lib.hid hF
  clear hF
  go_enter Tryd.func36, Tryd.ntmps36
  go_wp2_with (fail)
  have hc0 := HCV.out w HB.out
  have hcd := fun k => HCV.out (w.drewN k) (by repeat (first | (with_reducible exact HB.out) | apply below_alloc | apply pw_below_drewN | apply below_drew1 | exact HB.out))
  have hce : (convert 25 9 (.slice B m d)).run Tryd.prog w.drew = _ := hcd 1
  go_region_with (first
    | (go_at_call 26; go_loud ((refine Calls.mono (HOF.out _ (by repeat (first | (with_reducible exact HB.out) | apply below_alloc | apply pw_below_drewN | apply below_drew1 | exact HB.out))) ?_); rintro e w5 ⟨rfl, hb⟩; have HBn := Lib.hid (below_step (by repeat (first | (with_reducible exact HB.out) | apply below_alloc | apply pw_below_drewN | apply below_drew1 | exact HB.out)) hb); clear hb HB; have HB := HBn; clear HBn; have hc5 := HCV.out w5 HB.out; have hc5d := fun k => HCV.out (w5.drewN k) (by repeat (first | (with_reducible exact HB.out) | apply below_alloc | apply pw_below_drewN | apply below_drew1 | exact HB.out)); have hc5e : (convert 25 9 (.slice B m d)).run Tryd.prog w5.drew = _ := hc5d 1))
    | (go_at_call 25; go_loud ((refine Calls.mono (four_calls S _) ?_); rintro e w6 ⟨v1, rfl, ho, hb⟩; rw [HF.out] at ho; obtain ⟨A9, c9, rfl, hr9⟩ := own_reads ho; have HR9 := Lib.hid hr9; clear ho hr9; have HBn := Lib.hid (below_step (by repeat (first | (with_reducible exact HB.out) | apply below_alloc | apply pw_below_drewN | apply below_drew1 | exact HB.out)) hb); clear hb HB; have HB := HBn; clear HBn; have hc1 := string_of_reads (P := Tryd.prog) (c := c9) (src := 25) (dst := 9) Tryd.underlying25 Tryd.underlying5 Tryd.underlying9 HR9.out; have hc1d := fun k => string_of_reads (P := Tryd.prog) (c := c9) (src := 25) (dst := 9) Tryd.underlying25 Tryd.underlying5 Tryd.underlying9 (HR9.out.drewN k); have hc2 := HCV.out w6 HB.out; have hc2d := fun k => HCV.out (w6.drewN k) (by repeat (first | (with_reducible exact HB.out) | apply below_alloc | apply pw_below_drewN | apply below_drew1 | exact HB.out)); have hc2e : (convert 25 9 (.slice B m d)).run Tryd.prog w6.drew = _ := hc2d 1; have hc1e : (convert 25 9 (.slice A9 F.length c9)).run Tryd.prog w6.drew = _ := hc1d 1))
    | (fail "no arm"))
  go_wp2
  all_goals
    go_ret
    exact ⟨rfl, (by repeat (first | (with_reducible exact HB.out) | apply below_alloc | apply pw_below_drewN | apply below_drew1 | exact HB.out))⟩
end Go.Proofs.YtfnoegijkdhckaaDoor
/- What is inside a batch: package wire's inside, where it comes to an end. -/
namespace Go.Proofs.YtfnoegijkdhckaaDoor
open Go.RowKit Go.Proofs.YtfnoegijkdhckaaDoorW.PrintWords

def opCells (p : OpR) : List Value := [.int .i64 p.n, .int .i64 p.r, .int .i64 p.node, .int .i64 p.par, .string p.name]
/-- A list of operations of the call's own. -/
def OwnO (w : World) (base : Nat) (v : Value) (os : List OpR) : Prop := OwnRow (fun p cs => cs = opCells p) 48 5 w base v os
theorem spotO {w : World} {a : Addr} {v : Value} (h : w.cell? a = some v) : a = ⟨a.block, a.off, none⟩ := by
  obtain ⟨b, o, s⟩ := a
  cases s with
  | none => rfl
  | some k =>
    unfold World.cell? at h
    split at h
    · simp at h
    · cases h
theorem addO (b o j : Nat) : (Addr.mk b o none).add j = ⟨b, o + j, none⟩ := by
  unfold Addr.add
  split
  · rename_i h; rw [h, Nat.add_zero]
  · rfl
theorem ops_of_row {w : World} {A : Option Addr} {n : Nat} {os : List OpR} (h : ReadsRow (fun p cs => cs = opCells p) 5 w A n os) : OpsAt w A n os := by
  refine ⟨h.1, h.2.1, fun hn => ?_⟩
  obtain ⟨ad, rfl, hc⟩ := h.2.2 hn
  have hl : 0 < os.length := by rw [h.1]; exact hn
  obtain ⟨c0, _, e0, h0⟩ := hc 0 os[0] (List.getElem?_eq_getElem hl)
  have hz := h0 0 (.int .i64 os[0].n) (by rw [e0]; rfl)
  have hs := spotO (show w.cell? ad = _ from hz)
  refine ⟨ad.block, ad.off, by rw [← hs], fun i hi => ?_⟩
  obtain ⟨c, _, e, hcell⟩ := hc i os[i] (List.getElem?_eq_getElem hi)
  have key : ∀ j u, (opCells os[i])[j]? = some u → w.cell? ⟨ad.block, ad.off + i * 5 + j, none⟩ = some u := by
    intro j u hu
    have := hcell j u (by rw [e]; exact hu)
    rw [hs, addO] at this
    rw [Nat.add_assoc]
    exact this
  exact ⟨key 0 _ rfl, key 1 _ rfl, key 2 _ rfl, key 3 _ rfl, key 4 _ rfl⟩
theorem OwnO.ops {w : World} {base : Nat} {v : Value} {os : List OpR} (h : OwnO w base v os) : ∃ A c, v = .slice A os.length c ∧ os.length ≤ c ∧ OpsAt w A os.length os := by
  obtain ⟨A, c, he, hc, hr⟩ := OwnRow.reads h
  exact ⟨A, c, he, hc, ops_of_row hr⟩

/-- So many operations are read, and then nothing is left. -/
def runO : Nat → List Int → Int → Option (List OpR)
  | 0, ys, _ => if ys = [] then some [] else none
  | j + 1, ys, e => if opRight (tkOp ys e) = true then (runO j (tk5 ys e).2.1 (tk5 ys e).2.2).map (tkOp ys e :: ·) else none
def insR (xs : List Int) : Option (List OpR) :=
  if (rdNum xs 0 1).1 = 1 then (if (rdNum (rdNum xs 0 1).2.1 (rdNum xs 0 1).2.2 64).2.2 = 0 then runO (rdNum (rdNum xs 0 1).2.1 (rdNum xs 0 1).2.2 64).1.toNat (rdNum (rdNum xs 0 1).2.1 (rdNum xs 0 1).2.2 64).2.1 0 else none) else none
theorem opInfo : (Tryd.prog.info? 48).map (fun i => (i.zero, i.size, i.bytes)) = some (some (.agg #[.int .i64 0, .int .i64 0, .int .i64 0, .int .i64 0, .string ⟨#[]⟩]), 5, 48) := by kernel_rfl

theorem RD.keepB {T : Nat} {w w' : World} {a d B : Nat} {xs : List Int} {e : Int} (h : RD T w a d xs e) (hb : Below B w w') (ha : a < B) (hd : d < B) : RD T w' a d xs e := by
  obtain ⟨A, c, hk, hr, hc, hA, hda, hx⟩ := h.out
  exact ⟨A, c, (hb.block a ha).trans hk, ⟨hr.1, hr.2.1, fun hn => by
    obtain ⟨ad, e', hcc⟩ := hr.2.2 hn
    exact ⟨ad, e', fun j hj => (World.cell?_of_block (hb.block _ (by rw [add_block, hA ad e' hn]; exact hd))).trans (hcc j hj)⟩⟩, hc, hA, hda, hx⟩
theorem OwnO.wide {W W' : World} {base a d : Nat} {v : Value} {os : List OpR} {ys : List Int} {e : Int} (h : OwnO W base v os) (hr : RD 79 W a d ys e) (hw : Wide a W W') : OwnO W' base v os := by
  obtain ⟨A, c, hk, _⟩ := hr.out
  have hne := OwnRow.ne_block h hk (by decide)
  obtain ⟨inner, ho, hrp⟩ := h
  exact ⟨inner, own_move ho (fun k hk' => hw.block k (own_lt ho k hk') (fun e => hne (by rw [← e, hk']))), hrp⟩
theorem tk5_zero {ys : List Int} (h : opRight (tkOp ys 0) = true) : (tk5 ys 0).2.2 = 0 := by
  have n4 : (tk4 ys 0).2.2 = 0 := by
    by_cases h4 : (tk4 ys 0).2.2 = 0
    · exact h4
    · have := (tk_err4 h4).1; rw [h] at this; cases this
  have key : ∀ zs : List Int, (rdText zs 0 20).2.2 = 0 ∨ (rdText zs 0 20).1 = strOfNums [] := by
    intro zs
    unfold rdText
    split
    · exact .inr rfl
    · split
      · exact .inr rfl
      · exact .inl rfl
  have hk := key (tk4 ys 0).2.1
  rw [show tk5 ys 0 = rdText (tk4 ys 0).2.1 (tk4 ys 0).2.2 20 from rfl, n4]
  rcases hk with hk | hk
  · exact hk
  · exfalso
    have e : tkOp ys 0 = ⟨(tk1 ys 0).1, (tk2 ys 0).1, (tk3 ys 0).1, (tk4 ys 0).1, strOfNums []⟩ := by
      rw [tkOp, show (tk5 ys 0).1 = strOfNums [] by rw [show tk5 ys 0 = rdText (tk4 ys 0).2.1 (tk4 ys 0).2.2 20 from rfl, n4, hk]]
    rw [e, not_right_nil] at h
    cases h
theorem runO_succ {j : Nat} {ys : List Int} {os : List OpR} (h : runO (j + 1) ys 0 = some os) : ∃ r, os = tkOp ys 0 :: r ∧ opRight (tkOp ys 0) = true ∧ runO j (tk5 ys 0).2.1 0 = some r := by
  rw [runO] at h
  by_cases hr : opRight (tkOp ys 0) = true
  · rw [if_pos hr, tk5_zero hr] at h
    obtain ⟨r, h1, h2⟩ := Option.map_eq_some_iff.1 h
    exact ⟨r, h2.symm, hr, h1⟩
  · rw [if_neg hr] at h; cases h
theorem runO_len (j : Nat) : ∀ (ys : List Int) (os : List OpR), runO j ys 0 = some os → os.length = j := by
  induction j with
  | zero =>
    intro ys os h
    rw [runO] at h
    split at h
    · injection h with h; rw [← h]; rfl
    · cases h
  | succ j ih =>
    intro ys os h
    obtain ⟨r, rfl, _, h2⟩ := runO_succ h
    rw [List.length_cons, ih _ _ h2]
theorem rdNum_len (xs : List Int) (e most : Int) (hx : ∀ x ∈ xs, 0 ≤ x ∧ x < 256) : (rdNum xs e most).2.1.length ≤ xs.length ∧ ∀ x ∈ (rdNum xs e most).2.1, 0 ≤ x ∧ x < 256 := by
  by_cases he : e = 0
  · subst he
    rcases rdNum_cases xs most hx with ⟨e', h, _⟩ | ⟨k, n, h, _⟩
    · rw [h]; simp
    · rw [h]; exact ⟨by simp, fun x hx' => hx x (List.mem_of_mem_drop hx')⟩
  · rw [rdNum_err he]; exact ⟨Nat.le_refl _, hx⟩
theorem insR_some {xs : List Int} {os : List OpR} (hx : ∀ x ∈ xs, 0 ≤ x ∧ x < 256) (h : insR xs = some os) : ∃ (ys zs : List Int) (m : Nat), rdNum xs 0 1 = (1, ys, 0) ∧ rdNum ys 0 64 = ((m : Int), zs, 0) ∧ m ≤ 64 ∧ runO m zs 0 = some os := by
  unfold insR at h
  have r1 := rdNum_range xs 0 1 (fun x h => (hx x h).1) (by decide)
  have rl := (rdNum_len xs 0 1 hx).2
  rcases h1 : rdNum xs 0 1 with ⟨v, ys, e1⟩
  rw [h1] at h r1 rl
  simp only at h r1 rl
  by_cases hv : v = 1
  · rw [if_pos hv] at h
    by_cases he : (rdNum ys e1 64).2.2 = 0
    · rw [if_pos he] at h
      by_cases he1 : e1 = 0
      · subst he1 hv
        have r2 := rdNum_range ys 0 64 (fun x h => (rl x h).1) (by decide)
        rcases h2 : rdNum ys 0 64 with ⟨m, zs, e2⟩
        rw [h2] at h r2 he
        simp only at h r2 he
        subst he
        obtain ⟨k, rfl⟩ := Int.eq_ofNat_of_zero_le r2.1
        exact ⟨ys, zs, k, rfl, h2, by have := r2.2.2.1 rfl; omega, by simpa using h⟩
      · rw [rdNum_err he1] at he
        exact absurd he he1
    · rw [if_neg he] at h; cases h
  · rw [if_neg hv] at h; cases h

set_option maxRecDepth 100000 in
set_option maxHeartbeats 4000000 in
theorem inside_calls (A : Option Addr) (n c : Nat) (xs : List Int) (os : List OpR) (w : World) (hr : ReadsInt w .u8 A n xs) (hn : n ≤ 1000000) (hx : ∀ x ∈ xs, 0 ≤ x ∧ x < 256) (hT : Tabs w) (hi : insR xs = some os) :
    Calls Tryd.prog 37 #[.slice A n c] w fun e w' => ∃ v, e = .returned v ∧ OwnO w' w.heap.size v os ∧ Below w.heap.size w w' := by
  obtain ⟨ys, zs, m, hq1, hq2, hm, hrun⟩ := insR_some hx hi
  have HN := Lib.hid (new_calls w A n c xs hr (by omega) hx)
  have hn1 := fun (W : World) (a d : Nat) (h : RD 79 W a d xs 0) => num_calls_eq W a d xs 0 1 h hq1
  have hn2 := fun (W : World) (a d : Nat) (h : RD 79 W a d ys 0) => num_calls_eq W a d ys 0 64 h hq2
  have H1 := Lib.hid hn1
  have H2 := Lib.hid hn2
  have HT := Lib.hid hT
  have HRUN := Lib.hid hrun
  have HB := Lib.hid (Below.refl w.heap.size w)
  clear hr hx hi hq1 hq2 hn1 hn2 hT hrun
  go_enter Tryd.func37, Tryd.ntmps37
  go_wp2_with (first
    | (go_at_call 34; (refine HN.out.mono ?_); rintro e w1 ⟨a, d, rfl, hd, hb, ha, hd0, hd1⟩; have HD := Lib.hid hd; have hal := hd.lt; have HA := ha; have HA1 := hb.size; clear hd ha; have HBn := Lib.hid (below_step (by repeat (first | (with_reducible exact HB.out) | apply below_alloc | apply pw_below_drewN | apply below_drew1 | exact HB.out)) hb); clear hb HB; have HB := HBn; clear HBn)
    | (go_at_call 35; (with_reducible refine Calls.mono (H1.out _ a d HD.out) ?_); rintro e w2 ⟨rfl, hd, ho⟩; have HD2 := Lib.hid hd; have hs2 := Lib.hid ho.size; clear hd; have HBn := Lib.hid (Below.trans (by repeat (first | (with_reducible exact HB.out) | apply below_alloc | apply pw_below_drewN | apply below_drew1 | exact HB.out)) (ho.below HA)); clear ho HB; have HB := HBn; clear HBn)
    | (go_at_call 35; (with_reducible refine Calls.mono (H2.out _ a d HD2.out) ?_); rintro e w3 ⟨rfl, hd, ho⟩; have HD3 := Lib.hid hd; have hs3 := Lib.hid ho.size; clear hd; have HBn := Lib.hid (Below.trans (by repeat (first | (with_reducible exact HB.out) | apply below_alloc | apply pw_below_drewN | apply below_drew1 | exact HB.out)) (ho.below HA)); clear ho HB; have HB := HBn; clear HBn)
    | (go_at_call 40; (refine (err_calls _ a d _ _ HD3.out).mono ?_); rintro e w4 ⟨rfl, rfl⟩)
    | (go_at_call 33; (refine (wrongF_calls _).mono ?_); rintro e w5 ⟨rfl, rfl⟩)
    | (fail "no arm"))
  have hl := Lib.hid (runO_len m zs os HRUN.out)
  have hsz : w4.heap.size = w1.heap.size := by rw [hs3.out, hs2.out]
  have HSZ := Lib.hid hsz
  clear hsz
  go_loopw [4, 21] (fun vo vi W => ∃ (k : Nat) (us : List Int), vi = .int .i64 k ∧ k ≤ m ∧ Hid (RD 79 W a d us 0) ∧ Hid (runO (m - k) us 0 = some (os.drop k)) ∧ Hid (OwnO W w1.heap.size vo (os.take k)) ∧ Hid (w1.heap.size ≤ W.heap.size) ∧ Hid (Below w.heap.size w W)) (fun _ vi _ => (m - (RowKit.intOf vi).toNat))
  case atStart => exact ⟨0, zs, rfl, by omega, HD3, HRUN, Lib.hid (OwnRow.none_ _ _ _ _ _), Lib.hid (Nat.le_of_eq HSZ.out.symm), HB⟩
  case round =>
    clear HB HD3 HRUN
    obtain ⟨k, us, rfl, hk, HD, HRU, HO, HLE, HB⟩ := hrel
    by_cases hlt : k < m
    · obtain ⟨j, hj⟩ : ∃ j, m - k = j + 1 := ⟨m - k - 1, by omega⟩
      have hru := HRU.out
      rw [hj] at hru
      obtain ⟨r, he, hright, hrest⟩ := runO_succ hru
      have ht := fun (v : World) (a d : Nat) h hd hw ha => take_calls w v a d us 0 h (by decide) hd HT.out hw ha
      rw [if_pos hright, hright, tk5_zero hright] at ht
      have hkl : k < os.length := by rw [hl.out]; exact hlt
      have htake : os.take (k + 1) = os.take k ++ [tkOp us 0] := by
        rw [List.take_succ_eq_append_getElem hkl]
        rw [List.drop_eq_getElem_cons hkl] at he
        injection he with he1 _
        rw [he1]
      have hdrop : os.drop (k + 1) = r := by
        rw [List.drop_eq_getElem_cons hkl] at he
        injection he with _ he2
      have HRU2 := Lib.hid (show runO (m - (k + 1)) (tk5 us 0).2.1 0 = some (os.drop (k + 1)) by rw [hdrop, show m - (k + 1) = j by omega]; exact hrest)
      have hplen : (os.take k).length ≤ 64 := by rw [List.length_take]; omega
      generalize tkOp us 0 = q at *
      generalize (tk5 us 0).2.1 = vs at *
      simp only [opV] at ht
      have HTK := Lib.hid ht
      have HTAKE := Lib.hid htake
      clear hru he hright hrest ht htake hdrop hj HRU
      go_wp2_with (first
        | (go_at_call 55; go_loud ((refine (HTK.out _ a d HD.out (Nat.lt_of_lt_of_le hd1 HLE.out) HB.out HA).mono ?_); rintro e w6 ⟨rfl, hd, hw⟩; have HO6 := Lib.hid (OwnO.wide HO.out HD.out hw); have HD6 := Lib.hid hd; have HLE6 := Lib.hid (show w1.heap.size ≤ w6.heap.size from Nat.le_trans HLE.out hw.size); have HBn := Lib.hid (hw.below HB.out HA HB.out.size); clear hd hw HB; have HB := HBn; clear HBn))
        | (go_at_call 33; go_loud ((refine (wrongF_calls _).mono ?_); rintro e w7 ⟨rfl, rfl⟩))
        | (at_builtin; go_loud ((refine OwnRow.append (R := fun p cs => cs = opCells p) (w0 := w6.alloc (.cells #[.int .i64 q.n, .int .i64 q.r, .int .i64 q.node, .int .i64 q.par, .string q.name] 48)) (W := w6.alloc (.cells #[.int .i64 q.n, .int .i64 q.r, .int .i64 q.node, .int .i64 q.par, .string q.name] 48)) w1.heap.size rfl (.tmp 31) (.tmp 33) 22 48 _ 5 48 rfl Tryd.underlying22 opInfo rfl (by decide) (by decide) _ (os.take k) q [.int .i64 q.n, .int .i64 q.r, .int .i64 q.node, .int .i64 q.par, .string q.name] (by rfl) (by simp [Act.eval, World.size_alloc]) rfl rfl (by simp [Value.oneCell']) (OwnRow.below HO6.out ((Below.refl _ _).alloc (Nat.le_refl _) _)) (Below.refl _ _) ?hbase ?hl ?_; (case hbase => rw [World.size_alloc]; exact Nat.le_succ_of_le HLE6.out); (case hl => omega); intro v8 w8 ho hb hg hat; have HO8 := Lib.hid ho; have HD8 := Lib.hid ((HD6.out.below ((Below.refl _ _).alloc (Nat.le_refl _) _)).keepB hb hal hd1); have HLE8 := Lib.hid (show w1.heap.size ≤ w8.heap.size from Nat.le_trans (by rw [World.size_alloc]; exact Nat.le_succ_of_le HLE6.out) hb.size); have HBn := Lib.hid (below_wide (HB.out.alloc HB.out.size _) hb (by omega)); clear HB ho hb hg hat; have HB := HBn; clear HBn)))
        | (fail "no arm"))
      go_roundw
      case rel => exact ⟨k + 1, vs, by go_num, by omega, HD8, HRU2, Lib.hid (by rw [HTAKE.out]; exact HO8.out), HLE8, HB⟩
      case measure => simp [RowKit.intOf] <;> omega
    · obtain rfl : k = m := by omega
      have hru := HRU.out
      rw [Nat.sub_self, runO] at hru
      have hnil : us = [] := by
        by_cases h : us = []
        · exact h
        · rw [if_neg h] at hru; cases hru
      subst hnil
      have hall : os.take k = os := List.take_of_length_le (by rw [hl.out]; exact Nat.le_refl _)
      have hO := HO.out
      rw [hall] at hO
      have HO2 := Lib.hid hO
      have HLF := Lib.hid (show ∀ W : World, RD 79 W a d [] 0 → Calls Tryd.prog 41 #[.pointer (some ⟨a, 0, none⟩)] W fun r w' => r = .returned (.int .i64 0) ∧ w' = W from fun W h => left_calls W a d [] 0 h)
      clear hru hall hO HO HRU
      go_wp2_with (first
        | (go_at_call 41; (refine (HLF.out _ HD.out).mono ?_); rintro e w6 ⟨rfl, rfl⟩)
        | (go_at_call 33; (refine (wrongF_calls _).mono ?_); rintro e w7 ⟨rfl, rfl⟩)
        | (fail "no arm"))
      go_ret
      exact ⟨_, rfl, OwnRow.lower HO2.out HA1, HB.out⟩
end Go.Proofs.YtfnoegijkdhckaaDoor
