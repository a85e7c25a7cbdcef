/-
  What package op's Take comes to.
-/
import Derived.Test.YtbekfoldohhbpaaDoorOpA
import Derived.Test.YtbekfoldohhbpaaDoorPkH
namespace Go.Proofs.YtbekfoldohhbpaaDoor
open Go.RowKit Go.Proofs.YtbekfoldohhbpaaDoorW.PrintWords

/-- Block a may have been written, and blocks may be new. -/
structure Wide (a : Nat) (w w' : World) : Prop where
  os : w'.os = w.os
  tape : w'.tape = w.tape
  output : w'.output = w.output
  size : w.heap.size ≤ w'.heap.size
  block : ∀ k, k < w.heap.size → k ≠ a → w'.heap[k]? = w.heap[k]?
theorem Wide.refl (a : Nat) (w : World) : Wide a w w := ⟨rfl, rfl, rfl, Nat.le_refl _, fun _ _ _ => rfl⟩
theorem Wide.only {a : Nat} {w w1 w2 : World} (h : Wide a w w1) (k : Only a w1 w2) : Wide a w w2 :=
  ⟨k.os.trans h.os, k.tape.trans h.tape, k.output.trans h.output, by rw [k.size]; exact h.size, fun i hi hn => (k.block i hn).trans (h.block i hi hn)⟩
theorem Wide.set {a : Nat} {w w1 : World} (h : Wide a w w1) (g : Nat) (hg : w.heap.size ≤ g) (j : Nat) (u : Value) : Wide a w (w1.setCell ⟨g, j, none⟩ u) :=
  ⟨h.os, h.tape, h.output, by simpa [World.setCell] using h.size, fun i hi hn => (Below.heap_setCell w1 ⟨g, j, none⟩ u i (show i ≠ g by omega)).trans (h.block i hi hn)⟩
theorem Wide.alloc {a : Nat} {w w1 : World} (h : Wide a w w1) (o : Obj) : Wide a w (w1.alloc o) :=
  ⟨h.os, h.tape, h.output, by have := h.size; simp; omega, fun i hi hn => (Below.heap_alloc w1 o i (by have := h.size; omega)).trans (h.block i hi hn)⟩
theorem Wide.more {a : Nat} {w w1 w2 : World} (h : Wide a w w1) (k : Below w1.heap.size w1 w2) : Wide a w w2 :=
  ⟨k.os.trans h.os, k.tape.trans h.tape, k.output.trans h.output, Nat.le_trans h.size k.size, fun i hi hn => (k.block i (by have := h.size; omega)).trans (h.block i hi hn)⟩
theorem Wide.below {a B : Nat} {w0 w w1 : World} (h : Wide a w w1) (k : Below B w0 w) (hB : B ≤ a) (hw : B ≤ w.heap.size) : Below B w0 w1 :=
  k.trans ⟨h.os, h.tape, h.output, h.size, fun i hi => h.block i (by omega) (by omega)⟩
theorem RD.far {T : Nat} {w : World} {a d : Nat} {xs : List Int} {e : Int} (h : RD T w a d xs e) (g j : Nat) (u : Value) (ha : a ≠ g) (hd : d ≠ g) : RD T (w.setCell ⟨g, j, none⟩ u) a d xs e := h.other ((Only.refl g w).set j u) ha hd

/-- What is taken, and what is left of the bytes; what is wrong. -/
def tk1 (xs : List Int) (e : Int) := rdNum xs e 16777215
def tk2 (xs : List Int) (e : Int) := rdNum (tk1 xs e).2.1 (tk1 xs e).2.2 255
def tk3 (xs : List Int) (e : Int) := rdNum (tk2 xs e).2.1 (tk2 xs e).2.2 4294967295
def tk4 (xs : List Int) (e : Int) := rdNum (tk3 xs e).2.1 (tk3 xs e).2.2 4294967295
def tk5 (xs : List Int) (e : Int) := rdText (tk4 xs e).2.1 (tk4 xs e).2.2 20
def tkOp (xs : List Int) (e : Int) : OpR := ⟨(tk1 xs e).1, (tk2 xs e).1, (tk3 xs e).1, (tk4 xs e).1, (tk5 xs e).1⟩
def zeroOp : OpR := ⟨0, 0, 0, 0, ⟨#[]⟩⟩

theorem strOfNums_size (l : List Int) : (strOfNums l).size = l.length := by
  unfold strOfNums
  show (List.toArray _).size = _
  simp
theorem rdText_size (xs : List Int) (e : Int) (hx : ∀ x ∈ xs, 0 ≤ x ∧ x < 256) : (rdText xs e 20).1.size ≤ 20 := by
  unfold rdText
  by_cases he : e = 0
  · subst he
    rcases rdNum_cases xs 20 hx with ⟨e', h, h'⟩ | ⟨k, n, h, _, _, _, _, h0, _, hm⟩
    · rw [h, if_pos (by rcases h' with rfl | rfl <;> simp)]
      show (strOfNums []).size ≤ 20
      decide
    · rw [h, if_neg (by simp)]
      split
      · show (strOfNums []).size ≤ 20
        decide
      · show (strOfNums _).size ≤ 20
        rw [strOfNums_size, List.length_take]
        have : n.toNat ≤ 20 := by omega
        omega
  · have h : rdNum xs e 20 = (0, xs, e) := by rw [rdNum, if_neg he]
    rw [h, if_pos he]
    show (strOfNums []).size ≤ 20
    decide

set_option maxHeartbeats 2000000 in
theorem take_calls (w0 w : World) (a d : Nat) (xs : List Int) (e : Int) (h : RD 63 w a d xs e) (he : 0 ≤ e ∧ e ≤ 3) (hd : d < w.heap.size) (hT : Tabs w0) (hw : Below w0.heap.size w0 w) (ha : w0.heap.size ≤ a) :
    Calls Tryd.prog 21 #[.pointer (some ⟨a, 0, none⟩)] w fun r w' => r = .returned (.tuple #[opV (if opRight (tkOp xs e) = true then tkOp xs e else zeroOp), .bool (opRight (tkOp xs e))]) ∧ RD 63 w' a d (tk5 xs e).2.1 (tk5 xs e).2.2 ∧ Wide a w w' := by
  have hal := h.lt
  have hx : ∀ x ∈ xs, 0 ≤ x ∧ x < 256 := by obtain ⟨_, _, _, _, _, _, _, hx⟩ := h.out; exact hx
  have hdrop : ∀ (zs : List Int) (e most : Int), (∀ x ∈ zs, 0 ≤ x ∧ x < 256) → ∀ x ∈ (rdNum zs e most).2.1, 0 ≤ x ∧ x < 256 := by
    intro zs e most hz x hm
    by_cases he : e = 0
    · subst he
      rcases rdNum_cases zs most hz with ⟨e', h, _⟩ | ⟨k, n, h, _⟩
      · rw [h] at hm; simp at hm
      · rw [h] at hm; exact hz x (List.mem_of_mem_drop hm)
    · rw [rdNum, if_neg he] at hm; exact hz x hm
  have r1 := rdNum_range xs e 16777215 (fun x h => (hx x h).1) he
  have x1 := hdrop xs e 16777215 hx
  rcases h1 : rdNum xs e 16777215 with ⟨n1, y1, e1⟩
  rw [h1] at r1 x1
  have r2 := rdNum_range y1 e1 255 (fun x h => (x1 x h).1) ⟨r1.2.2.2.1, r1.2.2.2.2⟩
  have x2 := hdrop y1 e1 255 x1
  rcases h2 : rdNum y1 e1 255 with ⟨n2, y2, e2⟩
  rw [h2] at r2 x2
  have r3 := rdNum_range y2 e2 4294967295 (fun x h => (x2 x h).1) ⟨r2.2.2.2.1, r2.2.2.2.2⟩
  have x3 := hdrop y2 e2 4294967295 x2
  rcases h3 : rdNum y2 e2 4294967295 with ⟨n3, y3, e3⟩
  rw [h3] at r3 x3
  have r4 := rdNum_range y3 e3 4294967295 (fun x h => (x3 x h).1) ⟨r3.2.2.2.1, r3.2.2.2.2⟩
  have x4 := hdrop y3 e3 4294967295 x3
  rcases h4 : rdNum y3 e3 4294967295 with ⟨n4, y4, e4⟩
  rw [h4] at r4 x4
  have hsz := rdText_size y4 e4 x4
  rcases h5 : rdText y4 e4 20 with ⟨s, y5, e5⟩
  rw [h5] at hsz
  have t1 : tk1 xs e = (n1, y1, e1) := h1
  have t2 : tk2 xs e = (n2, y2, e2) := by rw [tk2, t1]; exact h2
  have t3 : tk3 xs e = (n3, y3, e3) := by rw [tk3, t2]; exact h3
  have t4 : tk4 xs e = (n4, y4, e4) := by rw [tk4, t3]; exact h4
  have t5 : tk5 xs e = (s, y5, e5) := by rw [tk5, t4]; exact h5
  have t6 : tkOp xs e = ⟨n1, n2, n3, n4, s⟩ := by rw [tkOp, t1, t2, t3, t4, t5]
  rw [t6, t5]
  have HE4 := Lib.hid (show 0 ≤ e4 ∧ e4 ≤ 3 from ⟨r4.2.2.2.1, r4.2.2.2.2⟩)
  have HS := Lib.hid (show s.size ≤ 9223372036854775807 from Nat.le_trans hsz (by decide))
  have H1 := Lib.hid h1
  have H2 := Lib.hid h2
  have H3 := Lib.hid h3
  have H4 := Lib.hid h4
  have H5 := Lib.hid h5
  clear t1 t2 t3 t4 t5 t6 r1 r2 r3 r4 x1 x2 x3 x4 hsz hdrop hx h1 h2 h3 h4 h5 he
  have HD0 := Lib.hid (show RD 63 ((w.alloc (.cells #[.int .i64 0, .int .i64 0, .int .i64 0, .int .i64 0, .string ⟨#[]⟩] 25)).alloc (.cells #[.int .i64 0, .int .i64 0, .int .i64 0, .int .i64 0, .string ⟨#[]⟩] 25)) a d xs e from (h.below ((Below.refl _ _).alloc (Nat.le_refl _) _)).below ((Below.refl _ _).alloc (Nat.le_refl _) _))
  have HA2 := Lib.hid (show a ≠ w.heap.size by omega)
  have HDM := Lib.hid (show d ≠ w.heap.size by omega)
  have HA4 := Lib.hid (show a ≠ w.heap.size + 1 by omega)
  have HDN := Lib.hid (show d ≠ w.heap.size + 1 by omega)
  have HT := Lib.hid hT
  have HB0 := Lib.hid hw.size
  have HW0 := Lib.hid hw
  have HA := Lib.hid ha
  clear h hT hw ha
  have hrc := fun w (h : Tabs w) => right_calls ⟨n1, n2, n3, n4, s⟩ w HS.out h
  simp only [opV] at hrc
  generalize opRight ⟨n1, n2, n3, n4, s⟩ = R at *
  have HRC := Lib.hid hrc
  clear hrc
  cases R
  all_goals
    go_enter Tryd.func21, Tryd.ntmps21
    go_wp2_with (first
      | (go_at_call 39; (with_reducible refine Calls.mono (num_calls_eq _ a d xs e 16777215 HD0.out H1.out) ?_); rintro r w1 ⟨rfl, hd, ho⟩; have HD1 := Lib.hid hd; clear hd HD0; have G21 := Lib.hid (show w1.heap[w.heap.size]? = some (.cells #[.int .i64 0, .int .i64 0, .int .i64 0, .int .i64 0, .string ⟨#[]⟩] 25 (0, 0)) from (ho.block _ (by omega)).trans (blk_alloc (blk_new _ _) _)); have G41 := Lib.hid (show w1.heap[w.heap.size + 1]? = some (.cells #[.int .i64 0, .int .i64 0, .int .i64 0, .int .i64 0, .string ⟨#[]⟩] 25 (0, 0)) from (ho.block _ (by omega)).trans (by have := blk_new (w.alloc (.cells #[.int .i64 0, .int .i64 0, .int .i64 0, .int .i64 0, .string ⟨#[]⟩] 25)) (.cells #[.int .i64 0, .int .i64 0, .int .i64 0, .int .i64 0, .string ⟨#[]⟩] 25); simpa using this)); have HW1 := Lib.hid (Wide.only (((Wide.refl a w).alloc _).alloc _) ho); clear ho; have c0 : w1.cell? ⟨w.heap.size + 1, 0, none⟩ = some (.int .i64 0) := blk_cell G41.out 0; have z0 := blk_frozen G41.out 0)
      | (go_at_call 39; (with_reducible refine Calls.mono (num_calls_eq _ a d y1 e1 255 (HD1.out.far (w.heap.size + 1) 0 (.int .i64 n1) HA4.out HDN.out) H2.out) ?_); rintro r w2 ⟨rfl, hd, ho⟩; have HD2 := Lib.hid hd; clear hd HD1; have G22 := Lib.hid (show w2.heap[w.heap.size]? = some (.cells #[.int .i64 0, .int .i64 0, .int .i64 0, .int .i64 0, .string ⟨#[]⟩] 25 (0, 0)) from (ho.block _ (by omega)).trans (blk_far G21.out (show w.heap.size ≠ w.heap.size + 1 by omega) _)); have G42 := Lib.hid (show w2.heap[w.heap.size + 1]? = some (.cells #[.int .i64 n1, .int .i64 0, .int .i64 0, .int .i64 0, .string ⟨#[]⟩] 25 (0, 0)) from (ho.block _ (by omega)).trans (blk_put G41.out 0 (.int .i64 n1) rfl)); have HW2 := Lib.hid (Wide.only (HW1.out.set (w.heap.size + 1) (by omega) _ _) ho); clear ho; have c1 : w2.cell? ⟨w.heap.size + 1, 1, none⟩ = some (.int .i64 0) := blk_cell G42.out 1; have z1 := blk_frozen G42.out 1)
      | (go_at_call 39; (with_reducible refine Calls.mono (num_calls_eq _ a d y2 e2 4294967295 (HD2.out.far (w.heap.size + 1) 1 (.int .i64 n2) HA4.out HDN.out) H3.out) ?_); rintro r w3 ⟨rfl, hd, ho⟩; have HD3 := Lib.hid hd; clear hd HD2; have G23 := Lib.hid (show w3.heap[w.heap.size]? = some (.cells #[.int .i64 0, .int .i64 0, .int .i64 0, .int .i64 0, .string ⟨#[]⟩] 25 (0, 0)) from (ho.block _ (by omega)).trans (blk_far G22.out (show w.heap.size ≠ w.heap.size + 1 by omega) _)); have G43 := Lib.hid (show w3.heap[w.heap.size + 1]? = some (.cells #[.int .i64 n1, .int .i64 n2, .int .i64 0, .int .i64 0, .string ⟨#[]⟩] 25 (0, 0)) from (ho.block _ (by omega)).trans (blk_put G42.out 1 (.int .i64 n2) rfl)); have HW3 := Lib.hid (Wide.only (HW2.out.set (w.heap.size + 1) (by omega) _ _) ho); clear ho; have c2 : w3.cell? ⟨w.heap.size + 1, 2, none⟩ = some (.int .i64 0) := blk_cell G43.out 2; have z2 := blk_frozen G43.out 2)
      | (go_at_call 39; (with_reducible refine Calls.mono (num_calls_eq _ a d y3 e3 4294967295 (HD3.out.far (w.heap.size + 1) 2 (.int .i64 n3) HA4.out HDN.out) H4.out) ?_); rintro r w4 ⟨rfl, hd, ho⟩; have HD4 := Lib.hid hd; clear hd HD3; have G24 := Lib.hid (show w4.heap[w.heap.size]? = some (.cells #[.int .i64 0, .int .i64 0, .int .i64 0, .int .i64 0, .string ⟨#[]⟩] 25 (0, 0)) from (ho.block _ (by omega)).trans (blk_far G23.out (show w.heap.size ≠ w.heap.size + 1 by omega) _)); have G44 := Lib.hid (show w4.heap[w.heap.size + 1]? = some (.cells #[.int .i64 n1, .int .i64 n2, .int .i64 n3, .int .i64 0, .string ⟨#[]⟩] 25 (0, 0)) from (ho.block _ (by omega)).trans (blk_put G43.out 2 (.int .i64 n3) rfl)); have HW4 := Lib.hid (Wide.only (HW3.out.set (w.heap.size + 1) (by omega) _ _) ho); clear ho; have c3 : w4.cell? ⟨w.heap.size + 1, 3, none⟩ = some (.int .i64 0) := blk_cell G44.out 3; have z3 := blk_frozen G44.out 3)
      | (go_at_call 40; (with_reducible refine Calls.mono (text_calls_eq _ a d y4 e4 20 (HD4.out.far (w.heap.size + 1) 3 (.int .i64 n4) HA4.out HDN.out) HE4.out H5.out) ?_); rintro r w5 ⟨rfl, hd, ho⟩; have HD5 := Lib.hid hd; clear hd HD4; have G25 := Lib.hid (show w5.heap[w.heap.size]? = some (.cells #[.int .i64 0, .int .i64 0, .int .i64 0, .int .i64 0, .string ⟨#[]⟩] 25 (0, 0)) from (ho.block _ (by omega)).trans (blk_far G24.out (show w.heap.size ≠ w.heap.size + 1 by omega) _)); have G45 := Lib.hid (show w5.heap[w.heap.size + 1]? = some (.cells #[.int .i64 n1, .int .i64 n2, .int .i64 n3, .int .i64 n4, .string ⟨#[]⟩] 25 (0, 0)) from (ho.block _ (by omega)).trans (blk_put G44.out 3 (.int .i64 n4) rfl)); have HW5 := Lib.hid (Wide.only (HW4.out.set (w.heap.size + 1) (by omega) _ _) ho); clear ho; have c4 : w5.cell? ⟨w.heap.size + 1, 4, none⟩ = some (.string ⟨#[]⟩) := blk_cell G45.out 4; have z4 := blk_frozen G45.out 4; have c0 : w5.cell? ⟨w.heap.size + 1, 0, none⟩ = some (.int .i64 n1) := blk_cell G45.out 0; have c1 : w5.cell? ⟨w.heap.size + 1, 1, none⟩ = some (.int .i64 n2) := blk_cell G45.out 1; have c2 : w5.cell? ⟨w.heap.size + 1, 2, none⟩ = some (.int .i64 n3) := blk_cell G45.out 2; have c3 : w5.cell? ⟨w.heap.size + 1, 3, none⟩ = some (.int .i64 n4) := blk_cell G45.out 3)
      | (go_at_call 12; (with_reducible refine Calls.mono (HRC.out _ (HT.out.below (Wide.below (HW5.out.set (w.heap.size + 1) (by omega) 4 (.string s)) HW0.out HA.out HB0.out))) ?_); rintro r w6 ⟨rfl, hb⟩; have HW6 := Lib.hid (Wide.more (HW5.out.set (w.heap.size + 1) (by omega) 4 (.string s)) hb); have HD6 := Lib.hid ((HD5.out.far (w.heap.size + 1) 4 (.string s) HA4.out HDN.out).below hb); have G26 := blk_below (blk_far G25.out (show w.heap.size ≠ w.heap.size + 1 by omega) _) hb; have G46 := blk_below (blk_put G45.out 4 (.string s) (cs' := #[.int .i64 n1, .int .i64 n2, .int .i64 n3, .int .i64 n4, .string s]) rfl) hb; clear hb; have p0 : w6.cell? ⟨w.heap.size, 0, none⟩ = some (.int .i64 0) := blk_cell G26 0; have q0 := blk_frozen G26 0; have m0 : w6.cell? ⟨w.heap.size + 1, 0, none⟩ = some (.int .i64 n1) := blk_cell G46 0; have p1 : w6.cell? ⟨w.heap.size, 1, none⟩ = some (.int .i64 0) := blk_cell G26 1; have q1 := blk_frozen G26 1; have m1 : w6.cell? ⟨w.heap.size + 1, 1, none⟩ = some (.int .i64 n2) := blk_cell G46 1; have p2 : w6.cell? ⟨w.heap.size, 2, none⟩ = some (.int .i64 0) := blk_cell G26 2; have q2 := blk_frozen G26 2; have m2 : w6.cell? ⟨w.heap.size + 1, 2, none⟩ = some (.int .i64 n3) := blk_cell G46 2; have p3 : w6.cell? ⟨w.heap.size, 3, none⟩ = some (.int .i64 0) := blk_cell G26 3; have q3 := blk_frozen G26 3; have m3 : w6.cell? ⟨w.heap.size + 1, 3, none⟩ = some (.int .i64 n4) := blk_cell G46 3; have p4 : w6.cell? ⟨w.heap.size, 4, none⟩ = some (.string ⟨#[]⟩) := blk_cell G26 4; have q4 := blk_frozen G26 4; have m4 : w6.cell? ⟨w.heap.size + 1, 4, none⟩ = some (.string s) := blk_cell G46 4)
      | (fail "no arm"))
  · refine (show ∀ W : World, (W.heap[w.heap.size]? = some (.cells #[.int .i64 0, .int .i64 0, .int .i64 0, .int .i64 0, .string ⟨#[]⟩] 25 (0, 0)) ∧ RD 63 W a d y5 e5 ∧ Wide a w W) → bodyPost _ _ _ _ _ W from fun W h => ?_) _ ⟨(blk_put (blk_put (blk_put (blk_put (blk_put G26 0 (.int .i64 0) rfl) 1 (.int .i64 0) rfl) 2 (.int .i64 0) rfl) 3 (.int .i64 0) rfl) 4 (.string ⟨#[]⟩) rfl), (((((HD6.out.far _ 0 (.int .i64 0) HA2.out HDM.out).far _ 1 (.int .i64 0) HA2.out HDM.out).far _ 2 (.int .i64 0) HA2.out HDM.out).far _ 3 (.int .i64 0) HA2.out HDM.out).far _ 4 (.string ⟨#[]⟩) HA2.out HDM.out), (((((HW6.out.set _ (Nat.le_refl _) 0 (.int .i64 0)).set _ (Nat.le_refl _) 1 (.int .i64 0)).set _ (Nat.le_refl _) 2 (.int .i64 0)).set _ (Nat.le_refl _) 3 (.int .i64 0)).set _ (Nat.le_refl _) 4 (.string ⟨#[]⟩))⟩
    obtain ⟨hG, hRD, hWi⟩ := h
    have k0 : W.cell? ⟨w.heap.size, 0, none⟩ = some (.int .i64 0) := blk_cell hG 0
    have k1 : W.cell? ⟨w.heap.size, 1, none⟩ = some (.int .i64 0) := blk_cell hG 1
    have k2 : W.cell? ⟨w.heap.size, 2, none⟩ = some (.int .i64 0) := blk_cell hG 2
    have k3 : W.cell? ⟨w.heap.size, 3, none⟩ = some (.int .i64 0) := blk_cell hG 3
    have k4 : W.cell? ⟨w.heap.size, 4, none⟩ = some (.string ⟨#[]⟩) := blk_cell hG 4
    have HG := Lib.hid hG
    clear hG
    refine bodyPost_ret (by simp [results, Tryd.results21, go_sem, k0, k1, k2, k3, k4]; try rfl) rfl ?_
    exact ⟨by simp [opV, zeroOp], hRD, hWi⟩
  · refine (show ∀ W : World, (W.heap[w.heap.size]? = some (.cells #[.int .i64 n1, .int .i64 n2, .int .i64 n3, .int .i64 n4, .string s] 25 (0, 0)) ∧ RD 63 W a d y5 e5 ∧ Wide a w W) → bodyPost _ _ _ _ _ W from fun W h => ?_) _ ⟨(blk_put (blk_put (blk_put (blk_put (blk_put G26 0 (.int .i64 n1) rfl) 1 (.int .i64 n2) rfl) 2 (.int .i64 n3) rfl) 3 (.int .i64 n4) rfl) 4 (.string s) rfl), (((((HD6.out.far _ 0 (.int .i64 n1) HA2.out HDM.out).far _ 1 (.int .i64 n2) HA2.out HDM.out).far _ 2 (.int .i64 n3) HA2.out HDM.out).far _ 3 (.int .i64 n4) HA2.out HDM.out).far _ 4 (.string s) HA2.out HDM.out), (((((HW6.out.set _ (Nat.le_refl _) 0 (.int .i64 n1)).set _ (Nat.le_refl _) 1 (.int .i64 n2)).set _ (Nat.le_refl _) 2 (.int .i64 n3)).set _ (Nat.le_refl _) 3 (.int .i64 n4)).set _ (Nat.le_refl _) 4 (.string s))⟩
    obtain ⟨hG, hRD, hWi⟩ := h
    have k0 : W.cell? ⟨w.heap.size, 0, none⟩ = some (.int .i64 n1) := blk_cell hG 0
    have k1 : W.cell? ⟨w.heap.size, 1, none⟩ = some (.int .i64 n2) := blk_cell hG 1
    have k2 : W.cell? ⟨w.heap.size, 2, none⟩ = some (.int .i64 n3) := blk_cell hG 2
    have k3 : W.cell? ⟨w.heap.size, 3, none⟩ = some (.int .i64 n4) := blk_cell hG 3
    have k4 : W.cell? ⟨w.heap.size, 4, none⟩ = some (.string s) := blk_cell hG 4
    have HG := Lib.hid hG
    clear hG
    refine bodyPost_ret (by simp [results, Tryd.results21, go_sem, k0, k1, k2, k3, k4]; try rfl) rfl ?_
    exact ⟨by simp [opV], hRD, hWi⟩
end Go.Proofs.YtbekfoldohhbpaaDoor
