/-
  The calls of package pack's Reader that read texts.
-/
import Derived.Test.YtbekfoldohhbpaaDoorPkB
namespace Go.Proofs.YtbekfoldohhbpaaDoor
open Go.RowKit Go.Proofs.YtbekfoldohhbpaaDoorW.PrintWords

theorem numGo_range (xs : List Int) (most : Int) (hx : ∀ x ∈ xs, 0 ≤ x) (k : Nat) : ∀ (i : Nat) (n u : Int), 0 ≤ n → 0 ≤ u → 0 ≤ (numGo xs most k i n u).1 ∧ (numGo xs most k i n u).1 ≤ 4294967295 ∧ ((numGo xs most k i n u).2.2 = 0 → (numGo xs most k i n u).1 ≤ most) ∧ 0 ≤ (numGo xs most k i n u).2.2 ∧ (numGo xs most k i n u).2.2 ≤ 3 := by
  induction k with
  | zero => intro i n u _ _; simp [numGo]
  | succ k ih =>
    intro i n u hn hu
    rw [numGo]
    by_cases h1 : xs.length ≤ i
    · rw [if_pos h1]; simp
    · rw [if_neg h1]
      have hy : 0 ≤ xs.getD i 0 := by
        rw [List.getD_eq_getElem?_getD, List.getElem?_eq_getElem (by omega)]
        exact hx _ (by simp)
      have hp : 0 ≤ xs.getD i 0 % 128 * u := Int.mul_nonneg (by omega) hu
      by_cases h2 : 128 ≤ xs.getD i 0
      · rw [if_pos h2]; exact ih _ _ _ (by omega) (by omega)
      · rw [if_neg h2]
        split
        · simp
        · rename_i hb
          show 0 ≤ n + xs.getD i 0 % 128 * u ∧ n + xs.getD i 0 % 128 * u ≤ 4294967295 ∧ ((0 : Int) = 0 → n + xs.getD i 0 % 128 * u ≤ most) ∧ (0 : Int) ≤ 0 ∧ (0 : Int) ≤ 3
          omega
theorem rdNum_range (xs : List Int) (e most : Int) (hx : ∀ x ∈ xs, 0 ≤ x) (he : 0 ≤ e ∧ e ≤ 3) : 0 ≤ (rdNum xs e most).1 ∧ (rdNum xs e most).1 ≤ 4294967295 ∧ ((rdNum xs e most).2.2 = 0 → (rdNum xs e most).1 ≤ most) ∧ 0 ≤ (rdNum xs e most).2.2 ∧ (rdNum xs e most).2.2 ≤ 3 := by
  unfold rdNum
  split
  · exact numGo_range xs most hx 5 0 0 1 (by omega) (by omega)
  · refine ⟨?_, ?_, ?_, ?_, ?_⟩ <;> simp <;> omega

/-- What is read of a text's form. -/
def rdText (xs : List Int) (e most : Int) : ByteArray × List Int × Int :=
  if (rdNum xs e most).2.2 ≠ 0 then (strOfNums [], (rdNum xs e most).2.1, (rdNum xs e most).2.2)
  else if ((rdNum xs e most).2.1.length : Int) < (rdNum xs e most).1 then (strOfNums [], [], 2)
  else (strOfNums ((rdNum xs e most).2.1.take (rdNum xs e most).1.toNat), (rdNum xs e most).2.1.drop (rdNum xs e most).1.toNat, 0)

theorem pkInfo5' : ∃ i, Tryd.prog.info? 5 = some i ∧ i.size = 1 := by
  have h := pkInfo5
  obtain ⟨i, hi, hz⟩ := Option.map_eq_some_iff.1 h
  simp only [Prod.mk.injEq] at hz
  exact ⟨i, hi, hz.2.1⟩

set_option maxHeartbeats 1000000 in
theorem text_calls (w : World) (a d : Nat) (xs : List Int) (e most : Int) (h : RD 63 w a d xs e) (he : 0 ≤ e ∧ e ≤ 3) :
    Calls Tryd.prog 40 #[.pointer (some ⟨a, 0, none⟩), .int .i64 most] w fun r w' => r = .returned (.string (rdText xs e most).1) ∧ RD 63 w' a d (rdText xs e most).2.1 (rdText xs e most).2.2 ∧ Only a w w' := by
  have h0 := Lib.hid h
  have hr := rdNum_range xs e most (by obtain ⟨A, c, _, _, _, _, _, hx⟩ := h.out; exact fun x hx' => (hx x hx').1) he
  have hc := fun w => num_calls w a d xs e most
  obtain ⟨n, hn⟩ : ∃ n, n = (rdNum xs e most).1 := ⟨_, rfl⟩
  obtain ⟨ys, hys⟩ : ∃ ys, ys = (rdNum xs e most).2.1 := ⟨_, rfl⟩
  obtain ⟨e', he'⟩ : ∃ e', e' = (rdNum xs e most).2.2 := ⟨_, rfl⟩
  rw [← hn, ← he'] at hr
  simp only [← hn, ← hys, ← he'] at hc
  have HC := Lib.hid hc
  clear hc h
  obtain ⟨hr0, hr1, _, hr3, hr4⟩ := hr
  by_cases h1 : e' = 0
  · subst h1
    by_cases h2 : (ys.length : Int) < n
    · have HT := Lib.hid (show rdText xs e most = (strOfNums [], [], 2) by unfold rdText; rw [← hn, ← hys, ← he', if_neg (by simp), if_pos h2])
      clear hn hys he'
      go_enter Tryd.func40, Tryd.ntmps40
      go_wp2_with (first
        | (go_at_call 39; refine (HC.out _ h0.out).mono ?_; rintro e w' ⟨rfl, hd, ho⟩; obtain ⟨A, c, hb, hrd, hcc, _, _, _⟩ := hd.out; have c0 := blk_cell hb 0; have c1 := blk_cell hb 1; simp at c0 c1; have hm := hrd.2.1; have HD := Lib.hid hd; have HO := Lib.hid ho; clear hd ho hb hrd)
        | (go_at_call 47; refine (wrong_calls _ _ _ _ _ _ HD.out).mono ?_; rintro e w2 ⟨rfl, hd, ho⟩; have HD2 := Lib.hid hd; have HO2 := Lib.hid ho; clear hd ho))
      go_ret
      rw [HT.out]
      exact ⟨rfl, HD2.out, HO.out.trans HO2.out⟩
    · obtain ⟨m, rfl⟩ := Int.eq_ofNat_of_zero_le hr0
      have HT := Lib.hid (show rdText xs e most = (strOfNums (ys.take m), ys.drop m, 0) by unfold rdText; rw [← hn, ← hys, ← he', if_neg (by simp), if_neg h2]; simp)
      clear hn hys he'
      obtain ⟨i5, hi5, hs5⟩ := pkInfo5'
      go_enter Tryd.func40, Tryd.ntmps40
      go_wp2_with (first
        | (go_at_call 39; refine (HC.out _ h0.out).mono ?_; rintro e w' ⟨rfl, hd, ho⟩; obtain ⟨A, c, hb, hrd, hcc, _, _, _⟩ := hd.out; have c0 := blk_cell hb 0; have c1 := blk_cell hb 1; have z0 := blk_frozen hb 0; simp at c0 c1; have hm := hrd.2.1; have hst := string_of_reads (P := Tryd.prog) (n := m) (c := c) (src := 33) (dst := 9) Tryd.underlying33 Tryd.underlying5 Tryd.underlying9 (hrd.take_ m (by omega)); have HB := Lib.hid hb; have HD := Lib.hid hd; have HO := Lib.hid ho; clear hd ho hb hrd))
      all_goals
        go_ret
        have hcut := fun A' n' c' h1 h2 h3 => RD.cut HD.out HB.out (m := m) (by omega) (A' := A') (n' := n') (c' := c') h1 h2 h3
        rw [HT.out]
        refine ⟨rfl, (hcut _ _ _ ?_ ?_ ?_).1, HO.out.trans (hcut _ _ _ ?_ ?_ ?_).2⟩
        all_goals first | omega | (rw [if_pos (by omega)]; done) | (rw [if_neg (by omega)]; done)
  · have HT := Lib.hid (show rdText xs e most = (strOfNums [], ys, e') by unfold rdText; rw [← hn, ← hys, ← he', if_pos h1])
    clear hn hys he'
    have hb1 : (e' != 0) = true := by simp [h1]
    clear h1
    go_enter Tryd.func40, Tryd.ntmps40
    go_wp2_with (first
        | (go_at_call 39; refine (HC.out _ h0.out).mono ?_; rintro e w' ⟨rfl, hd, ho⟩; obtain ⟨A, c, hb, hrd, hcc, _, _, _⟩ := hd.out; have c0 := blk_cell hb 0; have c1 := blk_cell hb 1; simp at c0 c1; have HD := Lib.hid hd; have HO := Lib.hid ho; clear hd ho hb hrd))
    go_ret
    rw [HT.out]
    exact ⟨rfl, HD.out, HO.out⟩
end Go.Proofs.YtbekfoldohhbpaaDoor
