/-
  The calls of the reference's Reader.
-/
import Derived.Test.YtbekfoldohhbpaaPkR
namespace Go.Proofs.Ytbekfoldohhbpaa
open Go.RowKit Go.Proofs.YtbekfoldohhbpaaW.PrintWords

set_option maxHeartbeats 400000 in
theorem rfail_calls (w : World) (a d : Nat) (xs : List Int) (e0 e : Int) (h : RD 34 w a d xs e0) :
    Calls Try.prog 23 #[.pointer (some ⟨a, 0, none⟩), .int .i64 e] w fun r w' => r = .returned (.tuple #[]) ∧ RD 34 w' a d [] e ∧ Only a w w' := by
  obtain ⟨A, c, hb, hr, hc, hA, hda, hx⟩ := h.out
  have c0 := blk_cell hb 0
  have c1 := blk_cell hb 1
  have z0 := blk_frozen hb 0
  have z1 := blk_frozen hb 1
  simp at c0 c1
  have HB := Lib.hid hb
  clear hb h hr hA hx
  go_enter Try.func23, Try.ntmps23
  go_wp2
  go_end0
  refine ⟨rfl, ⟨none, 0, ?_, ?_, by simp, by simp, hda, by simp⟩, ((Only.refl a w).set 0 _).set 1 _⟩
  · have := blk_set (blk_set HB.out 0 (.slice none 0 0)) 1 (.int .i64 e)
    simpa using this
  · exact ReadsInt.nil _ _

set_option maxHeartbeats 1000000 in
theorem rnum_calls (w : World) (a d : Nat) (xs : List Int) (e most : Int) (h : RD 34 w a d xs e) :
    Calls Try.prog 19 #[.pointer (some ⟨a, 0, none⟩), .int .i64 most] w fun r w' => r = .returned (.int .i64 (rdNum xs e most).1) ∧ RD 34 w' a d (rdNum xs e most).2.1 (rdNum xs e most).2.2 ∧ Only a w w' := by
  have h0 := Lib.hid h
  obtain ⟨A, c, hb, hr, hc, hA, hda, hx⟩ := h.out
  have c0 := blk_cell hb 0
  have c1 := blk_cell hb 1
  have z0 := blk_frozen hb 0
  have z1 := blk_frozen hb 1
  simp at c0 c1
  have hm := hr.2.1
  have HB := Lib.hid hb
  have HR := Lib.hid hr
  have HA := Lib.hid hA
  have HX := Lib.hid hx
  clear hb h hr hA hx
  have hcell : ∀ k, k < xs.length → ∃ ad y, A = some ad ∧ w.cell? (ad.add k) = some (.int .u8 y) ∧ y = xs.getD k 0 ∧ 0 ≤ y ∧ y < 256 := by
    intro k hk
    obtain ⟨ad, rfl, hcell⟩ := HR.out.at_ k (by omega) (by omega)
    rw [Int.toNat_natCast] at hcell
    refine ⟨ad, _, rfl, hcell, by unfold rd; rw [Int.toNat_natCast], ?_⟩
    refine HX.out _ ?_
    unfold rd; rw [Int.toNat_natCast, List.getD_eq_getElem?_getD, List.getElem?_eq_getElem hk]; simp
  have HCELL := Lib.hid hcell
  clear hcell
  by_cases he : e = 0
  · subst he
    go_enter Try.func19, Try.ntmps19
    go_wp2
    go_loop [5, 6] (fun vl vi => ∃ (k : Nat) (l : Int), vi = .int .i64 k ∧ vl = .int .i64 l ∧ k ≤ 5 ∧ k ≤ xs.length ∧ Hid ((l = -1 ∧ ∀ j, j < k → 128 ≤ xs.getD j 0) ∨ (l + 1 = k ∧ 0 ≤ l ∧ xs.getD l.toNat 0 < 128 ∧ ∀ j, j < l.toNat → 128 ≤ xs.getD j 0)) ∧ -1 ≤ l ∧ l ≤ 4) (fun _ vi => (5 - intOf vi).toNat)
    case atStart => exact ⟨0, -1, rfl, rfl, by omega, by omega, Lib.hid (.inl ⟨rfl, fun j hj => by omega⟩), by omega, by omega⟩
    case round =>
      obtain ⟨k, l, rfl, rfl, hk5, hkl, HL, hl0, hl4⟩ := hrel
      rcases HL.out with ⟨hl, hall⟩ | ⟨hl, hl1, hy, hall⟩
      · subst hl
        have HALL := Lib.hid hall
        clear hall HL
        by_cases hgo : k < 5 ∧ k < xs.length
        · obtain ⟨hgo1, hgo2⟩ := hgo
          obtain ⟨ad, y, rfl, hcell, hy, hy0, hy1⟩ := HCELL.out k hgo2
          have HY := Lib.hid hy
          clear hy
          go_wp2
          · go_round
            case rel => exact ⟨k + 1, k, by go_num, rfl, by omega, by omega, Lib.hid (.inr ⟨by omega, by omega, by rw [Int.toNat_natCast, ← HY.out]; omega, fun j hj => HALL.out j (by omega)⟩), by omega, by omega⟩
            case measure => simp [intOf] <;> omega
          · go_round
            case rel => exact ⟨k + 1, -1, by go_num, rfl, by omega, by omega, Lib.hid (.inl ⟨rfl, all_snoc HALL.out (by rw [← HY.out]; omega)⟩), by omega, by omega⟩
            case measure => simp [intOf] <;> omega
        · have HF := Lib.hid (rdNum_none xs most k HALL.out (by omega))
          by_cases hs : xs.length < 5
          · go_wp2_with (go_at_call 23; refine (rfail_calls _ _ _ _ _ _ h0.out).mono ?_; rintro e w' ⟨rfl, hd, ho⟩; have HD := Lib.hid hd; have HO := Lib.hid ho; clear hd ho)
            all_goals
              go_ret
              rw [HF.out, if_pos hs]
              exact ⟨rfl, HD.out, HO.out⟩
          · go_wp2_with (go_at_call 23; refine (rfail_calls _ _ _ _ _ _ h0.out).mono ?_; rintro e w' ⟨rfl, hd, ho⟩; have HD := Lib.hid hd; have HO := Lib.hid ho; clear hd ho)
            all_goals
              go_ret
              rw [HF.out, if_neg hs]
              exact ⟨rfl, HD.out, HO.out⟩
      · obtain ⟨m, rfl⟩ := Int.eq_ofNat_of_zero_le hl1
        simp only [Int.toNat_natCast] at hy hall
        obtain rfl : k = m + 1 := by omega
        clear hl
        have HF := Lib.hid (rdNum_some xs most m hall (by omega) (by omega) hy)
        obtain ⟨ad, y, rfl, hcell, hyy, hy0, hy1⟩ := HCELL.out m (by omega)
        rw [← hyy] at HF hy
        have HV := Lib.hid (valGo_zero xs (m + 1))
        clear hall hyy HL
        by_cases hz : y = 0 ∧ 0 < (m : Int)
        · obtain ⟨rfl, hz1⟩ := hz
          go_wp2_with (go_at_call 23; refine (rfail_calls _ _ _ _ _ _ h0.out).mono ?_; rintro e w' ⟨rfl, hd, ho⟩; have HD := Lib.hid hd; have HO := Lib.hid ho; clear hd ho)
          all_goals
            go_ret
            rw [HF.out, if_pos (.inl ⟨by trivial, by omega⟩)]
            exact ⟨rfl, HD.out, HO.out⟩
        · go_wp2
          all_goals
            go_loop [7, 8] (fun vn vi => ∃ (i n : Int), vi = .int .i64 i ∧ vn = .int .i64 n ∧ -1 ≤ i ∧ i ≤ m ∧ Hid (valGo xs (i + 1).toNat n = lo xs (m + 1)) ∧ 0 ≤ n ∧ (i = m → n < 1) ∧ ((m : Int) - 1 ≤ i → n < 128) ∧ ((m : Int) - 2 ≤ i → n < 16384) ∧ ((m : Int) - 3 ≤ i → n < 2097152) ∧ ((m : Int) - 4 ≤ i → n < 268435456) ∧ ((m : Int) - 5 ≤ i → n < 34359738368)) (fun _ vi => (intOf vi + 1).toNat)
            case atStart => exact ⟨m, 0, rfl, rfl, by omega, by omega, Lib.hid (by rw [show ((m : Int) + 1).toNat = m + 1 by omega]; exact HV.out), by omega, by omega, by omega, by omega, by omega, by omega, by omega⟩
            case round =>
              obtain ⟨i, n, rfl, rfl, hi0, hi1, HG, hn0, b0, b1, b2, b3, b4, b5⟩ := hrel
              by_cases hgo : 0 ≤ i
              · obtain ⟨q, rfl⟩ := Int.eq_ofNat_of_zero_le hgo
                obtain ⟨ad', z, hadd, hcell2, hzz, hz0, hz1⟩ := HCELL.out q (by omega)
                obtain rfl : ad = ad' := Option.some.inj hadd
                have HZ := Lib.hid hzz
                clear hzz hcell
                go_wp2
                go_round
                case rel => exact ⟨(q : Int) - 1, 128 * n + z % 128, rfl, rfl, by omega, by omega, Lib.hid (by have h := HG.out; rw [show ((q : Int) + 1).toNat = q + 1 by omega, valGo, ← HZ.out] at h; rw [show ((q : Int) - 1 + 1).toNat = q by omega]; exact h), by omega, by omega, by omega, by omega, by omega, by omega, by omega⟩
                case measure => simp [intOf] <;> omega
              · have hn : lo xs (m + 1) = n := by
                  have h := HG.out
                  rw [show (i + 1).toNat = 0 by omega] at h
                  exact h.symm
                rw [hn] at HF
                clear hn HG HV
                by_cases bad : 4294967295 < n ∨ most < n
                · go_wp2_with (go_at_call 23; refine (rfail_calls _ _ _ _ _ _ h0.out).mono ?_; rintro e w' ⟨rfl, hd, ho⟩; have HD := Lib.hid hd; have HO := Lib.hid ho; clear hd ho)
                  all_goals
                    go_ret
                    rw [HF.out, if_pos (by omega)]
                    exact ⟨rfl, HD.out, HO.out⟩
                · go_wp2
                  all_goals
                    go_ret
                    rw [HF.out, if_neg (by omega)]
                    have hcut := fun A' n' c' h1 h2 h3 => RD.cut h0.out HB.out (m := m + 1) (by omega) (A' := A') (n' := n') (c' := c') h1 h2 h3
                    refine ⟨rfl, (hcut _ _ _ ?_ ?_ ?_).1, (hcut _ _ _ ?_ ?_ ?_).2⟩
                    all_goals first | omega | (rw [if_pos (by omega)]; done) | (rw [if_neg (by omega)]; simp [Addr.add]; done) | (rw [if_neg (by omega), show m + 1 = 1 by omega]; simp [Addr.add]; done)
  · have he' : (e != 0) = true := by simp [he]
    go_enter Try.func19, Try.ntmps19
    go_wp2
    go_ret
    rw [rdNum, if_neg he]
    exact ⟨rfl, h0.out, Only.refl _ _⟩
set_option maxHeartbeats 1000000 in
theorem rtext_calls (w : World) (a d : Nat) (xs : List Int) (e most : Int) (h : RD 34 w a d xs e) (he : 0 ≤ e ∧ e ≤ 3) :
    Calls Try.prog 17 #[.pointer (some ⟨a, 0, none⟩), .int .i64 most] w fun r w' => r = .returned (.string (rdText xs e most).1) ∧ RD 34 w' a d (rdText xs e most).2.1 (rdText xs e most).2.2 ∧ Only a w w' := by
  have h0 := Lib.hid h
  have hr := rdNum_range xs e most (by obtain ⟨A, c, _, _, _, _, _, hx⟩ := h.out; exact fun x hx' => (hx x hx').1) he
  have hc := fun w => rnum_calls w a d xs e most
  obtain ⟨n, hn⟩ : ∃ n, n = (rdNum xs e most).1 := ⟨_, rfl⟩
  obtain ⟨ys, hys⟩ : ∃ ys, ys = (rdNum xs e most).2.1 := ⟨_, rfl⟩
  obtain ⟨e', he'⟩ : ∃ e', e' = (rdNum xs e most).2.2 := ⟨_, rfl⟩
  rw [← hn, ← he'] at hr
  simp only [← hn, ← hys, ← he'] at hc
  have HC := Lib.hid hc
  clear hc h
  obtain ⟨hr0, hr1, _, hr3, hr4⟩ := hr
  by_cases h1 : e' = 0
  · subst h1
    by_cases h2 : (ys.length : Int) < n
    · have HT := Lib.hid (show rdText xs e most = (strOfNums [], [], 2) by unfold rdText; rw [← hn, ← hys, ← he', if_neg (by simp), if_pos h2])
      clear hn hys he'
      go_enter Try.func17, Try.ntmps17
      go_wp2_with (first
        | (go_at_call 19; refine (HC.out _ h0.out).mono ?_; rintro e w' ⟨rfl, hd, ho⟩; obtain ⟨A, c, hb, hrd, hcc, _, _, _⟩ := hd.out; have c0 := blk_cell hb 0; have c1 := blk_cell hb 1; simp at c0 c1; have hm := hrd.2.1; have HD := Lib.hid hd; have HO := Lib.hid ho; clear hd ho hb hrd)
        | (go_at_call 23; refine (rfail_calls _ _ _ _ _ _ HD.out).mono ?_; rintro e w2 ⟨rfl, hd, ho⟩; have HD2 := Lib.hid hd; have HO2 := Lib.hid ho; clear hd ho))
      go_ret
      rw [HT.out]
      exact ⟨rfl, HD2.out, HO.out.trans HO2.out⟩
    · obtain ⟨m, rfl⟩ := Int.eq_ofNat_of_zero_le hr0
      have HT := Lib.hid (show rdText xs e most = (strOfNums (ys.take m), ys.drop m, 0) by unfold rdText; rw [← hn, ← hys, ← he', if_neg (by simp), if_neg h2]; simp)
      clear hn hys he'
      obtain ⟨i5, hi5, hs5⟩ := pkInfo5'
      go_enter Try.func17, Try.ntmps17
      go_wp2_with (first
        | (go_at_call 19; refine (HC.out _ h0.out).mono ?_; rintro e w' ⟨rfl, hd, ho⟩; obtain ⟨A, c, hb, hrd, hcc, _, _, _⟩ := hd.out; have c0 := blk_cell hb 0; have c1 := blk_cell hb 1; have z0 := blk_frozen hb 0; simp at c0 c1; have hm := hrd.2.1; have hst := string_of_reads (P := Try.prog) (n := m) (c := c) (src := 24) (dst := 9) Try.underlying24 Try.underlying5 Try.underlying9 (hrd.take_ m (by omega)); have HB := Lib.hid hb; have HD := Lib.hid hd; have HO := Lib.hid ho; clear hd ho hb hrd))
      all_goals
        go_ret
        have hcut := fun A' n' c' h1 h2 h3 => RD.cut HD.out HB.out (m := m) (by omega) (A' := A') (n' := n') (c' := c') h1 h2 h3
        rw [HT.out]
        refine ⟨rfl, (hcut _ _ _ ?_ ?_ ?_).1, HO.out.trans (hcut _ _ _ ?_ ?_ ?_).2⟩
        all_goals first | omega | (rw [if_pos (by omega)]; done) | (rw [if_neg (by omega)]; done)
  · have HT := Lib.hid (show rdText xs e most = (strOfNums [], ys, e') by unfold rdText; rw [← hn, ← hys, ← he', if_pos h1])
    clear hn hys he'
    have hb1 : (e' != 0) = true := by simp [h1]
    clear h1
    go_enter Try.func17, Try.ntmps17
    go_wp2_with (first
        | (go_at_call 19; refine (HC.out _ h0.out).mono ?_; rintro e w' ⟨rfl, hd, ho⟩; obtain ⟨A, c, hb, hrd, hcc, _, _, _⟩ := hd.out; have c0 := blk_cell hb 0; have c1 := blk_cell hb 1; simp at c0 c1; have HD := Lib.hid hd; have HO := Lib.hid ho; clear hd ho hb hrd))
    go_ret
    rw [HT.out]
    exact ⟨rfl, HD.out, HO.out⟩
end Go.Proofs.Ytbekfoldohhbpaa
