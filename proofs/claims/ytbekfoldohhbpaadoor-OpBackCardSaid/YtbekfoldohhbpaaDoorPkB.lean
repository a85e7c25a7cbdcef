/-
  The calls of package pack's Reader that read: Number, Text.
-/
import Derived.Test.YtbekfoldohhbpaaDoorPkA
namespace Go.Proofs.YtbekfoldohhbpaaDoor
open Go.RowKit Go.Proofs.YtbekfoldohhbpaaDoorW.PrintWords

/-- What is read of a number's form, from place i on: the number, what is left, what was wrong. -/
def numGo (xs : List Int) (most : Int) : Nat → Nat → Int → Int → Int × List Int × Int
  | 0, _, _, _ => (0, [], 3)
  | k + 1, i, n, unit =>
    if xs.length ≤ i then (0, [], 2) else
    if 128 ≤ xs.getD i 0 then numGo xs most k (i + 1) (n + xs.getD i 0 % 128 * unit) (unit * 128)
    else if (xs.getD i 0 = 0 ∧ 0 < i) ∨ 4294967295 < n + xs.getD i 0 % 128 * unit ∨ most < n + xs.getD i 0 % 128 * unit then (0, [], 3)
    else (n + xs.getD i 0 % 128 * unit, xs.drop (i + 1), 0)
def rdNum (xs : List Int) (e most : Int) : Int × List Int × Int := if e = 0 then numGo xs most 5 0 0 1 else (0, xs, e)

set_option maxHeartbeats 1000000 in
theorem num_calls (w : World) (a d : Nat) (xs : List Int) (e most : Int) (h : RD 63 w a d xs e) :
    Calls Tryd.prog 39 #[.pointer (some ⟨a, 0, none⟩), .int .i64 most] w fun r w' => r = .returned (.int .i64 (rdNum xs e most).1) ∧ RD 63 w' a d (rdNum xs e most).2.1 (rdNum xs e most).2.2 ∧ Only a w w' := by
  have h0 := Lib.hid h
  obtain ⟨A, c, hb, hr, hc, hA, hda, hx⟩ := h.out
  have c0 := blk_cell hb 0
  have c1 := blk_cell hb 1
  have z0 := blk_frozen hb 0
  have z1 := blk_frozen hb 1
  simp at c0 c1
  have HB := Lib.hid hb
  have HR := Lib.hid hr
  have HA := Lib.hid hA
  have HX := Lib.hid hx
  clear hb h hr hA hx
  by_cases he : e = 0
  · subst he
    go_enter Tryd.func39, Tryd.ntmps39
    go_wp2
    have HF : Hid (rdNum xs 0 most = numGo xs most 5 0 0 1) := Lib.hid (by rw [rdNum, if_pos rfl])
    go_loop [5, 6, 14] (fun vn vu vi => ∃ (k : Nat) (n u : Int), vi = .int .i64 k ∧ vn = .int .i64 n ∧ vu = .int .i64 u ∧ k ≤ 5 ∧ 0 ≤ n ∧ n < u ∧ u ≤ 34359738368 ∧ 1 ≤ u ∧ (k ≤ 4 → u ≤ 268435456) ∧ (k ≤ 3 → u ≤ 2097152) ∧ (k ≤ 2 → u ≤ 16384) ∧ (k ≤ 1 → u ≤ 128) ∧ (k ≤ 0 → u ≤ 1) ∧ Hid (rdNum xs 0 most = numGo xs most (5 - k) k n u)) (fun _ _ vi => (5 - intOf vi).toNat)
    case atStart => exact ⟨0, 0, 1, rfl, rfl, rfl, by omega, by omega, by omega, by omega, by omega, by omega, by omega, by omega, by omega, by omega, HF⟩
    case round =>
      obtain ⟨k, n, u, rfl, rfl, rfl, hk, hn0, hn1, hu0, hu1, hk4, hk3, hk2, hk1, hk0, HG⟩ := hrel
      clear HF
      by_cases hk5 : k < 5
      · by_cases hkl : k < xs.length
        · obtain ⟨ad, rfl, hcell⟩ := HR.out.at_ k (by omega) (by omega)
          rw [Int.toNat_natCast] at hcell
          have hxr : 0 ≤ rd xs k ∧ rd xs k < 256 := by
            have : rd xs k ∈ xs := by unfold rd; rw [Int.toNat_natCast, List.getD_eq_getElem?_getD, List.getElem?_eq_getElem hkl]; simp
            exact HX.out _ this
          obtain ⟨y, hy⟩ : ∃ y, y = rd xs k := ⟨_, rfl⟩
          rw [← hy] at hcell hxr
          have HY := Lib.hid hy
          clear hy
          obtain ⟨hy0, hy1⟩ := hxr
          obtain ⟨j, hj⟩ : ∃ j, 5 - k = j + 1 := ⟨4 - k, by omega⟩
          have hG := HG.out
          rw [hj, numGo, if_neg (by omega), show xs.getD k 0 = y from HY.out.symm] at hG
          obtain ⟨p, hp⟩ : ∃ p, p = y % 128 * u := ⟨_, rfl⟩
          have hp0 : 0 ≤ p := by rw [hp]; exact Int.mul_nonneg (by omega) (by omega)
          have hp1 : p ≤ 127 * u := by rw [hp]; exact Int.mul_le_mul_of_nonneg_right (by omega) (by omega)
          rw [← hp] at hG
          have hp' := hp.symm
          have HP := Lib.hid hp
          clear hp
          by_cases hy : 128 ≤ y
          · rw [if_pos hy] at hG
            have HG2 := Lib.hid hG
            have HJ := Lib.hid hj
            clear hG hj
            go_wp2
            go_round
            case rel => exact ⟨k + 1, n + p, u * 128, by go_num, rfl, rfl, by omega, by omega, by omega, by omega, by omega, by omega, by omega, by omega, by omega, by omega, by rw [show 5 - (k + 1) = j by have := HJ.out; omega]; exact HG2⟩
            case measure => simp [intOf] <;> omega
          · rw [if_neg hy] at hG
            clear hj
            by_cases bad : (y = 0 ∧ 0 < (k : Int)) ∨ 4294967295 < n + p ∨ most < n + p
            · have HG2 := Lib.hid (show rdNum xs 0 most = (0, [], 3) by rw [hG, if_pos (by omega)])
              clear hG
              go_wp2_with (go_at_call 47; refine (wrong_calls _ _ _ _ _ _ h0.out).mono ?_; rintro e w' ⟨rfl, hd, ho⟩; have HD := Lib.hid hd; have HO := Lib.hid ho; clear hd ho)
              all_goals
                go_ret
                rw [HG2.out]
                exact ⟨rfl, HD.out, HO.out⟩
            · have HG2 := Lib.hid (show rdNum xs 0 most = (n + p, xs.drop (k + 1), 0) by rw [hG, if_neg (by omega)])
              clear hG
              go_wp2
              all_goals
                go_ret
                rw [HG2.out]
                have hcut := fun A' n' c' h1 h2 h3 => RD.cut h0.out HB.out (m := k + 1) (by omega) (A' := A') (n' := n') (c' := c') h1 h2 h3
                refine ⟨rfl, (hcut _ _ _ ?_ ?_ ?_).1, (hcut _ _ _ ?_ ?_ ?_).2⟩
                all_goals first | omega | (rw [if_pos (by omega)]; done) | (rw [if_neg (by omega)]; simp [Addr.add]; done) | (rw [if_neg (by omega), show k + 1 = 1 by omega]; simp [Addr.add]; done)
        · go_wp2_with (go_at_call 47; refine (wrong_calls _ _ _ _ _ _ h0.out).mono ?_; rintro e w' ⟨rfl, hd, ho⟩; have HD := Lib.hid hd; have HO := Lib.hid ho; clear hd ho)
          go_ret
          rw [HG.out]
          obtain ⟨j, hj⟩ : ∃ j, 5 - k = j + 1 := ⟨4 - k, by omega⟩
          rw [hj, numGo, if_pos (by omega)]
          exact ⟨rfl, HD.out, HO.out⟩
      · obtain rfl : k = 5 := by omega
        go_wp2_with (go_at_call 47; refine (wrong_calls _ _ _ _ _ _ h0.out).mono ?_; rintro e w' ⟨rfl, hd, ho⟩; have HD := Lib.hid hd; have HO := Lib.hid ho; clear hd ho)
        go_ret
        rw [HG.out, numGo]
        exact ⟨rfl, HD.out, HO.out⟩
  · have he' : (e != 0) = true := by simp [he]
    go_enter Tryd.func39, Tryd.ntmps39
    go_wp2
    go_ret
    rw [rdNum, if_neg he]
    exact ⟨rfl, h0.out, Only.refl _ _⟩
end Go.Proofs.YtbekfoldohhbpaaDoor
