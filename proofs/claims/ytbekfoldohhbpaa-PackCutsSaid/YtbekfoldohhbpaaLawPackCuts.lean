/-
  The walk of the law PackCuts: whatever the input, the call returns true, and what was in memory stays.
-/
import Derived.Test.YtbekfoldohhbpaaPkH
namespace Go.Proofs.Ytbekfoldohhbpaa
open Go.RowKit Go.Proofs.YtbekfoldohhbpaaW.PrintWords

set_option maxHeartbeats 1000000 in
theorem packCuts_walk (s : ByteArray) (at_ n less : Int) (w : World) (hs : s.size ≤ maxLen) (wa : (Lit.int .u8 at_).wf = true) (wn : (Lit.int .u32 n).wf = true) (wl : (Lit.int .u32 less).wf = true) :
    Calls Try.prog 7 #[.string s, .int .u8 at_, .int .u32 n, .int .u32 less] w fun e w' => e = .returned (.bool true) ∧ Below w.heap.size w w' := by
  unfold maxLen at hs
  have ha := byte_wf wa
  have hn : 0 ≤ n ∧ n ≤ 4294967295 := by simpa [Lit.wf, IntKind.min, IntKind.max, IntKind.signed, IntKind.bits] using wn
  have hl : 0 ≤ less ∧ less ≤ 4294967295 := by simpa [Lit.wf, IntKind.min, IntKind.max, IntKind.signed, IntKind.bits] using wl
  clear wa wn wl
  obtain ⟨ha0, ha1⟩ := ha
  obtain ⟨hn0, hn1⟩ := hn
  obtain ⟨hl0, hl1⟩ := hl
  have HB := Lib.hid (Below.refl w.heap.size w)
  by_cases h : 100 < s.size
  · go_enter Try.func7, Try.ntmps7
    go_wp2_with (go_at_call 9; refine (awake_calls _).mono ?_; rintro e w1 ⟨rfl, hb⟩; have HBn := Lib.hid (below_step (by repeat (first | (with_reducible exact HB.out) | apply below_alloc | apply pw_below_drewN | apply below_drew1 | exact HB.out)) hb); clear hb HB; have HB := HBn; clear HBn)
    go_ret
    exact ⟨rfl, (by repeat (first | (with_reducible exact HB.out) | apply below_alloc | apply pw_below_drewN | apply below_drew1 | exact HB.out))⟩
  · have hlen := textForm_length s (by omega)
    have hfp := form_pos s.size (by omega) (by omega)
    have hfl0 := form_length s.size
    obtain ⟨L, hL⟩ : ∃ L, L = (textForm s).length := ⟨_, rfl⟩
    have hL0 : 0 < L := by omega
    have hL1 : L ≤ 200 := by omega
    obtain ⟨j, hj⟩ : ∃ j : Nat, (j : Int) = at_ % L := ⟨(at_ % L).toNat, Int.toNat_of_nonneg (Int.emod_nonneg _ (by omega))⟩
    have hj1 : j < L := by have := Int.emod_lt_of_pos at_ (show (0 : Int) < L by omega); omega
    have hcut := rdText_cut s (by omega) j (by omega) 100 (by omega)
    have hw := fun w => ptext_calls w s
    simp only [OwnB, ← hL] at hw
    have hfl := form_length n
    have hrd1 := rdNum_form n hn0 hn1 [0] (n - 1 - less)
    rw [if_pos (by omega)] at hrd1
    have hrd2 : rdNum [] 3 4294967295 = (0, [], 3) := by rw [rdNum, if_neg (by omega)]
    have HW := Lib.hid hw
    have Hcut := Lib.hid (show rdText ((textForm s).take j) 0 100 = ((⟨#[]⟩ : ByteArray), [], 2) from hcut)
    have Hrd1 := Lib.hid hrd1
    have Hrd2 := Lib.hid hrd2
    have hj' := hj.symm
    clear hw hcut hrd1 hrd2 hj hlen
    have HL := Lib.hid hL
    clear hL
    go_enter Try.func7, Try.ntmps7
    go_wp2_with (first
      | (go_at_call 9; refine (awake_calls _).mono ?_; rintro e w1 ⟨rfl, hb⟩; have HBn := Lib.hid (below_step (by repeat (first | (with_reducible exact HB.out) | apply below_alloc | apply pw_below_drewN | apply below_drew1 | exact HB.out)) hb); clear hb HB; have HB := HBn; clear HBn)
      | (go_at_call 13; refine (HW.out _).mono ?_; rintro e w2 ⟨v2, rfl, ho, hb⟩; obtain ⟨A2, c2, rfl, hr⟩ := own_reads ho; have HC2 := Lib.hid (own_cap ho); have hc2 := HC2.out; have HR2 := Lib.hid hr; clear ho hr; have HBn := Lib.hid (below_step (by repeat (first | (with_reducible exact HB.out) | apply below_alloc | apply pw_below_drewN | apply below_drew1 | exact HB.out)) hb); clear hb HB; have HB := HBn; clear HBn)
      | (go_at_call 15; (with_reducible refine (new_calls _ A2 j c2 _ (HR2.out.take_ j (by omega)) (by omega) (fun x hx => textForm_range s x (List.mem_of_mem_take hx))).mono ?_); rintro e w3 ⟨a, d, rfl, hd, hb, ha, _, hdl⟩; have HA := Nat.le_trans HB.out.size ha; have HBn := Lib.hid (below_step (by repeat (first | (with_reducible exact HB.out) | apply below_alloc | apply pw_below_drewN | apply below_drew1 | exact HB.out)) hb); clear hb HB; have HB := HBn; clear HBn; have HD := Lib.hid hd; have HDL := Lib.hid hdl; clear hd ha hdl)
      | (go_at_call 11; refine (pwrite_calls _ _).mono ?_; rintro e w4 ⟨v4, rfl, ho, hb⟩; have HO4 := Lib.hid ho; have HB4 := Lib.hid hb; clear ho hb)
      | (at_builtin; refine print_append_row (w0 := w3) w3.heap.size rfl (.tmp 37) (.tmp 38) 24 5 .u8 1 rfl Try.underlying24 pkInfo5 (by decide) v4 (form n) [0] (some ⟨w4.heap.size, 0, none⟩) 1 1 rfl rfl ?cO ?cR ?cB ?cS ?cL ?_; (case cO => exact own_alloc HO4.out _); (case cR => exact lit_reads w4 [0] (by decide)); (case cB => exact below_alloc HB4.out _); (case cS => exact (below_alloc HB4.out _).size); (case cL => show ((form n).length + 1) * 1 ≤ _; omega); intro v5 w5 ho hb hg hat; obtain ⟨A5, c5, rfl, hr5⟩ := own_reads ho; clear ho hat hg; generalize hm5 : (form n ++ [0]).length = m5 at hr5 ⊢; have hm5' : m5 ≤ 6 := (by rw [← hm5, List.length_append, List.length_singleton]; omega); clear hm5; have HR5 := Lib.hid hr5; have HD5 := Lib.hid (HD.out.below hb); have HDL5 := Lib.hid (Nat.lt_of_lt_of_le HDL.out hb.size); clear hr5 HD HDL HB4; have HBn := Lib.hid (below_step (by repeat (first | (with_reducible exact HB.out) | apply below_alloc | apply pw_below_drewN | apply below_drew1 | exact HB.out)) hb); clear hb HB; have HB := HBn; clear HBn)
      | (go_at_call 15; (refine (new_calls _ A5 m5 c5 _ HR5.out (by omega) (fun x hx => by rcases List.mem_append.1 hx with h | h; exact form_range n x h; simp at h; omega)).mono ?_; rintro e w6 ⟨a2, d2, rfl, hd, hb, ha, hd2, hdl⟩; have HA2 := Nat.le_trans HB.out.size ha; have HD6 := Lib.hid (HD5.out.below hb); have HX6 := Lib.hid hd; have HNE := Lib.hid (show a ≠ a2 ∧ d ≠ a2 ∧ d2 ≠ a from (by have := HD5.out.lt; have := HDL5.out; omega)); clear HD5 HDL5 hd ha hdl hd2; have HBn := Lib.hid (below_step (by repeat (first | (with_reducible exact HB.out) | apply below_alloc | apply pw_below_drewN | apply below_drew1 | exact HB.out)) hb); clear hb HB; have HB := HBn; clear HBn))
      | (go_at_call 16; refine (text_calls_eq _ _ _ _ _ _ HD6.out (by decide) Hcut.out).mono ?_; rintro e w7 ⟨rfl, hd, ho⟩; have HD7 := Lib.hid hd; have HX7 := Lib.hid (HX6.out.other ho HNE.out.1.symm HNE.out.2.2); clear HD6 HX6 hd; have HBn := Lib.hid (Below.trans (by repeat (first | (with_reducible exact HB.out) | apply below_alloc | apply pw_below_drewN | apply below_drew1 | exact HB.out)) (ho.below HA)); clear ho HB; have HB := HBn; clear HBn)
      | (go_at_call 18; (with_reducible refine (num_calls_eq _ _ _ _ _ _ HX7.out Hrd1.out).mono ?_); rintro e w8 ⟨rfl, hd, ho⟩; have HX8 := Lib.hid hd; have HD8 := Lib.hid (HD7.out.other ho HNE.out.1 HNE.out.2.1); clear HX7 HD7 hd; have HBn := Lib.hid (Below.trans (by repeat (first | (with_reducible exact HB.out) | apply below_alloc | apply pw_below_drewN | apply below_drew1 | exact HB.out)) (ho.below HA2)); clear ho HB; have HB := HBn; clear HBn)
      | (go_at_call 18; (with_reducible refine (num_calls_eq _ _ _ _ _ _ HX8.out Hrd2.out).mono ?_); rintro e w9 ⟨rfl, hd, ho⟩; have HX9 := Lib.hid hd; have HD9 := Lib.hid (HD8.out.other ho HNE.out.1 HNE.out.2.1); clear HX8 HD8 hd; have HBn := Lib.hid (Below.trans (by repeat (first | (with_reducible exact HB.out) | apply below_alloc | apply pw_below_drewN | apply below_drew1 | exact HB.out)) (ho.below HA2)); clear ho HB; have HB := HBn; clear HBn)
      | (go_at_call 21; (with_reducible refine (err_calls _ _ _ _ _ HD9.out).mono ?_); rintro e w4 ⟨rfl, rfl⟩)
      | (go_at_call 20; (with_reducible refine (left_calls _ _ _ _ _ HD9.out).mono ?_); rintro e w4 ⟨rfl, rfl⟩)
      | (go_at_call 21; (with_reducible refine (err_calls _ _ _ _ _ HX9.out).mono ?_); rintro e w4 ⟨rfl, rfl⟩)
      | (go_at_call 20; (with_reducible refine (left_calls _ _ _ _ _ HX9.out).mono ?_); rintro e w4 ⟨rfl, rfl⟩))
    go_ret
    exact ⟨rfl, (by repeat (first | (with_reducible exact HB.out) | apply below_alloc | apply pw_below_drewN | apply below_drew1 | exact HB.out))⟩
end Go.Proofs.Ytbekfoldohhbpaa
