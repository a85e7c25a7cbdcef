/-
  The reference's form of a text; the chapter's example.
-/
import Derived.Test.YtbekfoldohhbpaaPkE
namespace Go.Proofs.Ytbekfoldohhbpaa
open Go.RowKit Go.Proofs.YtbekfoldohhbpaaW.PrintWords
set_option maxHeartbeats 400000 in
theorem rtextw_calls (w : World) (s : ByteArray) (hs : s.size ≤ 9223372036854775807) : Calls Try.prog 14 #[.string s] w fun e w' => ∃ v, e = .returned v ∧ OwnB w' w.heap.size v (textForm s) ∧ Below w.heap.size w w' := by
  by_cases h : 4096 < s.size
  · have HF := Lib.hid (show textForm s = [] by rw [textForm, if_pos h])
    go_enter Try.func14, Try.ntmps14
    go_wp2
    go_ret
    rw [HF.out]
    exact ⟨_, rfl, own_nil _ _ _ _, Below.refl _ _⟩
  · have HF := Lib.hid (show textForm s = form s.size ++ bytesOf s by rw [textForm, if_neg h])
    have hcv := print_bytes (P := Try.prog) 9 24 5 Try.underlying9 Try.underlying24 Try.underlying5 s
    have hfl := form_length s.size
    go_enter Try.func14, Try.ntmps14
    go_wp2_with (first
      | (go_at_call 12; refine (rwrite_calls _ _).mono ?_; rintro e w1 ⟨v, rfl, ho, hb⟩; have HO := Lib.hid ho; have HB := Lib.hid hb; clear ho hb)
      | (at_builtin; (refine print_append_row (w0 := w) w.heap.size rfl (.tmp 8) (.tmp 10) 24 5 .u8 1 rfl Try.underlying24 pkInfo5 (by decide) _ (form s.size) (bytesOf s) (some ⟨w1.heap.size, 0, none⟩) s.size _ rfl rfl ?cO ?cR ?cB ?cS ?cL ?_; (case cO => exact pw_own_below HO.out (bytes_below (Below.refl _ _) (Nat.le_refl _) _ _)); (case cR => exact bytes_reads _ _ _ hs); (case cB => exact bytes_below HB.out HB.out.size _ _); (case cS => have := HB.out.size; have := (bytes_below (Below.refl w1.heap.size w1) (Nat.le_refl _) 5 s).size; omega); (case cL => omega); intro v1 w2 ho hb hg hat; have HO2 := Lib.hid ho; have HB2 := Lib.hid hb; clear ho hb hg hat)))
    go_ret
    rw [HF.out]
    exact ⟨_, rfl, HO2.out, HB2.out⟩

theorem ex_num : rdNum [172, 2, 2, 97, 98] 0 1000 = (300, [2, 97, 98], 0) := by decide +kernel
theorem ex_text : rdText [2, 97, 98] 0 2 = (⟨#[97, 98]⟩, [], 0) := by
  have h : rdNum [2, 97, 98] 0 2 = (2, [97, 98], 0) := by decide +kernel
  unfold rdText
  rw [h]
  rfl
theorem ex_form : strOfNums (form 300) = ⟨#[172, 2]⟩ := by decide +kernel
theorem ex_tform : strOfNums (textForm ⟨#[97, 98]⟩) = ⟨#[2, 97, 98]⟩ := by decide +kernel

set_option maxHeartbeats 1000000 in
theorem awake_calls (w : World) : Calls Try.prog 9 #[] w fun e w' => e = .returned (.bool true) ∧ Below w.heap.size w w' := by
  have hlit := own_lit w w.heap.size 5 .u8 [172, 2, 2, 97, 98] (Nat.le_refl _) (by decide)
  obtain ⟨A0, c0, h0, hr0⟩ := own_reads hlit
  obtain ⟨rfl, _, rfl⟩ : some ⟨w.heap.size, 0, none⟩ = A0 ∧ _ ∧ _ = c0 := by injection h0 with h1 h2 h3; exact ⟨h1, h2, h3⟩
  have HR0 := Lib.hid hr0
  clear hlit h0 hr0
  go_enter Try.func9, Try.ntmps9
  go_wp2_with (first
    | (go_at_call 15; (refine (new_calls _ _ _ _ [172, 2, 2, 97, 98] HR0.out (by decide) (by decide)).mono ?_; rintro e w1 ⟨a, d, rfl, hd, hb, hba, hbd⟩; have HD := Lib.hid hd; have HB := Lib.hid hb; clear hd hb))
    | (go_at_call 18; (refine (num_calls _ _ _ _ _ _ HD.out).mono ?_; rw [ex_num]; rintro e w2 ⟨rfl, hd, ho⟩; have HD2 := Lib.hid hd; have HO := Lib.hid ho; clear hd ho))
    | (go_at_call 16; (refine (text_calls _ _ _ _ _ _ HD2.out (by decide)).mono ?_; rw [ex_text]; rintro e w3 ⟨rfl, hd, ho⟩; have HD3 := Lib.hid hd; have HO2 := Lib.hid ho; clear hd ho))
    | (go_at_call 11; (refine (pwrite_calls _ _).mono ?_; rintro e w4 ⟨v4, rfl, ho, hb⟩; have hs4 := own_string (P := Try.prog) (src := 24) (dst := 9) Try.underlying24 Try.underlying5 Try.underlying9 ho; rw [ex_form] at hs4; have HB4 := Lib.hid hb; clear ho hb))
    | (go_at_call 13; (refine (ptext_calls _ _).mono ?_; rintro e w5 ⟨v5, rfl, ho, hb⟩; have hs5 := own_string (P := Try.prog) (src := 24) (dst := 9) Try.underlying24 Try.underlying5 Try.underlying9 ho; rw [ex_tform] at hs5; have HB5 := Lib.hid hb; clear ho hb))
    | (go_at_call 20; (refine (left_calls _ _ _ _ _ ((HD3.out.below HB4.out).below HB5.out)).mono ?_; rintro e w6 ⟨rfl, rfl⟩))
    | (go_at_call 21; (refine (err_calls _ _ _ _ _ ((HD3.out.below HB4.out).below HB5.out)).mono ?_; rintro e w6 ⟨rfl, rfl⟩)))
  go_ret
  have h1 : Below w.heap.size w w1 := below_step (below_alloc (Below.refl _ _) _) HB.out
  have ha : w.heap.size ≤ a := by simp at hba; omega
  have h2 := (h1.trans (HO.out.below ha)).trans (HO2.out.below ha)
  exact ⟨rfl, below_step (below_step h2 HB4.out) HB5.out⟩
end Go.Proofs.Ytbekfoldohhbpaa
