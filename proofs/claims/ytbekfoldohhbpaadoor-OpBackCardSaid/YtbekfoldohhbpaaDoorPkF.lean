/-
  The reference's form of a text.
-/
import Derived.Test.YtbekfoldohhbpaaDoorPkE
namespace Go.Proofs.YtbekfoldohhbpaaDoor
open Go.RowKit Go.Proofs.YtbekfoldohhbpaaDoorW.PrintWords
set_option maxHeartbeats 400000 in
theorem rtextw_calls (w : World) (s : ByteArray) (hs : s.size ≤ 9223372036854775807) : Calls Tryd.prog 36 #[.string s] w fun e w' => ∃ v, e = .returned v ∧ OwnB w' w.heap.size v (textForm s) ∧ Below w.heap.size w w' := by
  by_cases h : 4096 < s.size
  · have HF := Lib.hid (show textForm s = [] by rw [textForm, if_pos h])
    go_enter Tryd.func36, Tryd.ntmps36
    go_wp2
    go_ret
    rw [HF.out]
    exact ⟨_, rfl, own_nil _ _ _ _, Below.refl _ _⟩
  · have HF := Lib.hid (show textForm s = form s.size ++ bytesOf s by rw [textForm, if_neg h])
    have hcv := print_bytes (P := Tryd.prog) 9 33 5 Tryd.underlying9 Tryd.underlying33 Tryd.underlying5 s
    have hfl := form_length s.size
    go_enter Tryd.func36, Tryd.ntmps36
    go_wp2_with (first
      | (go_at_call 35; refine (rwrite_calls _ _).mono ?_; rintro e w1 ⟨v, rfl, ho, hb⟩; have HO := Lib.hid ho; have HB := Lib.hid hb; clear ho hb)
      | (at_builtin; (refine print_append_row (w0 := w) w.heap.size rfl (.tmp 8) (.tmp 10) 33 5 .u8 1 rfl Tryd.underlying33 pkInfo5 (by decide) _ (form s.size) (bytesOf s) (some ⟨w1.heap.size, 0, none⟩) s.size _ rfl rfl ?cO ?cR ?cB ?cS ?cL ?_; (case cO => exact pw_own_below HO.out (bytes_below (Below.refl _ _) (Nat.le_refl _) _ _)); (case cR => exact bytes_reads _ _ _ hs); (case cB => exact bytes_below HB.out HB.out.size _ _); (case cS => have := HB.out.size; have := (bytes_below (Below.refl w1.heap.size w1) (Nat.le_refl _) 5 s).size; omega); (case cL => omega); intro v1 w2 ho hb hg hat; have HO2 := Lib.hid ho; have HB2 := Lib.hid hb; clear ho hb hg hat)))
    go_ret
    rw [HF.out]
    exact ⟨_, rfl, HO2.out, HB2.out⟩
end Go.Proofs.YtbekfoldohhbpaaDoor
