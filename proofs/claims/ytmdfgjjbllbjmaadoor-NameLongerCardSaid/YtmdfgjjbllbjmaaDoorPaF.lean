/-
  The chapter's example (names).
-/
import Derived.Test.YtmdfgjjbllbjmaaDoorPaE
namespace Go.Proofs.YtmdfgjjbllbjmaaDoor
open Go.RowKit Go.Proofs.YtmdfgjjbllbjmaaDoorW.PrintWords Go.Lib

theorem ex_split : splitR ⟨#[47, 97, 47, 98, 99]⟩ = ([⟨#[97]⟩, ⟨#[98, 99]⟩], 0) := by decide +kernel
theorem ex_cut : cutR ⟨#[47, 97, 47, 98, 99]⟩ = (⟨#[47, 97]⟩, ⟨#[98, 99]⟩, 0) := by decide +kernel
theorem ex_split2 : splitR ⟨#[47, 97, 47]⟩ = ([], 4) := by decide +kernel
theorem ex_right : nameB (⟨#[97]⟩ : ByteArray).data.toList = true := by decide +kernel
theorem ex_right2 : nameB (⟨#[]⟩ : ByteArray).data.toList = false := by decide +kernel
theorem ex_tex : texB [⟨#[97]⟩, ⟨#[98, 99]⟩] [⟨#[97]⟩, ⟨#[98, 99]⟩] = true := by decide +kernel

set_option maxHeartbeats 1000000 in
theorem awake_calls (w : World) (hT : Tabs w) (hM : Mx w) : Calls Tryd.prog 9 #[] w fun e w' => e = .returned (.bool true) ∧ Below w.heap.size w w' := by
  have h1 := fun w (h : Tabs w) (k : Mx w) => nsplit_calls ⟨#[47, 97, 47, 98, 99]⟩ w (by decide) h k
  rw [ex_split] at h1
  have h2 := fun w (h : Tabs w) (k : Mx w) => nsplit_calls ⟨#[47, 97, 47]⟩ w (by decide) h k
  rw [ex_split2] at h2
  have h3 := fun w (h : Tabs w) (k : Mx w) => ncut_calls ⟨#[47, 97, 47, 98, 99]⟩ w (by decide) h k
  rw [ex_cut] at h3
  have h4 := fun w (h : Tabs w) => nright_calls ⟨#[97]⟩ w (by decide) h
  rw [ex_right] at h4
  have h5 := fun w (h : Tabs w) => nright_calls ⟨#[]⟩ w (by decide) h
  rw [ex_right2] at h5
  have H1 := Lib.hid h1
  have H2 := Lib.hid h2
  have H3 := Lib.hid h3
  have H4 := Lib.hid h4
  have H5 := Lib.hid h5
  have HT := Lib.hid hT
  have HM := Lib.hid hM
  have HB := Lib.hid (Below.refl w.heap.size w)
  clear h1 h2 h3 h4 h5 hT hM
  go_enter Tryd.func9, Tryd.ntmps9
  go_wp2_with (first
    | (go_at_call 10; (with_reducible refine Calls.mono (H1.out _ (HT.out.below (by repeat (first | (with_reducible exact HB.out) | apply below_alloc | apply pw_below_drewN | apply below_drew1 | exact HB.out))) (HM.out.below (by repeat (first | (with_reducible exact HB.out) | apply below_alloc | apply pw_below_drewN | apply below_drew1 | exact HB.out)))) ?_); rintro e w1 ⟨A1, c1, rfl, hr, hc, hb⟩; have HR := Lib.hid hr; clear hr; have HBn := Lib.hid (below_step (by repeat (first | (with_reducible exact HB.out) | apply below_alloc | apply pw_below_drewN | apply below_drew1 | exact HB.out)) hb); clear hb HB; have HB := HBn; clear HBn)
    | (go_at_call 10; (with_reducible refine Calls.mono (H2.out _ (HT.out.below (by repeat (first | (with_reducible exact HB.out) | apply below_alloc | apply pw_below_drewN | apply below_drew1 | exact HB.out))) (HM.out.below (by repeat (first | (with_reducible exact HB.out) | apply below_alloc | apply pw_below_drewN | apply below_drew1 | exact HB.out)))) ?_); rintro e w2 ⟨A2, c2, rfl, _, _, hb⟩; have HRn := Lib.hid (HR.out.below hb); clear HR; have HR := HRn; clear HRn; have HBn := Lib.hid (below_step (by repeat (first | (with_reducible exact HB.out) | apply below_alloc | apply pw_below_drewN | apply below_drew1 | exact HB.out)) hb); clear hb HB; have HB := HBn; clear HBn)
    | (go_at_call 17; (with_reducible refine Calls.mono (H3.out _ (HT.out.below (by repeat (first | (with_reducible exact HB.out) | apply below_alloc | apply pw_below_drewN | apply below_drew1 | exact HB.out))) (HM.out.below (by repeat (first | (with_reducible exact HB.out) | apply below_alloc | apply pw_below_drewN | apply below_drew1 | exact HB.out)))) ?_); rintro e w3 ⟨rfl, hb⟩; have HRn := Lib.hid (HR.out.below hb); clear HR; have HR := HRn; clear HRn; have HBn := Lib.hid (below_step (by repeat (first | (with_reducible exact HB.out) | apply below_alloc | apply pw_below_drewN | apply below_drew1 | exact HB.out)) hb); clear hb HB; have HB := HBn; clear HBn)
    | (go_at_call 14; go_loud ((refine Calls.mono (texts_calls A1 c1 [⟨#[97]⟩, ⟨#[98, 99]⟩] _ _ [⟨#[97]⟩, ⟨#[98, 99]⟩] _ (HR.out.below ((Below.refl _ _).alloc (Nat.le_refl _) _)) hc (reads_row (xs := [⟨#[97]⟩, ⟨#[98, 99]⟩]) (t := 9) (blk_new _ _) (by decide)) (by decide) (by decide)) ?_); rw [ex_tex]; rintro e w4 ⟨rfl, n4, rfl⟩))
    | (go_at_call 12; (with_reducible refine Calls.mono (H4.out _ (HT.out.below (by repeat (first | (with_reducible exact HB.out) | apply below_alloc | apply pw_below_drewN | apply below_drew1 | exact HB.out)))) ?_); rintro e w5 ⟨rfl, hb⟩; have HBn := Lib.hid (below_step (by repeat (first | (with_reducible exact HB.out) | apply below_alloc | apply pw_below_drewN | apply below_drew1 | exact HB.out)) hb); clear hb HB; have HB := HBn; clear HBn)
    | (go_at_call 12; (with_reducible refine Calls.mono (H5.out _ (HT.out.below (by repeat (first | (with_reducible exact HB.out) | apply below_alloc | apply pw_below_drewN | apply below_drew1 | exact HB.out)))) ?_); rintro e w6 ⟨rfl, hb⟩; have HBn := Lib.hid (below_step (by repeat (first | (with_reducible exact HB.out) | apply below_alloc | apply pw_below_drewN | apply below_drew1 | exact HB.out)) hb); clear hb HB; have HB := HBn; clear HBn)
    | (fail "no arm"))
  go_ret
  exact ⟨rfl, (by repeat (first | (with_reducible exact HB.out) | apply below_alloc | apply pw_below_drewN | apply below_drew1 | exact HB.out))⟩
end Go.Proofs.YtmdfgjjbllbjmaaDoor
