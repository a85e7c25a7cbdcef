/-
  The walk of the law NameTells.
-/
import Derived.Test.YtmdfgjjbllbjmaaDoorPaF
namespace Go.Proofs.YtmdfgjjbllbjmaaDoor
open Go.RowKit Go.Proofs.YtmdfgjjbllbjmaaDoorW.PrintWords Go.Lib

theorem nameTells_walk (s : ByteArray) (w : World) (hs : s.size ≤ 9223372036854775807) (hT : Tabs w) (hM : Mx w) :
    Calls Tryd.prog 3 #[.string s] w fun e w' => e = .returned (.bool true) ∧ Below w.heap.size w w' := by
  have h1 := fun w (h : Tabs w) (k : Mx w) => nsplit_calls s w hs h k
  have h2 := fun w => rsplit_calls s w
  have h3 := fun w (h : Tabs w) => nright_calls s w hs h
  have h4 := fun w => rright_calls s w hs
  have ht : texB (splitR s).1 (splitR s).1 = true := by simp [texB]
  have hl : (splitR s).1.length ≤ 1000000 ∨ 500 < s.size := by
    by_cases h : 500 < s.size
    · exact .inr h
    · refine .inl ?_
      cases hp : pathL s.data.toList with
      | none => rw [splitR_none hp]; simp
      | some xs =>
        rw [splitR_some hp, List.length_map]
        obtain ⟨e, _, hl⟩ := pathL_some hp
        have := pathS_len xs
        rw [← e] at this
        omega
  generalize (splitR s).1 = P at *
  generalize (splitR s).2 = e0 at *
  generalize hL : P.length = L at *
  generalize nameB s.data.toList = t at *
  have H1 := Lib.hid h1
  have H2 := Lib.hid h2
  have H3 := Lib.hid h3
  have H4 := Lib.hid h4
  have HX := Lib.hid ht
  have HT := Lib.hid hT
  have HM := Lib.hid hM
  have HB := Lib.hid (Below.refl w.heap.size w)
  clear h1 h2 h3 h4 ht hT hM hL
  have hL : L ≤ 1000000 ∨ 500 < s.size := hl
  clear hl
  by_cases hlong : 500 < s.size
  · clear hL
    go_enter Tryd.func3, Tryd.ntmps3
    go_wp2_with (first
      | (go_at_call 9; (refine (awake_calls _ HT.out HM.out).mono ?_); rintro e w1 ⟨rfl, hb⟩; have HBn := Lib.hid (below_step (by repeat (first | (with_reducible exact HB.out) | apply below_alloc | apply pw_below_drewN | apply below_drew1 | exact HB.out)) hb); clear hb HB; have HB := HBn; clear HBn)
      | (fail "no arm"))
    go_ret
    exact ⟨rfl, HB.out⟩
  · have hL2 : L ≤ 1000000 := by omega
    clear hL
    go_enter Tryd.func3, Tryd.ntmps3
    go_wp2_with (first
      | (go_at_call 9; (refine (awake_calls _ HT.out HM.out).mono ?_); rintro e w1 ⟨rfl, hb⟩; have HBn := Lib.hid (below_step (by repeat (first | (with_reducible exact HB.out) | apply below_alloc | apply pw_below_drewN | apply below_drew1 | exact HB.out)) hb); clear hb HB; have HB := HBn; clear HBn)
      | (go_at_call 10; (refine Calls.mono (H1.out _ (HT.out.below (by repeat (first | (with_reducible exact HB.out) | apply below_alloc | apply pw_below_drewN | apply below_drew1 | exact HB.out))) (HM.out.below (by repeat (first | (with_reducible exact HB.out) | apply below_alloc | apply pw_below_drewN | apply below_drew1 | exact HB.out)))) ?_); rintro e w2 ⟨A1, c1, rfl, hr, hc, hb⟩; have HR := Lib.hid hr; clear hr; have HBn := Lib.hid (below_step (by repeat (first | (with_reducible exact HB.out) | apply below_alloc | apply pw_below_drewN | apply below_drew1 | exact HB.out)) hb); clear hb HB; have HB := HBn; clear HBn)
      | (go_at_call 11; (refine Calls.mono (H2.out _) ?_); rintro e w3 ⟨A2, c2, rfl, hr, hc2, hb⟩; have HRn := Lib.hid (HR.out.below hb); clear HR; have HR := HRn; clear HRn; have HR2 := Lib.hid hr; clear hr; have HBn := Lib.hid (below_step (by repeat (first | (with_reducible exact HB.out) | apply below_alloc | apply pw_below_drewN | apply below_drew1 | exact HB.out)) hb); clear hb HB; have HB := HBn; clear HBn)
      | (go_at_call 12; (refine Calls.mono (H3.out _ (HT.out.below (by repeat (first | (with_reducible exact HB.out) | apply below_alloc | apply pw_below_drewN | apply below_drew1 | exact HB.out)))) ?_); rintro e w4 ⟨rfl, hb⟩; have HRn := Lib.hid (HR.out.below hb); clear HR; have HR := HRn; clear HRn; have HRn := Lib.hid (HR2.out.below hb); clear HR2; have HR2 := HRn; clear HRn; have HBn := Lib.hid (below_step (by repeat (first | (with_reducible exact HB.out) | apply below_alloc | apply pw_below_drewN | apply below_drew1 | exact HB.out)) hb); clear hb HB; have HB := HBn; clear HBn)
      | (go_at_call 13; (refine Calls.mono (H4.out _) ?_); rintro e w5 ⟨rfl, n5, rfl⟩)
      | (go_at_call 14; go_loud ((refine Calls.mono (texts_calls A1 c1 P A2 c2 P _ HR.out hc HR2.out hc2 hL2) ?_); rw [HX.out]; rintro e w6 ⟨rfl, n6, rfl⟩))
      | (fail "no arm"))
    go_ret
    exact ⟨by simp, (by repeat (first | (with_reducible exact HB.out) | apply below_alloc | apply pw_below_drewN | apply below_drew1 | exact HB.out))⟩
end Go.Proofs.YtmdfgjjbllbjmaaDoor
