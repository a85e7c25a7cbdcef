/-
  The walk of the law NameCuts.
-/
import Derived.Test.YtmdfgjjbllbjmaaDoorPaH
namespace Go.Proofs.YtmdfgjjbllbjmaaDoor
open Go.RowKit Go.Proofs.YtmdfgjjbllbjmaaDoorW.PrintWords Go.Lib

theorem mkB_app (a b : List UInt8) : mkB (a ++ b) = mkB a ++ mkB b := by
  apply ByteArray.ext
  apply Array.toList_inj.1
  simp

set_option maxHeartbeats 2000000 in
theorem nameCuts_short (s : ByteArray) (w : World) (hs : s.size ≤ 9223372036854775807) (hT : Tabs w) (hM : Mx w) (hc : cutR s = (⟨#[]⟩, ⟨#[]⟩, 4)) (h5 : s.size ≤ 500) (e0 : Int) (he : splitR s = ([], e0)) (he0 : e0 = 0 ∨ e0 = 4) :
    Calls Tryd.prog 6 #[.string s] w fun e w' => e = .returned (.bool true) ∧ Below w.heap.size w w' := by
  have h1 := fun w (h : Tabs w) (k : Mx w) => nsplit_calls s w hs h k
  have h2 := fun w (h : Tabs w) (k : Mx w) => ncut_calls s w hs h k
  rw [he] at h1
  rw [hc] at h2
  have H1 := Lib.hid h1
  have H2 := Lib.hid h2
  have HT := Lib.hid hT
  have HM := Lib.hid hM
  have HB := Lib.hid (Below.refl w.heap.size w)
  clear h1 h2 hT hM hc he
  rcases he0 with rfl | rfl
  all_goals
    go_enter Tryd.func6, Tryd.ntmps6
    go_wp2_with (first
      | (go_at_call 9; (refine (awake_calls _ HT.out HM.out).mono ?_); rintro e w1 ⟨rfl, hb⟩; have HBn := Lib.hid (below_step (by repeat (first | (with_reducible exact HB.out) | apply below_alloc | apply pw_below_drewN | apply below_drew1 | exact HB.out)) hb); clear hb HB; have HB := HBn; clear HBn)
      | (go_at_call 10; (refine Calls.mono (H1.out _ (HT.out.below (by repeat (first | (with_reducible exact HB.out) | apply below_alloc | apply pw_below_drewN | apply below_drew1 | exact HB.out))) (HM.out.below (by repeat (first | (with_reducible exact HB.out) | apply below_alloc | apply pw_below_drewN | apply below_drew1 | exact HB.out)))) ?_); rintro e w2 ⟨A1, c1, rfl, _, _, hb⟩; have HBn := Lib.hid (below_step (by repeat (first | (with_reducible exact HB.out) | apply below_alloc | apply pw_below_drewN | apply below_drew1 | exact HB.out)) hb); clear hb HB; have HB := HBn; clear HBn)
      | (go_at_call 17; (refine Calls.mono (H2.out _ (HT.out.below (by repeat (first | (with_reducible exact HB.out) | apply below_alloc | apply pw_below_drewN | apply below_drew1 | exact HB.out))) (HM.out.below (by repeat (first | (with_reducible exact HB.out) | apply below_alloc | apply pw_below_drewN | apply below_drew1 | exact HB.out)))) ?_); rintro e w3 ⟨rfl, hb⟩; have HBn := Lib.hid (below_step (by repeat (first | (with_reducible exact HB.out) | apply below_alloc | apply pw_below_drewN | apply below_drew1 | exact HB.out)) hb); clear hb HB; have HB := HBn; clear HBn)
      | (fail "no arm"))
    go_ret
    exact ⟨by simp, (by repeat (first | (with_reducible exact HB.out) | apply below_alloc | apply pw_below_drewN | apply below_drew1 | exact HB.out))⟩

set_option maxHeartbeats 2000000 in
theorem nameCuts_main (s U T : ByteArray) (P Q : List ByteArray) (n : Nat) (w : World) (hs : s.size ≤ 9223372036854775807) (hT : Tabs w) (hM : Mx w) (h5 : s.size ≤ 500) (hP : splitR s = (P, 0)) (hn : P.length = n + 1) (hn4 : n ≤ 400) (hC : cutR s = (U, T, 0)) (hQ : splitR U = (Q, 0)) (hq : Q.length = n)
    (hlast : P.getD n ByteArray.empty = T) (hU : U.size ≤ 400) (hTs : T.size ≤ 20) (hname : nameB T.data.toList = true) (hcase : ((U.toList == [47]) = true ∧ s = U ++ T) ∨ ((U.toList == [47]) = false ∧ s = U ++ ⟨#[47]⟩ ++ T)) :
    Calls Tryd.prog 6 #[.string s] w fun e w' => e = .returned (.bool true) ∧ Below w.heap.size w w' := by
  have h1 := fun w (h : Tabs w) (k : Mx w) => nsplit_calls s w hs h k
  have h2 := fun w (h : Tabs w) (k : Mx w) => ncut_calls s w hs h k
  have h3 := fun w (h : Tabs w) (k : Mx w) => nsplit_calls U w (by omega) h k
  have h4 := fun w (h : Tabs w) => nright_calls T w (by omega) h
  rw [hP] at h1
  rw [hC] at h2
  rw [hQ] at h3
  rw [hname] at h4
  simp only [hn] at h1
  simp only [hq] at h3
  have H4 := Lib.hid h4
  have HT := Lib.hid hT
  have HM := Lib.hid hM
  have HB := Lib.hid (Below.refl w.heap.size w)
  have HL := Lib.hid hlast
  have H1 := Lib.hid h1
  have H2 := Lib.hid h2
  have H3 := Lib.hid h3
  clear h1 h2 h3 h4 hT hM hP hn hC hQ hq hlast hname
  rcases hcase with ⟨hu, rfl⟩ | ⟨hu, rfl⟩
  all_goals
    go_enter Tryd.func6, Tryd.ntmps6
    go_wp2_with (first
      | (go_at_call 9; (refine (awake_calls _ HT.out HM.out).mono ?_); rintro e w1 ⟨rfl, hb⟩; have HBn := Lib.hid (below_step (by repeat (first | (with_reducible exact HB.out) | apply below_alloc | apply pw_below_drewN | apply below_drew1 | exact HB.out)) hb); clear hb HB; have HB := HBn; clear HBn)
      | (go_at_call 10; (with_reducible refine Calls.mono (H1.out _ (HT.out.below (by repeat (first | (with_reducible exact HB.out) | apply below_alloc | apply pw_below_drewN | apply below_drew1 | exact HB.out))) (HM.out.below (by repeat (first | (with_reducible exact HB.out) | apply below_alloc | apply pw_below_drewN | apply below_drew1 | exact HB.out)))) ?_); rintro e w2 ⟨A1, c1, rfl, hr, hc1, hb⟩; obtain ⟨b2, o2, rfl, hcell⟩ := ReadsOf.cells hr (by omega); have hcl := hcell n (by omega); rw [HL.out] at hcl; have HCL := Lib.hid hcl; clear hr hcell hcl; have HBn := Lib.hid (below_step (by repeat (first | (with_reducible exact HB.out) | apply below_alloc | apply pw_below_drewN | apply below_drew1 | exact HB.out)) hb); clear hb HB; have HB := HBn; clear HBn)
      | (go_at_call 17; (with_reducible refine Calls.mono (H2.out _ (HT.out.below (by repeat (first | (with_reducible exact HB.out) | apply below_alloc | apply pw_below_drewN | apply below_drew1 | exact HB.out))) (HM.out.below (by repeat (first | (with_reducible exact HB.out) | apply below_alloc | apply pw_below_drewN | apply below_drew1 | exact HB.out)))) ?_); rintro e w3 ⟨rfl, hb⟩; have HCn := Lib.hid (pw_cell_below hb HCL.out); clear HCL; have HCL := HCn; clear HCn; have HBn := Lib.hid (below_step (by repeat (first | (with_reducible exact HB.out) | apply below_alloc | apply pw_below_drewN | apply below_drew1 | exact HB.out)) hb); clear hb HB; have HB := HBn; clear HBn)
      | (go_at_call 10; (with_reducible refine Calls.mono (H3.out _ (HT.out.below (by repeat (first | (with_reducible exact HB.out) | apply below_alloc | apply pw_below_drewN | apply below_drew1 | exact HB.out))) (HM.out.below (by repeat (first | (with_reducible exact HB.out) | apply below_alloc | apply pw_below_drewN | apply below_drew1 | exact HB.out)))) ?_); rintro e w4 ⟨A4, c4, rfl, _, _, hb⟩; have hcl : w4.cell? ⟨b2, o2 + n, none⟩ = some (.string T) := pw_cell_below hb HCL.out; have HBn := Lib.hid (below_step (by repeat (first | (with_reducible exact HB.out) | apply below_alloc | apply pw_below_drewN | apply below_drew1 | exact HB.out)) hb); clear hb HB; have HB := HBn; clear HBn)
      | (go_at_call 12; (refine Calls.mono (H4.out _ (HT.out.below (by repeat (first | (with_reducible exact HB.out) | apply below_alloc | apply pw_below_drewN | apply below_drew1 | exact HB.out)))) ?_); rintro e w5 ⟨rfl, hb⟩; have HBn := Lib.hid (below_step (by repeat (first | (with_reducible exact HB.out) | apply below_alloc | apply pw_below_drewN | apply below_drew1 | exact HB.out)) hb); clear hb HB; have HB := HBn; clear HBn)
      | (fail "no arm"))
    go_ret
    exact ⟨by simp, (by repeat (first | (with_reducible exact HB.out) | apply below_alloc | apply pw_below_drewN | apply below_drew1 | exact HB.out))⟩

theorem nameCuts_walk (s : ByteArray) (w : World) (hs : s.size ≤ 9223372036854775807) (hT : Tabs w) (hM : Mx w) :
    Calls Tryd.prog 6 #[.string s] w fun e w' => e = .returned (.bool true) ∧ Below w.heap.size w w' := by
  by_cases h5 : 500 < s.size
  · have HT := Lib.hid hT
    have HM := Lib.hid hM
    have HB := Lib.hid (Below.refl w.heap.size w)
    clear hT hM
    go_enter Tryd.func6, Tryd.ntmps6
    go_wp2_with (first
      | (go_at_call 9; (refine (awake_calls _ HT.out HM.out).mono ?_); rintro e w1 ⟨rfl, hb⟩; have HBn := Lib.hid (below_step (by repeat (first | (with_reducible exact HB.out) | apply below_alloc | apply pw_below_drewN | apply below_drew1 | exact HB.out)) hb); clear hb HB; have HB := HBn; clear HBn)
      | (fail "no arm"))
    go_ret
    exact ⟨rfl, HB.out⟩
  · cases h : pathL s.data.toList with
    | none => exact nameCuts_short s w hs hT hM (by rw [cutR, h]) (by omega) 4 (splitR_none h) (.inr rfl)
    | some ys =>
      cases ys with
      | nil => exact nameCuts_short s w hs hT hM (by rw [cutR, h]) (by omega) 0 (by rw [splitR_some h]; rfl) (.inl rfl)
      | cons x xs =>
        obtain ⟨up, last, h1, h2, h3, h4, h5', h6, h7⟩ := cut_law h
        have hlen := (splitR_len s).1
        rw [splitR_some h] at hlen
        simp only [List.length_map, List.length_cons] at hlen
        refine nameCuts_main s (mkB up) (mkB last) ((x :: xs).map mkB) ((x :: xs).dropLast.map mkB) xs.length w hs hT hM (by omega) (splitR_some h) (by simp) (by omega) h1 h2 (by simp) ?_ h6 h7 h3 ?_
        · rw [h4, List.getD_eq_getElem?_getD, List.getElem?_map, List.getLast_eq_getElem, List.getElem?_eq_getElem (by simp)]
          simp
        · have hul : (mkB up).toList = up := by rw [ByteArray.toList_eq]
          rcases h5' with ⟨hu, hse⟩ | ⟨hu, hse⟩
          · exact .inl ⟨by rw [hul, hu]; rfl, by rw [hse, mkB_app]⟩
          · refine .inr ⟨by rw [hul]; exact beq_eq_false_iff_ne.2 hu, ?_⟩
            rw [hse, mkB_app, show (47 :: last : List UInt8) = [47] ++ last from rfl, mkB_app, ← ByteArray.append_assoc]
end Go.Proofs.YtmdfgjjbllbjmaaDoor
