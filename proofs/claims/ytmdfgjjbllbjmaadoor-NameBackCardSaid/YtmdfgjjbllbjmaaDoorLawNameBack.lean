/-
  The walk of the law NameBack.
-/
import Derived.Test.YtmdfgjjbllbjmaaDoorPaH
namespace Go.Proofs.YtmdfgjjbllbjmaaDoor
open Go.RowKit Go.Proofs.YtmdfgjjbllbjmaaDoorW.PrintWords Go.Lib

set_option maxHeartbeats 2000000 in
theorem nameBack_walk (s : ByteArray) (A : Option Addr) (c : Nat) (l : List ByteArray) (w : World) (hs : s.size ≤ 9223372036854775807) (hr : Kd.string.C w A l.length l) (hc : l.length ≤ c) (hok : l.length ≤ maxLen ∧ ∀ x ∈ l, x.size ≤ maxLen) (hT : Tabs w) (hM : Mx w) :
    Calls Tryd.prog 5 #[.string s, .slice A l.length c] w fun e w' => e = .returned (.bool true) ∧ Below w.heap.size w w' := by
  have hR := str_of_C hr
  have hm : l.length ≤ 9223372036854775807 := hR.2.1
  have h1 := fun w (h : Tabs w) (k : Mx w) => nsplit_calls s w hs h k
  have hlen := (splitR_len s).1
  have hlen2 := (splitR_len s).2
  have hback := joinR_splitR (s := s)
  have hsv : (splitR s).2 = 0 ∨ (splitR s).2 = 4 := by
    by_cases h : (splitR s).2 = 0
    · exact .inl h
    · rw [splitR_err h]; exact .inr rfl
  generalize (splitR s).1 = P at *
  generalize (splitR s).2 = e0 at *
  have h2 := fun (w : World) (B : Option Addr) (d : Nat) (hr : ReadsStr w B P.length P) (hd : P.length ≤ d) h k => njoin_calls B d P w hr hd (by omega) h k
  have hj := fun (w : World) (hr : ReadsStr w A l.length l) (hl : (pathS (datas l)).length ≤ 100000) h k => njoin_calls A c l w hr hc hl h k
  have hb := pathS_bound l 100
  have hjs : (joinR l).2 = 0 ∨ joinR l = (⟨#[]⟩, 4) := by
    by_cases h : (joinR l).2 = 0
    · exact .inl h
    · exact .inr (joinR_err h)
  have hsj := splitR_joinR (xs := l)
  have hlj := fun h => (show (joinR l).2 = 0 → (joinR l).1.size ≤ 400 from fun h => by
    have h3 := splitR_joinR h
    cases hp : joinP (datas l) with
    | none => rw [joinR, hp] at h; cases h
    | some k =>
      rw [joinR, hp]
      exact (pathL_some (joinP_some hp)).2.2) h
  have h4 := fun (hz : (joinR l).1.size ≤ 400) w (h : Tabs w) (k : Mx w) => nsplit_calls (joinR l).1 w (by omega) h k
  have hL := hback
  have hok2 := hok.2
  have HR := Lib.hid hR
  have HJ := Lib.hid hj
  have H1 := Lib.hid h1
  have H2 := Lib.hid h2
  have HBD := Lib.hid hb
  have HO := Lib.hid hok2
  have HT := Lib.hid hT
  have HM := Lib.hid hM
  have HB := Lib.hid (Below.refl w.heap.size w)
  obtain ⟨N, hN⟩ : ∃ N, N = l.length := ⟨_, rfl⟩
  rw [← hN] at HR HJ HBD hc hm ⊢
  have HN := Lib.hid hN
  have HX := Lib.hid (show texB l l = true by simp [texB])
  have HBK := Lib.hid hback
  have HSJ := Lib.hid hsj
  have HLJ := Lib.hid hlj
  have H4 := Lib.hid h4
  clear hr hR hj h1 h2 hb hok hok2 hT hM hN hback hL hsj hlj h4
  obtain ⟨L, hLP⟩ : ∃ L, L = P.length := ⟨_, rfl⟩
  rw [← hLP] at H1 H2 hlen
  clear hLP hlen2
  by_cases h30 : 500 < s.size ∨ 30 < N
  · by_cases h500 : 500 < s.size
    · have : decide ((500 : Int) < (s.size : Int)) = true := decide_eq_true (by omega)
      clear h30
      go_enter Tryd.func5, Tryd.ntmps5
      go_wp2_with (first
        | (go_at_call 9; (refine (awake_calls _ HT.out HM.out).mono ?_); rintro e w1 ⟨rfl, hb⟩; have HBn := Lib.hid (below_step (by repeat (first | (with_reducible exact HB.out) | apply below_alloc | apply pw_below_drewN | apply below_drew1 | exact HB.out)) hb); clear hb HB; have HB := HBn; clear HBn)
        | (fail "no arm"))
      go_ret
      exact ⟨rfl, HB.out⟩
    · have h30' : 30 < N := by omega
      clear h30
      go_enter Tryd.func5, Tryd.ntmps5
      go_wp2_with (first
        | (go_at_call 9; (refine (awake_calls _ HT.out HM.out).mono ?_); rintro e w1 ⟨rfl, hb⟩; have HBn := Lib.hid (below_step (by repeat (first | (with_reducible exact HB.out) | apply below_alloc | apply pw_below_drewN | apply below_drew1 | exact HB.out)) hb); clear hb HB; have HB := HBn; clear HBn)
        | (fail "no arm"))
      go_ret
      exact ⟨rfl, HB.out⟩
  · have h500 : s.size ≤ 500 := by omega
    have h30' : N ≤ 30 := by omega
    clear h30
    go_enter Tryd.func5, Tryd.ntmps5
    go_wp2_with (first
      | (go_at_call 9; (refine (awake_calls _ HT.out HM.out).mono ?_); rintro e w1 ⟨rfl, hb⟩; have HBn := Lib.hid (below_step (by repeat (first | (with_reducible exact HB.out) | apply below_alloc | apply pw_below_drewN | apply below_drew1 | exact HB.out)) hb); clear hb HB; have HB := HBn; clear HBn)
      | (fail "no arm"))
    go_loop [6] (fun vi => ∃ i : Nat, vi = .int .i64 i ∧ i ≤ N ∧ Hid (∀ x ∈ l.take i, x.size ≤ 100)) (fun vi => (N - (RowKit.intOf vi).toNat))
    case atStart => exact ⟨0, rfl, by omega, Lib.hid (by simp)⟩
    case round =>
      obtain ⟨i, rfl, hi, HA⟩ := hrel
      by_cases hlt : i < N
      · have hlt2 : i < l.length := by rw [← HN.out]; exact hlt
        obtain ⟨x, hx⟩ : ∃ x, x = l[i] := ⟨_, rfl⟩
        obtain ⟨b, o, rfl, hcell⟩ := ReadsOf.cells (HR.out.below HB.out) (show 0 < N by omega)
        have hc1 := hcell i hlt
        rw [List.getD_eq_getElem?_getD, List.getElem?_eq_getElem hlt2, Option.getD_some, ← hx] at hc1
        have hxm : x.size ≤ 9223372036854775807 := HO.out x (by rw [hx]; exact List.getElem_mem hlt2)
        clear hcell
        by_cases h100 : 100 < x.size
        · clear hx hsv hjs
          go_wp2
          go_ret
          exact ⟨rfl, HB.out⟩
        · have HA2 := Lib.hid (show ∀ y ∈ l.take (i + 1), y.size ≤ 100 by
            rw [List.take_succ_eq_append_getElem hlt2, ← hx]
            intro y hy
            rcases List.mem_append.1 hy with h | h
            · exact HA.out y h
            · rw [List.mem_singleton.1 h]; omega)
          clear hx hsv hjs
          go_wp2
          go_round
          case rel => exact ⟨i + 1, by go_num, by omega, HA2⟩
          case measure => simp [RowKit.intOf] <;> omega
      · obtain rfl : i = N := by omega
        have hall := HA.out
        rw [List.take_of_length_le (by rw [← HN.out]; exact Nat.le_refl _)] at hall
        have hbd := HBD.out hall
        have HBD2 := Lib.hid (show (pathS (datas l)).length ≤ 100000 by omega)
        clear hall hbd HBD
        rcases hjs with hj0 | hj4
        · have H4b := Lib.hid (H4.out (HLJ.out hj0))
          have H4 := H4b
          rw [HSJ.out hj0] at H4
          have hJ2 : joinR l = ((joinR l).1, 0) := by rw [← hj0]
          obtain ⟨T, hT⟩ : ∃ T, T = (joinR l).1 := ⟨_, rfl⟩
          rw [← hT] at hJ2 H4
          rw [hJ2] at HJ
          simp only [← HN.out] at H4
          clear hj0 hJ2 hT H4b HLJ HSJ
          rcases hsv with rfl | rfl
          · have HBK2 := Lib.hid (HBK.out rfl)
            rw [HBK2.out] at H2
            go_wp2_with (first
              | (go_at_call 10; (with_reducible refine Calls.mono (H1.out _ (HT.out.below (by repeat (first | (with_reducible exact HB.out) | apply below_alloc | apply pw_below_drewN | apply below_drew1 | exact HB.out))) (HM.out.below (by repeat (first | (with_reducible exact HB.out) | apply below_alloc | apply pw_below_drewN | apply below_drew1 | exact HB.out)))) ?_); rintro e w2 ⟨A1, c1, rfl, hr, hc1, hb⟩; have HP := Lib.hid hr; clear hr; have HBn := Lib.hid (below_step (by repeat (first | (with_reducible exact HB.out) | apply below_alloc | apply pw_below_drewN | apply below_drew1 | exact HB.out)) hb); clear hb HB; have HB := HBn; clear HBn)
              | (go_at_call 15; (with_reducible refine Calls.mono (HJ.out _ (HR.out.below HB.out) HBD2.out (HT.out.below (by repeat (first | (with_reducible exact HB.out) | apply below_alloc | apply pw_below_drewN | apply below_drew1 | exact HB.out))) (HM.out.below (by repeat (first | (with_reducible exact HB.out) | apply below_alloc | apply pw_below_drewN | apply below_drew1 | exact HB.out)))) ?_); rintro e w3 ⟨rfl, hb⟩; have HBn := Lib.hid (below_step (by repeat (first | (with_reducible exact HB.out) | apply below_alloc | apply pw_below_drewN | apply below_drew1 | exact HB.out)) hb); clear hb HB; have HB := HBn; clear HBn)
              | (go_at_call 15; (with_reducible refine Calls.mono (H2.out _ _ _ HP.out hc1 (HT.out.below (by repeat (first | (with_reducible exact HB.out) | apply below_alloc | apply pw_below_drewN | apply below_drew1 | exact HB.out))) (HM.out.below (by repeat (first | (with_reducible exact HB.out) | apply below_alloc | apply pw_below_drewN | apply below_drew1 | exact HB.out)))) ?_); rintro e w4 ⟨rfl, hb⟩; have HBn := Lib.hid (below_step (by repeat (first | (with_reducible exact HB.out) | apply below_alloc | apply pw_below_drewN | apply below_drew1 | exact HB.out)) hb); clear hb HB; have HB := HBn; clear HBn)
              | (go_at_call 10; (with_reducible refine Calls.mono (H4.out _ (HT.out.below (by repeat (first | (with_reducible exact HB.out) | apply below_alloc | apply pw_below_drewN | apply below_drew1 | exact HB.out))) (HM.out.below (by repeat (first | (with_reducible exact HB.out) | apply below_alloc | apply pw_below_drewN | apply below_drew1 | exact HB.out)))) ?_); rintro e w5 ⟨A5, c5, rfl, hr, hc5, hb⟩; have HP5 := Lib.hid hr; clear hr; have HBn := Lib.hid (below_step (by repeat (first | (with_reducible exact HB.out) | apply below_alloc | apply pw_below_drewN | apply below_drew1 | exact HB.out)) hb); clear hb HB; have HB := HBn; clear HBn)
              | (go_at_call 14; (refine Calls.mono (texts_calls A5 c5 l A c l _ HP5.out hc5 (HR.out.below HB.out) hc (by omega)) ?_); rw [HX.out]; rintro e w6 ⟨rfl, n6, rfl⟩)
              | (fail "no arm"))
            go_ret
            exact ⟨by simp, (by repeat (first | (with_reducible exact HB.out) | apply below_alloc | apply pw_below_drewN | apply below_drew1 | exact HB.out))⟩
          · go_wp2_with (first
              | (go_at_call 10; (with_reducible refine Calls.mono (H1.out _ (HT.out.below (by repeat (first | (with_reducible exact HB.out) | apply below_alloc | apply pw_below_drewN | apply below_drew1 | exact HB.out))) (HM.out.below (by repeat (first | (with_reducible exact HB.out) | apply below_alloc | apply pw_below_drewN | apply below_drew1 | exact HB.out)))) ?_); rintro e w2 ⟨A1, c1, rfl, _, _, hb⟩; have HBn := Lib.hid (below_step (by repeat (first | (with_reducible exact HB.out) | apply below_alloc | apply pw_below_drewN | apply below_drew1 | exact HB.out)) hb); clear hb HB; have HB := HBn; clear HBn)
              | (go_at_call 15; (with_reducible refine Calls.mono (HJ.out _ (HR.out.below HB.out) HBD2.out (HT.out.below (by repeat (first | (with_reducible exact HB.out) | apply below_alloc | apply pw_below_drewN | apply below_drew1 | exact HB.out))) (HM.out.below (by repeat (first | (with_reducible exact HB.out) | apply below_alloc | apply pw_below_drewN | apply below_drew1 | exact HB.out)))) ?_); rintro e w3 ⟨rfl, hb⟩; have HBn := Lib.hid (below_step (by repeat (first | (with_reducible exact HB.out) | apply below_alloc | apply pw_below_drewN | apply below_drew1 | exact HB.out)) hb); clear hb HB; have HB := HBn; clear HBn)
              | (go_at_call 10; (with_reducible refine Calls.mono (H4.out _ (HT.out.below (by repeat (first | (with_reducible exact HB.out) | apply below_alloc | apply pw_below_drewN | apply below_drew1 | exact HB.out))) (HM.out.below (by repeat (first | (with_reducible exact HB.out) | apply below_alloc | apply pw_below_drewN | apply below_drew1 | exact HB.out)))) ?_); rintro e w5 ⟨A5, c5, rfl, hr, hc5, hb⟩; have HP5 := Lib.hid hr; clear hr; have HBn := Lib.hid (below_step (by repeat (first | (with_reducible exact HB.out) | apply below_alloc | apply pw_below_drewN | apply below_drew1 | exact HB.out)) hb); clear hb HB; have HB := HBn; clear HBn)
              | (go_at_call 14; (refine Calls.mono (texts_calls A5 c5 l A c l _ HP5.out hc5 (HR.out.below HB.out) hc (by omega)) ?_); rw [HX.out]; rintro e w6 ⟨rfl, n6, rfl⟩)
              | (fail "no arm"))
            go_ret
            exact ⟨by simp, (by repeat (first | (with_reducible exact HB.out) | apply below_alloc | apply pw_below_drewN | apply below_drew1 | exact HB.out))⟩
        · rw [hj4] at HJ
          clear hj4 HLJ HSJ H4
          rcases hsv with rfl | rfl
          · have HBK2 := Lib.hid (HBK.out rfl)
            rw [HBK2.out] at H2
            go_wp2_with (first
              | (go_at_call 10; (with_reducible refine Calls.mono (H1.out _ (HT.out.below (by repeat (first | (with_reducible exact HB.out) | apply below_alloc | apply pw_below_drewN | apply below_drew1 | exact HB.out))) (HM.out.below (by repeat (first | (with_reducible exact HB.out) | apply below_alloc | apply pw_below_drewN | apply below_drew1 | exact HB.out)))) ?_); rintro e w2 ⟨A1, c1, rfl, hr, hc1, hb⟩; have HP := Lib.hid hr; clear hr; have HBn := Lib.hid (below_step (by repeat (first | (with_reducible exact HB.out) | apply below_alloc | apply pw_below_drewN | apply below_drew1 | exact HB.out)) hb); clear hb HB; have HB := HBn; clear HBn)
              | (go_at_call 15; (with_reducible refine Calls.mono (HJ.out _ (HR.out.below HB.out) HBD2.out (HT.out.below (by repeat (first | (with_reducible exact HB.out) | apply below_alloc | apply pw_below_drewN | apply below_drew1 | exact HB.out))) (HM.out.below (by repeat (first | (with_reducible exact HB.out) | apply below_alloc | apply pw_below_drewN | apply below_drew1 | exact HB.out)))) ?_); rintro e w3 ⟨rfl, hb⟩; have HBn := Lib.hid (below_step (by repeat (first | (with_reducible exact HB.out) | apply below_alloc | apply pw_below_drewN | apply below_drew1 | exact HB.out)) hb); clear hb HB; have HB := HBn; clear HBn)
              | (go_at_call 15; (with_reducible refine Calls.mono (H2.out _ _ _ HP.out hc1 (HT.out.below (by repeat (first | (with_reducible exact HB.out) | apply below_alloc | apply pw_below_drewN | apply below_drew1 | exact HB.out))) (HM.out.below (by repeat (first | (with_reducible exact HB.out) | apply below_alloc | apply pw_below_drewN | apply below_drew1 | exact HB.out)))) ?_); rintro e w4 ⟨rfl, hb⟩; have HBn := Lib.hid (below_step (by repeat (first | (with_reducible exact HB.out) | apply below_alloc | apply pw_below_drewN | apply below_drew1 | exact HB.out)) hb); clear hb HB; have HB := HBn; clear HBn)
              | (fail "no arm"))
            go_ret
            exact ⟨by simp, (by repeat (first | (with_reducible exact HB.out) | apply below_alloc | apply pw_below_drewN | apply below_drew1 | exact HB.out))⟩
          · go_wp2_with (first
              | (go_at_call 10; (with_reducible refine Calls.mono (H1.out _ (HT.out.below (by repeat (first | (with_reducible exact HB.out) | apply below_alloc | apply pw_below_drewN | apply below_drew1 | exact HB.out))) (HM.out.below (by repeat (first | (with_reducible exact HB.out) | apply below_alloc | apply pw_below_drewN | apply below_drew1 | exact HB.out)))) ?_); rintro e w2 ⟨A1, c1, rfl, _, _, hb⟩; have HBn := Lib.hid (below_step (by repeat (first | (with_reducible exact HB.out) | apply below_alloc | apply pw_below_drewN | apply below_drew1 | exact HB.out)) hb); clear hb HB; have HB := HBn; clear HBn)
              | (go_at_call 15; (with_reducible refine Calls.mono (HJ.out _ (HR.out.below HB.out) HBD2.out (HT.out.below (by repeat (first | (with_reducible exact HB.out) | apply below_alloc | apply pw_below_drewN | apply below_drew1 | exact HB.out))) (HM.out.below (by repeat (first | (with_reducible exact HB.out) | apply below_alloc | apply pw_below_drewN | apply below_drew1 | exact HB.out)))) ?_); rintro e w3 ⟨rfl, hb⟩; have HBn := Lib.hid (below_step (by repeat (first | (with_reducible exact HB.out) | apply below_alloc | apply pw_below_drewN | apply below_drew1 | exact HB.out)) hb); clear hb HB; have HB := HBn; clear HBn)
              | (fail "no arm"))
            go_ret
            exact ⟨by simp, (by repeat (first | (with_reducible exact HB.out) | apply below_alloc | apply pw_below_drewN | apply below_drew1 | exact HB.out))⟩
end Go.Proofs.YtmdfgjjbllbjmaaDoor
