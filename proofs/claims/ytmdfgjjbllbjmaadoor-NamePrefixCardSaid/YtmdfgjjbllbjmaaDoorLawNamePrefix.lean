/-
  The walk of the law NamePrefix.
-/
import Derived.Test.YtmdfgjjbllbjmaaDoorPaH
namespace Go.Proofs.YtmdfgjjbllbjmaaDoor
open Go.RowKit Go.Proofs.YtmdfgjjbllbjmaaDoorW.PrintWords Go.Lib

set_option maxHeartbeats 2000000 in
theorem namePrefix_none (s : ByteArray) (w : World) (hs : s.size ≤ 500) (hT : Tabs w) (hM : Mx w) (hP : splitR s = ([], 4)) :
    Calls Tryd.prog 8 #[.string s] w fun e w' => e = .returned (.bool true) ∧ Below w.heap.size w w' := by
  have h1 := fun w (h : Tabs w) (k : Mx w) => nsplit_calls s w (by omega) h k
  rw [hP] at h1
  have H1 := Lib.hid h1
  have HT := Lib.hid hT
  have HM := Lib.hid hM
  have HB := Lib.hid (Below.refl w.heap.size w)
  clear hT hM h1 hP
  go_enter Tryd.func8, Tryd.ntmps8
  go_wp2_with (first
    | (go_at_call 9; (refine (awake_calls _ HT.out HM.out).mono ?_); rintro e w1 ⟨rfl, hb⟩; have HBn := Lib.hid (below_step (by repeat (first | (with_reducible exact HB.out) | apply below_alloc | apply pw_below_drewN | apply below_drew1 | exact HB.out)) hb); clear hb HB; have HB := HBn; clear HBn)
    | (go_at_call 10; (with_reducible refine Calls.mono (H1.out _ (HT.out.below (by repeat (first | (with_reducible exact HB.out) | apply below_alloc | apply pw_below_drewN | apply below_drew1 | exact HB.out))) (HM.out.below (by repeat (first | (with_reducible exact HB.out) | apply below_alloc | apply pw_below_drewN | apply below_drew1 | exact HB.out)))) ?_); rintro e w2 ⟨A1, c1, rfl, hr, hc1, hb⟩; clear hr; have HBn := Lib.hid (below_step (by repeat (first | (with_reducible exact HB.out) | apply below_alloc | apply pw_below_drewN | apply below_drew1 | exact HB.out)) hb); clear hb HB; have HB := HBn; clear HBn)
    | (fail "no arm"))
  go_ret
  exact ⟨by simp, (by repeat (first | (with_reducible exact HB.out) | apply below_alloc | apply pw_below_drewN | apply below_drew1 | exact HB.out))⟩

set_option maxHeartbeats 2000000 in
theorem namePrefix_main (s : ByteArray) (xs : List (List UInt8)) (w : World) (hs : s.size ≤ 500) (hT : Tabs w) (hM : Mx w) (hp : pathL s.data.toList = some xs) :
    Calls Tryd.prog 8 #[.string s] w fun e w' => e = .returned (.bool true) ∧ Below w.heap.size w w' := by
  have hsz : s.data.toList.length = s.size := by rw [Array.length_toList]; rfl
  have h1 := fun w (h : Tabs w) (k : Mx w) => nsplit_calls s w (by omega) h k
  rw [splitR_some hp] at h1
  have hse := (pathL_some hp).1
  have hl1 : 1 ≤ s.size := by
    rw [← hsz, hse]
    unfold pathS
    split
    · simp
    · rename_i hne
      have := strokes_len xs
      have := List.length_pos_iff.2 hne
      omega
  have hN400 : xs.length ≤ 400 := by
    have := (splitR_len s).1
    rw [splitR_some hp] at this
    simpa using this
  have hpre : ∀ (i : Nat) (hi : i < s.size), 1 ≤ i → ((s[i]'hi).toNat : Int) = 47 → ∃ Q, splitR (s.extract 0 i) = (Q, 0) ∧ Q.length < xs.length := by
    intro i hi h1 h47
    have hd : (s.extract 0 i).data.toList = s.data.toList.take i := by rw [extract_data]; simp
    have h47' : s.data.toList[i]'(by rw [hsz]; exact hi) = 47 := UInt8.toNat_inj.1 (show (s[i]'hi).toNat = 47 by omega)
    obtain ⟨ys, h2, h3⟩ := prefix_law hp i h1 (by rw [hsz]; exact hi) h47'
    exact ⟨ys.map mkB, splitR_some (by rw [hd]; exact h2), by simpa using h3⟩
  have hcut := cut_again hp
  have hs0 : s = mkB (pathS (xs.take (xs.length - 0))) := by
    rw [Nat.sub_zero, List.take_length, ← hse]
  have hend : mkB (pathS (xs.take (xs.length - xs.length))) = ⟨#[47]⟩ := by rw [Nat.sub_self]; rfl
  have hle : ∀ k, (mkB (pathS (xs.take (xs.length - k)))).size ≤ 500 := by
    intro k
    cases k with
    | zero => rw [← hs0]; exact hs
    | succ k =>
      by_cases hk : k < xs.length
      · obtain ⟨_, _, h⟩ := hcut k hk
        show (pathS _).length ≤ _
        omega
      · rw [show xs.length - (k + 1) = 0 by omega]; show (1 : Nat) ≤ 500; omega
  have hN : (xs.map mkB).length = xs.length := by simp
  simp only [hN] at h1
  generalize xs.map mkB = P at h1
  generalize hNN : xs.length = N at *
  have H1 := Lib.hid h1
  have HPRE := Lib.hid hpre
  have HCUT := Lib.hid hcut
  have HS0 := Lib.hid hs0
  have HEND := Lib.hid hend
  have HLE := Lib.hid hle
  have HT := Lib.hid hT
  have HM := Lib.hid hM
  have HB := Lib.hid (Below.refl w.heap.size w)
  clear hT hM h1 hp hsz hse hpre hcut hs0 hend hle hN hNN
  go_enter Tryd.func8, Tryd.ntmps8
  go_wp2_with (first
    | (go_at_call 9; (refine (awake_calls _ HT.out HM.out).mono ?_); rintro e w1 ⟨rfl, hb⟩; have HBn := Lib.hid (below_step (by repeat (first | (with_reducible exact HB.out) | apply below_alloc | apply pw_below_drewN | apply below_drew1 | exact HB.out)) hb); clear hb HB; have HB := HBn; clear HBn)
    | (go_at_call 10; (with_reducible refine Calls.mono (H1.out _ (HT.out.below (by repeat (first | (with_reducible exact HB.out) | apply below_alloc | apply pw_below_drewN | apply below_drew1 | exact HB.out))) (HM.out.below (by repeat (first | (with_reducible exact HB.out) | apply below_alloc | apply pw_below_drewN | apply below_drew1 | exact HB.out)))) ?_); rintro e w2 ⟨A1, c1, rfl, hr, hc1, hb⟩; clear hr; have HBn := Lib.hid (below_step (by repeat (first | (with_reducible exact HB.out) | apply below_alloc | apply pw_below_drewN | apply below_drew1 | exact HB.out)) hb); clear hb HB; have HB := HBn; clear HBn)
    | (fail "no arm"))
  go_loopw [6] (fun vi W => ∃ i : Nat, vi = .int .i64 i ∧ 1 ≤ i ∧ i ≤ s.size ∧ Hid (Below w.heap.size w W)) (fun vi _ => (s.size - (RowKit.intOf vi).toNat))
  case atStart => exact ⟨1, rfl, by omega, hl1, HB⟩
  case round =>
    clear HB
    obtain ⟨i, rfl, hi1, hi, HB⟩ := hrel
    by_cases hlt : i < s.size
    · by_cases h47 : ((s[i]'hlt).toNat : Int) = 47
      · obtain ⟨Q, hQ, hQl⟩ := HPRE.out i hlt hi1 h47
        have q1 : (((s[i]'hlt).toNat : Int) != 47) = false := by rw [h47]; rfl
        have h2 := fun w (h : Tabs w) (k : Mx w) => nsplit_calls (s.extract 0 i) w (by rw [ByteArray.size_extract]; omega) h k
        rw [hQ] at h2
        simp only at h2
        generalize hLQ : Q.length = LQ at h2 hQl
        have H2 := Lib.hid h2
        clear h2 h47 hQ hLQ
        go_wp2_with (first
          | (go_at_call 10; (refine Calls.mono (H2.out _ (HT.out.below (by repeat (first | (with_reducible exact HB.out) | apply below_alloc | apply pw_below_drewN | apply below_drew1 | exact HB.out))) (HM.out.below (by repeat (first | (with_reducible exact HB.out) | apply below_alloc | apply pw_below_drewN | apply below_drew1 | exact HB.out)))) ?_); rintro e w3 ⟨A2, c2, rfl, hr, hc2, hb⟩; clear hr; have HBn := Lib.hid (below_step (by repeat (first | (with_reducible exact HB.out) | apply below_alloc | apply pw_below_drewN | apply below_drew1 | exact HB.out)) hb); clear hb HB; have HB := HBn; clear HBn)
          | (fail "no arm"))
        go_roundw
        case rel => exact ⟨i + 1, by go_num, by omega, by omega, HB⟩
        case measure => simp [RowKit.intOf] <;> omega
      · have q1 : (((s[i]'hlt).toNat : Int) != 47) = true := by rw [bne_iff_ne]; exact h47
        clear h47
        go_wp2
        go_roundw
        case rel => exact ⟨i + 1, by go_num, by omega, by omega, HB⟩
        case measure => simp [RowKit.intOf] <;> omega
    · obtain rfl : i = s.size := by omega
      go_wp2
      go_loopw [9, 10] (fun va vk W => ∃ (k : Nat) (S : ByteArray), vk = .int .i64 k ∧ va = .string S ∧ k ≤ N ∧ Hid (S = mkB (pathS (xs.take (N - k)))) ∧ Hid (Below w.heap.size w W)) (fun _ vk _ => (N - (RowKit.intOf vk).toNat))
      case atStart => exact ⟨0, s, rfl, rfl, by omega, HS0, HB⟩
      case round =>
        clear HB
        obtain ⟨k, S, rfl, rfl, hk, HS, HB⟩ := hrel
        by_cases hkN : k < N
        · obtain ⟨last, hc, _⟩ := HCUT.out k hkN
          have h3 := fun w (h : Tabs w) (k' : Mx w) => ncut_calls S w (by have := HLE.out k; rw [← HS.out] at this; omega) h k'
          rw [← HS.out] at hc
          rw [hc] at h3
          obtain ⟨S2, hS2⟩ : ∃ S2, S2 = mkB (pathS (xs.take (N - (k + 1)))) := ⟨_, rfl⟩
          rw [← hS2] at h3
          have H3 := Lib.hid h3
          have HS2 := Lib.hid hS2
          clear h3 hc hS2 HS
          go_wp2_with (first
            | (go_at_call 17; (refine Calls.mono (H3.out _ (HT.out.below (by repeat (first | (with_reducible exact HB.out) | apply below_alloc | apply pw_below_drewN | apply below_drew1 | exact HB.out))) (HM.out.below (by repeat (first | (with_reducible exact HB.out) | apply below_alloc | apply pw_below_drewN | apply below_drew1 | exact HB.out)))) ?_); rintro e w4 ⟨rfl, hb⟩; have HBn := Lib.hid (below_step (by repeat (first | (with_reducible exact HB.out) | apply below_alloc | apply pw_below_drewN | apply below_drew1 | exact HB.out)) hb); clear hb HB; have HB := HBn; clear HBn)
            | (fail "no arm"))
          go_roundw
          case rel => exact ⟨k + 1, S2, by go_num, rfl, by omega, HS2, HB⟩
          case measure => simp [RowKit.intOf] <;> omega
        · obtain rfl : k = N := by omega
          have he : (S.toList == [47]) = true := by rw [HS.out, HEND.out, ByteArray.toList_eq]; rfl
          go_wp2
          go_ret
          exact ⟨by simp, HB.out⟩

theorem namePrefix_walk (s : ByteArray) (w : World) (hs : s.size ≤ 9223372036854775807) (hT : Tabs w) (hM : Mx w) :
    Calls Tryd.prog 8 #[.string s] w fun e w' => e = .returned (.bool true) ∧ Below w.heap.size w w' := by
  by_cases h5 : 500 < s.size
  · have HT := Lib.hid hT
    have HM := Lib.hid hM
    have HB := Lib.hid (Below.refl w.heap.size w)
    clear hT hM
    go_enter Tryd.func8, Tryd.ntmps8
    go_wp2_with (first
      | (go_at_call 9; (refine (awake_calls _ HT.out HM.out).mono ?_); rintro e w1 ⟨rfl, hb⟩; have HBn := Lib.hid (below_step (by repeat (first | (with_reducible exact HB.out) | apply below_alloc | apply pw_below_drewN | apply below_drew1 | exact HB.out)) hb); clear hb HB; have HB := HBn; clear HBn)
      | (fail "no arm"))
    go_ret
    exact ⟨rfl, HB.out⟩
  · cases h : pathL s.data.toList with
    | none => exact namePrefix_none s w (by omega) hT hM (splitR_none h)
    | some xs => exact namePrefix_main s xs w (by omega) hT hM h
end Go.Proofs.YtmdfgjjbllbjmaaDoor
