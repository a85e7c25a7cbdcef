/-
  What the reference's Right for names comes to.
-/
import Derived.Test.YtmdfgjjbllbjmaaDoorNmB
import Derived.Test.YtmdfgjjbllbjmaaDoorNmC
namespace Go.Proofs.YtmdfgjjbllbjmaaDoor
open Go.RowKit Go.Proofs.YtmdfgjjbllbjmaaDoorW.PrintWords Go.Lib

theorem okB_at (s : ByteArray) (i : Nat) (h : i < s.size) : okB (s.data.toList[i]'(by rw [Array.length_toList]; exact h)) = (decide (32 ≤ ((s[i]'h).toNat : Int)) && (((s[i]'h).toNat : Int) != 47 && ((s[i]'h).toNat : Int) != 127)) := by
  have hb : s.data.toList[i]'(by rw [Array.length_toList]; exact h) = s[i]'h := rfl
  rw [hb]
  unfold okB
  generalize (s[i]'h).toNat = c
  have e1 : decide (32 ≤ c) = decide ((32 : Int) ≤ (c : Int)) := decide_eq_decide.2 (by omega)
  have e2 : (c != 47) = ((c : Int) != 47) := by rw [Bool.eq_iff_iff, bne_iff_ne, bne_iff_ne]; omega
  have e3 : (c != 127) = ((c : Int) != 127) := by rw [Bool.eq_iff_iff, bne_iff_ne, bne_iff_ne]; omega
  rw [e1, e2, e3]

set_option maxHeartbeats 1000000 in
theorem rright_calls (s : ByteArray) (w : World) (hs : s.size ≤ 9223372036854775807) : Calls Tryd.prog 13 #[.string s] w fun e w' => e = .returned (.bool (nameB s.data.toList)) ∧ ∃ n, w' = w.drewN n := by
  have hsz : s.data.toList.length = s.size := by rw [Array.length_toList]; rfl
  have HN := Lib.hid (show nameB s.data.toList = ((decide (1 ≤ s.size) && decide (s.size ≤ 20)) && (s.data.toList.all okB && formedL s.data.toList.length s.data.toList)) by unfold nameB; rw [hsz])
  have HSZ := Lib.hid hsz
  clear hsz
  by_cases h1 : 1 ≤ s.size
  · by_cases h2 : s.size ≤ 20
    · have HF := Lib.hid (show nameB s.data.toList = (s.data.toList.all okB && formedL s.data.toList.length s.data.toList) by rw [HN.out, decide_eq_true h1, decide_eq_true h2]; rfl)
      have HFC := Lib.hid (fun w => PNameTells.holtref03_Formed.calls _ s _ w (formed_tells s (by omega)))
      clear HN
      go_enter Tryd.func13, Tryd.ntmps13
      go_wp2
      go_loop [3] (fun vi => ∃ i : Nat, vi = .int .i64 i ∧ i ≤ s.size ∧ Hid ((s.data.toList.take i).all okB = true)) (fun vi => (20 - RowKit.intOf vi).toNat)
      case atStart => exact ⟨0, rfl, by omega, Lib.hid (by simp)⟩
      case round =>
        obtain ⟨i, rfl, hi, HA⟩ := hrel
        by_cases hlt : i < s.size
        · have hb := okB_at s i hlt
          have hl : i < s.data.toList.length := by rw [HSZ.out]; exact hlt
          by_cases hok : 32 ≤ ((s[i]'hlt).toNat : Int) ∧ ((s[i]'hlt).toNat : Int) ≠ 47 ∧ ((s[i]'hlt).toNat : Int) ≠ 127
          · obtain ⟨k1, k2, k3⟩ := hok
            have e2 : (((s[i]'hlt).toNat : Int) == 47) = false := beq_eq_false_iff_ne.2 k2
            have e3 : (((s[i]'hlt).toNat : Int) == 127) = false := beq_eq_false_iff_ne.2 k3
            have HA2 := Lib.hid (show (s.data.toList.take (i + 1)).all okB = true by
              rw [List.take_succ_eq_append_getElem hl, List.all_append, HA.out, List.all_cons, hb, decide_eq_true k1, bne_iff_ne.2 k2, bne_iff_ne.2 k3]
              rfl)
            clear hb HA k2 k3
            go_wp2
            go_round
            case rel => exact ⟨i + 1, by go_num, by omega, HA2⟩
            case measure => simp [RowKit.intOf] <;> omega
          · have HF2 := Lib.hid (show nameB s.data.toList = false by
              rw [HF.out]
              have : s.data.toList.all okB = false := by
                rw [← Bool.not_eq_true, List.all_eq_true]
                intro hall
                have := hall _ (List.getElem_mem hl)
                rw [hb] at this
                simp only [Bool.and_eq_true, decide_eq_true_eq, bne_iff_ne] at this
                exact hok this
              rw [this, Bool.false_and])
            clear hb HA
            by_cases k1 : ((s[i]'hlt).toNat : Int) < 32
            · go_wp2
              go_ret
              rw [HF2.out]
              exact ⟨rfl, 0, rfl⟩
            · by_cases k2 : ((s[i]'hlt).toNat : Int) = 47
              · have e2 : (((s[i]'hlt).toNat : Int) == 47) = true := beq_iff_eq.2 k2
                clear k2 hok
                go_wp2
                go_ret
                rw [HF2.out]
                exact ⟨rfl, 0, rfl⟩
              · have e2 : (((s[i]'hlt).toNat : Int) == 47) = false := beq_eq_false_iff_ne.2 k2
                have e3 : (((s[i]'hlt).toNat : Int) == 127) = true := by rw [beq_iff_eq]; omega
                clear k2 hok
                go_wp2
                go_ret
                rw [HF2.out]
                exact ⟨rfl, 0, rfl⟩
        · have HA2 := Lib.hid (show s.data.toList.all okB = true by have := HA.out; rw [List.take_of_length_le (by rw [HSZ.out]; omega)] at this; exact this)
          go_wp2_with (go_at_call 22; refine (HFC.out _).mono ?_; rintro e w' ⟨rfl, hd⟩; obtain ⟨n, rfl⟩ := hd.out)
          go_ret
          rw [HF.out, HA2.out, Bool.true_and]
          exact ⟨rfl, n, rfl⟩
    · go_enter Tryd.func13, Tryd.ntmps13
      go_wp2
      go_ret
      rw [HN.out, decide_eq_false h2]
      exact ⟨by simp, 0, rfl⟩
  · go_enter Tryd.func13, Tryd.ntmps13
    go_wp2
    go_ret
    rw [HN.out, decide_eq_false h1]
    exact ⟨by simp, 0, rfl⟩
end Go.Proofs.YtmdfgjjbllbjmaaDoor
