/-
  The walk of the law NameJoins.
-/
import Derived.Test.YtmdfgjjbllbjmaaDoorPaG
import Derived.Test.YtmdfgjjbllbjmaaDoorPaH
namespace Go.Proofs.YtmdfgjjbllbjmaaDoor
open Go.RowKit Go.Proofs.YtmdfgjjbllbjmaaDoorW.PrintWords Go.Lib

set_option maxHeartbeats 1000000 in
theorem nameJoins_walk (A : Option Addr) (c : Nat) (l : List ByteArray) (w : World) (hr : Kd.string.C w A l.length l) (hc : l.length ≤ c) (hok : l.length ≤ maxLen ∧ ∀ x ∈ l, x.size ≤ maxLen) (hT : Tabs w) (hM : Mx w) :
    Calls Tryd.prog 4 #[.slice A l.length c] w fun e w' => e = .returned (.bool true) ∧ Below w.heap.size w w' := by
  have hR := str_of_C hr
  have hm : l.length ≤ 9223372036854775807 := hR.2.1
  have hj := fun (w : World) (hr : ReadsStr w A l.length l) (hl : (pathS (datas l)).length ≤ 100000) h k => njoin_calls A c l w hr hc hl h k
  have hrj := fun (w : World) (hr : ReadsStr w A l.length l) (hn : l.length ≤ 1000000) (h1 : ∀ x ∈ l, x.size ≤ 1000000) => rjoin_calls A c l w hr hn h1
  have hb := pathS_bound l 100
  generalize joinR l = J at *
  have hok2 := hok.2
  have HR := Lib.hid hR
  have HJ := Lib.hid hj
  have HRJ := Lib.hid hrj
  have HBD := Lib.hid hb
  have HO := Lib.hid hok2
  have HT := Lib.hid hT
  have HM := Lib.hid hM
  have HB := Lib.hid (Below.refl w.heap.size w)
  clear hr hR hj hrj hb hok hok2 hT hM
  obtain ⟨N, hN⟩ : ∃ N, N = l.length := ⟨_, rfl⟩
  rw [← hN] at HR HJ HRJ HBD hc hm ⊢
  have HN := Lib.hid hN
  clear hN
  by_cases h30 : 30 < N
  · go_enter Tryd.func4, Tryd.ntmps4
    go_wp2_with (first
      | (go_at_call 9; (refine (awake_calls _ HT.out HM.out).mono ?_); rintro e w1 ⟨rfl, hb⟩; have HBn := Lib.hid (below_step (by repeat (first | (with_reducible exact HB.out) | apply below_alloc | apply pw_below_drewN | apply below_drew1 | exact HB.out)) hb); clear hb HB; have HB := HBn; clear HBn)
      | (fail "no arm"))
    go_ret
    exact ⟨rfl, HB.out⟩
  · go_enter Tryd.func4, Tryd.ntmps4
    go_wp2_with (first
      | (go_at_call 9; (refine (awake_calls _ HT.out HM.out).mono ?_); rintro e w1 ⟨rfl, hb⟩; have HBn := Lib.hid (below_step (by repeat (first | (with_reducible exact HB.out) | apply below_alloc | apply pw_below_drewN | apply below_drew1 | exact HB.out)) hb); clear hb HB; have HB := HBn; clear HBn)
      | (fail "no arm"))
    go_loop [4] (fun vi => ∃ i : Nat, vi = .int .i64 i ∧ i ≤ N ∧ Hid (∀ x ∈ l.take i, x.size ≤ 100)) (fun vi => (N - (RowKit.intOf vi).toNat))
    case atStart => exact ⟨0, rfl, by omega, Lib.hid (by simp)⟩
    case round =>
      obtain ⟨i, rfl, hi, HA⟩ := hrel
      by_cases hlt : i < N
      · have hlt2 : i < l.length := by rw [← HN.out]; exact hlt
        obtain ⟨x, hx⟩ : ∃ x, x = l[i] := ⟨_, rfl⟩
        obtain ⟨b, o, rfl, hcell⟩ := ReadsOf.cells (HR.out.below HB.out) (show 0 < N by omega)
        have hc1 := hcell i hlt
        rw [List.getD_eq_getElem?_getD, List.getElem?_eq_getElem hlt2, Option.getD_some, ← hx] at hc1
        have hxm : x.size ≤ 9223372036854775807 := HO.out x (by rw [hx]; exact List.getElem_mem hlt2)
        clear hcell
        by_cases h100 : 100 < x.size
        · clear hx
          go_wp2
          go_ret
          exact ⟨rfl, HB.out⟩
        · have HA2 := Lib.hid (show ∀ y ∈ l.take (i + 1), y.size ≤ 100 by
            rw [List.take_succ_eq_append_getElem hlt2, ← hx]
            intro y hy
            rcases List.mem_append.1 hy with h | h
            · exact HA.out y h
            · rw [List.mem_singleton.1 h]; omega)
          clear hx
          go_wp2
          go_round
          case rel => exact ⟨i + 1, by go_num, by omega, HA2⟩
          case measure => simp [RowKit.intOf] <;> omega
      · obtain rfl : i = N := by omega
        have hall := HA.out
        rw [List.take_of_length_le (by rw [← HN.out]; exact Nat.le_refl _)] at hall
        have hbd := HBD.out hall
        have HBD2 := Lib.hid (show (pathS (datas l)).length ≤ 100000 by omega)
        have HH := Lib.hid (show ∀ x ∈ l, x.size ≤ 1000000 from fun x hx => Nat.le_trans (hall x hx) (by omega))
        clear hall hbd HBD
        go_wp2_with (first
          | (go_at_call 15; (refine Calls.mono (HJ.out _ (HR.out.below HB.out) HBD2.out (HT.out.below (by repeat (first | (with_reducible exact HB.out) | apply below_alloc | apply pw_below_drewN | apply below_drew1 | exact HB.out))) (HM.out.below (by repeat (first | (with_reducible exact HB.out) | apply below_alloc | apply pw_below_drewN | apply below_drew1 | exact HB.out)))) ?_); rintro e w2 ⟨rfl, hb⟩; have HBn := Lib.hid (below_step (by repeat (first | (with_reducible exact HB.out) | apply below_alloc | apply pw_below_drewN | apply below_drew1 | exact HB.out)) hb); clear hb HB; have HB := HBn; clear HBn)
          | (go_at_call 16; (refine Calls.mono (HRJ.out _ (HR.out.below HB.out) (by omega) HH.out) ?_); rintro e w3 ⟨rfl, n3, rfl⟩)
          | (fail "no arm"))
        go_ret
        exact ⟨by simp, (by repeat (first | (with_reducible exact HB.out) | apply below_alloc | apply pw_below_drewN | apply below_drew1 | exact HB.out))⟩
end Go.Proofs.YtmdfgjjbllbjmaaDoor
