/-
  What package name's Right, and the reference's, come to.
-/
import Derived.Test.YtmdfgjjbllbjmaaDoorShelf
import Derived.Test.YtmdfgjjbllbjmaaDoorNmA
import Derived.WalkKit
import Derived.WalkSpells
import Derived.WalkLawsBesides
import Derived.BigQuiet
import Derived.Lib.Hide
import Derived.Handy
import Derived.Test.YtmdfgjjbllbjmaaDoorWWords
import Derived.Test.YtmdfgjjbllbjmaaDoorPNameTellsx2
namespace Go.Proofs.YtmdfgjjbllbjmaaDoor
open Go.RowKit Go.Proofs.YtmdfgjjbllbjmaaDoorW.PrintWords Go.Lib

/-- Go's own tables for utf8 lie where they were laid. -/
def Tabs (w : World) : Prop := Lib.Utf8Tabs (Tryd.laysValid_ren.g 3) (Tryd.laysValid_ren.g 4) w
theorem Tabs.below {w w' : World} (h : Tabs w) (hb : Below w.heap.size w w') : Tabs w' := Utf8Tabs_below h hb

set_option maxHeartbeats 400000 in
theorem sign_calls (r : Nat) (w : World) (hr : r ≤ 2147483647) : Calls Tryd.prog 20 #[.int .i32 r] w fun e w' => e = .returned (.bool (signR r)) ∧ w' = w := by
  by_cases h1 : 32 ≤ r
  · by_cases h2 : r = 127
    · subst h2
      go_enter Tryd.func20, Tryd.ntmps20
      go_wp2
      go_ret
      exact ⟨rfl, rfl⟩
    · by_cases h3 : r = 47
      · subst h3
        go_enter Tryd.func20, Tryd.ntmps20
        go_wp2
        go_ret
        exact ⟨rfl, rfl⟩
      · have hs := Lib.hid (show signR r = true by unfold signR; simp only [Bool.and_eq_true, decide_eq_true_eq, bne_iff_ne]; omega)
        have e2 : ((r : Int) != 127) = true := by rw [bne_iff_ne]; omega
        have e3 : ((r : Int) != 47) = true := by rw [bne_iff_ne]; omega
        go_enter Tryd.func20, Tryd.ntmps20
        go_wp2
        go_ret
        rw [hs.out]
        exact ⟨by simp, rfl⟩
  · have hs := Lib.hid (show signR r = false by unfold signR; rw [decide_eq_false (by omega), Bool.false_and])
    go_enter Tryd.func20, Tryd.ntmps20
    go_wp2
    go_ret
    rw [hs.out]
    exact ⟨by simp, rfl⟩

set_option maxHeartbeats 1000000 in
theorem nright_calls (s : ByteArray) (w : World) (hs : s.size ≤ 9223372036854775807) (hT : Tabs w) : Calls Tryd.prog 12 #[.string s] w fun e w' => e = .returned (.bool (nameB s.data.toList)) ∧ Below w.heap.size w w' := by
  have HT := Lib.hid hT
  have cV : ∀ w1, Tabs w1 → Calls Tryd.prog 21 #[.string s] w1 _ := fun w1 h1 => Any.utf8_ValidString Tryd.laysValid s w1 hs h1
  have HV := Lib.hid cV
  have hsz : s.data.toList.length = s.size := by rw [Array.length_toList]; rfl
  have HN := Lib.hid (nameB_runes s.data.toList)
  have HSZ := Lib.hid hsz
  clear hT cV hsz
  go_enter Tryd.func12, Tryd.ntmps12
  go_wp2
  go_loopw [] (fun w' => ∃ (pos b : Nat), w' = w.iter s pos ∧ Hid (runesOk s.data.toList.length s.data.toList = runesOk b (s.data.toList.drop pos)) ∧ s.size ≤ pos + b) (fun w' => s.size - w'.iterPos w.heap.size)
  case atStart => exact ⟨0, s.size, rfl, Lib.hid (by rw [HSZ.out, List.drop_zero]), by omega⟩
  case round =>
    obtain ⟨pos, b, rfl, HR, hb⟩ := hrel
    by_cases hp : pos < s.size
    · have hnx : ∀ ty, (Instr.next (.pointer (some ⟨w.heap.size, 0, none⟩)) true ty).run Tryd.prog (w.iter s pos) = _ := fun ty => run_next_any w s pos ty hp
      obtain ⟨b', rfl⟩ : ∃ b', b = b' + 1 := ⟨b - 1, by omega⟩
      have hne : s.data.toList.drop pos ≠ [] := by
        intro h
        have := congrArg List.length h
        rw [List.length_drop, HSZ.out] at this
        simp at this; omega
      have hr := HR.out
      rw [runesOk, if_neg hne, decodeL_drop, List.drop_drop] at hr
      have hle := decode_le s pos
      have hwd : 1 ≤ (Utf8.decode s pos).2 := by rw [← decodeL_drop]; exact decodeL_width _
      obtain ⟨r, hrr⟩ : ∃ r, r = (Utf8.decode s pos).1 := ⟨_, rfl⟩
      obtain ⟨wd, hw⟩ : ∃ wd, wd = (Utf8.decode s pos).2 := ⟨_, rfl⟩
      rw [← hrr] at hnx hr hle
      rw [← hw] at hnx hr hwd
      clear hrr hw hne HR
      by_cases hsg : signR r = true
      · rw [hsg, Bool.true_and] at hr
        have HR := Lib.hid hr
        have HS := Lib.hid hsg
        clear hr hsg
        go_wp2_with (go_at_call 20; refine (sign_calls r _ hle).mono ?_; rw [HS.out]; rintro e w' ⟨rfl, rfl⟩)
        go_roundw
        case rel => exact ⟨pos + wd, b', rfl, HR, by omega⟩
        case measure => simp; omega
      · have HF := Lib.hid (show nameB s.data.toList = false by rw [HN.out, hr]; simp [hsg])
        have HS := Lib.hid (show signR r = false by simpa using hsg)
        clear hr hsg
        go_wp2_with (go_at_call 20; refine (sign_calls r _ hle).mono ?_; rw [HS.out]; rintro e w' ⟨rfl, rfl⟩)
        go_ret
        rw [HF.out]
        exact ⟨rfl, below_alloc (Below.refl _ _) _⟩
    · have hnx : ∀ ty, (Instr.next (.pointer (some ⟨w.heap.size, 0, none⟩)) true ty).run Tryd.prog (w.iter s pos) = _ := fun ty => run_next_end w s pos ty hp
      have hend : runesOk b (s.data.toList.drop pos) = true := by
        rw [List.drop_eq_nil_of_le (by rw [HSZ.out]; omega)]
        cases b <;> simp [runesOk]
      have HF := Lib.hid (show nameB s.data.toList = ((decide (1 ≤ s.size) && decide (s.size ≤ 20)) && validD s.data.toList) by rw [HN.out, HR.out, hend, Bool.true_and, HSZ.out])
      have hbel : Below w.heap.size w (w.iter s pos) := below_alloc (Below.refl _ _) _
      have HTT := Lib.hid (HT.out.below hbel)
      have HBL := Lib.hid hbel
      clear hend HR hbel
      by_cases h1 : 1 ≤ s.size
      · by_cases h2 : s.size ≤ 20
        · go_wp2_with (go_at_call 21; refine (HV.out _ HTT.out).mono ?_; rintro e w' ⟨rfl, hb⟩; have HB := Lib.hid hb; clear hb)
          go_ret
          rw [HF.out, decide_eq_true h1, decide_eq_true h2]
          exact ⟨by simp, below_step HBL.out HB.out⟩
        · go_wp2
          go_ret
          rw [HF.out, decide_eq_false h2]
          exact ⟨by simp, HBL.out⟩
      · go_wp2
        go_ret
        rw [HF.out, decide_eq_false h1]
        exact ⟨by simp, HBL.out⟩
end Go.Proofs.YtmdfgjjbllbjmaaDoor
