/-
  The walk of the law NameLonger.
-/
import Derived.Test.YtmdfgjjbllbjmaaDoorPaH
namespace Go.Proofs.YtmdfgjjbllbjmaaDoor
open Go.RowKit Go.Proofs.YtmdfgjjbllbjmaaDoorW.PrintWords Go.Lib

theorem app_data (a b : ByteArray) : (a ++ b).data.toList = a.data.toList ++ b.data.toList := by simp
theorem toList_iff (t : ByteArray) : t.toList = [] ↔ t.data.toList = [] := by rw [ByteArray.toList_eq]
theorem splitR_if {s : ByteArray} (c : Prop) [Decidable c] (xs : List (List UInt8)) (h : pathL s.data.toList = if c then some xs else none) : splitR s = if c then (xs.map mkB, 0) else ([], 4) := by
  by_cases hc : c
  · rw [if_pos hc] at h ⊢; exact splitR_some h
  · rw [if_neg hc] at h ⊢; exact splitR_none h

/-- The walk where s is a path of Lx names, 'more' (M) is split into Lm names (error em), the text behind a stroke into Lt (error et). -/
def LongerSaid (s t : ByteArray) (w : World) : Prop :=
  Calls Tryd.prog 7 #[.string s, .string t] w fun e w' => e = .returned (.bool true) ∧ Below w.heap.size w w'

set_option maxHeartbeats 2000000 in
theorem nameLonger_long (s t : ByteArray) (w : World) (hs : s.size ≤ 9223372036854775807) (ht : t.size ≤ 9223372036854775807) (hT : Tabs w) (hM : Mx w) (h : 500 < s.size ∨ 100 < t.size) : LongerSaid s t w := by
  unfold LongerSaid
  have HT := Lib.hid hT
  have HM := Lib.hid hM
  have HB := Lib.hid (Below.refl w.heap.size w)
  clear hT hM
  by_cases h5 : 500 < s.size
  · have : decide ((500 : Int) < (s.size : Int)) = true := decide_eq_true (by omega)
    clear h
    go_enter Tryd.func7, Tryd.ntmps7
    go_wp2_with (first
      | (go_at_call 9; (refine (awake_calls _ HT.out HM.out).mono ?_); rintro e w1 ⟨rfl, hb⟩; have HBn := Lib.hid (below_step (by repeat (first | (with_reducible exact HB.out) | apply below_alloc | apply pw_below_drewN | apply below_drew1 | exact HB.out)) hb); clear hb HB; have HB := HBn; clear HBn)
      | (fail "no arm"))
    go_ret
    exact ⟨rfl, HB.out⟩
  · have h1 : 100 < t.size := by omega
    clear h
    go_enter Tryd.func7, Tryd.ntmps7
    go_wp2_with (first
      | (go_at_call 9; (refine (awake_calls _ HT.out HM.out).mono ?_); rintro e w1 ⟨rfl, hb⟩; have HBn := Lib.hid (below_step (by repeat (first | (with_reducible exact HB.out) | apply below_alloc | apply pw_below_drewN | apply below_drew1 | exact HB.out)) hb); clear hb HB; have HB := HBn; clear HBn)
      | (fail "no arm"))
    go_ret
    exact ⟨rfl, HB.out⟩

set_option maxHeartbeats 2000000 in
theorem nameLonger_none (s t : ByteArray) (w : World) (h5 : s.size ≤ 500) (h6 : t.size ≤ 100) (hT : Tabs w) (hM : Mx w) (hP : splitR s = ([], 4)) : LongerSaid s t w := by
  unfold LongerSaid
  have h1 := fun w (h : Tabs w) (k : Mx w) => nsplit_calls s w (by omega) h k
  rw [hP] at h1
  have H1 := Lib.hid h1
  have HT := Lib.hid hT
  have HM := Lib.hid hM
  have HB := Lib.hid (Below.refl w.heap.size w)
  clear hT hM h1 hP
  go_enter Tryd.func7, Tryd.ntmps7
  go_wp2_with (first
    | (go_at_call 9; (refine (awake_calls _ HT.out HM.out).mono ?_); rintro e w1 ⟨rfl, hb⟩; have HBn := Lib.hid (below_step (by repeat (first | (with_reducible exact HB.out) | apply below_alloc | apply pw_below_drewN | apply below_drew1 | exact HB.out)) hb); clear hb HB; have HB := HBn; clear HBn)
    | (go_at_call 10; (with_reducible refine Calls.mono (H1.out _ (HT.out.below (by repeat (first | (with_reducible exact HB.out) | apply below_alloc | apply pw_below_drewN | apply below_drew1 | exact HB.out))) (HM.out.below (by repeat (first | (with_reducible exact HB.out) | apply below_alloc | apply pw_below_drewN | apply below_drew1 | exact HB.out)))) ?_); rintro e w2 ⟨A1, c1, rfl, hr, hc1, hb⟩; clear hr; have HBn := Lib.hid (below_step (by repeat (first | (with_reducible exact HB.out) | apply below_alloc | apply pw_below_drewN | apply below_drew1 | exact HB.out)) hb); clear hb HB; have HB := HBn; clear HBn)
    | (fail "no arm"))
  go_ret
  exact ⟨by simp, (by repeat (first | (with_reducible exact HB.out) | apply below_alloc | apply pw_below_drewN | apply below_drew1 | exact HB.out))⟩

set_option maxHeartbeats 2000000 in
theorem nameLonger_main (s t M : ByteArray) (P : List ByteArray) (Lx Lm Lt : Nat) (em et : Int) (w : World) (h5 : s.size ≤ 500) (h6 : t.size ≤ 100) (hT : Tabs w) (hM : Mx w)
    (hP : splitR s = (P, 0)) (hLx : P.length = Lx) (hl1 : Lx ≤ 400) (hMM : (Lx = 0 ∧ M = s ++ t) ∨ (1 ≤ Lx ∧ M = s ++ ⟨#[47]⟩ ++ t))
    (hQ : (splitR M).2 = em) (hLm : (splitR M).1.length = Lm) (hl2 : Lm ≤ 400) (hR : (splitR ((⟨#[47]⟩ : ByteArray) ++ t)).2 = et) (hLt : (splitR ((⟨#[47]⟩ : ByteArray) ++ t)).1.length = Lt) (hl3 : Lt ≤ 400) (b0 : Bool) (hb0 : (t.toList == []) = b0) (hname : b0 = false → et = 0 → nameB t.data.toList = decide (Lt = 1))
    (hcase : (Lx = 0 ∧ b0 = true ∧ em = 0) ∨ (¬ (Lx = 0 ∧ b0 = true) ∧ ((et = 0 ∧ b0 = false ∧ M.size ≤ 400 ∧ em = 0 ∧ Lm = Lx + Lt) ∨ ((et = 4 ∨ b0 = true ∨ 400 < M.size) ∧ (et = 0 ∨ et = 4) ∧ em = 4)))) : LongerSaid s t w := by
  --BEGIN
  unfold LongerSaid
  have h1 := fun w (h : Tabs w) (k : Mx w) => nsplit_calls s w (by omega) h k
  rw [hP] at h1
  simp only [hLx] at h1
  have h2 := fun (hz : M.size ≤ 1000) w (h : Tabs w) (k : Mx w) => nsplit_calls M w (by omega) h k
  rw [hQ] at h2
  simp only [hLm] at h2
  have h3 := fun w (h : Tabs w) (k : Mx w) => nsplit_calls ((⟨#[47]⟩ : ByteArray) ++ t) w (by rw [ByteArray.size_append]; show 1 + t.size ≤ _; omega) h k
  rw [hR] at h3
  simp only [hLt] at h3
  have h4 := fun (he : nameB t.data.toList = decide (Lt = 1)) w (h : Tabs w) => (by have := nright_calls t w (by omega) h; rw [he] at this; exact this : Calls Tryd.prog 12 #[.string t] w fun e w' => e = .returned (.bool (decide (Lt = 1))) ∧ Below w.heap.size w w')
  have hb1 : t.toList.isEmpty = b0 := by rw [← hb0]; cases t.toList <;> rfl
  have hb2 : (t.toList != []) = !b0 := by rw [← hb0]; rfl
  have H1 := Lib.hid h1
  have H3 := Lib.hid h3
  have HT := Lib.hid hT
  have HM := Lib.hid hM
  have HB := Lib.hid (Below.refl w.heap.size w)
  clear hT hM h1 h3 hP hLx hQ hLm hR hLt
  rcases hMM with ⟨rfl, rfl⟩ | ⟨hx, rfl⟩
  · skip
    have hms : (s ++ t).size = s.size + t.size := by rw [ByteArray.size_append]
    rw [hms] at hcase h2
    have H2 := Lib.hid (h2 (by omega))
    clear hms h2
    cases b0
    · rcases hcase with ⟨_, h, _⟩ | ⟨_, ⟨rfl, _, hsz, rfl, rfl⟩ | ⟨hwhy, hev, rfl⟩⟩
      · cases h
      · have h4 := h4 (hname rfl rfl)
        have hd : decide ((s.size : Int) + (t.size : Int) ≤ 400) = true := decide_eq_true (by omega)
        by_cases hone : Lt = 1
        · subst hone
          have H4 := Lib.hid h4
          clear h4 hname
          go_enter Tryd.func7, Tryd.ntmps7
          go_wp2_with (first
            | (go_at_call 9; (refine (awake_calls _ HT.out HM.out).mono ?_); rintro e w1 ⟨rfl, hb⟩; have HBn := Lib.hid (below_step (by repeat (first | (with_reducible exact HB.out) | apply below_alloc | apply pw_below_drewN | apply below_drew1 | exact HB.out)) hb); clear hb HB; have HB := HBn; clear HBn)
            | (go_at_call 10; (with_reducible refine Calls.mono (H1.out _ (HT.out.below (by repeat (first | (with_reducible exact HB.out) | apply below_alloc | apply pw_below_drewN | apply below_drew1 | exact HB.out))) (HM.out.below (by repeat (first | (with_reducible exact HB.out) | apply below_alloc | apply pw_below_drewN | apply below_drew1 | exact HB.out)))) ?_); rintro e w2 ⟨A1, c1, rfl, hr, hc1, hb⟩; clear hr; have HBn := Lib.hid (below_step (by repeat (first | (with_reducible exact HB.out) | apply below_alloc | apply pw_below_drewN | apply below_drew1 | exact HB.out)) hb); clear hb HB; have HB := HBn; clear HBn)
            | (go_at_call 10; (with_reducible refine Calls.mono (H2.out _ (HT.out.below (by repeat (first | (with_reducible exact HB.out) | apply below_alloc | apply pw_below_drewN | apply below_drew1 | exact HB.out))) (HM.out.below (by repeat (first | (with_reducible exact HB.out) | apply below_alloc | apply pw_below_drewN | apply below_drew1 | exact HB.out)))) ?_); rintro e w3 ⟨A2, c2, rfl, hr, hc2, hb⟩; clear hr; have HBn := Lib.hid (below_step (by repeat (first | (with_reducible exact HB.out) | apply below_alloc | apply pw_below_drewN | apply below_drew1 | exact HB.out)) hb); clear hb HB; have HB := HBn; clear HBn)
            | (go_at_call 10; (with_reducible refine Calls.mono (H3.out _ (HT.out.below (by repeat (first | (with_reducible exact HB.out) | apply below_alloc | apply pw_below_drewN | apply below_drew1 | exact HB.out))) (HM.out.below (by repeat (first | (with_reducible exact HB.out) | apply below_alloc | apply pw_below_drewN | apply below_drew1 | exact HB.out)))) ?_); rintro e w4 ⟨A3, c3, rfl, hr, hc3, hb⟩; clear hr; have HBn := Lib.hid (below_step (by repeat (first | (with_reducible exact HB.out) | apply below_alloc | apply pw_below_drewN | apply below_drew1 | exact HB.out)) hb); clear hb HB; have HB := HBn; clear HBn)
            | (go_at_call 12; (refine Calls.mono (H4.out _ (HT.out.below (by repeat (first | (with_reducible exact HB.out) | apply below_alloc | apply pw_below_drewN | apply below_drew1 | exact HB.out)))) ?_); rintro e w5 ⟨rfl, hb⟩; have HBn := Lib.hid (below_step (by repeat (first | (with_reducible exact HB.out) | apply below_alloc | apply pw_below_drewN | apply below_drew1 | exact HB.out)) hb); clear hb HB; have HB := HBn; clear HBn)
            | (fail "no arm"))
          go_ret
          exact ⟨by simp, (by repeat (first | (with_reducible exact HB.out) | apply below_alloc | apply pw_below_drewN | apply below_drew1 | exact HB.out))⟩
        · rw [decide_eq_false hone] at h4
          have q1 : ((Lt : Int) == 1) = false := by rw [beq_eq_false_iff_ne]; omega
          have H4 := Lib.hid h4
          clear h4 hname hone
          go_enter Tryd.func7, Tryd.ntmps7
          go_wp2_with (first
            | (go_at_call 9; (refine (awake_calls _ HT.out HM.out).mono ?_); rintro e w1 ⟨rfl, hb⟩; have HBn := Lib.hid (below_step (by repeat (first | (with_reducible exact HB.out) | apply below_alloc | apply pw_below_drewN | apply below_drew1 | exact HB.out)) hb); clear hb HB; have HB := HBn; clear HBn)
            | (go_at_call 10; (with_reducible refine Calls.mono (H1.out _ (HT.out.below (by repeat (first | (with_reducible exact HB.out) | apply below_alloc | apply pw_below_drewN | apply below_drew1 | exact HB.out))) (HM.out.below (by repeat (first | (with_reducible exact HB.out) | apply below_alloc | apply pw_below_drewN | apply below_drew1 | exact HB.out)))) ?_); rintro e w2 ⟨A1, c1, rfl, hr, hc1, hb⟩; clear hr; have HBn := Lib.hid (below_step (by repeat (first | (with_reducible exact HB.out) | apply below_alloc | apply pw_below_drewN | apply below_drew1 | exact HB.out)) hb); clear hb HB; have HB := HBn; clear HBn)
            | (go_at_call 10; (with_reducible refine Calls.mono (H2.out _ (HT.out.below (by repeat (first | (with_reducible exact HB.out) | apply below_alloc | apply pw_below_drewN | apply below_drew1 | exact HB.out))) (HM.out.below (by repeat (first | (with_reducible exact HB.out) | apply below_alloc | apply pw_below_drewN | apply below_drew1 | exact HB.out)))) ?_); rintro e w3 ⟨A2, c2, rfl, hr, hc2, hb⟩; clear hr; have HBn := Lib.hid (below_step (by repeat (first | (with_reducible exact HB.out) | apply below_alloc | apply pw_below_drewN | apply below_drew1 | exact HB.out)) hb); clear hb HB; have HB := HBn; clear HBn)
            | (go_at_call 10; (with_reducible refine Calls.mono (H3.out _ (HT.out.below (by repeat (first | (with_reducible exact HB.out) | apply below_alloc | apply pw_below_drewN | apply below_drew1 | exact HB.out))) (HM.out.below (by repeat (first | (with_reducible exact HB.out) | apply below_alloc | apply pw_below_drewN | apply below_drew1 | exact HB.out)))) ?_); rintro e w4 ⟨A3, c3, rfl, hr, hc3, hb⟩; clear hr; have HBn := Lib.hid (below_step (by repeat (first | (with_reducible exact HB.out) | apply below_alloc | apply pw_below_drewN | apply below_drew1 | exact HB.out)) hb); clear hb HB; have HB := HBn; clear HBn)
            | (go_at_call 12; (refine Calls.mono (H4.out _ (HT.out.below (by repeat (first | (with_reducible exact HB.out) | apply below_alloc | apply pw_below_drewN | apply below_drew1 | exact HB.out)))) ?_); rintro e w5 ⟨rfl, hb⟩; have HBn := Lib.hid (below_step (by repeat (first | (with_reducible exact HB.out) | apply below_alloc | apply pw_below_drewN | apply below_drew1 | exact HB.out)) hb); clear hb HB; have HB := HBn; clear HBn)
            | (fail "no arm"))
          go_ret
          exact ⟨by simp, (by repeat (first | (with_reducible exact HB.out) | apply below_alloc | apply pw_below_drewN | apply below_drew1 | exact HB.out))⟩
      · clear h4 hname
        rcases hev with rfl | rfl
        · have hsz : 400 < s.size + t.size := by rcases hwhy with h | h | h; (exact absurd h (by decide)); (cases h); exact h
          clear hwhy
          have hd : decide ((s.size : Int) + (t.size : Int) ≤ 400) = false := decide_eq_false (by omega)
          have H4 := Lib.hid True.intro
          go_enter Tryd.func7, Tryd.ntmps7
          go_wp2_with (first
            | (go_at_call 9; (refine (awake_calls _ HT.out HM.out).mono ?_); rintro e w1 ⟨rfl, hb⟩; have HBn := Lib.hid (below_step (by repeat (first | (with_reducible exact HB.out) | apply below_alloc | apply pw_below_drewN | apply below_drew1 | exact HB.out)) hb); clear hb HB; have HB := HBn; clear HBn)
            | (go_at_call 10; (with_reducible refine Calls.mono (H1.out _ (HT.out.below (by repeat (first | (with_reducible exact HB.out) | apply below_alloc | apply pw_below_drewN | apply below_drew1 | exact HB.out))) (HM.out.below (by repeat (first | (with_reducible exact HB.out) | apply below_alloc | apply pw_below_drewN | apply below_drew1 | exact HB.out)))) ?_); rintro e w2 ⟨A1, c1, rfl, hr, hc1, hb⟩; clear hr; have HBn := Lib.hid (below_step (by repeat (first | (with_reducible exact HB.out) | apply below_alloc | apply pw_below_drewN | apply below_drew1 | exact HB.out)) hb); clear hb HB; have HB := HBn; clear HBn)
            | (go_at_call 10; (with_reducible refine Calls.mono (H2.out _ (HT.out.below (by repeat (first | (with_reducible exact HB.out) | apply below_alloc | apply pw_below_drewN | apply below_drew1 | exact HB.out))) (HM.out.below (by repeat (first | (with_reducible exact HB.out) | apply below_alloc | apply pw_below_drewN | apply below_drew1 | exact HB.out)))) ?_); rintro e w3 ⟨A2, c2, rfl, hr, hc2, hb⟩; clear hr; have HBn := Lib.hid (below_step (by repeat (first | (with_reducible exact HB.out) | apply below_alloc | apply pw_below_drewN | apply below_drew1 | exact HB.out)) hb); clear hb HB; have HB := HBn; clear HBn)
            | (go_at_call 10; (with_reducible refine Calls.mono (H3.out _ (HT.out.below (by repeat (first | (with_reducible exact HB.out) | apply below_alloc | apply pw_below_drewN | apply below_drew1 | exact HB.out))) (HM.out.below (by repeat (first | (with_reducible exact HB.out) | apply below_alloc | apply pw_below_drewN | apply below_drew1 | exact HB.out)))) ?_); rintro e w4 ⟨A3, c3, rfl, hr, hc3, hb⟩; clear hr; have HBn := Lib.hid (below_step (by repeat (first | (with_reducible exact HB.out) | apply below_alloc | apply pw_below_drewN | apply below_drew1 | exact HB.out)) hb); clear hb HB; have HB := HBn; clear HBn)
            | (fail; go_at_call 12; (refine Calls.mono (H4.out _ (HT.out.below (by repeat (first | (with_reducible exact HB.out) | apply below_alloc | apply pw_below_drewN | apply below_drew1 | exact HB.out)))) ?_); rintro e w5 ⟨rfl, hb⟩; have HBn := Lib.hid (below_step (by repeat (first | (with_reducible exact HB.out) | apply below_alloc | apply pw_below_drewN | apply below_drew1 | exact HB.out)) hb); clear hb HB; have HB := HBn; clear HBn)
            | (fail "no arm"))
          go_ret
          exact ⟨by simp, (by repeat (first | (with_reducible exact HB.out) | apply below_alloc | apply pw_below_drewN | apply below_drew1 | exact HB.out))⟩
        · clear hwhy
          have H4 := Lib.hid True.intro
          go_enter Tryd.func7, Tryd.ntmps7
          go_wp2_with (first
            | (go_at_call 9; (refine (awake_calls _ HT.out HM.out).mono ?_); rintro e w1 ⟨rfl, hb⟩; have HBn := Lib.hid (below_step (by repeat (first | (with_reducible exact HB.out) | apply below_alloc | apply pw_below_drewN | apply below_drew1 | exact HB.out)) hb); clear hb HB; have HB := HBn; clear HBn)
            | (go_at_call 10; (with_reducible refine Calls.mono (H1.out _ (HT.out.below (by repeat (first | (with_reducible exact HB.out) | apply below_alloc | apply pw_below_drewN | apply below_drew1 | exact HB.out))) (HM.out.below (by repeat (first | (with_reducible exact HB.out) | apply below_alloc | apply pw_below_drewN | apply below_drew1 | exact HB.out)))) ?_); rintro e w2 ⟨A1, c1, rfl, hr, hc1, hb⟩; clear hr; have HBn := Lib.hid (below_step (by repeat (first | (with_reducible exact HB.out) | apply below_alloc | apply pw_below_drewN | apply below_drew1 | exact HB.out)) hb); clear hb HB; have HB := HBn; clear HBn)
            | (go_at_call 10; (with_reducible refine Calls.mono (H2.out _ (HT.out.below (by repeat (first | (with_reducible exact HB.out) | apply below_alloc | apply pw_below_drewN | apply below_drew1 | exact HB.out))) (HM.out.below (by repeat (first | (with_reducible exact HB.out) | apply below_alloc | apply pw_below_drewN | apply below_drew1 | exact HB.out)))) ?_); rintro e w3 ⟨A2, c2, rfl, hr, hc2, hb⟩; clear hr; have HBn := Lib.hid (below_step (by repeat (first | (with_reducible exact HB.out) | apply below_alloc | apply pw_below_drewN | apply below_drew1 | exact HB.out)) hb); clear hb HB; have HB := HBn; clear HBn)
            | (go_at_call 10; (with_reducible refine Calls.mono (H3.out _ (HT.out.below (by repeat (first | (with_reducible exact HB.out) | apply below_alloc | apply pw_below_drewN | apply below_drew1 | exact HB.out))) (HM.out.below (by repeat (first | (with_reducible exact HB.out) | apply below_alloc | apply pw_below_drewN | apply below_drew1 | exact HB.out)))) ?_); rintro e w4 ⟨A3, c3, rfl, hr, hc3, hb⟩; clear hr; have HBn := Lib.hid (below_step (by repeat (first | (with_reducible exact HB.out) | apply below_alloc | apply pw_below_drewN | apply below_drew1 | exact HB.out)) hb); clear hb HB; have HB := HBn; clear HBn)
            | (fail; go_at_call 12; (refine Calls.mono (H4.out _ (HT.out.below (by repeat (first | (with_reducible exact HB.out) | apply below_alloc | apply pw_below_drewN | apply below_drew1 | exact HB.out)))) ?_); rintro e w5 ⟨rfl, hb⟩; have HBn := Lib.hid (below_step (by repeat (first | (with_reducible exact HB.out) | apply below_alloc | apply pw_below_drewN | apply below_drew1 | exact HB.out)) hb); clear hb HB; have HB := HBn; clear HBn)
            | (fail "no arm"))
          go_ret
          exact ⟨by simp, (by repeat (first | (with_reducible exact HB.out) | apply below_alloc | apply pw_below_drewN | apply below_drew1 | exact HB.out))⟩
    · rcases hcase with ⟨_, _, rfl⟩ | ⟨h, _⟩
      · clear h4 hname
        go_enter Tryd.func7, Tryd.ntmps7
        go_wp2_with (first
          | (go_at_call 9; (refine (awake_calls _ HT.out HM.out).mono ?_); rintro e w1 ⟨rfl, hb⟩; have HBn := Lib.hid (below_step (by repeat (first | (with_reducible exact HB.out) | apply below_alloc | apply pw_below_drewN | apply below_drew1 | exact HB.out)) hb); clear hb HB; have HB := HBn; clear HBn)
          | (go_at_call 10; (with_reducible refine Calls.mono (H1.out _ (HT.out.below (by repeat (first | (with_reducible exact HB.out) | apply below_alloc | apply pw_below_drewN | apply below_drew1 | exact HB.out))) (HM.out.below (by repeat (first | (with_reducible exact HB.out) | apply below_alloc | apply pw_below_drewN | apply below_drew1 | exact HB.out)))) ?_); rintro e w2 ⟨A1, c1, rfl, hr, hc1, hb⟩; clear hr; have HBn := Lib.hid (below_step (by repeat (first | (with_reducible exact HB.out) | apply below_alloc | apply pw_below_drewN | apply below_drew1 | exact HB.out)) hb); clear hb HB; have HB := HBn; clear HBn)
          | (go_at_call 10; (with_reducible refine Calls.mono (H2.out _ (HT.out.below (by repeat (first | (with_reducible exact HB.out) | apply below_alloc | apply pw_below_drewN | apply below_drew1 | exact HB.out))) (HM.out.below (by repeat (first | (with_reducible exact HB.out) | apply below_alloc | apply pw_below_drewN | apply below_drew1 | exact HB.out)))) ?_); rintro e w3 ⟨A2, c2, rfl, hr, hc2, hb⟩; clear hr; have HBn := Lib.hid (below_step (by repeat (first | (with_reducible exact HB.out) | apply below_alloc | apply pw_below_drewN | apply below_drew1 | exact HB.out)) hb); clear hb HB; have HB := HBn; clear HBn)
          | (go_at_call 10; (with_reducible refine Calls.mono (H3.out _ (HT.out.below (by repeat (first | (with_reducible exact HB.out) | apply below_alloc | apply pw_below_drewN | apply below_drew1 | exact HB.out))) (HM.out.below (by repeat (first | (with_reducible exact HB.out) | apply below_alloc | apply pw_below_drewN | apply below_drew1 | exact HB.out)))) ?_); rintro e w4 ⟨A3, c3, rfl, hr, hc3, hb⟩; clear hr; have HBn := Lib.hid (below_step (by repeat (first | (with_reducible exact HB.out) | apply below_alloc | apply pw_below_drewN | apply below_drew1 | exact HB.out)) hb); clear hb HB; have HB := HBn; clear HBn)
          | (fail; go_at_call 12; (refine Calls.mono (H4.out _ (HT.out.below (by repeat (first | (with_reducible exact HB.out) | apply below_alloc | apply pw_below_drewN | apply below_drew1 | exact HB.out)))) ?_); rintro e w5 ⟨rfl, hb⟩; have HBn := Lib.hid (below_step (by repeat (first | (with_reducible exact HB.out) | apply below_alloc | apply pw_below_drewN | apply below_drew1 | exact HB.out)) hb); clear hb HB; have HB := HBn; clear HBn)
          | (fail "no arm"))
        go_ret
        exact ⟨by simp, (by repeat (first | (with_reducible exact HB.out) | apply below_alloc | apply pw_below_drewN | apply below_drew1 | exact HB.out))⟩
      · exact absurd ⟨rfl, rfl⟩ h
  · have hx0 : ((Lx : Int) == 0) = false := by rw [beq_eq_false_iff_ne]; omega
    have hms : (s ++ ⟨#[47]⟩ ++ t).size = s.size + 1 + t.size := by rw [ByteArray.size_append, ByteArray.size_append]; rfl
    rw [hms] at hcase h2
    have H2 := Lib.hid (h2 (by omega))
    clear hms h2
    cases b0
    · rcases hcase with ⟨_, h, _⟩ | ⟨_, ⟨rfl, _, hsz, rfl, rfl⟩ | ⟨hwhy, hev, rfl⟩⟩
      · cases h
      · have h4 := h4 (hname rfl rfl)
        have hd : decide ((s.size : Int) + 1 + (t.size : Int) ≤ 400) = true := decide_eq_true (by omega)
        by_cases hone : Lt = 1
        · subst hone
          have H4 := Lib.hid h4
          clear h4 hname
          go_enter Tryd.func7, Tryd.ntmps7
          go_wp2_with (first
            | (go_at_call 9; (refine (awake_calls _ HT.out HM.out).mono ?_); rintro e w1 ⟨rfl, hb⟩; have HBn := Lib.hid (below_step (by repeat (first | (with_reducible exact HB.out) | apply below_alloc | apply pw_below_drewN | apply below_drew1 | exact HB.out)) hb); clear hb HB; have HB := HBn; clear HBn)
            | (go_at_call 10; (with_reducible refine Calls.mono (H1.out _ (HT.out.below (by repeat (first | (with_reducible exact HB.out) | apply below_alloc | apply pw_below_drewN | apply below_drew1 | exact HB.out))) (HM.out.below (by repeat (first | (with_reducible exact HB.out) | apply below_alloc | apply pw_below_drewN | apply below_drew1 | exact HB.out)))) ?_); rintro e w2 ⟨A1, c1, rfl, hr, hc1, hb⟩; clear hr; have HBn := Lib.hid (below_step (by repeat (first | (with_reducible exact HB.out) | apply below_alloc | apply pw_below_drewN | apply below_drew1 | exact HB.out)) hb); clear hb HB; have HB := HBn; clear HBn)
            | (go_at_call 10; (with_reducible refine Calls.mono (H2.out _ (HT.out.below (by repeat (first | (with_reducible exact HB.out) | apply below_alloc | apply pw_below_drewN | apply below_drew1 | exact HB.out))) (HM.out.below (by repeat (first | (with_reducible exact HB.out) | apply below_alloc | apply pw_below_drewN | apply below_drew1 | exact HB.out)))) ?_); rintro e w3 ⟨A2, c2, rfl, hr, hc2, hb⟩; clear hr; have HBn := Lib.hid (below_step (by repeat (first | (with_reducible exact HB.out) | apply below_alloc | apply pw_below_drewN | apply below_drew1 | exact HB.out)) hb); clear hb HB; have HB := HBn; clear HBn)
            | (go_at_call 10; (with_reducible refine Calls.mono (H3.out _ (HT.out.below (by repeat (first | (with_reducible exact HB.out) | apply below_alloc | apply pw_below_drewN | apply below_drew1 | exact HB.out))) (HM.out.below (by repeat (first | (with_reducible exact HB.out) | apply below_alloc | apply pw_below_drewN | apply below_drew1 | exact HB.out)))) ?_); rintro e w4 ⟨A3, c3, rfl, hr, hc3, hb⟩; clear hr; have HBn := Lib.hid (below_step (by repeat (first | (with_reducible exact HB.out) | apply below_alloc | apply pw_below_drewN | apply below_drew1 | exact HB.out)) hb); clear hb HB; have HB := HBn; clear HBn)
            | (go_at_call 12; (refine Calls.mono (H4.out _ (HT.out.below (by repeat (first | (with_reducible exact HB.out) | apply below_alloc | apply pw_below_drewN | apply below_drew1 | exact HB.out)))) ?_); rintro e w5 ⟨rfl, hb⟩; have HBn := Lib.hid (below_step (by repeat (first | (with_reducible exact HB.out) | apply below_alloc | apply pw_below_drewN | apply below_drew1 | exact HB.out)) hb); clear hb HB; have HB := HBn; clear HBn)
            | (fail "no arm"))
          go_ret
          exact ⟨by simp, (by repeat (first | (with_reducible exact HB.out) | apply below_alloc | apply pw_below_drewN | apply below_drew1 | exact HB.out))⟩
        · rw [decide_eq_false hone] at h4
          have q1 : ((Lt : Int) == 1) = false := by rw [beq_eq_false_iff_ne]; omega
          have H4 := Lib.hid h4
          clear h4 hname hone
          go_enter Tryd.func7, Tryd.ntmps7
          go_wp2_with (first
            | (go_at_call 9; (refine (awake_calls _ HT.out HM.out).mono ?_); rintro e w1 ⟨rfl, hb⟩; have HBn := Lib.hid (below_step (by repeat (first | (with_reducible exact HB.out) | apply below_alloc | apply pw_below_drewN | apply below_drew1 | exact HB.out)) hb); clear hb HB; have HB := HBn; clear HBn)
            | (go_at_call 10; (with_reducible refine Calls.mono (H1.out _ (HT.out.below (by repeat (first | (with_reducible exact HB.out) | apply below_alloc | apply pw_below_drewN | apply below_drew1 | exact HB.out))) (HM.out.below (by repeat (first | (with_reducible exact HB.out) | apply below_alloc | apply pw_below_drewN | apply below_drew1 | exact HB.out)))) ?_); rintro e w2 ⟨A1, c1, rfl, hr, hc1, hb⟩; clear hr; have HBn := Lib.hid (below_step (by repeat (first | (with_reducible exact HB.out) | apply below_alloc | apply pw_below_drewN | apply below_drew1 | exact HB.out)) hb); clear hb HB; have HB := HBn; clear HBn)
            | (go_at_call 10; (with_reducible refine Calls.mono (H2.out _ (HT.out.below (by repeat (first | (with_reducible exact HB.out) | apply below_alloc | apply pw_below_drewN | apply below_drew1 | exact HB.out))) (HM.out.below (by repeat (first | (with_reducible exact HB.out) | apply below_alloc | apply pw_below_drewN | apply below_drew1 | exact HB.out)))) ?_); rintro e w3 ⟨A2, c2, rfl, hr, hc2, hb⟩; clear hr; have HBn := Lib.hid (below_step (by repeat (first | (with_reducible exact HB.out) | apply below_alloc | apply pw_below_drewN | apply below_drew1 | exact HB.out)) hb); clear hb HB; have HB := HBn; clear HBn)
            | (go_at_call 10; (with_reducible refine Calls.mono (H3.out _ (HT.out.below (by repeat (first | (with_reducible exact HB.out) | apply below_alloc | apply pw_below_drewN | apply below_drew1 | exact HB.out))) (HM.out.below (by repeat (first | (with_reducible exact HB.out) | apply below_alloc | apply pw_below_drewN | apply below_drew1 | exact HB.out)))) ?_); rintro e w4 ⟨A3, c3, rfl, hr, hc3, hb⟩; clear hr; have HBn := Lib.hid (below_step (by repeat (first | (with_reducible exact HB.out) | apply below_alloc | apply pw_below_drewN | apply below_drew1 | exact HB.out)) hb); clear hb HB; have HB := HBn; clear HBn)
            | (go_at_call 12; (refine Calls.mono (H4.out _ (HT.out.below (by repeat (first | (with_reducible exact HB.out) | apply below_alloc | apply pw_below_drewN | apply below_drew1 | exact HB.out)))) ?_); rintro e w5 ⟨rfl, hb⟩; have HBn := Lib.hid (below_step (by repeat (first | (with_reducible exact HB.out) | apply below_alloc | apply pw_below_drewN | apply below_drew1 | exact HB.out)) hb); clear hb HB; have HB := HBn; clear HBn)
            | (fail "no arm"))
          go_ret
          exact ⟨by simp, (by repeat (first | (with_reducible exact HB.out) | apply below_alloc | apply pw_below_drewN | apply below_drew1 | exact HB.out))⟩
      · clear h4 hname
        rcases hev with rfl | rfl
        · have hsz : 400 < s.size + 1 + t.size := by rcases hwhy with h | h | h; (exact absurd h (by decide)); (cases h); exact h
          clear hwhy
          have hd : decide ((s.size : Int) + 1 + (t.size : Int) ≤ 400) = false := decide_eq_false (by omega)
          have H4 := Lib.hid True.intro
          go_enter Tryd.func7, Tryd.ntmps7
          go_wp2_with (first
            | (go_at_call 9; (refine (awake_calls _ HT.out HM.out).mono ?_); rintro e w1 ⟨rfl, hb⟩; have HBn := Lib.hid (below_step (by repeat (first | (with_reducible exact HB.out) | apply below_alloc | apply pw_below_drewN | apply below_drew1 | exact HB.out)) hb); clear hb HB; have HB := HBn; clear HBn)
            | (go_at_call 10; (with_reducible refine Calls.mono (H1.out _ (HT.out.below (by repeat (first | (with_reducible exact HB.out) | apply below_alloc | apply pw_below_drewN | apply below_drew1 | exact HB.out))) (HM.out.below (by repeat (first | (with_reducible exact HB.out) | apply below_alloc | apply pw_below_drewN | apply below_drew1 | exact HB.out)))) ?_); rintro e w2 ⟨A1, c1, rfl, hr, hc1, hb⟩; clear hr; have HBn := Lib.hid (below_step (by repeat (first | (with_reducible exact HB.out) | apply below_alloc | apply pw_below_drewN | apply below_drew1 | exact HB.out)) hb); clear hb HB; have HB := HBn; clear HBn)
            | (go_at_call 10; (with_reducible refine Calls.mono (H2.out _ (HT.out.below (by repeat (first | (with_reducible exact HB.out) | apply below_alloc | apply pw_below_drewN | apply below_drew1 | exact HB.out))) (HM.out.below (by repeat (first | (with_reducible exact HB.out) | apply below_alloc | apply pw_below_drewN | apply below_drew1 | exact HB.out)))) ?_); rintro e w3 ⟨A2, c2, rfl, hr, hc2, hb⟩; clear hr; have HBn := Lib.hid (below_step (by repeat (first | (with_reducible exact HB.out) | apply below_alloc | apply pw_below_drewN | apply below_drew1 | exact HB.out)) hb); clear hb HB; have HB := HBn; clear HBn)
            | (go_at_call 10; (with_reducible refine Calls.mono (H3.out _ (HT.out.below (by repeat (first | (with_reducible exact HB.out) | apply below_alloc | apply pw_below_drewN | apply below_drew1 | exact HB.out))) (HM.out.below (by repeat (first | (with_reducible exact HB.out) | apply below_alloc | apply pw_below_drewN | apply below_drew1 | exact HB.out)))) ?_); rintro e w4 ⟨A3, c3, rfl, hr, hc3, hb⟩; clear hr; have HBn := Lib.hid (below_step (by repeat (first | (with_reducible exact HB.out) | apply below_alloc | apply pw_below_drewN | apply below_drew1 | exact HB.out)) hb); clear hb HB; have HB := HBn; clear HBn)
            | (fail; go_at_call 12; (refine Calls.mono (H4.out _ (HT.out.below (by repeat (first | (with_reducible exact HB.out) | apply below_alloc | apply pw_below_drewN | apply below_drew1 | exact HB.out)))) ?_); rintro e w5 ⟨rfl, hb⟩; have HBn := Lib.hid (below_step (by repeat (first | (with_reducible exact HB.out) | apply below_alloc | apply pw_below_drewN | apply below_drew1 | exact HB.out)) hb); clear hb HB; have HB := HBn; clear HBn)
            | (fail "no arm"))
          go_ret
          exact ⟨by simp, (by repeat (first | (with_reducible exact HB.out) | apply below_alloc | apply pw_below_drewN | apply below_drew1 | exact HB.out))⟩
        · clear hwhy
          have H4 := Lib.hid True.intro
          go_enter Tryd.func7, Tryd.ntmps7
          go_wp2_with (first
            | (go_at_call 9; (refine (awake_calls _ HT.out HM.out).mono ?_); rintro e w1 ⟨rfl, hb⟩; have HBn := Lib.hid (below_step (by repeat (first | (with_reducible exact HB.out) | apply below_alloc | apply pw_below_drewN | apply below_drew1 | exact HB.out)) hb); clear hb HB; have HB := HBn; clear HBn)
            | (go_at_call 10; (with_reducible refine Calls.mono (H1.out _ (HT.out.below (by repeat (first | (with_reducible exact HB.out) | apply below_alloc | apply pw_below_drewN | apply below_drew1 | exact HB.out))) (HM.out.below (by repeat (first | (with_reducible exact HB.out) | apply below_alloc | apply pw_below_drewN | apply below_drew1 | exact HB.out)))) ?_); rintro e w2 ⟨A1, c1, rfl, hr, hc1, hb⟩; clear hr; have HBn := Lib.hid (below_step (by repeat (first | (with_reducible exact HB.out) | apply below_alloc | apply pw_below_drewN | apply below_drew1 | exact HB.out)) hb); clear hb HB; have HB := HBn; clear HBn)
            | (go_at_call 10; (with_reducible refine Calls.mono (H2.out _ (HT.out.below (by repeat (first | (with_reducible exact HB.out) | apply below_alloc | apply pw_below_drewN | apply below_drew1 | exact HB.out))) (HM.out.below (by repeat (first | (with_reducible exact HB.out) | apply below_alloc | apply pw_below_drewN | apply below_drew1 | exact HB.out)))) ?_); rintro e w3 ⟨A2, c2, rfl, hr, hc2, hb⟩; clear hr; have HBn := Lib.hid (below_step (by repeat (first | (with_reducible exact HB.out) | apply below_alloc | apply pw_below_drewN | apply below_drew1 | exact HB.out)) hb); clear hb HB; have HB := HBn; clear HBn)
            | (go_at_call 10; (with_reducible refine Calls.mono (H3.out _ (HT.out.below (by repeat (first | (with_reducible exact HB.out) | apply below_alloc | apply pw_below_drewN | apply below_drew1 | exact HB.out))) (HM.out.below (by repeat (first | (with_reducible exact HB.out) | apply below_alloc | apply pw_below_drewN | apply below_drew1 | exact HB.out)))) ?_); rintro e w4 ⟨A3, c3, rfl, hr, hc3, hb⟩; clear hr; have HBn := Lib.hid (below_step (by repeat (first | (with_reducible exact HB.out) | apply below_alloc | apply pw_below_drewN | apply below_drew1 | exact HB.out)) hb); clear hb HB; have HB := HBn; clear HBn)
            | (fail; go_at_call 12; (refine Calls.mono (H4.out _ (HT.out.below (by repeat (first | (with_reducible exact HB.out) | apply below_alloc | apply pw_below_drewN | apply below_drew1 | exact HB.out)))) ?_); rintro e w5 ⟨rfl, hb⟩; have HBn := Lib.hid (below_step (by repeat (first | (with_reducible exact HB.out) | apply below_alloc | apply pw_below_drewN | apply below_drew1 | exact HB.out)) hb); clear hb HB; have HB := HBn; clear HBn)
            | (fail "no arm"))
          go_ret
          exact ⟨by simp, (by repeat (first | (with_reducible exact HB.out) | apply below_alloc | apply pw_below_drewN | apply below_drew1 | exact HB.out))⟩
    · rcases hcase with ⟨h, _, _⟩ | ⟨_, ⟨_, h, _⟩ | ⟨_, hev, rfl⟩⟩
      · omega
      · cases h
      · clear h4 hname
        rcases hev with rfl | rfl
        · go_enter Tryd.func7, Tryd.ntmps7
          go_wp2_with (first
            | (go_at_call 9; (refine (awake_calls _ HT.out HM.out).mono ?_); rintro e w1 ⟨rfl, hb⟩; have HBn := Lib.hid (below_step (by repeat (first | (with_reducible exact HB.out) | apply below_alloc | apply pw_below_drewN | apply below_drew1 | exact HB.out)) hb); clear hb HB; have HB := HBn; clear HBn)
            | (go_at_call 10; (with_reducible refine Calls.mono (H1.out _ (HT.out.below (by repeat (first | (with_reducible exact HB.out) | apply below_alloc | apply pw_below_drewN | apply below_drew1 | exact HB.out))) (HM.out.below (by repeat (first | (with_reducible exact HB.out) | apply below_alloc | apply pw_below_drewN | apply below_drew1 | exact HB.out)))) ?_); rintro e w2 ⟨A1, c1, rfl, hr, hc1, hb⟩; clear hr; have HBn := Lib.hid (below_step (by repeat (first | (with_reducible exact HB.out) | apply below_alloc | apply pw_below_drewN | apply below_drew1 | exact HB.out)) hb); clear hb HB; have HB := HBn; clear HBn)
            | (go_at_call 10; (with_reducible refine Calls.mono (H2.out _ (HT.out.below (by repeat (first | (with_reducible exact HB.out) | apply below_alloc | apply pw_below_drewN | apply below_drew1 | exact HB.out))) (HM.out.below (by repeat (first | (with_reducible exact HB.out) | apply below_alloc | apply pw_below_drewN | apply below_drew1 | exact HB.out)))) ?_); rintro e w3 ⟨A2, c2, rfl, hr, hc2, hb⟩; clear hr; have HBn := Lib.hid (below_step (by repeat (first | (with_reducible exact HB.out) | apply below_alloc | apply pw_below_drewN | apply below_drew1 | exact HB.out)) hb); clear hb HB; have HB := HBn; clear HBn)
            | (go_at_call 10; (with_reducible refine Calls.mono (H3.out _ (HT.out.below (by repeat (first | (with_reducible exact HB.out) | apply below_alloc | apply pw_below_drewN | apply below_drew1 | exact HB.out))) (HM.out.below (by repeat (first | (with_reducible exact HB.out) | apply below_alloc | apply pw_below_drewN | apply below_drew1 | exact HB.out)))) ?_); rintro e w4 ⟨A3, c3, rfl, hr, hc3, hb⟩; clear hr; have HBn := Lib.hid (below_step (by repeat (first | (with_reducible exact HB.out) | apply below_alloc | apply pw_below_drewN | apply below_drew1 | exact HB.out)) hb); clear hb HB; have HB := HBn; clear HBn)
            | (fail; go_at_call 12; (refine Calls.mono (H4.out _ (HT.out.below (by repeat (first | (with_reducible exact HB.out) | apply below_alloc | apply pw_below_drewN | apply below_drew1 | exact HB.out)))) ?_); rintro e w5 ⟨rfl, hb⟩; have HBn := Lib.hid (below_step (by repeat (first | (with_reducible exact HB.out) | apply below_alloc | apply pw_below_drewN | apply below_drew1 | exact HB.out)) hb); clear hb HB; have HB := HBn; clear HBn)
            | (fail "no arm"))
          go_ret
          exact ⟨by simp, (by repeat (first | (with_reducible exact HB.out) | apply below_alloc | apply pw_below_drewN | apply below_drew1 | exact HB.out))⟩
        · go_enter Tryd.func7, Tryd.ntmps7
          go_wp2_with (first
            | (go_at_call 9; (refine (awake_calls _ HT.out HM.out).mono ?_); rintro e w1 ⟨rfl, hb⟩; have HBn := Lib.hid (below_step (by repeat (first | (with_reducible exact HB.out) | apply below_alloc | apply pw_below_drewN | apply below_drew1 | exact HB.out)) hb); clear hb HB; have HB := HBn; clear HBn)
            | (go_at_call 10; (with_reducible refine Calls.mono (H1.out _ (HT.out.below (by repeat (first | (with_reducible exact HB.out) | apply below_alloc | apply pw_below_drewN | apply below_drew1 | exact HB.out))) (HM.out.below (by repeat (first | (with_reducible exact HB.out) | apply below_alloc | apply pw_below_drewN | apply below_drew1 | exact HB.out)))) ?_); rintro e w2 ⟨A1, c1, rfl, hr, hc1, hb⟩; clear hr; have HBn := Lib.hid (below_step (by repeat (first | (with_reducible exact HB.out) | apply below_alloc | apply pw_below_drewN | apply below_drew1 | exact HB.out)) hb); clear hb HB; have HB := HBn; clear HBn)
            | (go_at_call 10; (with_reducible refine Calls.mono (H2.out _ (HT.out.below (by repeat (first | (with_reducible exact HB.out) | apply below_alloc | apply pw_below_drewN | apply below_drew1 | exact HB.out))) (HM.out.below (by repeat (first | (with_reducible exact HB.out) | apply below_alloc | apply pw_below_drewN | apply below_drew1 | exact HB.out)))) ?_); rintro e w3 ⟨A2, c2, rfl, hr, hc2, hb⟩; clear hr; have HBn := Lib.hid (below_step (by repeat (first | (with_reducible exact HB.out) | apply below_alloc | apply pw_below_drewN | apply below_drew1 | exact HB.out)) hb); clear hb HB; have HB := HBn; clear HBn)
            | (go_at_call 10; (with_reducible refine Calls.mono (H3.out _ (HT.out.below (by repeat (first | (with_reducible exact HB.out) | apply below_alloc | apply pw_below_drewN | apply below_drew1 | exact HB.out))) (HM.out.below (by repeat (first | (with_reducible exact HB.out) | apply below_alloc | apply pw_below_drewN | apply below_drew1 | exact HB.out)))) ?_); rintro e w4 ⟨A3, c3, rfl, hr, hc3, hb⟩; clear hr; have HBn := Lib.hid (below_step (by repeat (first | (with_reducible exact HB.out) | apply below_alloc | apply pw_below_drewN | apply below_drew1 | exact HB.out)) hb); clear hb HB; have HB := HBn; clear HBn)
            | (fail; go_at_call 12; (refine Calls.mono (H4.out _ (HT.out.below (by repeat (first | (with_reducible exact HB.out) | apply below_alloc | apply pw_below_drewN | apply below_drew1 | exact HB.out)))) ?_); rintro e w5 ⟨rfl, hb⟩; have HBn := Lib.hid (below_step (by repeat (first | (with_reducible exact HB.out) | apply below_alloc | apply pw_below_drewN | apply below_drew1 | exact HB.out)) hb); clear hb HB; have HB := HBn; clear HBn)
            | (fail "no arm"))
          go_ret
          exact ⟨by simp, (by repeat (first | (with_reducible exact HB.out) | apply below_alloc | apply pw_below_drewN | apply below_drew1 | exact HB.out))⟩

theorem nameLonger_walk (s t : ByteArray) (w : World) (hs : s.size ≤ 9223372036854775807) (ht : t.size ≤ 9223372036854775807) (hT : Tabs w) (hM : Mx w) :
    Calls Tryd.prog 7 #[.string s, .string t] w fun e w' => e = .returned (.bool true) ∧ Below w.heap.size w w' := by
  show LongerSaid s t w
  by_cases h : 500 < s.size ∨ 100 < t.size
  · exact nameLonger_long s t w hs ht hT hM h
  · have h5 : s.size ≤ 500 := by omega
    have h6 : t.size ≤ 100 := by omega
    cases hp : pathL s.data.toList with
    | none => exact nameLonger_none s t w h5 h6 hT hM (splitR_none hp)
    | some xs =>
      have htl : t.data.toList.length ≤ 100 := by rw [Array.length_toList]; exact h6
      obtain ⟨M, hMd⟩ : ∃ M : ByteArray, M = if xs = [] then s ++ t else s ++ ⟨#[47]⟩ ++ t := ⟨_, rfl⟩
      have hMl : M.data.toList = if xs = [] then s.data.toList ++ t.data.toList else s.data.toList ++ 47 :: t.data.toList := by
        rw [hMd]
        by_cases hx : xs = []
        · rw [if_pos hx, if_pos hx, app_data]
        · rw [if_neg hx, if_neg hx, app_data, app_data, List.append_assoc]; rfl
      have hMs : M.data.toList.length = M.size := by rw [Array.length_toList]; rfl
      have hlaw := longer_law hp M.data.toList hMl
      have hpart : t.data.toList ≠ [] → splitR ((⟨#[47]⟩ : ByteArray) ++ t) = if (segs t.data.toList).all nameB = true then ((segs t.data.toList).map mkB, 0) else ([], 4) := fun h0 => splitR_if _ _ (by rw [app_data]; exact part_law t h0 htl)
      have hsl := (splitR_len s).1
      rw [splitR_some hp] at hsl
      refine nameLonger_main s t M (xs.map mkB) xs.length _ _ _ _ w h5 h6 hT hM (splitR_some hp) (by simp) (by simpa using hsl) ?_ rfl rfl (splitR_len M).1 rfl rfl (splitR_len _).1 (t.toList == []) rfl ?_ ?_
      · by_cases hx : xs = []
        · exact .inl ⟨by rw [hx]; rfl, by rw [hMd, if_pos hx]⟩
        · exact .inr ⟨List.length_pos_iff.2 hx, by rw [hMd, if_neg hx]⟩
      · intro hb he
        have h0 : t.data.toList ≠ [] := by rw [← ByteArray.toList_eq]; exact beq_eq_false_iff_ne.1 hb
        have hpt := hpart h0
        by_cases hall : (segs t.data.toList).all nameB = true
        · rw [if_pos hall] at hpt
          rw [hpt, List.length_map]
          exact one_law _ hall
        · rw [if_neg hall] at hpt
          rw [hpt] at he
          cases he
      · rcases hlaw with ⟨hx, h0, hM0⟩ | ⟨hn, hM0⟩
        · exact .inl ⟨by rw [hx]; rfl, by rw [ByteArray.toList_eq, h0]; rfl, by rw [splitR_some hM0]⟩
        · refine .inr ⟨fun ⟨h1, h2⟩ => hn ⟨List.length_eq_zero_iff.1 h1, by rw [← ByteArray.toList_eq]; exact beq_iff_eq.1 h2⟩, ?_⟩
          rw [hMs] at hM0
          by_cases h0 : t.data.toList = []
          · refine .inr ⟨.inr (.inl (by rw [ByteArray.toList_eq, h0]; rfl)), ?_, ?_⟩
            · by_cases h : (splitR ((⟨#[47]⟩ : ByteArray) ++ t)).2 = 0
              · exact .inl h
              · rw [splitR_err h]; exact .inr rfl
            · rw [h0] at hM0
              have hseg : ¬ ((segs []).all nameB = true) := by decide +kernel
              rw [if_neg hseg, ite_self] at hM0
              rw [splitR_none hM0]
          · have hpt := hpart h0
            have hb : (t.toList == []) = false := beq_eq_false_iff_ne.2 (by rw [ByteArray.toList_eq]; exact h0)
            by_cases hall : (segs t.data.toList).all nameB = true
            · rw [if_pos hall] at hpt hM0
              by_cases hlen : M.size ≤ 400
              · rw [if_pos hlen] at hM0
                refine .inl ⟨by rw [hpt], hb, hlen, by rw [splitR_some hM0], ?_⟩
                rw [splitR_some hM0, hpt]
                simp
              · rw [if_neg hlen] at hM0
                exact .inr ⟨.inr (.inr (by omega)), .inl (by rw [hpt]), by rw [splitR_none hM0]⟩
            · rw [if_neg hall] at hpt hM0
              rw [ite_self] at hM0
              exact .inr ⟨.inl (by rw [hpt]), .inr (by rw [hpt]), by rw [splitR_none hM0]⟩
end Go.Proofs.YtmdfgjjbllbjmaaDoor
