/-
  What package name's Join and Cut come to, and the reference's Join and Texts.
-/
import Derived.Test.YtmdfgjjbllbjmaaDoorNmD
import Derived.Test.YtmdfgjjbllbjmaaDoorPaC
namespace Go.Proofs.YtmdfgjjbllbjmaaDoor
open Go.RowKit Go.Proofs.YtmdfgjjbllbjmaaDoorW.PrintWords Go.Lib

abbrev datas (xs : List ByteArray) : List (List UInt8) := xs.map (·.data.toList)
/-- Names' path, or none, and the error. -/
def joinR (xs : List ByteArray) : ByteArray × Int := match joinP (datas xs) with
  | none => (⟨#[]⟩, 4)
  | some l => (mkB l, 0)
theorem spot_none {w : World} {a : Addr} {v : Value} (h : w.cell? a = some v) : a = ⟨a.block, a.off, none⟩ := by
  obtain ⟨b, o, s⟩ := a
  cases s with
  | none => rfl
  | some k =>
    unfold World.cell? at h
    split at h
    · simp at h
    · cases h
theorem strokes_len (xs : List (List UInt8)) : xs.length ≤ (strokes xs).length := by
  induction xs with
  | nil => simp
  | cons x xs ih => simp only [strokes, List.flatMap_cons, List.length_append, List.length_cons] at ih ⊢; omega
theorem pathS_len (xs : List (List UInt8)) : xs.length ≤ (pathS xs).length := by
  unfold pathS
  split
  · rename_i h; rw [h]; simp
  · exact strokes_len xs
theorem join_len (xs : List (List UInt8)) : (join xs [47]).length + 1 = (pathS xs).length := by
  rw [← stroke_join]; rfl

theorem sjoin_calls (A : Option Addr) (c : Nat) (xs : List ByteArray) (w : World) (hr : ReadsStr w A xs.length xs) (hc : xs.length ≤ c) (hl : (pathS (datas xs)).length ≤ 100000) :
    Calls Tryd.prog 23 #[.slice A xs.length c, .string ⟨#[47]⟩] w fun e w' => e = .returned (.string (mkB (join (datas xs) [47]))) ∧ Below w.heap.size w w' := by
  have h1 := pathS_len (datas xs)
  have h2 := join_len (datas xs)
  rw [List.length_map] at h1
  cases xs with
  | nil => exact (Tryd.strings_Join_none A c ⟨#[47]⟩ w).mono fun _ _ ⟨he, hw⟩ => ⟨he, hw ▸ Below.refl _ _⟩
  | cons x xs =>
    obtain ⟨ad, rfl, hcell⟩ := hr.2.2 (by simp)
    have h0 := hcell 0 (by simp)
    have e0 : ad.add 0 = ad := rfl
    rw [e0] at h0
    have hsp := spot_none h0
    have hlt := World.block_lt_of_cell? w _ h0
    rw [hsp]
    refine Tryd.strings_Join ad.block ad.off c (x :: xs) ⟨#[47]⟩ w ?_ hlt (by omega) hc ?_
    · intro j y hj
      have hj' : j < (x :: xs).length := (List.getElem?_eq_some_iff.1 hj).1
      have := hcell j hj'
      have e : ad.add j = ⟨ad.block, ad.off + j, none⟩ := by
        unfold Addr.add
        split
        · rename_i h; rw [h, Nat.add_zero]; exact hsp
        · rfl
      rw [e] at this
      rw [this, List.getD_eq_getElem?_getD, hj]; rfl
    · show (join (datas (x :: xs)) [47]).length ≤ _
      omega

set_option maxHeartbeats 1000000 in
theorem njoin_calls (A : Option Addr) (c : Nat) (xs : List ByteArray) (w : World) (hr : ReadsStr w A xs.length xs) (hc : xs.length ≤ c) (hl : (pathS (datas xs)).length ≤ 100000) (hT : Tabs w) (hM : Mx w) :
    Calls Tryd.prog 15 #[.slice A xs.length c] w fun e w' => e = .returned (.tuple #[.string (joinR xs).1, .int .i64 (joinR xs).2]) ∧ Below w.heap.size w w' := by
  have hj := sjoin_calls A c xs w hr hc hl
  have hjl := join_len (datas xs)
  have hst := stroke_join (datas xs)
  have hcase := joinP_cases (datas xs)
  rw [List.length_map] at hcase
  have hjr : joinR xs = match joinP (datas xs) with
    | none => (⟨#[]⟩, 4)
    | some l => (mkB l, 0) := rfl
  generalize hJs : mkB (join (datas xs) [47]) = Js at hj
  have hPd : ((⟨#[47]⟩ : ByteArray) ++ Js).data.toList = pathS (datas xs) := by
    rw [ByteArray.data_append, Array.toList_append, ← hJs]
    exact hst
  have hsz : Js.size ≤ 100000 := by
    rw [← hJs]
    show (join (datas xs) [47]).length ≤ _
    omega
  have hsp := fun w (h : Tabs w) (k : Mx w) => nsplit_calls ((⟨#[47]⟩ : ByteArray) ++ Js) w (by rw [ByteArray.size_append]; show 1 + Js.size ≤ _; omega) h k
  have hres : ∃ (L : Nat) (e0 : Int), (splitR ((⟨#[47]⟩ : ByteArray) ++ Js)).1.length = L ∧ (splitR ((⟨#[47]⟩ : ByteArray) ++ Js)).2 = e0 ∧ ((e0 = 4 ∧ joinR xs = (⟨#[]⟩, 4)) ∨ (e0 = 0 ∧ L ≠ xs.length ∧ joinR xs = (⟨#[]⟩, 4)) ∨ (e0 = 0 ∧ L = xs.length ∧ joinR xs = ((⟨#[47]⟩ : ByteArray) ++ Js, 0))) := by
    refine ⟨_, _, rfl, rfl, ?_⟩
    rcases hcase with ⟨ys, h1, h2, h3⟩ | ⟨h1 | ⟨ys, h1, h2⟩, h3⟩
    · have e := splitR_some (s := (⟨#[47]⟩ : ByteArray) ++ Js) (xs := ys) (by rw [hPd]; exact h1)
      refine .inr (.inr ⟨by rw [e], by rw [e, List.length_map]; exact h2, ?_⟩)
      rw [hjr, h3, ← hPd]
    · have e := splitR_none (s := (⟨#[47]⟩ : ByteArray) ++ Js) (by rw [hPd]; exact h1)
      exact .inl ⟨by rw [e], by rw [hjr, h3]⟩
    · have e := splitR_some (s := (⟨#[47]⟩ : ByteArray) ++ Js) (xs := ys) (by rw [hPd]; exact h1)
      exact .inr (.inl ⟨by rw [e], by rw [e, List.length_map]; exact h2, by rw [hjr, h3]⟩)
  obtain ⟨L, e0, hL, he0, hres⟩ := hres
  rw [hL, he0] at hsp
  have HJ := Lib.hid hj
  have HSP := Lib.hid hsp
  have HT := Lib.hid hT
  have HM := Lib.hid hM
  have HB := Lib.hid (Below.refl w.heap.size w)
  clear hT hM hr hc hj hjl hst hcase hjr hJs hPd hsp hL he0 hl
  generalize xs.length = N at *
  rcases hres with ⟨rfl, hj⟩ | ⟨rfl, hne, hj⟩ | ⟨rfl, rfl, hj⟩
  all_goals
    have HJR := Lib.hid hj
    clear hj
  · go_enter Tryd.func15, Tryd.ntmps15
    go_wp2_with (first
      | (go_at_call 23; (refine HJ.out.mono ?_); rintro e w1 ⟨rfl, hb⟩; have HBn := Lib.hid (below_step (by repeat (first | (with_reducible exact HB.out) | apply below_alloc | apply pw_below_drewN | apply below_drew1 | exact HB.out)) hb); clear hb HB; have HB := HBn; clear HBn)
      | (go_at_call 10; (refine (HSP.out _ (HT.out.below (by repeat (first | (with_reducible exact HB.out) | apply below_alloc | apply pw_below_drewN | apply below_drew1 | exact HB.out))) (HM.out.below (by repeat (first | (with_reducible exact HB.out) | apply below_alloc | apply pw_below_drewN | apply below_drew1 | exact HB.out)))).mono ?_); rintro e w2 ⟨A2, c2, rfl, _, _, hb⟩; have HBn := Lib.hid (below_step (by repeat (first | (with_reducible exact HB.out) | apply below_alloc | apply pw_below_drewN | apply below_drew1 | exact HB.out)) hb); clear hb HB; have HB := HBn; clear HBn)
      | (fail "no arm"))
    go_ret2
    rw [HJR.out]
    exact ⟨rfl, HB.out⟩
  · have q1 : ((L : Int) != (N : Int)) = true := by rw [bne_iff_ne]; omega
    have q2 : (L != N) = true := by rw [bne_iff_ne]; exact hne
    clear hne
    go_enter Tryd.func15, Tryd.ntmps15
    go_wp2_with (first
      | (go_at_call 23; (refine HJ.out.mono ?_); rintro e w1 ⟨rfl, hb⟩; have HBn := Lib.hid (below_step (by repeat (first | (with_reducible exact HB.out) | apply below_alloc | apply pw_below_drewN | apply below_drew1 | exact HB.out)) hb); clear hb HB; have HB := HBn; clear HBn)
      | (go_at_call 10; (refine (HSP.out _ (HT.out.below (by repeat (first | (with_reducible exact HB.out) | apply below_alloc | apply pw_below_drewN | apply below_drew1 | exact HB.out))) (HM.out.below (by repeat (first | (with_reducible exact HB.out) | apply below_alloc | apply pw_below_drewN | apply below_drew1 | exact HB.out)))).mono ?_); rintro e w2 ⟨A2, c2, rfl, _, _, hb⟩; have HBn := Lib.hid (below_step (by repeat (first | (with_reducible exact HB.out) | apply below_alloc | apply pw_below_drewN | apply below_drew1 | exact HB.out)) hb); clear hb HB; have HB := HBn; clear HBn)
      | (fail "no arm"))
    go_ret2
    rw [HJR.out]
    exact ⟨rfl, HB.out⟩
  · go_enter Tryd.func15, Tryd.ntmps15
    go_wp2_with (first
      | (go_at_call 23; (refine HJ.out.mono ?_); rintro e w1 ⟨rfl, hb⟩; have HBn := Lib.hid (below_step (by repeat (first | (with_reducible exact HB.out) | apply below_alloc | apply pw_below_drewN | apply below_drew1 | exact HB.out)) hb); clear hb HB; have HB := HBn; clear HBn)
      | (go_at_call 10; (refine (HSP.out _ (HT.out.below (by repeat (first | (with_reducible exact HB.out) | apply below_alloc | apply pw_below_drewN | apply below_drew1 | exact HB.out))) (HM.out.below (by repeat (first | (with_reducible exact HB.out) | apply below_alloc | apply pw_below_drewN | apply below_drew1 | exact HB.out)))).mono ?_); rintro e w2 ⟨A2, c2, rfl, _, _, hb⟩; have HBn := Lib.hid (below_step (by repeat (first | (with_reducible exact HB.out) | apply below_alloc | apply pw_below_drewN | apply below_drew1 | exact HB.out)) hb); clear hb HB; have HB := HBn; clear HBn)
      | (fail "no arm"))
    go_ret2
    rw [HJR.out]
    exact ⟨rfl, HB.out⟩
end Go.Proofs.YtmdfgjjbllbjmaaDoor
