/-
  The walk of the law PackReads: whatever the input, the call returns true, and what was in memory stays.
-/
import Derived.Test.YtbekfoldohhbpaaPkH
import Derived.Deep.RegionHeld3
import Derived.Deep.QuietTactic
import Derived.BigQuiet
namespace Go.Proofs.Ytbekfoldohhbpaa
open Go.RowKit Go.Proofs.YtbekfoldohhbpaaW.PrintWords

theorem rdText_e (xs : List Int) (e most : Int) (hx : ∀ x ∈ xs, 0 ≤ x) (he : 0 ≤ e ∧ e ≤ 3) : 0 ≤ (rdText xs e most).2.2 ∧ (rdText xs e most).2.2 ≤ 3 := by
  have h := rdNum_range xs e most hx he
  unfold rdText
  split
  · exact ⟨h.2.2.2.1, h.2.2.2.2⟩
  · split <;> simp

theorem rdNum_e (xs : List Int) (e most : Int) (hx : ∀ x ∈ xs, 0 ≤ x) (he : 0 ≤ e ∧ e ≤ 3) : 0 ≤ (rdNum xs e most).2.2 ∧ (rdNum xs e most).2.2 ≤ 3 :=
  ⟨(rdNum_range xs e most hx he).2.2.2.1, (rdNum_range xs e most hx he).2.2.2.2⟩

set_option maxHeartbeats 2000000 in
theorem packReads_walk (A : Option Addr) (c : Nat) (xs : List Int) (B : Option Addr) (d : Nat) (L : List (Bool × Int)) (w : World) (hr : (Kd.int .u8).C w A xs.length xs) (hc : xs.length ≤ c) (hok : xs.length ≤ maxLen ∧ ∀ x ∈ xs, (Lit.int .u8 x).wf = true)
    (hr2 : (Kd.pair Kd.bool (Kd.int .i64)).C w B L.length L) (_ : L.length ≤ d) (_ : L.length ≤ maxLen ∧ ∀ x ∈ L, True ∧ (Lit.int .i64 x.2).wf = true) :
    Calls Try.prog 4 #[.slice A xs.length c, .slice B L.length d] w fun e w' => e = .returned (.bool true) ∧ Below w.heap.size w w' := by
  have hri := int_of_C hr
  have hm1 : xs.length ≤ 9223372036854775807 := hri.2.1
  have hm2 : L.length ≤ 9223372036854775807 := hr2.2.1
  have hx : ∀ x ∈ xs, 0 ≤ x ∧ x < 256 := fun x hx => byte_wf (hok.2 x hx)
  have HB := Lib.hid (Below.refl w.heap.size w)
  have HX := Lib.hid hx
  have HRI := Lib.hid hri
  have HR2 := Lib.hid hr2
  clear hok hr hx hri hr2
  by_cases h : 300 < xs.length ∨ 40 < L.length
  · by_cases h1 : 300 < xs.length
    all_goals
      go_enter Try.func4, Try.ntmps4
      go_wp2_with (go_at_call 9; refine (awake_calls _).mono ?_; rintro e w1 ⟨rfl, hb⟩; have HBn := Lib.hid (below_step (by repeat (first | (with_reducible exact HB.out) | apply below_alloc | apply pw_below_drewN | apply below_drew1 | exact HB.out)) hb); clear hb HB; have HB := HBn; clear HBn)
      go_ret
      exact ⟨rfl, (by repeat (first | (with_reducible exact HB.out) | apply below_alloc | apply pw_below_drewN | apply below_drew1 | exact HB.out))⟩
  · have hh1 : xs.length ≤ 300 := by omega
    have hh2 : L.length ≤ 40 := by omega
    clear h
    go_enter Try.func4, Try.ntmps4
    go_wp2_with (first
      | (go_at_call 9; refine (awake_calls _).mono ?_; rintro e w1 ⟨rfl, hb⟩; have HBn := Lib.hid (below_step (by repeat (first | (with_reducible exact HB.out) | apply below_alloc | apply pw_below_drewN | apply below_drew1 | exact HB.out)) hb); clear hb HB; have HB := HBn; clear HBn)
      | (go_at_call 15; refine (new_calls _ A xs.length c _ (HRI.out.below HB.out) (by omega) HX.out).mono ?_; rintro e w3 ⟨a, db, rfl, hd, hb, ha, _, hdl⟩; have HA := Nat.le_trans HB.out.size ha; have HDL := Lib.hid hdl; have HD := Lib.hid hd; clear hd ha hdl; have HBn := Lib.hid (below_step (by repeat (first | (with_reducible exact HB.out) | apply below_alloc | apply pw_below_drewN | apply below_drew1 | exact HB.out)) hb); clear hb HB; have HB := HBn; clear HBn))
    obtain ⟨d2, hE, hd2a, hd2b⟩ : ∃ d2, RD 34 (w3.alloc (.cells #[.slice A xs.length c, .int .i64 0] 34)) w3.heap.size d2 xs 0 ∧ d2 ≠ a ∧ d2 ≠ w3.heap.size := by
      have hb1 : Below w.heap.size w (w3.alloc (.cells #[.slice A xs.length c, .int .i64 0] 34)) := (by repeat (first | (with_reducible exact HB.out) | apply below_alloc | apply pw_below_drewN | apply below_drew1 | exact HB.out))
      have hr3 := HRI.out.below hb1
      have hal := HD.out.lt
      by_cases h0 : 0 < xs.length
      · obtain ⟨ad, rfl, hc0⟩ := HRI.out.2.2 h0
        have hlt := World.block_lt_of_cell? w _ (hc0 0 h0)
        rw [add_block] at hlt
        have h3 := HB.out.size
        refine ⟨ad.block, ⟨some ad, c, alloc_at _ _, hr3, hc, fun ad' h _ => by injection h with h; rw [h], by omega, HX.out⟩, by omega, by omega⟩
      · have hnil : xs = [] := List.eq_nil_of_length_eq_zero (by omega)
        refine ⟨w3.heap.size + 1, ⟨A, c, alloc_at _ _, hr3, hc, fun ad' h hn => absurd hn h0, by omega, HX.out⟩, by omega, by omega⟩
    have hD := HD.out.below (below_alloc (Below.refl _ _) (.cells #[.slice A xs.length c, .int .i64 0] 34))
    have hal := HD.out.lt
    have hdl := HDL.out
    have HS3 := HB.out.size
    obtain ⟨a2, ha2⟩ : ∃ a2, a2 = w3.heap.size := ⟨_, rfl⟩
    have HB2 := Lib.hid (show Below w.heap.size w (w3.alloc (.cells #[.slice A xs.length c, .int .i64 0] 34)) from (by repeat (first | (with_reducible exact HB.out) | apply below_alloc | apply pw_below_drewN | apply below_drew1 | exact HB.out)))
    rw [← ha2] at hE hd2b HS3 hal hdl ⊢
    have HNE := Lib.hid (show a ≠ a2 ∧ db ≠ a2 ∧ d2 ≠ a ∧ d2 ≠ a2 by omega)
    have HDE := Lib.hid (And.intro hD hE)
    clear HB HD HDL hal hdl hD hE hd2a hd2b
    generalize w3.alloc (.cells #[.slice A xs.length c, .int .i64 0] 34) = w4 at HB2 HDE ⊢
    clear ha2
    go_loopw [8] (fun vi w' => ∃ (k : Nat) (ys : List Int) (e : Int), vi = .int .i64 k ∧ k ≤ L.length ∧ 0 ≤ e ∧ e ≤ 3 ∧ Hid (RD 50 w' a db ys e ∧ RD 34 w' a2 d2 ys e) ∧ Hid (Below w.heap.size w w')) (fun vi _ => (40 - intOf vi).toNat)
    case atStart => exact ⟨0, xs, 0, rfl, by omega, by omega, by omega, HDE, HB2⟩
    case round =>
      clear HB2 HDE
      obtain ⟨k, ys, e, rfl, hk, he0, he3, HDE, HB⟩ := hrel
      by_cases hgo : k < L.length
      · obtain ⟨ad, hB, hcell⟩ := HR2.out.2.2 (by omega)
        obtain ⟨cs, _, ⟨c0, c1, hcs, hc0, hc1⟩, hcc⟩ := hcell k L[k] (List.getElem?_eq_getElem hgo)
        obtain ⟨p, hp⟩ : ∃ p, p = L[k] := ⟨_, rfl⟩
        obtain ⟨t, m⟩ := p
        rw [← hp] at hc0 hc1
        have e0 : c0 = [.bool t] := hc0
        have e1 : c1 = [.int .i64 m] := hc1
        subst e0 e1 hcs hB
        have C0 := Lib.hid (show w.cell? (ad.add (k * 2)) = some (.bool t) from hcc 0 _ rfl)
        have C1 := Lib.hid (show w.cell? ⟨(ad.add (k * 2)).block, (ad.add (k * 2)).off + 1, none⟩ = some (.int .i64 m) by rw [← add_field ad (k * 2) 1 (by omega)]; exact hcc 1 _ rfl)
        clear hp hcc hc0 hc1 hcell
        have c0' := pw_cell_below HB.out C0.out
        have HEE := Lib.hid (And.intro he0 he3)
        cases t with
        | true =>
          have hte := rdText_e ys e m HDE.out.1.nonneg ⟨he0, he3⟩
          obtain ⟨⟨s1, y1, e1⟩, hf⟩ : ∃ p, p = rdText ys e m := ⟨_, rfl⟩
          rw [← hf] at hte
          have HF := Lib.hid hf.symm
          obtain ⟨h10, h13⟩ := hte
          simp only at h10 h13
          clear hf
          go_wp2
          go_region_held3 (fun w' => w'.cell? ⟨(ad.add (k * 2)).block, (ad.add (k * 2)).off + 1, none⟩ = some (.int .i64 m)) (exact pw_cell_below (by repeat (first | (with_reducible exact HB.out) | apply below_alloc | apply pw_below_drewN | apply below_drew1 | exact HB.out)) C1.out)
            (first
              | (go_at_call 16; (refine (text_calls_eq _ _ _ _ _ _ (HDE.out.1.at_ (by rfl)) HEE.out HF.out).mono ?_; rintro e w4 ⟨rfl, hd, ho⟩; have HD4 := Lib.hid hd; have HE4 := Lib.hid ((HDE.out.2.at_ (by rfl)).other ho HNE.out.1.symm HNE.out.2.2.1); clear hd; have HBn := Lib.hid (Below.trans (by repeat (first | (with_reducible exact HB.out) | apply below_alloc | apply pw_below_drewN | apply below_drew1 | exact HB.out)) (ho.below HA)); clear ho HB; have HB := HBn; clear HBn))
              | (go_at_call 17; (refine (rtext_calls_eq _ _ _ _ _ _ (HE4.out.at_ (by rfl)) HEE.out HF.out).mono ?_; rintro e w5 ⟨rfl, hd, ho⟩; have HE5 := Lib.hid hd; have HD5 := Lib.hid ((HD4.out.at_ (by rfl)).other ho HNE.out.1 HNE.out.2.1); clear hd HD4 HE4; have HBn := Lib.hid (Below.trans (by repeat (first | (with_reducible exact HB.out) | apply below_alloc | apply pw_below_drewN | apply below_drew1 | exact HB.out)) (ho.below HS3)); clear ho HB; have HB := HBn; clear HBn)))
          obtain ⟨A5, c5, b5, _, _, _, _, _⟩ := HE5.out.out
          have z0 := blk_cell b5 0
          have z1 := blk_cell b5 1
          simp at z0 z1
          have hyl : y1.length ≤ 9223372036854775807 := by obtain ⟨_, _, _, hr5, _⟩ := HD5.out.out; exact hr5.2.1
          clear b5
          go_wp2
          go_quiet (first
            | (go_at_call 20; exact Calls.quiet_of_same (left_calls _ _ _ _ _ (HD5.out.at_ (by rfl))))
            | (go_at_call 21; exact Calls.quiet_of_same (err_calls _ _ _ _ _ (HD5.out.at_ (by rfl)))))
          go_wp2
          go_roundw
          case rel => exact ⟨k + 1, y1, e1, by go_num, by omega, h10, h13, Lib.hid ⟨HD5.out.at_ rfl, HE5.out.at_ rfl⟩, Lib.hid (by repeat (first | (with_reducible exact HB.out) | apply below_alloc | apply pw_below_drewN | apply below_drew1 | exact HB.out))⟩
          case measure => simp [intOf] <;> omega
        | false =>
          have hte := rdNum_e ys e m HDE.out.1.nonneg ⟨he0, he3⟩
          obtain ⟨⟨s1, y1, e1⟩, hf⟩ : ∃ p, p = rdNum ys e m := ⟨_, rfl⟩
          rw [← hf] at hte
          have HF := Lib.hid hf.symm
          obtain ⟨h10, h13⟩ := hte
          simp only at h10 h13
          clear hf
          go_wp2
          go_region_held3 (fun w' => w'.cell? ⟨(ad.add (k * 2)).block, (ad.add (k * 2)).off + 1, none⟩ = some (.int .i64 m)) (exact pw_cell_below (by repeat (first | (with_reducible exact HB.out) | apply below_alloc | apply pw_below_drewN | apply below_drew1 | exact HB.out)) C1.out)
            (first
              | (go_at_call 18; (refine (num_calls_eq _ _ _ _ _ _ (HDE.out.1.at_ (by rfl)) HF.out).mono ?_; rintro e w4 ⟨rfl, hd, ho⟩; have HD4 := Lib.hid hd; have HE4 := Lib.hid ((HDE.out.2.at_ (by rfl)).other ho HNE.out.1.symm HNE.out.2.2.1); clear hd; have HBn := Lib.hid (Below.trans (by repeat (first | (with_reducible exact HB.out) | apply below_alloc | apply pw_below_drewN | apply below_drew1 | exact HB.out)) (ho.below HA)); clear ho HB; have HB := HBn; clear HBn))
              | (go_at_call 19; (refine (rnum_calls_eq _ _ _ _ _ _ (HE4.out.at_ (by rfl)) HF.out).mono ?_; rintro e w5 ⟨rfl, hd, ho⟩; have HE5 := Lib.hid hd; have HD5 := Lib.hid ((HD4.out.at_ (by rfl)).other ho HNE.out.1 HNE.out.2.1); clear hd HD4 HE4; have HBn := Lib.hid (Below.trans (by repeat (first | (with_reducible exact HB.out) | apply below_alloc | apply pw_below_drewN | apply below_drew1 | exact HB.out)) (ho.below HS3)); clear ho HB; have HB := HBn; clear HBn)))
          obtain ⟨A5, c5, b5, _, _, _, _, _⟩ := HE5.out.out
          have z0 := blk_cell b5 0
          have z1 := blk_cell b5 1
          simp at z0 z1
          have hyl : y1.length ≤ 9223372036854775807 := by obtain ⟨_, _, _, hr5, _⟩ := HD5.out.out; exact hr5.2.1
          clear b5
          go_wp2
          go_quiet (first
            | (go_at_call 20; exact Calls.quiet_of_same (left_calls _ _ _ _ _ (HD5.out.at_ (by rfl))))
            | (go_at_call 21; exact Calls.quiet_of_same (err_calls _ _ _ _ _ (HD5.out.at_ (by rfl)))))
          go_wp2
          go_roundw
          case rel => exact ⟨k + 1, y1, e1, by go_num, by omega, h10, h13, Lib.hid ⟨HD5.out.at_ rfl, HE5.out.at_ rfl⟩, Lib.hid (by repeat (first | (with_reducible exact HB.out) | apply below_alloc | apply pw_below_drewN | apply below_drew1 | exact HB.out))⟩
          case measure => simp [intOf] <;> omega
      · obtain rfl : k = L.length := by omega
        obtain ⟨A5, c5, b5, _, _, _, _, _⟩ := HDE.out.2.out
        have z0 := blk_cell b5 0
        have z1 := blk_cell b5 1
        simp at z0 z1
        have hyl : ys.length ≤ 9223372036854775807 := by obtain ⟨_, _, _, hr5, _⟩ := HDE.out.1.out; exact hr5.2.1
        clear b5
        go_wp2
        go_quiet (first | (go_at_call 20; exact Calls.quiet_of_same (left_calls _ _ _ _ _ (HDE.out.1.at_ (by rfl)))))
        go_wp2
        go_ret
        exact ⟨rfl, (by repeat (first | (with_reducible exact HB.out) | apply below_alloc | apply pw_below_drewN | apply below_drew1 | exact HB.out))⟩
end Go.Proofs.Ytbekfoldohhbpaa
