/-
  The walk of the law PackOne: whatever the input, the call returns true, and what was in memory stays.
-/
import Derived.Test.YtbekfoldohhbpaaPkG
import Derived.Deep.RegionWith
import Derived.Deep.RegionHeld3
namespace Go.Proofs.Ytbekfoldohhbpaa
open Go.RowKit Go.Proofs.YtbekfoldohhbpaaW.PrintWords

theorem int_of_C {w : World} {k : IntKind} {A : Option Addr} {n : Nat} {xs : List Int} (h : (Kd.int k).C w A n xs) : ReadsInt w k A n xs := Kd.reads_of_C (enc := Value.int k) (d := (0 : Int)) (h1 := fun _ => rfl) h
theorem byte_wf {n : Int} (h : (Lit.int .u8 n).wf = true) : 0 ≤ n ∧ n < 256 := by
  have : 0 ≤ n ∧ n ≤ 255 := by simpa [Lit.wf, IntKind.min, IntKind.max, IntKind.signed, IntKind.bits] using h
  omega

set_option maxHeartbeats 1000000 in
theorem packOne_walk (A : Option Addr) (c : Nat) (xs : List Int) (w : World) (hr : (Kd.int .u8).C w A xs.length xs) (hc : xs.length ≤ c) (hok : xs.length ≤ maxLen ∧ ∀ x ∈ xs, (Lit.int .u8 x).wf = true) :
    Calls Try.prog 6 #[.slice A xs.length c] w fun e w' => e = .returned (.bool true) ∧ Below w.heap.size w w' := by
  have hri := int_of_C hr
  have hx : ∀ x ∈ xs, 0 ≤ x ∧ x < 256 := fun x hx => byte_wf (hok.2 x hx)
  have hm : xs.length ≤ 9223372036854775807 := hri.2.1
  have HB := Lib.hid (Below.refl w.heap.size w)
  have hcs := rdNum_cases xs 4294967295 hx
  clear hok hr
  have Hri := Lib.hid hri
  have HX := Lib.hid hx
  have Hcs := Lib.hid hcs
  clear hri hx hcs
  by_cases h : 300 < xs.length
  · go_enter Try.func6, Try.ntmps6
    go_wp2_with (go_at_call 9; refine (awake_calls _).mono ?_; rintro e w1 ⟨rfl, hb⟩; have HBn := Lib.hid (below_step (by repeat (first | (with_reducible exact HB.out) | apply below_alloc | apply pw_below_drewN | apply below_drew1 | exact HB.out)) hb); clear hb HB; have HB := HBn; clear HBn)
    go_ret
    exact ⟨rfl, (by repeat (first | (with_reducible exact HB.out) | apply below_alloc | apply pw_below_drewN | apply below_drew1 | exact HB.out))⟩
  · rcases Hcs.out with ⟨e, hf, he⟩ | ⟨k, n, hf, hk1, hk5, hkl, hform, hn0, hn1, _⟩
    · rcases he with rfl | rfl
      all_goals
        have Hf := Lib.hid hf
        clear hf
        go_enter Try.func6, Try.ntmps6
        go_wp2_with (first
          | (go_at_call 9; refine (awake_calls _).mono ?_; rintro e w1 ⟨rfl, hb⟩; have HBn := Lib.hid (below_step (by repeat (first | (with_reducible exact HB.out) | apply below_alloc | apply pw_below_drewN | apply below_drew1 | exact HB.out)) hb); clear hb HB; have HB := HBn; clear HBn)
          | (go_at_call 15; refine (new_calls _ _ _ _ xs (Hri.out.below HB.out) (by omega) HX.out).mono ?_; rintro e w2 ⟨a, d, rfl, hd, hb, ha, _⟩; have HA := Nat.le_trans HB.out.size ha; have HBn := Lib.hid (below_step (by repeat (first | (with_reducible exact HB.out) | apply below_alloc | apply pw_below_drewN | apply below_drew1 | exact HB.out)) hb); clear hb HB; have HB := HBn; clear HBn; have HD := Lib.hid hd; clear hd ha)
          | (go_at_call 18; refine (num_calls_eq _ _ _ _ _ _ HD.out Hf.out).mono ?_; rintro e w3 ⟨rfl, hd, ho⟩; have HBn := Lib.hid (Below.trans (by repeat (first | (with_reducible exact HB.out) | apply below_alloc | apply pw_below_drewN | apply below_drew1 | exact HB.out)) (ho.below HA)); clear ho HB; have HB := HBn; clear HBn; have HD2 := Lib.hid hd; clear hd HD)
          | (go_at_call 21; refine (err_calls _ _ _ _ _ HD2.out).mono ?_; rintro e w4 ⟨rfl, rfl⟩)
          | (go_at_call 20; refine (left_calls _ _ _ _ _ HD2.out).mono ?_; rintro e w4 ⟨rfl, rfl⟩))
        all_goals
          go_ret
          exact ⟨rfl, (by repeat (first | (with_reducible exact HB.out) | apply below_alloc | apply pw_below_drewN | apply below_drew1 | exact HB.out))⟩
    · have Hf := Lib.hid hf
      have Hfm := Lib.hid hform
      obtain ⟨q, hq⟩ : ∃ q, xs.length = q + k := ⟨xs.length - k, by omega⟩
      have hql : (xs.drop k).length = q := by rw [List.length_drop]; omega
      have Hq := Lib.hid hq
      have Hql := Lib.hid hql
      have HL := fun (w : World) (a d : Nat) (h : RD 50 w a d (xs.drop k) 0) => left_calls w a d (xs.drop k) 0 h
      rw [hql] at HL
      have Hl := Lib.hid HL
      clear hf hform HL hq hql
      have hk := Lib.hid (show (xs.length : Int) - q = k by have := Hq.out; omega)
      go_enter Try.func6, Try.ntmps6
      go_wp2_with (first
          | (go_at_call 9; refine (awake_calls _).mono ?_; rintro e w1 ⟨rfl, hb⟩; have HBn := Lib.hid (below_step (by repeat (first | (with_reducible exact HB.out) | apply below_alloc | apply pw_below_drewN | apply below_drew1 | exact HB.out)) hb); clear hb HB; have HB := HBn; clear HBn)
          | (go_at_call 15; refine (new_calls _ _ _ _ xs (Hri.out.below HB.out) (by omega) HX.out).mono ?_; rintro e w2 ⟨a, d, rfl, hd, hb, ha, _⟩; have HA := Nat.le_trans HB.out.size ha; have HBn := Lib.hid (below_step (by repeat (first | (with_reducible exact HB.out) | apply below_alloc | apply pw_below_drewN | apply below_drew1 | exact HB.out)) hb); clear hb HB; have HB := HBn; clear HBn; have HD := Lib.hid hd; clear hd ha)
          | (go_at_call 18; refine (num_calls_eq _ _ _ _ _ _ HD.out Hf.out).mono ?_; rintro e w3 ⟨rfl, hd, ho⟩; have HBn := Lib.hid (Below.trans (by repeat (first | (with_reducible exact HB.out) | apply below_alloc | apply pw_below_drewN | apply below_drew1 | exact HB.out)) (ho.below HA)); clear ho HB; have HB := HBn; clear HBn; have HD2 := Lib.hid hd; clear hd HD)
          | (go_at_call 21; refine (err_calls _ _ _ _ _ HD2.out).mono ?_; rintro e w4 ⟨rfl, rfl⟩)
          | (go_at_call 20; refine (Hl.out _ _ _ HD2.out).mono ?_; rintro e w4 ⟨rfl, rfl⟩; have hk2 := hk.out))
      clear hk2
      go_region_with (first
        | (go_at_call 11; refine (pwrite_calls _ _).mono ?_; rintro e w2 ⟨v2, rfl, ho, hb⟩; obtain ⟨A2, c2, rfl, hr2⟩ := own_reads ho; have HR2 := Lib.hid hr2; have HC2 := Lib.hid (own_cap ho); clear ho hr2; have HBn := Lib.hid (below_step (by repeat (first | (with_reducible exact HB.out) | apply below_alloc | apply pw_below_drewN | apply below_drew1 | exact HB.out)) hb); clear hb HB; have HB := HBn; clear HBn)
        | (go_at_call 10; refine (same_calls_eq _ (HR2.out) HC2.out ((Hri.out.take_ k hkl).below (by repeat (first | (with_reducible exact HB.out) | apply below_alloc | apply pw_below_drewN | apply below_drew1 | exact HB.out))) (by omega) Hfm.out).mono ?_; rintro e w5 ⟨rfl, n5, rfl⟩))
      all_goals
        go_wp2
        go_ret
        exact ⟨rfl, (by repeat (first | (with_reducible exact HB.out) | apply below_alloc | apply pw_below_drewN | apply below_drew1 | exact HB.out))⟩
end Go.Proofs.Ytbekfoldohhbpaa
