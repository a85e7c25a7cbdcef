/-
  The walk of the law PackBack: whatever the input, the call returns true, and what was in memory stays.
-/
import Derived.Test.YtbekfoldohhbpaaPkH
import Derived.Deep.RegionHeld3
namespace Go.Proofs.Ytbekfoldohhbpaa
open Go.RowKit Go.Proofs.YtbekfoldohhbpaaW.PrintWords

/-- A number's form, and a text's. -/
def duo (p : Int × ByteArray) : List Int := form p.1 ++ textForm p.2
theorem duo_range (p : Int × ByteArray) : ∀ x ∈ duo p, 0 ≤ x ∧ x < 256 := by
  intro x hx
  rcases List.mem_append.1 hx with h | h
  · exact form_range _ x h
  · exact textForm_range _ x h
theorem duos_range (Z : List (Int × ByteArray)) : ∀ x ∈ Z.flatMap duo, 0 ≤ x ∧ x < 256 := by
  intro x hx
  obtain ⟨p, _, hp⟩ := List.mem_flatMap.1 hx
  exact duo_range p x hp
theorem duos_snoc (Z : List (Int × ByteArray)) (k : Nat) (hk : k < Z.length) : (Z.take (k + 1)).flatMap duo = ((Z.take k).flatMap duo ++ form Z[k].1) ++ textForm Z[k].2 := by
  rw [List.take_succ_eq_append_getElem hk, List.flatMap_append]; simp [duo]
theorem duos_drop (Z : List (Int × ByteArray)) (k : Nat) (hk : k < Z.length) : (Z.drop k).flatMap duo = form Z[k].1 ++ (textForm Z[k].2 ++ (Z.drop (k + 1)).flatMap duo) := by
  rw [List.drop_eq_getElem_cons hk, List.flatMap_cons, duo, List.append_assoc]
theorem duos_len (Z : List (Int × ByteArray)) (h : ∀ p ∈ Z, p.2.size ≤ 100) : (Z.flatMap duo).length ≤ 110 * Z.length := by
  induction Z with
  | nil => simp
  | cons p Z ih =>
    have h1 := ih (fun q hq => h q (by simp [hq]))
    have h2 := h p (by simp)
    have h3 := form_length p.1
    have h4 := form_length p.2.size
    have h5 := textForm_length p.2 (by omega)
    simp only [List.flatMap_cons, List.length_append, List.length_cons, duo]
    omega
theorem str_of_C {w : World} {A : Option Addr} {n : Nat} {xs : List ByteArray} (h : Kd.string.C w A n xs) : ReadsOf Value.string ByteArray.empty w A n xs := Kd.reads_of_C (enc := Value.string) (d := ByteArray.empty) (h1 := fun _ => rfl) h

set_option maxHeartbeats 2000000 in
theorem packBack_walk (A : Option Addr) (c : Nat) (L : List Int) (B : Option Addr) (d : Nat) (T : List ByteArray) (w : World) (hr : (Kd.int .u32).C w A L.length L) (_ : L.length ≤ c) (hok : L.length ≤ maxLen ∧ ∀ x ∈ L, (Lit.int .u32 x).wf = true)
    (hr2 : Kd.string.C w B T.length T) (_ : T.length ≤ d) (hok2 : T.length ≤ maxLen ∧ ∀ x ∈ T, x.size ≤ maxLen) :
    Calls Try.prog 5 #[.slice A L.length c, .slice B T.length d] w fun e w' => e = .returned (.bool true) ∧ Below w.heap.size w w' := by
  have hL := int_of_C hr
  have hT := str_of_C hr2
  have hm1 : L.length ≤ 9223372036854775807 := hL.2.1
  have hm2 : T.length ≤ 9223372036854775807 := hT.2.1
  have hLr : ∀ x ∈ L, 0 ≤ x ∧ x ≤ 4294967295 := fun x hx => by simpa [Lit.wf, IntKind.min, IntKind.max, IntKind.signed, IntKind.bits] using hok.2 x hx
  have hTr : ∀ x ∈ T, x.size ≤ 9223372036854775807 := fun x hx => hok2.2 x hx
  have HB := Lib.hid (Below.refl w.heap.size w)
  clear hok hok2 hr hr2
  have HL := Lib.hid hL
  have HT := Lib.hid hT
  have HLr := Lib.hid hLr
  have HTr := Lib.hid hTr
  clear hL hT hLr hTr
  by_cases h : 40 < L.length ∨ 40 < T.length
  · by_cases h1 : 40 < L.length
    all_goals
      go_enter Try.func5, Try.ntmps5
      go_wp2_with (go_at_call 9; refine (awake_calls _).mono ?_; rintro e w1 ⟨rfl, hb⟩; have HBn := Lib.hid (below_step (by repeat (first | (with_reducible exact HB.out) | apply below_alloc | apply pw_below_drewN | apply below_drew1 | exact HB.out)) hb); clear hb HB; have HB := HBn; clear HBn)
      go_ret
      exact ⟨rfl, (by repeat (first | (with_reducible exact HB.out) | apply below_alloc | apply pw_below_drewN | apply below_drew1 | exact HB.out))⟩
  · obtain ⟨Z, hZ⟩ : ∃ Z, Z = L.zip T := ⟨_, rfl⟩
    have hZl : Z.length ≤ 40 := by rw [hZ, List.length_zip]; omega
    have hZlt : ∀ k, k < Z.length ↔ k < L.length ∧ k < T.length := by intro k; rw [hZ, List.length_zip]; omega
    have hcell : ∀ k (hk : k < Z.length), ∃ adL adT, A = some adL ∧ B = some adT ∧ w.cell? (adL.add k) = some (.int .u32 Z[k].1) ∧ w.cell? (adT.add k) = some (.string Z[k].2) ∧ 0 ≤ Z[k].1 ∧ Z[k].1 ≤ 4294967295 ∧ Z[k].2.size ≤ 9223372036854775807 := by
      intro k hk
      obtain ⟨k1, k2⟩ := (hZlt k).1 hk
      subst hZ
      obtain ⟨adL, rfl, c1⟩ := HL.out.at_ k (by omega) (by omega)
      obtain ⟨adT, rfl, c2⟩ := HT.out.at_ k (by omega) (by omega)
      rw [Int.toNat_natCast] at c1 c2
      have e1 : rd L k = L[k] := by unfold rd; rw [Int.toNat_natCast, List.getD_eq_getElem?_getD, List.getElem?_eq_getElem k1]; rfl
      have e2 : rdOf ByteArray.empty T k = T[k] := by unfold rdOf; rw [Int.toNat_natCast, List.getD_eq_getElem?_getD, List.getElem?_eq_getElem k2]; rfl
      rw [e1] at c1
      rw [e2] at c2
      simp only [List.getElem_zip]
      exact ⟨adL, adT, rfl, rfl, c1, c2, (HLr.out _ (List.getElem_mem k1)).1, (HLr.out _ (List.getElem_mem k1)).2, HTr.out _ (List.getElem_mem k2)⟩
    have HC := Lib.hid hcell
    have HZlt := Lib.hid hZlt
    clear hcell hZlt hZ
    have hh1 : L.length ≤ 40 := by omega
    have hh2 : T.length ≤ 40 := by omega
    clear h
    go_enter Try.func5, Try.ntmps5
    go_wp2_with (go_at_call 9; refine (awake_calls _).mono ?_; rintro e w1 ⟨rfl, hb⟩; have HBn := Lib.hid (below_step (by repeat (first | (with_reducible exact HB.out) | apply below_alloc | apply pw_below_drewN | apply below_drew1 | exact HB.out)) hb); clear hb HB; have HB := HBn; clear HBn)
    go_loopw [6, 7] (fun vb vi w' => ∃ (k : Nat), vi = .int .i64 k ∧ k ≤ Z.length ∧ Hid (OwnB w' w.heap.size vb ((Z.take k).flatMap duo)) ∧ Hid (∀ p ∈ Z.take k, p.2.size ≤ 100) ∧ Hid (Below w.heap.size w w')) (fun _ vi _ => (40 - intOf vi).toNat)
    case atStart => exact ⟨0, rfl, by omega, Lib.hid (own_nil _ _ _ _), Lib.hid (by simp), HB⟩
    case round =>
      clear HB
      obtain ⟨k, rfl, hk, HO, HP, HB⟩ := hrel
      by_cases hgo : k < Z.length
      · have hkk := (HZlt.out k).1 hgo
        obtain ⟨hk1, hk2⟩ := hkk
        obtain ⟨adL, adT, rfl, rfl, c1, c2, n0, n1, s1⟩ := HC.out k hgo
        obtain ⟨p, hp⟩ : ∃ p, p = Z[k] := ⟨_, rfl⟩
        obtain ⟨n, s⟩ := p
        rw [← hp] at c1 c2 n0 n1 s1
        have HPK := Lib.hid hp
        clear hp
        have C1 := Lib.hid c1
        have C2 := Lib.hid c2
        have c1' := pw_cell_below HB.out c1
        have c2' := pw_cell_below HB.out c2
        clear c1 c2
        simp only at c1' c2' n0 n1 s1
        by_cases hs : 100 < s.size
        · go_wp2
          go_ret
          exact ⟨rfl, (by repeat (first | (with_reducible exact HB.out) | apply below_alloc | apply pw_below_drewN | apply below_drew1 | exact HB.out))⟩
        · have hlen := duos_len (Z.take k) HP.out
          go_wp2
          have HS := Lib.hid (show (textForm s).length = (form s.size).length + s.size from textForm_length s (by omega))
          have hf1 := form_length n
          have hf2 := form_length s.size
          have hzk : (Z.take k).length ≤ 40 := by rw [List.length_take]; omega
          obtain ⟨ln, hln⟩ : ∃ ln, ln = ((Z.take k).flatMap duo).length := ⟨_, rfl⟩
          have hln' : ln ≤ 4400 := by omega
          have HLN := Lib.hid hln
          have hwn : IntKind.i64.wrap n = n := by rw [IntKind.wrap_i64]; omega
          clear hlen hln hzk
          have HL1 := Lib.hid (show ((Z.take k).flatMap duo).length + (form n).length ≤ 140737488355328 by rw [← HLN.out]; omega)
          have HL2 := Lib.hid (show ((Z.take k).flatMap duo ++ form n).length + (textForm s).length ≤ 140737488355328 by rw [List.length_append, ← HLN.out, HS.out]; omega)
          go_region_held3 (fun w' => w'.cell? (adL.add k) = some (.int .u32 n) ∧ w'.cell? (adT.add k) = some (.string s)) (exact ⟨pw_cell_below (by repeat (first | (with_reducible exact HB.out) | apply below_alloc | apply pw_below_drewN | apply below_drew1 | exact HB.out)) C1.out, pw_cell_below (by repeat (first | (with_reducible exact HB.out) | apply below_alloc | apply pw_below_drewN | apply below_drew1 | exact HB.out)) C2.out⟩)
            (first
              | (go_at_call 11; refine (pwrite_calls _ _).mono ?_; rintro e w2 ⟨v2, rfl, ho, hb⟩; obtain ⟨A2, e2, rfl, hr2⟩ := own_reads ho; have HR2 := Lib.hid hr2; have HO2 := Lib.hid (HO.out.now hb rfl); clear ho hr2; have HBn := Lib.hid (below_step (by repeat (first | (with_reducible exact HB.out) | apply below_alloc | apply pw_below_drewN | apply below_drew1 | exact HB.out)) hb); clear hb HB; have HB := HBn; clear HBn)
              | ((refine appB_step (w0 := w) w.heap.size (by rfl) (.tmp 41) (.tmp 47) (by rfl) u6 ((Z.take k).flatMap duo) (form n) A2 (form n).length e2 (by rfl) (by rfl) HO2.out HR2.out HB.out HB.out.size HL1.out ?_); intro v3 w3 ho hb hg hat; have HO3 := Lib.hid ho; clear HB ho hg hat HO2; have HB := Lib.hid hb; clear hb)
              | (go_at_call 13; refine (ptext_calls _ _).mono ?_; rintro e w4 ⟨v4, rfl, ho, hb⟩; obtain ⟨A4, e4, rfl, hr4⟩ := own_reads ho; have HR4 := Lib.hid hr4; have HO4 := Lib.hid (HO3.out.now hb rfl); clear ho hr4 HO3; have HBn := Lib.hid (below_step (by repeat (first | (with_reducible exact HB.out) | apply below_alloc | apply pw_below_drewN | apply below_drew1 | exact HB.out)) hb); clear hb HB; have HB := HBn; clear HBn)
              | ((refine appB_step (w0 := w) w.heap.size (by rfl) (.tmp 48) (.tmp 53) (by rfl) v3 ((Z.take k).flatMap duo ++ form n) (textForm s) A4 (textForm s).length e4 (by rfl) (by rfl) HO4.out HR4.out HB.out HB.out.size HL2.out ?_); intro v5 w5 ho hb hg hat; have HO5 := Lib.hid ho; clear HB ho hg hat HO4; have HB := Lib.hid hb; clear hb))
          go_wp2
          go_roundw
          case rel => exact ⟨k + 1, by go_num, by omega, Lib.hid (by rw [duos_snoc Z k hgo, ← HPK.out]; exact HO5.out), Lib.hid (by rw [List.take_succ_eq_append_getElem hgo, ← HPK.out]; intro q hq; rcases List.mem_append.1 hq with h | h; exact HP.out q h; rw [List.mem_singleton.1 h]; show s.size ≤ 100; omega), HB⟩
          case measure => simp [intOf] <;> omega
      · obtain rfl : k = Z.length := by omega
        have hno : ¬ (Z.length < L.length ∧ Z.length < T.length) := fun hh => by have := (HZlt.out Z.length).2 hh; omega
        rw [List.take_length] at HO HP
        have hlen := duos_len Z HP.out
        obtain ⟨A2, c2, rfl, hr2⟩ := own_reads HO.out
        generalize hm2' : (Z.flatMap duo).length = m2 at hr2 hlen ⊢
        have HR2 := Lib.hid hr2
        clear hr2 HO hm2'
        by_cases hl1 : Z.length < L.length
        all_goals
          go_wp2_with (go_at_call 15; refine (new_calls _ A2 m2 c2 _ HR2.out (by omega) (duos_range Z)).mono ?_; rintro e w3 ⟨a, db, rfl, hd, hb, ha, _⟩; have HA := Nat.le_trans HB.out.size ha; have HD := Lib.hid hd; clear hd ha; have HBn := Lib.hid (below_step (by repeat (first | (with_reducible exact HB.out) | apply below_alloc | apply pw_below_drewN | apply below_drew1 | exact HB.out)) hb); clear hb HB; have HB := HBn; clear HBn)
          go_loopw [9] (fun vi w' => ∃ (k : Nat), vi = .int .i64 k ∧ k ≤ Z.length ∧ Hid (RD 50 w' a db ((Z.drop k).flatMap duo) 0) ∧ Hid (Below w.heap.size w w')) (fun vi _ => (40 - intOf vi).toNat)
          case atStart => exact ⟨0, rfl, by omega, HD, HB⟩
          case round =>
            clear HB HD
            obtain ⟨k, rfl, hk, HD, HB⟩ := hrel
            by_cases hgo : k < Z.length
            · have hkk := (HZlt.out k).1 hgo
              obtain ⟨hk1, hk2⟩ := hkk
              obtain ⟨adL, adT, rfl, rfl, c1, c2, n0, n1, s1⟩ := HC.out k hgo
              have hd := HD.out
              have hpp := HP.out Z[k] (List.getElem_mem hgo)
              rw [duos_drop Z k hgo] at hd
              obtain ⟨p, hp⟩ : ∃ p, p = Z[k] := ⟨_, rfl⟩
              obtain ⟨n, s⟩ := p
              rw [← hp] at c1 c2 n0 n1 s1 hd hpp
              clear hp HD
              simp only at n0 n1 s1 hpp
              have hf1 := rdNum_form n n0 n1 (textForm s ++ (Z.drop (k + 1)).flatMap duo) 4294967295
              rw [if_neg (by omega)] at hf1
              have hf2 := rdText_form s (by omega) ((Z.drop (k + 1)).flatMap duo) 100 (by omega)
              have HD := Lib.hid hd
              have HF1 := Lib.hid hf1
              have HF2 := Lib.hid hf2
              have C1 := Lib.hid c1
              have C2 := Lib.hid c2
              clear hd hf1 hf2 c1 c2
              go_wp2_with (first
                | (go_at_call 18; refine (num_calls_eq _ _ _ _ _ _ HD.out HF1.out).mono ?_; rintro e w4 ⟨rfl, hd, ho⟩; have HD4 := Lib.hid hd; clear hd HD; have HBn := Lib.hid (Below.trans (by repeat (first | (with_reducible exact HB.out) | apply below_alloc | apply pw_below_drewN | apply below_drew1 | exact HB.out)) (ho.below HA)); clear ho HB; have HB := HBn; clear HBn)
                | (go_at_call 16; refine (text_calls_eq _ _ _ _ _ _ HD4.out (by decide) HF2.out).mono ?_; rintro e w5 ⟨rfl, hd, ho⟩; have HD5 := Lib.hid hd; clear hd HD4; have HBn := Lib.hid (Below.trans (by repeat (first | (with_reducible exact HB.out) | apply below_alloc | apply pw_below_drewN | apply below_drew1 | exact HB.out)) (ho.below HA)); clear ho HB; have HB := HBn; clear HBn; have c1' := pw_cell_below HB.out C1.out; have c2' := pw_cell_below HB.out C2.out))
              go_roundw
              case rel => exact ⟨k + 1, by go_num, by omega, HD5, HB⟩
              case measure => simp [intOf] <;> omega
            · obtain rfl : k = Z.length := by omega
              have hd := HD.out
              rw [List.drop_length] at hd
              have HD2 := Lib.hid (show RD 50 _ a db [] 0 from hd)
              clear hd HD
              go_wp2_with (first
                | (go_at_call 21; refine (err_calls _ _ _ _ _ HD2.out).mono ?_; rintro e w4 ⟨rfl, rfl⟩)
                | (go_at_call 20; refine (left_calls _ _ _ _ _ HD2.out).mono ?_; rintro e w4 ⟨rfl, rfl⟩))
              go_ret
              exact ⟨rfl, (by repeat (first | (with_reducible exact HB.out) | apply below_alloc | apply pw_below_drewN | apply below_drew1 | exact HB.out))⟩
end Go.Proofs.Ytbekfoldohhbpaa
