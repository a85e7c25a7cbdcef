/-
  What package name's Split comes to.
-/
import Derived.Test.YtmdfgjjbllbjmaaDoorNmB
import Derived.Test.YtmdfgjjbllbjmaaDoorPaA
namespace Go.Proofs.YtmdfgjjbllbjmaaDoor
open Go.RowKit Go.Proofs.YtmdfgjjbllbjmaaDoorW.PrintWords Go.Lib

/-- The library's own number for searches lies where it was laid. -/
def Mx (w : World) : Prop := ∃ m : Int, w.cell? ⟨Tryd.lays146_ren.g 1, 0, none⟩ = some (.int .i64 m)
theorem Mx.below {w w' : World} (h : Mx w) (hb : Below w.heap.size w w') : Mx w' := by
  obtain ⟨m, hm⟩ := h
  exact ⟨m, pw_cell_below hb hm⟩

abbrev mkB (l : List UInt8) : ByteArray := ⟨l.toArray⟩
abbrev ReadsStr (w : World) (A : Option Addr) (n : Nat) (xs : List ByteArray) : Prop := ReadsOf Value.string ByteArray.empty w A n xs
/-- A path's names, or none, and the error. -/
def splitR (s : ByteArray) : List ByteArray × Int := match pathL s.data.toList with
  | none => ([], 4)
  | some xs => (xs.map mkB, 0)
theorem splitR_none {s : ByteArray} (h : pathL s.data.toList = none) : splitR s = ([], 4) := by rw [splitR, h]
theorem splitR_some {s : ByteArray} {xs : List (List UInt8)} (h : pathL s.data.toList = some xs) : splitR s = (xs.map mkB, 0) := by rw [splitR, h]
theorem mkB_data (s : ByteArray) : mkB s.data.toList = s := rfl
theorem map_mkB (xs : List ByteArray) : (xs.map (·.data.toList)).map mkB = xs := by
  rw [List.map_map]
  conv => rhs; rw [← List.map_id xs]
  rfl
theorem data_mkB (xs : List (List UInt8)) : (xs.map mkB).map (·.data.toList) = xs := by
  rw [List.map_map]
  conv => rhs; rw [← List.map_id xs]
  rfl
theorem reads_row {W : World} {g : Nat} {xs : List ByteArray} {t : TypeId} (h : W.heap[g]? = some (.cells ((xs.map Value.string).toArray) t (0, 0))) (hm : xs.length ≤ 9223372036854775807) : ReadsStr W (some ⟨g, 0, none⟩) xs.length xs :=
  ⟨rfl, hm, fun _ => ⟨_, rfl, fun j hj => by
    have := blk_cell h j
    simp only [List.getElem?_toArray, List.getElem?_map] at this
    have e : (Addr.mk g 0 none).add j = ⟨g, j, none⟩ := by unfold Addr.add; split <;> simp_all
    rw [e, this, List.getElem?_eq_getElem hj, List.getD_eq_getElem?_getD, List.getElem?_eq_getElem hj]
    rfl⟩⟩

set_option maxHeartbeats 1000000 in
theorem nsplit_calls (s : ByteArray) (w : World) (hs : s.size ≤ 9223372036854775807) (hT : Tabs w) (hM : Mx w) :
    Calls Tryd.prog 10 #[.string s] w fun e w' => ∃ A c, e = .returned (.tuple #[.slice A (splitR s).1.length c, .int .i64 (splitR s).2]) ∧ ReadsStr w' A (splitR s).1.length (splitR s).1 ∧ (splitR s).1.length ≤ c ∧ Below w.heap.size w w' := by
  have hsz : s.data.toList.length = s.size := by rw [Array.length_toList]; rfl
  have HP := Lib.hid (Tryd.strings_HasPrefix)
  by_cases h1 : 400 < s.size
  · have HR := Lib.hid (splitR_none (s := s) (by rw [pathL, if_neg (by rw [hsz]; omega)]))
    clear hsz
    go_enter Tryd.func10, Tryd.ntmps10
    go_wp2
    go_ret2
    rw [HR.out]
    exact ⟨none, 0, rfl, ⟨rfl, by simp, fun h => absurd h (by simp)⟩, by simp, Below.refl _ _⟩
  · by_cases h2 : s.data.toList.head? = some 47
    · have hc : ∀ w, Calls Tryd.prog 18 #[.string s, .string ⟨#[47]⟩] w fun e w' => e = .returned (.bool true) ∧ w = w' := fun w => by
        have := HP.out s ⟨#[47]⟩ w
        have e : Lib.hasPrefix s.data.toList (⟨#[47]⟩ : ByteArray).data.toList = true := by
          cases hl : s.data.toList with
          | nil => rw [hl] at h2; simp at h2
          | cons c r => rw [hl] at h2; simp only [List.head?_cons, Option.some.injEq] at h2; subst h2; simp [Lib.hasPrefix, List.isPrefixOf]
        rw [e] at this
        exact this.mono fun _ _ ⟨h1, h2⟩ => ⟨h1, h2.symm⟩
      have HC := Lib.hid hc
      clear hc HP
      by_cases h3 : s.data.toList.tail = []
      · have hl : s.data.toList = [47] := by
          cases hl : s.data.toList with
          | nil => rw [hl] at h2; simp at h2
          | cons c r => rw [hl] at h2 h3; simp at h2 h3; rw [h2, h3]
        have HR := Lib.hid (splitR_some (s := s) (xs := []) (by rw [pathL, if_pos ⟨by rw [hsz]; omega, h2⟩, if_pos h3]))
        have he : s.toList = [47] := by rw [ByteArray.toList_eq]; exact hl
        have he2 : (s.toList == [47]) = true := by rw [he]; rfl
        clear hsz hl h2 h3 he
        go_enter Tryd.func10, Tryd.ntmps10
        go_wp2_with (first | (go_at_call 18; (refine (HC.out _).mono ?_); rintro e w1 ⟨rfl, rfl⟩) | (fail "no arm"))
        go_ret2
        rw [HR.out]
        exact ⟨none, 0, rfl, ⟨rfl, by simp, fun h => absurd h (by simp)⟩, by simp, Below.refl _ _⟩
      · have he2 : (s.toList == [47]) = false := by
          rw [beq_eq_false_iff_ne, ByteArray.toList_eq]
          intro h; rw [h] at h3; simp at h3
        have hs1 : 1 ≤ s.size := by
          rw [← hsz]
          cases hl : s.data.toList with
          | nil => rw [hl] at h2; simp at h2
          | cons c r => simp
        have ht : (s.extract 1 s.size).data.toList = s.data.toList.tail := by rw [Lib.extract_to_end, List.drop_one]
        have htl : (s.extract 1 s.size).size = s.size - 1 := by simp
        have hsp := fun (w : World) (m : Int) hm => Tryd.strings_Split (s.extract 1 s.size) ⟨#[47]⟩ m w (by rw [htl]; omega) hm (by decide)
        have hP := splitB_segs (s.extract 1 s.size)
        rw [countB_segs] at hsp
        have hn : (splitB ⟨#[47]⟩ 0 (countB (s.extract 1 s.size) ⟨#[47]⟩) (s.extract 1 s.size)).length = (segs (s.extract 1 s.size).data.toList).length := by rw [← hP, List.length_map]
        generalize splitB ⟨#[47]⟩ 0 (countB (s.extract 1 s.size) ⟨#[47]⟩) (s.extract 1 s.size) = P at *
        have hle := segs_le (s.extract 1 s.size).data.toList
        have hlen : (segs (s.extract 1 s.size).data.toList).length ≤ 401 := by
          rw [segs_length]
          have h := List.count_le_length (a := (47 : UInt8)) (l := (s.extract 1 s.size).data.toList)
          rw [ht, List.length_tail, hsz] at h
          rw [ht]
          omega
        have hR : splitR s = if P.all (fun p => nameB p.data.toList) = true then (P, 0) else ([], 4) := by
          rw [splitR, pathL, if_pos ⟨by rw [hsz]; omega, h2⟩, if_neg h3, ← ht, ← hP, List.all_map]
          by_cases hall : P.all (fun p => nameB p.data.toList) = true
          · rw [if_pos hall, if_pos (show (P.all (nameB ∘ fun x => x.data.toList)) = true from hall)]
            simp only [map_mkB]
          · rw [if_neg hall, if_neg (show ¬ (P.all (nameB ∘ fun x => x.data.toList)) = true from hall)]
        have hsz2 : ∀ p ∈ P, p.size ≤ 400 := by
          intro p hp
          have h := hle p.data.toList (by rw [← hP]; exact List.mem_map_of_mem hp)
          rw [ht, List.length_tail, hsz] at h
          have : p.data.toList.length = p.size := by rw [Array.length_toList]; rfl
          omega
        rw [← hn] at hsp hlen
        generalize hN : P.length = N at *
        have HSP := Lib.hid hsp
        have HR := Lib.hid hR
        have HS2 := Lib.hid hsz2
        have HN := Lib.hid hN
        have HT := Lib.hid hT
        have HM := Lib.hid hM
        have HB := Lib.hid (Below.refl w.heap.size w)
        clear hsz h2 h3 ht htl hsp hP hle hR hsz2 hn hN hT hM
        go_enter Tryd.func10, Tryd.ntmps10
        go_wp2_with (first
          | (go_at_call 18; (refine (HC.out _).mono ?_); rintro e w1 ⟨rfl, rfl⟩)
          | (go_at_call 19; go_loud (obtain ⟨m0, hm0⟩ := HM.out; (refine (HSP.out _ m0 hm0).mono ?_); rintro e w2 ⟨rfl, rfl⟩; clear hm0))
          | (fail "no arm"))
        go_loopw [22] (fun vi W => ∃ i : Nat, vi = .int .i64 i ∧ i ≤ N ∧ Hid ((P.take i).all (fun p => nameB p.data.toList) = true) ∧ Hid (ReadsStr W (some ⟨w.heap.size, 0, none⟩) N P) ∧ Hid (Below w.heap.size w W)) (fun vi _ => (N - (RowKit.intOf vi).toNat))
        case atStart =>
          exact ⟨0, rfl, by omega, Lib.hid (by simp), Lib.hid (by have := reads_row (W := w.alloc (.cells ((P.map Value.string).toArray) 9)) (blk_new _ _) (by rw [HN.out]; omega); rw [HN.out] at this; exact this), Lib.hid (by repeat (first | (with_reducible exact HB.out) | apply below_alloc | apply pw_below_drewN | apply below_drew1 | exact HB.out))⟩
        case round =>
          clear HB
          obtain ⟨i, rfl, hi, HA, HD, HB⟩ := hrel
          by_cases hlt : i < N
          · have hlt2 : i < P.length := by rw [HN.out]; exact hlt
            obtain ⟨p, hp⟩ : ∃ p, p = P[i] := ⟨_, rfl⟩
            have hcell : wr.cell? ⟨w.heap.size, i, none⟩ = some (.string p) := by
              obtain ⟨ad, ha, hc⟩ := HD.out.at_ (i : Int) (by omega) (by omega)
              injection ha with ha
              subst ha
              have e : (Addr.mk w.heap.size 0 none).add (i : Int).toNat = ⟨w.heap.size, i, none⟩ := by rw [Int.toNat_natCast]; unfold Addr.add; split <;> simp_all
              rw [e] at hc
              rw [hc, hp]
              unfold rdOf
              rw [Int.toNat_natCast, List.getD_eq_getElem?_getD, List.getElem?_eq_getElem hlt2]; rfl
            have hps : p.size ≤ 400 := HS2.out p (by rw [hp]; exact List.getElem_mem hlt2)
            have hrc := fun w (h : Tabs w) => nright_calls p w (by omega) h
            have hnext : (P.take (i + 1)).all (fun p => nameB p.data.toList) = nameB p.data.toList := by
              rw [List.take_succ_eq_append_getElem hlt2, List.all_append, HA.out, List.all_cons, ← hp]; simp
            cases hb : nameB p.data.toList
            · rw [hb] at hrc
              have HRC := Lib.hid hrc
              have HR2 := Lib.hid (show splitR s = ([], 4) by
                rw [HR.out, if_neg ?_]
                intro hall
                have := List.all_eq_true.1 hall p (by rw [hp]; exact List.getElem_mem hlt2)
                rw [hb] at this; cases this)
              clear hrc hnext hb hp HA
              go_wp2_with (first
                | (go_at_call 12; (refine (HRC.out _ (HT.out.below (by repeat (first | (with_reducible exact HB.out) | apply below_alloc | apply pw_below_drewN | apply below_drew1 | exact HB.out)))).mono ?_); rintro e w3 ⟨rfl, hb⟩; clear hcell; have HBn := Lib.hid (below_step (by repeat (first | (with_reducible exact HB.out) | apply below_alloc | apply pw_below_drewN | apply below_drew1 | exact HB.out)) hb); clear hb HB; have HB := HBn; clear HBn)
                | (fail "no arm"))
              go_ret2
              rw [HR2.out]
              exact ⟨none, 0, rfl, ⟨rfl, by simp, fun h => absurd h (by simp)⟩, by simp, HB.out⟩
            · rw [hb] at hrc hnext
              have HRC := Lib.hid hrc
              have HA2 := Lib.hid hnext
              clear hrc hnext hb hp HA
              go_wp2_with (first
                | (go_at_call 12; (refine (HRC.out _ (HT.out.below (by repeat (first | (with_reducible exact HB.out) | apply below_alloc | apply pw_below_drewN | apply below_drew1 | exact HB.out)))).mono ?_); rintro e w3 ⟨rfl, hb⟩; clear hcell; have HDn := Lib.hid (HD.out.below hb); clear HD; have HD := HDn; clear HDn; have HBn := Lib.hid (below_step (by repeat (first | (with_reducible exact HB.out) | apply below_alloc | apply pw_below_drewN | apply below_drew1 | exact HB.out)) hb); clear hb HB; have HB := HBn; clear HBn)
                | (fail "no arm"))
              go_roundw
              case rel => exact ⟨i + 1, by go_num, by omega, HA2, HD, HB⟩
              case measure => simp [RowKit.intOf] <;> omega
          · obtain rfl : i = N := by omega
            go_wp2
            go_ret2
            have hall := HA.out
            rw [List.take_of_length_le (by rw [HN.out]; omega)] at hall
            rw [HR.out, if_pos hall, HN.out]
            exact ⟨_, i, rfl, HD.out, Nat.le_refl _, HB.out⟩
    · have hc : ∀ w, Calls Tryd.prog 18 #[.string s, .string ⟨#[47]⟩] w fun e w' => e = .returned (.bool false) ∧ w = w' := fun w => by
        have := HP.out s ⟨#[47]⟩ w
        have e : Lib.hasPrefix s.data.toList (⟨#[47]⟩ : ByteArray).data.toList = false := by
          cases hl : s.data.toList with
          | nil => rfl
          | cons c r =>
            rw [hl] at h2
            simp only [List.head?_cons, Option.some.injEq] at h2
            simp [Lib.hasPrefix, List.isPrefixOf, Ne.symm h2]
        rw [e] at this
        exact this.mono fun _ _ ⟨h1, h2⟩ => ⟨h1, h2.symm⟩
      have HC := Lib.hid hc
      have HR := Lib.hid (splitR_none (s := s) (by rw [pathL, if_neg (fun h => h2 h.2)]))
      clear hc HP hsz h2
      go_enter Tryd.func10, Tryd.ntmps10
      go_wp2_with (first | (go_at_call 18; (refine (HC.out _).mono ?_); rintro e w1 ⟨rfl, rfl⟩) | (fail "no arm"))
      go_ret2
      rw [HR.out]
      exact ⟨none, 0, rfl, ⟨rfl, by simp, fun h => absurd h (by simp)⟩, by simp, Below.refl _ _⟩
end Go.Proofs.YtmdfgjjbllbjmaaDoor
