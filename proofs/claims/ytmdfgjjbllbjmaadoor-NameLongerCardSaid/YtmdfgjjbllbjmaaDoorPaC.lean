/-
  The reference's Right and Split: what the printed functions come to.
-/
import Derived.Test.YtmdfgjjbllbjmaaDoorNmC
import Derived.Test.YtmdfgjjbllbjmaaDoorPaB
import Derived.Test.YtmdfgjjbllbjmaaDoorPNameTellsx3
namespace Go.Proofs.YtmdfgjjbllbjmaaDoor
open Go.RowKit Go.Proofs.YtmdfgjjbllbjmaaDoorW.PrintWords Go.Lib

theorem formed_more (s : ByteArray) (hs : s.size ≤ 1000000) (k : Nat) (hk : 10 * s.size + 1 ≤ k) : PNameTells.holtref03_Formed.f k s = some (formedL s.data.toList.length s.data.toList) := by
  have hsz : s.data.toList.length = s.size := by rw [Array.length_toList]; rfl
  unfold PNameTells.holtref03_Formed.f
  have := l0_formed s hs s.size 0 k (by omega) (by omega) (by omega)
  rw [List.drop_zero] at this
  rw [hsz]
  exact this
theorem bt_get (s : ByteArray) (i : Nat) (h : i < s.data.toList.length) : bt s i = ((s.data.toList[i]).toNat : Int) := by
  have h2 : i < s.size := by rw [Array.length_toList] at h; exact h
  unfold bt
  rw [dif_pos (by rw [Int.toNat_natCast]; exact h2)]
  simp only [Int.toNat_natCast]
  rfl
theorem rright_l0 (s : ByteArray) (hs : s.size ≤ 1000000) (d : Nat) : ∀ (i k : Nat), i ≤ s.size → s.size - i = d → 10 * s.size + d + 2 ≤ k → (s.data.toList.take i).all okB = true →
    PNameTells.holtref03_Right.l0 k s i = some (s.data.toList.all okB && formedL s.data.toList.length s.data.toList) := by
  have hsz : s.data.toList.length = s.size := by rw [Array.length_toList]; rfl
  induction d with
  | zero =>
    intro i k hi hd hk ha
    obtain ⟨k, rfl⟩ : ∃ m, k = m + 1 := ⟨k - 1, by omega⟩
    rw [PNameTells.holtref03_Right.l0, if_neg (by omega), formed_more s hs k (by omega)]
    rw [List.take_of_length_le (by omega)] at ha
    rw [ha]; rfl
  | succ d ih =>
    intro i k hi hd hk ha
    obtain ⟨k, rfl⟩ : ∃ m, k = m + 1 := ⟨k - 1, by omega⟩
    have hl : i < s.data.toList.length := by omega
    have hb := bt_get s i hl
    have hall : ¬ okB (s.data.toList[i]) = true → s.data.toList.all okB = false := by
      intro h
      rw [← Bool.not_eq_true, List.all_eq_true]
      intro hh
      exact h (hh _ (List.getElem_mem hl))
    have hok : okB (s.data.toList[i]) = (decide (32 ≤ (s.data.toList[i]).toNat) && ((s.data.toList[i]).toNat != 47 && (s.data.toList[i]).toNat != 127)) := rfl
    rw [PNameTells.holtref03_Right.l0, if_pos (by omega), if_pos (by omega), hb]
    by_cases h1 : (s.data.toList[i]).toNat < 32
    · rw [if_pos (by omega), hall (by rw [hok, decide_eq_false (by omega)]; simp)]; rfl
    · rw [if_neg (by omega)]
      by_cases h2 : (s.data.toList[i]).toNat = 47
      · rw [if_pos (by omega), hall (by rw [hok, h2]; simp)]; rfl
      · rw [if_neg (by omega)]
        by_cases h3 : (s.data.toList[i]).toNat = 127
        · rw [if_pos (by omega), hall (by rw [hok, h3]; simp)]; rfl
        · rw [if_neg (by omega)]
          have hw : wrap64 ((i : Int) + 1) = ((i + 1 : Nat) : Int) := by unfold wrap64; omega
          rw [hw]
          refine ih (i + 1) k (by omega) (by omega) (by omega) ?_
          rw [List.take_succ_eq_append_getElem hl, List.all_append, ha, List.all_cons, hok, decide_eq_true (show 32 ≤ (s.data.toList[i]).toNat by omega), bne_iff_ne.2 h2, bne_iff_ne.2 h3]
          rfl
theorem rright_f (s : ByteArray) (k : Nat) (hk : 300 ≤ k) : PNameTells.holtref03_Right.f k s = some (nameB s.data.toList) := by
  have hsz : s.data.toList.length = s.size := by rw [Array.length_toList]; rfl
  obtain ⟨k, rfl⟩ : ∃ m, k = m + 1 := ⟨k - 1, by omega⟩
  unfold PNameTells.holtref03_Right.f nameB
  rw [hsz]
  by_cases h1 : (s.size : Int) < 1
  · rw [if_pos h1, PNameTells.holtref03_Right.j0, if_pos rfl, decide_eq_false (show ¬ 1 ≤ s.size by omega)]; simp
  · rw [if_neg h1, PNameTells.holtref03_Right.j0]
    by_cases h2 : s.size ≤ 20
    · rw [if_neg (by simp; omega)]
      have := rright_l0 s (by omega) s.size 0 k (by omega) (by omega) (by omega) (by simp)
      rw [show ((0 : Nat) : Int) = 0 from rfl] at this
      rw [this, decide_eq_true (show 1 ≤ s.size by omega), decide_eq_true h2, hsz]; rfl
    · rw [if_pos (by simp; omega), decide_eq_false h2]; simp

theorem drop_split (l : List UInt8) (f i : Nat) (hf : f ≤ i) (hl : i < l.length) : l.drop f = (l.drop f).take (i - f) ++ l[i] :: l.drop (i + 1) := by
  have e1 := (List.take_append_drop (i - f) (l.drop f)).symm
  rw [List.drop_drop, show f + (i - f) = i by omega] at e1
  rw [← List.drop_eq_getElem_cons hl]
  exact e1
theorem take_more (l : List UInt8) (f i : Nat) (hf : f ≤ i) (hl : i < l.length) : (l.drop f).take (i + 1 - f) = (l.drop f).take (i - f) ++ [l[i]] := by
  rw [show i + 1 - f = i - f + 1 by omega, List.take_succ_eq_append_getElem (by rw [List.length_drop]; omega)]
  congr 2
  rw [List.getElem_drop]
  congr 1
  omega
/-- What a split comes to, of what was found and what is there yet. -/
def fin (out : List ByteArray) (xs : List (List UInt8)) : List ByteArray × Int := if xs.all nameB = true then (out ++ xs.map mkB, 0) else ([], 4)
theorem fin_cons (out : List ByteArray) (x : List UInt8) (xs : List (List UInt8)) : fin out (x :: xs) = if nameB x = true then fin (out ++ [mkB x]) xs else ([], 4) := by
  unfold fin
  rw [List.all_cons]
  cases nameB x
  · simp
  · simp
theorem piece (s : ByteArray) (a b : Nat) : s.extract a b = mkB ((s.data.toList.drop a).take (b - a)) := by
  rw [← extract_data]
set_option maxHeartbeats 1000000 in
theorem rsplit_l0 (s : ByteArray) (hs : s.size ≤ 400) (d : Nat) : ∀ (from' i k : Nat) (out : List ByteArray), from' ≤ i → i ≤ s.size → s.size - i = d → 400 + d ≤ k → out.length ≤ i → 47 ∉ (s.data.toList.drop from').take (i - from') →
    PNameTells.holtref03_Split.l0 k s out from' i = some (fin out (segs (s.data.toList.drop from'))) := by
  have hsz : s.data.toList.length = s.size := by rw [Array.length_toList]; rfl
  induction d with
  | zero =>
    intro from' i k out hf hi hd hk ho hc
    obtain rfl : i = s.size := by omega
    obtain ⟨k, rfl⟩ : ∃ m, k = m + 2 := ⟨k - 2, by omega⟩
    have hcur : (s.data.toList.drop from').take (s.size - from') = s.data.toList.drop from' := List.take_of_length_le (by rw [List.length_drop]; omega)
    have hsg : segs (s.data.toList.drop from') = [s.data.toList.drop from'] := by
      rw [hcur] at hc
      have := segs_clean (s.data.toList.drop from') [] hc
      rw [List.append_nil] at this
      rw [this]; simp [segs]
    have hp : s.extract (from' : Int).toNat (s.size : Int).toNat = mkB (s.data.toList.drop from') := by rw [Int.toNat_natCast, Int.toNat_natCast, piece, hcur]
    rw [PNameTells.holtref03_Split.l0, if_pos (by omega), if_neg (by omega), if_pos (by omega), if_pos (by omega), hp, rright_f _ _ (by omega), hsg, fin_cons]
    simp only [Option.bind_some]
    have hbx : nameB (mkB (s.data.toList.drop from')).data.toList = nameB (s.data.toList.drop from') := rfl
    rw [hbx]
    cases nameB (s.data.toList.drop from')
    · rw [if_neg (by decide), if_neg (by decide)]
    · rw [if_pos rfl, if_pos (by omega), if_pos rfl]
      have hw : wrap64 ((s.size : Int) + 1) = ((s.size + 1 : Nat) : Int) := by unfold wrap64; omega
      rw [hw, PNameTells.holtref03_Split.l0, if_neg (by omega)]
      simp [fin]
  | succ d ih =>
    intro from' i k out hf hi hd hk ho hc
    obtain ⟨k, rfl⟩ : ∃ m, k = m + 1 := ⟨k - 1, by omega⟩
    have hl : i < s.data.toList.length := by omega
    have hb := bt_get s i hl
    have hw : wrap64 ((i : Int) + 1) = ((i + 1 : Nat) : Int) := by unfold wrap64; omega
    have hsplit := drop_split s.data.toList from' i hf hl
    have hext := take_more s.data.toList from' i hf hl
    generalize s.data.toList[i] = c at hb hsplit hext
    have hp : s.extract (from' : Int).toNat (i : Int).toNat = mkB ((s.data.toList.drop from').take (i - from')) := by rw [Int.toNat_natCast, Int.toNat_natCast, piece]
    rw [PNameTells.holtref03_Split.l0, if_pos (by omega), if_pos (by omega), if_pos (by omega), hb]
    by_cases h47 : c.toNat = 47
    · have hc47 : c = 47 := UInt8.toNat_inj.1 h47
      subst hc47
      have hsg : segs (s.data.toList.drop from') = (s.data.toList.drop from').take (i - from') :: segs (s.data.toList.drop (i + 1)) := by
        have := segs_clean _ (47 :: s.data.toList.drop (i + 1)) hc
        rw [← hsplit, segs, if_pos rfl, List.headD_cons, List.tail_cons, List.append_nil] at this
        exact this
      rw [if_pos (by decide), if_pos (by omega), if_pos (by omega), hp, rright_f _ _ (by omega), hsg, fin_cons]
      simp only [Option.bind_some]
      generalize (s.data.toList.drop from').take (i - from') = x
      have hbx : nameB (mkB x).data.toList = nameB x := rfl
      rw [hbx]
      cases nameB x
      · rw [if_neg (by decide), if_neg (by decide)]
      · rw [if_pos rfl, if_pos (by omega), if_pos rfl, hw]
        exact ih (i + 1) (i + 1) k _ (by omega) (by omega) (by omega) (by omega) (by simp; omega) (by simp)
    · rw [if_neg (by omega), hw]
      refine ih from' (i + 1) k out (by omega) (by omega) (by omega) (by omega) (by omega) ?_
      rw [hext, List.mem_append, not_or]
      refine ⟨hc, ?_⟩
      rw [List.mem_singleton]
      intro h
      rw [← h] at h47
      exact h47 rfl
theorem rsplit_f (s : ByteArray) : PNameTells.holtref03_Split.f 1000 s = some (splitR s) := by
  have hsz : s.data.toList.length = s.size := by rw [Array.length_toList]; rfl
  unfold PNameTells.holtref03_Split.f
  by_cases h0 : (s.size : Int) = 0
  · rw [if_pos h0, PNameTells.holtref03_Split.j0, if_pos rfl, splitR_none]
    have : s.data.toList = [] := List.eq_nil_of_length_eq_zero (by omega)
    rw [this]; rfl
  · rw [if_neg h0, PNameTells.holtref03_Split.j0]
    by_cases h1 : s.size ≤ 400
    · rw [if_neg (by simp; omega), if_pos (by omega)]
      have hb := bt_get s 0 (by omega)
      rw [show ((0 : Nat) : Int) = 0 from rfl] at hb
      cases hl : s.data.toList with
      | nil => rw [hl] at hsz; simp at hsz; omega
      | cons c r =>
        have hb2 : bt s 0 = (c.toNat : Int) := by rw [hb]; simp only [hl, List.getElem_cons_zero]
        rw [hb2]
        by_cases hc : c.toNat = 47
        · have hc47 : c = 47 := UInt8.toNat_inj.1 hc
          subst hc47
          rw [if_pos (by decide)]
          by_cases h2 : (s.size : Int) = 1
          · rw [if_pos h2]
            have hr : r = [] := by rw [hl] at hsz; simp at hsz; exact List.eq_nil_of_length_eq_zero (by omega)
            subst hr
            rw [splitR_some (xs := []) (by rw [hl]; rfl)]; rfl
          · rw [if_neg h2]
            have hr : r ≠ [] := by rintro rfl; rw [hl] at hsz; simp at hsz; omega
            have := rsplit_l0 s h1 (s.size - 1) 1 1 999 [] (by omega) (by omega) (by omega) (by omega) (by simp) (by simp)
            rw [show ((1 : Nat) : Int) = 1 from rfl] at this
            rw [this, hl, List.drop_one, List.tail_cons]
            have hp : pathL s.data.toList = if (segs r).all nameB = true then some (segs r) else none := by
              have hle : (47 :: r).length ≤ 400 := by rw [← hl, hsz]; exact h1
              rw [hl, pathL, if_pos ⟨hle, rfl⟩, if_neg (show ¬ (47 :: r).tail = [] from hr)]; rfl
            unfold fin splitR
            rw [hp]
            by_cases ha : (segs r).all nameB = true
            · rw [if_pos ha, if_pos ha]; simp
            · rw [if_neg ha, if_neg ha]
        · rw [if_neg (by omega), splitR_none]
          rw [hl, pathL, if_neg]
          rintro ⟨_, h⟩
          simp only [List.head?_cons, Option.some.injEq] at h
          rw [h] at hc
          exact hc rfl
    · rw [if_pos (by simp; omega), splitR_none]
      rw [pathL, if_neg (by rw [hsz]; omega)]
theorem str_of_C {w : World} {A : Option Addr} {n : Nat} {xs : List ByteArray} (h : Kd.string.C w A n xs) : ReadsOf Value.string ByteArray.empty w A n xs := Kd.reads_of_C (enc := Value.string) (d := ByteArray.empty) (h1 := fun _ => rfl) h
theorem rsplit_calls (s : ByteArray) (w : World) : Calls Tryd.prog 11 #[.string s] w fun e w' => ∃ A c, e = .returned (.tuple #[.slice A (splitR s).1.length c, .int .i64 (splitR s).2]) ∧ ReadsStr w' A (splitR s).1.length (splitR s).1 ∧ (splitR s).1.length ≤ c ∧ Below w.heap.size w w' := by
  refine (PNameTells.holtref03_Split.calls 1000 s (splitR s).1 (splitR s).2 w (rsplit_f s)).mono ?_
  rintro e w' ⟨v, rfl, hR, hb⟩
  obtain ⟨A, c, rfl, hc, hC⟩ := Kd.R_reads hR
  exact ⟨A, c, rfl, str_of_C hC, hc, hb⟩
end Go.Proofs.YtmdfgjjbllbjmaaDoor
