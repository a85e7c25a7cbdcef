/-
  What package name's Cut comes to; the reference's Join; whether two lists of texts are one.
-/
import Derived.Test.YtmdfgjjbllbjmaaDoorPaD
import Derived.Deep.QuietTactic
namespace Go.Proofs.YtmdfgjjbllbjmaaDoor
open Go.RowKit Go.Proofs.YtmdfgjjbllbjmaaDoorW.PrintWords Go.Lib

theorem add_eq (b o j : Nat) : (Addr.mk b o none).add j = ⟨b, o + j, none⟩ := by
  unfold Addr.add
  split
  · rename_i h; rw [h, Nat.add_zero]
  · rfl
/-- The cells of a list of texts that isn't empty. -/
theorem ReadsOf.cells {w : World} {A : Option Addr} {n : Nat} {xs : List ByteArray} (h : ReadsStr w A n xs) (hn : 0 < n) : ∃ b o, A = some ⟨b, o, none⟩ ∧ ∀ j, j < n → w.cell? ⟨b, o + j, none⟩ = some (.string (xs.getD j ByteArray.empty)) := by
  obtain ⟨ad, rfl, hc⟩ := h.2.2 hn
  have h0 := hc 0 hn
  have hs := spot_none (show w.cell? ad = _ from h0)
  refine ⟨ad.block, ad.off, by rw [← hs], fun j hj => ?_⟩
  rw [← add_eq, ← hs]
  exact hc j hj

/-- A path without its last name, and that; the error. -/
def cutR (s : ByteArray) : ByteArray × ByteArray × Int := match pathL s.data.toList with
  | none => (⟨#[]⟩, ⟨#[]⟩, 4)
  | some [] => (⟨#[]⟩, ⟨#[]⟩, 4)
  | some (x :: xs) => (mkB (pathS (x :: xs).dropLast), mkB ((x :: xs).getLast (by simp)), 0)
theorem strokes_app (xs ys : List (List UInt8)) : strokes (xs ++ ys) = strokes xs ++ strokes ys := by simp [strokes]
theorem pathS_drop (xs : List (List UInt8)) : (pathS xs.dropLast).length ≤ (pathS xs).length := by
  cases xs with
  | nil => simp
  | cons x xs =>
    have h := List.dropLast_concat_getLast (l := x :: xs) (by simp)
    have e : strokes (x :: xs) = strokes (x :: xs).dropLast ++ strokes [(x :: xs).getLast (by simp)] := by
      rw [← strokes_app, h]
    rw [pathS, pathS, if_neg (show ¬ (x :: xs) = [] by simp), e]
    split
    · simp [strokes]; omega
    · simp

set_option maxHeartbeats 1000000 in
theorem ncut_calls (s : ByteArray) (w : World) (hs : s.size ≤ 9223372036854775807) (hT : Tabs w) (hM : Mx w) :
    Calls Tryd.prog 17 #[.string s] w fun e w' => e = .returned (.tuple #[.string (cutR s).1, .string (cutR s).2.1, .int .i64 (cutR s).2.2]) ∧ Below w.heap.size w w' := by
  have hsp := fun w (h : Tabs w) (k : Mx w) => nsplit_calls s w hs h k
  have HT := Lib.hid hT
  have HM := Lib.hid hM
  have HB := Lib.hid (Below.refl w.heap.size w)
  clear hT hM hs
  cases h : pathL s.data.toList with
  | none =>
    have HC := Lib.hid (show cutR s = (⟨#[]⟩, ⟨#[]⟩, 4) by rw [cutR, h])
    rw [splitR_none h] at hsp
    have HSP := Lib.hid hsp
    clear hsp h
    go_enter Tryd.func17, Tryd.ntmps17
    go_wp2_with (first
      | (go_at_call 10; (refine (HSP.out _ (HT.out.below (by repeat (first | (with_reducible exact HB.out) | apply below_alloc | apply pw_below_drewN | apply below_drew1 | exact HB.out))) (HM.out.below (by repeat (first | (with_reducible exact HB.out) | apply below_alloc | apply pw_below_drewN | apply below_drew1 | exact HB.out)))).mono ?_); rintro e w2 ⟨A2, c2, rfl, _, _, hb⟩; have HBn := Lib.hid (below_step (by repeat (first | (with_reducible exact HB.out) | apply below_alloc | apply pw_below_drewN | apply below_drew1 | exact HB.out)) hb); clear hb HB; have HB := HBn; clear HBn)
      | (fail "no arm"))
    go_ret3
    rw [HC.out]
    exact ⟨rfl, HB.out⟩
  | some ys =>
    cases ys with
    | nil =>
      have HC := Lib.hid (show cutR s = (⟨#[]⟩, ⟨#[]⟩, 4) by rw [cutR, h])
      rw [splitR_some h] at hsp
      have HSP := Lib.hid hsp
      clear hsp h
      go_enter Tryd.func17, Tryd.ntmps17
      go_wp2_with (first
        | (go_at_call 10; (refine (HSP.out _ (HT.out.below (by repeat (first | (with_reducible exact HB.out) | apply below_alloc | apply pw_below_drewN | apply below_drew1 | exact HB.out))) (HM.out.below (by repeat (first | (with_reducible exact HB.out) | apply below_alloc | apply pw_below_drewN | apply below_drew1 | exact HB.out)))).mono ?_); rintro e w2 ⟨A2, c2, rfl, _, _, hb⟩; have HBn := Lib.hid (below_step (by repeat (first | (with_reducible exact HB.out) | apply below_alloc | apply pw_below_drewN | apply below_drew1 | exact HB.out)) hb); clear hb HB; have HB := HBn; clear HBn)
        | (fail "no arm"))
      go_ret3
      rw [HC.out]
      exact ⟨rfl, HB.out⟩
    | cons y ys =>
      have HC := Lib.hid (show cutR s = (mkB (pathS (y :: ys).dropLast), mkB ((y :: ys).getLast (by simp)), 0) by rw [cutR, h])
      obtain ⟨p1, p2, p3⟩ := pathL_some h
      have hlen : (pathS (y :: ys)).length ≤ 400 := by rw [← p1]; exact p3
      have hdl := pathS_drop (y :: ys)
      have hall : (y :: ys).dropLast.all nameB = true := List.all_eq_true.2 fun x hx => List.all_eq_true.1 p2 x (List.dropLast_subset _ hx)
      have hjr : joinR (((y :: ys).map mkB).take ys.length) = (mkB (pathS (y :: ys).dropLast), 0) := by
        have e : datas (((y :: ys).map mkB).take ys.length) = (y :: ys).dropLast := by
          rw [datas, List.map_take, data_mkB, List.dropLast_eq_take]; rfl
        rw [joinR, e, joinP, if_pos ⟨hall, by omega⟩]
      have hlj : (pathS (datas (((y :: ys).map mkB).take ys.length))).length ≤ 100000 := by
        have e : datas (((y :: ys).map mkB).take ys.length) = (y :: ys).dropLast := by
          rw [datas, List.map_take, data_mkB, List.dropLast_eq_take]; rfl
        rw [e]; omega
      have hlast : ((y :: ys).map mkB).getD ys.length ByteArray.empty = mkB ((y :: ys).getLast (by simp)) := by
        rw [List.getD_eq_getElem?_getD, List.getElem?_map, List.getLast_eq_getElem, List.getElem?_eq_getElem (by simp)]
        simp
      rw [splitR_some h] at hsp
      have hplen : ((y :: ys).map mkB).length = ys.length + 1 := by simp
      simp only at hsp
      rw [hplen] at hsp
      have htl : (((y :: ys).map mkB).take ys.length).length = ys.length := by simp
      have hnl : ys.length ≤ 400 := by have := pathS_len (y :: ys); simp at this; omega
      generalize (y :: ys).getLast (by simp) = lst at *
      generalize pathS (y :: ys).dropLast = up at *
      generalize (y :: ys).map mkB = P at *
      generalize ys.length = n at *
      have hj := fun (w : World) (A : Option Addr) (c : Nat) (hr : ReadsStr w A n (P.take n)) (hc : n ≤ c) h k => njoin_calls A c (P.take n) w (by rw [htl]; exact hr) (by rw [htl]; exact hc) hlj h k
      rw [htl, hjr] at hj
      have HSP := Lib.hid hsp
      have HJ := Lib.hid hj
      have HL := Lib.hid hlast
      clear hsp hj hlast h p1 p2 p3 hlen hdl hall hjr hlj hplen htl
      go_enter Tryd.func17, Tryd.ntmps17
      go_wp2_with (first
        | (go_at_call 10; go_loud ((refine (HSP.out _ (HT.out.below (by repeat (first | (with_reducible exact HB.out) | apply below_alloc | apply pw_below_drewN | apply below_drew1 | exact HB.out))) (HM.out.below (by repeat (first | (with_reducible exact HB.out) | apply below_alloc | apply pw_below_drewN | apply below_drew1 | exact HB.out)))).mono ?_); rintro e w2 ⟨A2, c2, rfl, hr, hc2, hb⟩; obtain ⟨b2, o2, rfl, hcell⟩ := ReadsOf.cells hr (by omega); have hcl := hcell n (by omega); rw [HL.out] at hcl; have HCL := Lib.hid hcl; have HR := Lib.hid hr; clear hr hcell hcl; have HBn := Lib.hid (below_step (by repeat (first | (with_reducible exact HB.out) | apply below_alloc | apply pw_below_drewN | apply below_drew1 | exact HB.out)) hb); clear hb HB; have HB := HBn; clear HBn))
        | (go_at_call 15; go_loud ((refine (HJ.out _ _ _ (HR.out.take_ n (by omega)) (by omega) (HT.out.below (by repeat (first | (with_reducible exact HB.out) | apply below_alloc | apply pw_below_drewN | apply below_drew1 | exact HB.out))) (HM.out.below (by repeat (first | (with_reducible exact HB.out) | apply below_alloc | apply pw_below_drewN | apply below_drew1 | exact HB.out)))).mono ?_); rintro e w3 ⟨rfl, hb⟩; have hcl : w3.cell? ⟨b2, o2 + n, none⟩ = some (.string (mkB lst)) := pw_cell_below hb HCL.out; have HBn := Lib.hid (below_step (by repeat (first | (with_reducible exact HB.out) | apply below_alloc | apply pw_below_drewN | apply below_drew1 | exact HB.out)) hb); clear hb HB; have HB := HBn; clear HBn))
        | (fail "no arm"))
      go_quiet (fail)
      go_wp2
      go_ret3
      rw [HC.out]
      exact ⟨rfl, (by repeat (first | (with_reducible exact HB.out) | apply below_alloc | apply pw_below_drewN | apply below_drew1 | exact HB.out))⟩

/-- Whether two lists of texts are one. -/
def texB (a b : List ByteArray) : Bool := decide (a = b)
theorem texts_l0 (a b : List ByteArray) (h : a.length = b.length) (hm : a.length ≤ 1000000) (d : Nat) : ∀ i k : Nat, i ≤ a.length → a.length - i = d → d + 1 ≤ k → PNameTells.holtref03_Texts.l0 k a b i = some (decide (a.drop i = b.drop i)) := by
  induction d with
  | zero =>
    intro i k hi hd hk
    obtain ⟨k, rfl⟩ : ∃ m, k = m + 1 := ⟨k - 1, by omega⟩
    rw [PNameTells.holtref03_Texts.l0, if_neg (by omega), List.drop_eq_nil_of_le (by omega), List.drop_eq_nil_of_le (by omega)]; rfl
  | succ d ih =>
    intro i k hi hd hk
    obtain ⟨k, rfl⟩ : ∃ m, k = m + 1 := ⟨k - 1, by omega⟩
    have ha : i < a.length := by omega
    have hb : i < b.length := by omega
    have ea : rdOf ByteArray.empty a (i : Int) = a[i] := by unfold rdOf; rw [Int.toNat_natCast, List.getD_eq_getElem?_getD, List.getElem?_eq_getElem ha]; rfl
    have eb : rdOf ByteArray.empty b (i : Int) = b[i] := by unfold rdOf; rw [Int.toNat_natCast, List.getD_eq_getElem?_getD, List.getElem?_eq_getElem hb]; rfl
    have hw : wrap64 ((i : Int) + 1) = ((i + 1 : Nat) : Int) := by unfold wrap64; omega
    rw [PNameTells.holtref03_Texts.l0, if_pos (by omega), if_pos (by omega), if_pos (by omega), ea, eb, List.drop_eq_getElem_cons ha, List.drop_eq_getElem_cons hb]
    by_cases he : a[i] = b[i]
    · rw [if_pos (by rw [he]), hw, ih (i + 1) k (by omega) (by omega) (by omega)]
      simp only [he, List.cons.injEq, true_and]
    · rw [if_neg (fun h => he (by rw [ByteArray.toList_eq, ByteArray.toList_eq] at h; exact ByteArray.ext (Array.toList_inj.1 h)))]
      simp only [he, List.cons.injEq, false_and, decide_false]
theorem texts_f (a b : List ByteArray) (hm : a.length ≤ 1000000) : PNameTells.holtref03_Texts.f (a.length + 2) a b = some (texB a b) := by
  unfold PNameTells.holtref03_Texts.f texB
  by_cases h : a.length = b.length
  · rw [if_pos (by omega)]
    have := texts_l0 a b h hm a.length 0 (a.length + 2) (by omega) (by omega) (by omega)
    rw [List.drop_zero, List.drop_zero] at this
    exact this
  · rw [if_neg (by omega)]
    have : a ≠ b := fun e => h (by rw [e])
    simp [this]
theorem C_of_reads {w : World} {A : Option Addr} {n : Nat} {xs : List ByteArray} (h : ReadsStr w A n xs) : Kd.string.C w A n xs := Kd.C_of_reads (enc := Value.string) (d := ByteArray.empty) (h1 := fun _ => rfl) h
theorem texts_calls (A : Option Addr) (c : Nat) (a : List ByteArray) (B : Option Addr) (d : Nat) (b : List ByteArray) {n m : Nat} (w : World) (ha : ReadsStr w A n a) (hc : n ≤ c) (hb : ReadsStr w B m b) (hd : m ≤ d) (hm : n ≤ 1000000) :
    Calls Tryd.prog 14 #[.slice A n c, .slice B m d] w fun e w' => e = .returned (.bool (texB a b)) ∧ ∃ k, w' = w.drewN k := by
  obtain rfl := ha.1
  obtain rfl := hb.1
  exact (PNameTells.holtref03_Texts.calls (a.length + 2) A c a B d b (texB a b) w (C_of_reads ha) hc (C_of_reads hb) hd (texts_f a b hm)).mono fun _ _ ⟨he, h⟩ => ⟨he, h.out⟩
end Go.Proofs.YtmdfgjjbllbjmaaDoor
