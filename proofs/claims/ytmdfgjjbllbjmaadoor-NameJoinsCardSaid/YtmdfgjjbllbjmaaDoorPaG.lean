/-
  The reference's Join.
-/
import Derived.Test.YtmdfgjjbllbjmaaDoorPaF
namespace Go.Proofs.YtmdfgjjbllbjmaaDoor
open Go.RowKit Go.Proofs.YtmdfgjjbllbjmaaDoorW.PrintWords Go.Lib

theorem strokes_take_le (xs : List (List UInt8)) (i : Nat) : (strokes (xs.take i)).length ≤ (strokes xs).length := by
  conv => rhs; rw [← List.take_append_drop i xs, strokes_app]
  rw [List.length_append]; omega
theorem joinR_wrong {xs : List ByteArray} (i : Nat) (hi : i < xs.length) (h : nameB xs[i].data.toList = false) : joinR xs = (⟨#[]⟩, 4) := by
  have : joinP (datas xs) = none := by
    rw [joinP, if_neg]
    rintro ⟨ha, _⟩
    have := List.all_eq_true.1 ha xs[i].data.toList (List.mem_map_of_mem (List.getElem_mem hi))
    rw [h] at this; cases this
  rw [joinR, this]
theorem joinR_long {xs : List ByteArray} (i : Nat) (h : 400 < (strokes ((datas xs).take i)).length) : joinR xs = (⟨#[]⟩, 4) := by
  have : joinP (datas xs) = none := by
    rw [joinP, if_neg]
    rintro ⟨_, hl⟩
    have h2 := strokes_take_le (datas xs) i
    have h3 : (strokes (datas xs)).length ≤ (pathS (datas xs)).length := by
      unfold pathS
      split
      · rename_i he; rw [he]; simp [strokes]
      · exact Nat.le_refl _
    omega
  rw [joinR, this]
theorem joinR_nil : joinR [] = (⟨#[47]⟩, 0) := rfl
theorem joinR_all {xs : List ByteArray} (h0 : xs ≠ []) (ha : (datas xs).all nameB = true) (hl : (strokes (datas xs)).length ≤ 400) : joinR xs = (mkB (strokes (datas xs)), 0) := by
  have e : pathS (datas xs) = strokes (datas xs) := by rw [pathS, if_neg (by simpa using h0)]
  rw [joinR, joinP, if_pos ⟨ha, by rw [e]; exact hl⟩, e]
theorem strokes_snoc (xs : List ByteArray) (i : Nat) (hi : i < xs.length) : strokes ((datas xs).take (i + 1)) = strokes ((datas xs).take i) ++ 47 :: xs[i].data.toList := by
  have hi' : i < (datas xs).length := by rw [List.length_map]; exact hi
  rw [List.take_succ_eq_append_getElem hi', strokes_app, List.getElem_map]
  simp [strokes]

set_option maxHeartbeats 1000000 in
theorem rjoin_calls (A : Option Addr) (c : Nat) (xs : List ByteArray) (w : World) (hr : ReadsStr w A xs.length xs) (hN : xs.length ≤ 1000000) (h100 : ∀ x ∈ xs, x.size ≤ 1000000) :
    Calls Tryd.prog 16 #[.slice A xs.length c] w fun e w' => e = .returned (.tuple #[.string (joinR xs).1, .int .i64 (joinR xs).2]) ∧ ∃ n, w' = w.drewN n := by
  by_cases h0 : xs = []
  · subst h0
    go_enter Tryd.func16, Tryd.ntmps16
    go_wp2
    go_rounds 1
    go_ret2
    rw [joinR_nil]
    exact ⟨rfl, 0, rfl⟩
  · have hpos : 0 < xs.length := List.length_pos_iff.2 h0
    obtain ⟨b, o, rfl, hcell⟩ := ReadsOf.cells hr hpos
    have hne : ((xs.length : Int) == 0) = false := by rw [beq_eq_false_iff_ne]; omega
    have HC := Lib.hid hcell
    have H100 := Lib.hid h100
    have HX0 := Lib.hid h0
    have hl : xs.length = xs.length := rfl
    generalize hLL : xs.length = N at *
    have HL := Lib.hid hLL
    clear hr hcell h100 h0 hl hLL
    go_enter Tryd.func16, Tryd.ntmps16
    go_wp2
    go_loopw [4, 5] (fun vs vi W => ∃ (i : Nat) (S : ByteArray), vi = .int .i64 i ∧ vs = .string S ∧ i ≤ N ∧ S.size ≤ 400 ∧ Hid (S = mkB (strokes ((datas xs).take i))) ∧ Hid (((datas xs).take i).all nameB = true) ∧ Hid (∃ n, W = w.drewN n)) (fun _ vi _ => (N - (RowKit.intOf vi).toNat))
    case atStart => exact ⟨0, ⟨#[]⟩, rfl, rfl, by omega, by decide, Lib.hid rfl, Lib.hid (by simp), Lib.hid ⟨0, rfl⟩⟩
    case round =>
      obtain ⟨i, S, rfl, rfl, hi, hS, HS, HA, HW⟩ := hrel
      obtain ⟨nw, rfl⟩ := HW.out
      by_cases hlt : i < N
      · have hlt2 : i < xs.length := by rw [HL.out]; exact hlt
        obtain ⟨x, hx⟩ : ∃ x, x = xs[i] := ⟨_, rfl⟩
        have hc1 : w.cell? ⟨b, o + i, none⟩ = some (.string x) := by
          have := HC.out i hlt
          rw [this, hx, List.getD_eq_getElem?_getD, List.getElem?_eq_getElem hlt2]; rfl
        have hxs : x.size ≤ 1000000 := H100.out x (by rw [hx]; exact List.getElem_mem hlt2)
        have hrc := fun w => rright_calls x w (by omega)
        have hsn := strokes_snoc xs i hlt2
        rw [← hx] at hsn
        have HSN := Lib.hid (show S ++ ⟨#[47]⟩ ++ x = mkB (strokes ((datas xs).take (i + 1))) by
          rw [hsn, HS.out]
          apply ByteArray.ext
          apply Array.toList_inj.1
          simp)
        have hszl : (S ++ ⟨#[47]⟩ ++ x).size = (strokes ((datas xs).take (i + 1))).length := by rw [HSN.out]; rfl
        have hsz : (S ++ ⟨#[47]⟩ ++ x).size = S.size + 1 + x.size := by rw [ByteArray.size_append, ByteArray.size_append]; rfl
        cases hb : nameB x.data.toList
        · have HR := Lib.hid (joinR_wrong i hlt2 (by rw [← hx]; exact hb))
          rw [hb] at hrc
          have HRC := Lib.hid hrc
          clear hrc hsn hszl hsz hb hx
          go_wp2_with (first
            | (go_at_call 13; (refine (HRC.out _).mono ?_); rintro e w3 ⟨rfl, n3, rfl⟩)
            | (fail "no arm"))
          go_ret2
          rw [HR.out]
          exact ⟨rfl, _, rfl⟩
        · rw [hb] at hrc
          have HRC := Lib.hid hrc
          have HA2 := Lib.hid (show ((datas xs).take (i + 1)).all nameB = true by
            have hi' : i < (datas xs).length := by rw [List.length_map]; exact hlt2
            rw [List.take_succ_eq_append_getElem hi', List.all_append, HA.out, List.getElem_map, ← hx]
            simp [hb])
          by_cases h400 : 400 < (S ++ ⟨#[47]⟩ ++ x).size
          · have HR := Lib.hid (joinR_long (xs := xs) (i + 1) (by rw [← hszl]; exact h400))
            rw [hsz] at h400
            clear hrc hsn hszl hsz hb hx
            go_wp2_with (first
              | (go_at_call 13; (refine (HRC.out _).mono ?_); rintro e w3 ⟨rfl, n3, rfl⟩)
              | (fail "no arm"))
            go_ret2
            rw [HR.out]
            exact ⟨rfl, _, rfl⟩
          · rw [hsz] at h400
            clear hrc hsn hszl hsz hb hx
            go_wp2_with (first
              | (go_at_call 13; (refine (HRC.out _).mono ?_); rintro e w3 ⟨rfl, n3, rfl⟩)
              | (fail "no arm"))
            go_roundw
            case rel => exact ⟨i + 1, S ++ ⟨#[47]⟩ ++ x, by go_num, rfl, by omega, by rw [ByteArray.size_append, ByteArray.size_append]; show S.size + 1 + x.size ≤ 400; omega, HSN, HA2, Lib.hid ⟨_, rfl⟩⟩
            case measure => simp [RowKit.intOf] <;> omega
      · obtain rfl : i = N := by omega
        go_wp2
        go_ret2
        have hA := HA.out
        have hSS := HS.out
        have hd : (datas xs).length = i := by rw [List.length_map, HL.out]
        rw [List.take_of_length_le (by omega)] at hA hSS
        rw [joinR_all HX0.out hA (by have : S.size = (strokes (datas xs)).length := by rw [hSS]; rfl
                                     omega), ← hSS]
        exact ⟨rfl, nw, rfl⟩
end Go.Proofs.YtmdfgjjbllbjmaaDoor
