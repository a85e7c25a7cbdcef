/-
  Forms of texts that are read: plain lemmas on lists of bytes.
-/
import Derived.Test.YtbekfoldohhbpaaDoorPkG
namespace Go.Proofs.YtbekfoldohhbpaaDoor
open Go.RowKit Go.Proofs.YtbekfoldohhbpaaDoorW.PrintWords

theorem int_of_C {w : World} {k : IntKind} {A : Option Addr} {n : Nat} {xs : List Int} (h : (Kd.int k).C w A n xs) : ReadsInt w k A n xs := Kd.reads_of_C (enc := Value.int k) (d := (0 : Int)) (h1 := fun _ => rfl) h
theorem byte_wf {n : Int} (h : (Lit.int .u8 n).wf = true) : 0 ≤ n ∧ n < 256 := by
  have : 0 ≤ n ∧ n ≤ 255 := by simpa [Lit.wf, IntKind.min, IntKind.max, IntKind.signed, IntKind.bits] using h
  omega
theorem textForm_length (s : ByteArray) (h : s.size ≤ 4096) : (textForm s).length = (form s.size).length + s.size := by
  rw [textForm, if_neg (by omega), List.length_append, bytesOf_length]
theorem form_pos (n : Int) (h0 : 0 ≤ n) (h1 : n ≤ 4294967295) : 1 ≤ (form n).length := (formed_get _ (formed_form n h0 h1).1).2.2.1
theorem strOf_bytesOf (s : ByteArray) : strOfNums (bytesOf s) = s := by
  have h : (bytesOf s).map (fun n => UInt8.ofNat n.toNat) = s.data.toList := by
    rw [bytesOf, List.map_map]
    have : ∀ l : List UInt8, l.map ((fun n : Int => UInt8.ofNat n.toNat) ∘ fun b => (b.toNat : Int)) = l := by
      intro l
      induction l with
      | nil => rfl
      | cons b l ih => rw [List.map_cons, ih]; simp
    exact this _
  unfold strOfNums
  rw [h]
theorem rdText_form (s : ByteArray) (h : s.size ≤ 4096) (ys : List Int) (most : Int) (hm : (s.size : Int) ≤ most) : rdText (textForm s ++ ys) 0 most = (s, ys, 0) := by
  have hn : rdNum (textForm s ++ ys) 0 most = ((s.size : Int), bytesOf s ++ ys, 0) := by
    rw [textForm, if_neg (by omega), List.append_assoc, rdNum_form _ (by omega) (by omega), if_neg (by omega)]
  unfold rdText
  rw [hn]
  simp only [ne_eq, not_true_eq_false, if_false]
  rw [if_neg (by rw [List.length_append, bytesOf_length]; omega), Int.toNat_natCast, ← bytesOf_length s, List.take_left, List.drop_left, strOf_bytesOf]
theorem rdText_cut (s : ByteArray) (h : s.size ≤ 4096) (k : Nat) (hk : k < (textForm s).length) (most : Int) (hm : (s.size : Int) ≤ most) : rdText ((textForm s).take k) 0 most = (strOfNums [], [], 2) := by
  rw [textForm_length s h] at hk
  by_cases hf : k < (form s.size).length
  · have hn : rdNum ((textForm s).take k) 0 most = (0, [], 2) := by
      rw [textForm, if_neg (by omega), List.take_append_of_le_length (by omega)]
      exact rdNum_cut _ (by omega) (by omega) k hf most
    unfold rdText
    rw [hn, if_pos (by decide)]
  · have hn : rdNum ((textForm s).take k) 0 most = ((s.size : Int), (bytesOf s).take (k - (form s.size).length), 0) := by
      rw [textForm, if_neg (by omega), List.take_append, List.take_of_length_le (by omega), rdNum_form _ (by omega) (by omega), if_neg (by omega)]
    unfold rdText
    rw [hn]
    simp only [ne_eq, not_true_eq_false, if_false]
    rw [if_pos (by rw [List.length_take, bytesOf_length]; omega)]

theorem RD.at_ {T : Nat} {w W : World} {a d : Nat} {xs : List Int} {e : Int} (h : RD T w a d xs e) (hW : W.heap = w.heap) : RD T W a d xs e := by
  obtain ⟨A, c, hb, hr, hc, hA, hda, hx⟩ := h.out
  exact ⟨A, c, by rw [hW]; exact hb, ⟨hr.1, hr.2.1, fun hn => by
    obtain ⟨ad, e, hc⟩ := hr.2.2 hn
    exact ⟨ad, e, fun j hj => (World.cell?_of_block (by rw [hW])).trans (hc j hj)⟩⟩, hc, hA, hda, hx⟩
theorem RD.nonneg {T : Nat} {w : World} {a d : Nat} {xs : List Int} {e : Int} (h : RD T w a d xs e) : ∀ x ∈ xs, 0 ≤ x := by
  obtain ⟨A, c, _, _, _, _, _, hx⟩ := h.out
  exact fun x hx' => (hx x hx').1
end Go.Proofs.YtbekfoldohhbpaaDoor
