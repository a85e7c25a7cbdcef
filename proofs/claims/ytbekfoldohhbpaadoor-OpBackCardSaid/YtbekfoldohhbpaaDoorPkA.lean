/-
  The calls of package pack's Reader: what each comes to, and what it leaves in memory.
-/
import Derived.Test.YtbekfoldohhbpaaDoorProg
import Derived.WalkKit
import Derived.WalkSpells
import Derived.WalkLawsBesides
import Derived.BigQuiet
import Derived.Lib.Hide
import Derived.Handy
import Derived.Test.YtbekfoldohhbpaaDoorWWords
namespace Go.Proofs.YtbekfoldohhbpaaDoor
open Go.RowKit Go.Proofs.YtbekfoldohhbpaaDoorW.PrintWords
theorem pkInfo5 : (Tryd.prog.info? 5).map (fun i => (i.zero, i.size, i.bytes)) = some (some (.int .u8 0), 1, 1) := by kernel_rfl

theorem alloc_at (w : World) (o : Obj) : (w.alloc o).heap[w.heap.size]? = some o := by
  show (w.heap.push o)[w.heap.size]? = some o
  simp
theorem alloc_old {w : World} {k : Nat} {o' : Obj} (o : Obj) (h : w.heap[k]? = some o') : (w.alloc o).heap[k]? = some o' := (Below.heap_alloc w o k (blk_lt h)).trans h

/-- Only block a may have been written; none is new. -/
structure Only (a : Nat) (w w' : World) : Prop where
  os : w'.os = w.os
  tape : w'.tape = w.tape
  output : w'.output = w.output
  size : w'.heap.size = w.heap.size
  block : ∀ k, k ≠ a → w'.heap[k]? = w.heap[k]?

theorem Only.refl (a : Nat) (w : World) : Only a w w := ⟨rfl, rfl, rfl, rfl, fun _ _ => rfl⟩
theorem Only.trans {a : Nat} {w w1 w2 : World} (h : Only a w w1) (k : Only a w1 w2) : Only a w w2 :=
  ⟨k.os.trans h.os, k.tape.trans h.tape, k.output.trans h.output, k.size.trans h.size, fun i hi => (k.block i hi).trans (h.block i hi)⟩
theorem Only.set {a : Nat} {w w1 : World} (h : Only a w w1) (j : Nat) (u : Value) : Only a w (w1.setCell ⟨a, j, none⟩ u) :=
  ⟨h.os, h.tape, h.output, by simpa [World.setCell] using h.size, fun i hi => (Below.heap_setCell w1 ⟨a, j, none⟩ u i hi).trans (h.block i hi)⟩
theorem Only.below {a B : Nat} {w w' : World} (h : Only a w w') (hB : B ≤ a) : Below B w w' :=
  ⟨h.os, h.tape, h.output, Nat.le_of_eq h.size.symm, fun k hk => h.block k (by omega)⟩
theorem Only.reads {a : Nat} {w w' : World} (h : Only a w w') {k : IntKind} {A : Option Addr} {n : Nat} {xs : List Int} (hr : ReadsInt w k A n xs) (hf : ∀ ad, A = some ad → 0 < n → ad.block ≠ a) : ReadsInt w' k A n xs :=
  ⟨hr.1, hr.2.1, fun hn => by
    obtain ⟨ad, e, hc⟩ := hr.2.2 hn
    exact ⟨ad, e, fun j hj => (World.cell?_of_block (h.block _ (by rw [add_block]; exact hf ad e hn))).trans (hc j hj)⟩⟩

/-- A Reader lies in block a, its bytes in block d: what it hasn't read, and what was wrong. -/
structure RD (T : Nat) (w : World) (a d : Nat) (xs : List Int) (e : Int) : Prop where
  mk' :: (out : ∃ A c, w.heap[a]? = some (.cells #[.slice A xs.length c, .int .i64 e] T (0,0)) ∧ ReadsInt w .u8 A xs.length xs ∧ xs.length ≤ c ∧ (∀ ad, A = some ad → 0 < xs.length → ad.block = d) ∧ d ≠ a ∧ (∀ x ∈ xs, 0 ≤ x ∧ x < 256))

theorem RD.other {T : Nat} {w w' : World} {a d b : Nat} {xs : List Int} {e : Int} (h : RD T w a d xs e) (ho : Only b w w') (hne : a ≠ b) (hd : d ≠ b) : RD T w' a d xs e := by
  obtain ⟨A, c, hb, hr, hc, hA, hda, hx⟩ := h.out
  exact ⟨A, c, (ho.block a hne).trans hb, ho.reads hr (fun ad e he => by rw [hA ad e he]; exact hd), hc, hA, hda, hx⟩
theorem RD.below {T : Nat} {w w' : World} {a d : Nat} {xs : List Int} {e : Int} (h : RD T w a d xs e) (hb : Below w.heap.size w w') : RD T w' a d xs e := by
  obtain ⟨A, c, hk, hr, hc, hA, hda, hx⟩ := h.out
  exact ⟨A, c, (hb.block a (blk_lt hk)).trans hk, hr.below hb, hc, hA, hda, hx⟩
theorem RD.lt {T : Nat} {w : World} {a d : Nat} {xs : List Int} {e : Int} (h : RD T w a d xs e) : a < w.heap.size := by
  obtain ⟨A, c, hk, _⟩ := h.out
  exact blk_lt hk

/-- What a Reader comes to, of which the first m bytes are struck. -/
theorem RD.cut {T : Nat} {w : World} {a d : Nat} {xs : List Int} {e : Int} {A : Option Addr} {c m : Nat} (h : RD T w a d xs e) (hb : w.heap[a]? = some (.cells #[.slice A xs.length c, .int .i64 e] T (0,0))) (hm : m ≤ xs.length) {A' : Option Addr} {n' c' : Nat} (hA' : A' = if c = m then A else A.map (·.add m)) (hn' : n' = xs.length - m) (hc' : c' = c - m) :
    RD T (w.setCell ⟨a, 0, none⟩ (.slice A' n' c')) a d (xs.drop m) e ∧ Only a w (w.setCell ⟨a, 0, none⟩ (.slice A' n' c')) := by
  obtain ⟨A, c2, hb2, hr, hc, hA, hda, hx⟩ := h.out
  rw [hb] at hb2
  obtain ⟨rfl, rfl⟩ : _ = A ∧ c = c2 := by injection hb2 with hb2; injection hb2 with hb2; simp at hb2; exact hb2
  have hl : (xs.drop m).length = xs.length - m := by simp
  subst hA' hn' hc'
  have hbl : ∀ ad', (if c = m then A else A.map (·.add m)) = some ad' → 0 < xs.length → ad'.block = d := by
    intro ad' he hn
    cases A with
    | none => simp at he
    | some ad =>
      have hbl := hA ad rfl hn
      by_cases hcm : c = m
      · rw [if_pos hcm] at he; injection he with he; subst he; exact hbl
      · rw [if_neg hcm] at he; injection he with he; subst he; rw [add_block, hbl]
  refine ⟨⟨if c = m then A else A.map (·.add m), c - m, ?_, ?_, by omega, fun ad' he hn => hbl ad' he (by omega), hda, fun x hx' => hx x (List.mem_of_mem_drop hx')⟩, (Only.refl a w).set 0 _⟩
  · have := blk_set hb 0 (.slice (if c = m then A else A.map (·.add m)) (xs.length - m) (c - m))
    rw [hl]; simpa using this
  · rw [hl]
    exact ((Only.refl a w).set 0 _).reads (hr.drop_ m hm hc) (fun ad' he hn => by rw [hbl ad' he (by omega)]; exact hda)

set_option maxHeartbeats 400000 in
theorem wrong_calls (w : World) (a d : Nat) (xs : List Int) (e0 e : Int) (h : RD 63 w a d xs e0) :
    Calls Tryd.prog 47 #[.pointer (some ⟨a, 0, none⟩), .int .i64 e] w fun r w' => r = .returned (.tuple #[]) ∧ RD 63 w' a d [] e ∧ Only a w w' := by
  obtain ⟨A, c, hb, hr, hc, hA, hda, hx⟩ := h.out
  have c0 := blk_cell hb 0
  have c1 := blk_cell hb 1
  have z0 := blk_frozen hb 0
  have z1 := blk_frozen hb 1
  simp at c0 c1
  have HB := Lib.hid hb
  clear hb h hr hA hx
  go_enter Tryd.func47, Tryd.ntmps47
  go_wp2
  go_end0
  refine ⟨rfl, ⟨none, 0, ?_, ?_, by simp, by simp, hda, by simp⟩, ((Only.refl a w).set 0 _).set 1 _⟩
  · have := blk_set (blk_set HB.out 0 (.slice none 0 0)) 1 (.int .i64 e)
    simpa using this
  · exact ReadsInt.nil _ _

set_option maxHeartbeats 400000 in
theorem left_calls (w : World) (a d : Nat) (xs : List Int) (e0 : Int) (h : RD 63 w a d xs e0) :
    Calls Tryd.prog 22 #[.pointer (some ⟨a, 0, none⟩)] w fun r w' => r = .returned (.int .i64 xs.length) ∧ w' = w := by
  obtain ⟨A, c, hb, hr, hc, hA, hda, hx⟩ := h.out
  have c0 := blk_cell hb 0
  simp at c0
  have hm := hr.2.1
  clear hb h hr hA hx
  go_enter Tryd.func22, Tryd.ntmps22
  go_wp2
  go_ret
  exact ⟨rfl, rfl⟩
set_option maxHeartbeats 400000 in
theorem err_calls (w : World) (a d : Nat) (xs : List Int) (e0 : Int) (h : RD 63 w a d xs e0) :
    Calls Tryd.prog 23 #[.pointer (some ⟨a, 0, none⟩)] w fun r w' => r = .returned (.int .i64 e0) ∧ w' = w := by
  obtain ⟨A, c, hb, hr, hc, hA, hda, hx⟩ := h.out
  have c1 := blk_cell hb 1
  simp at c1
  clear hb h hr hA hx
  go_enter Tryd.func23, Tryd.ntmps23
  go_wp2
  go_ret
  exact ⟨rfl, rfl⟩

set_option maxHeartbeats 400000 in
theorem new_calls (w : World) (A : Option Addr) (n c : Nat) (xs : List Int) (hr : ReadsInt w .u8 A n xs) (hn : n ≤ 140737488355328) (hx : ∀ x ∈ xs, 0 ≤ x ∧ x < 256) :
    Calls Tryd.prog 20 #[.slice A n c] w fun r w' => ∃ a d, r = .returned (.pointer (some ⟨a, 0, none⟩)) ∧ RD 63 w' a d xs 0 ∧ Below w.heap.size w w' ∧ w.heap.size ≤ a ∧ w.heap.size ≤ d ∧ d < w'.heap.size := by
  have HR := Lib.hid hr
  have HX := Lib.hid hx
  obtain rfl : xs.length = n := hr.1
  clear hr hx
  go_enter Tryd.func20, Tryd.ntmps20
  go_wp2_with (at_builtin; (refine print_append_row (w0 := w) w.heap.size rfl (.tmp 3) (.tmp 4) 33 5 .u8 1 rfl Tryd.underlying33 pkInfo5 (by decide) _ [] xs A xs.length c rfl rfl ?cO ?cR ?cB ?cS ?cL ?_; (case cO => exact own_lit w w.heap.size 5 .u8 [] (Nat.le_refl _) (by decide)); (case cR => exact HR.out.below (below_alloc (Below.refl _ _) _)); (case cB => exact below_alloc (Below.refl _ _) _); (case cS => simp); (case cL => show (0 + xs.length) * 1 ≤ _; omega); intro v1 w1 ho hb hg hat; obtain ⟨A1, c1, rfl, hr1⟩ := own_reads ho; have HO := Lib.hid ho; have HB := Lib.hid hb; have HR1 := Lib.hid hr1; have HG := Lib.hid hg.size; clear ho hb hg hat hr1))
  go_ret
  have ho := HO.out
  simp only [List.nil_append] at ho
  have hG : w.heap.size + 1 ≤ w1.heap.size := by have := HG.out; simpa using this
  obtain ⟨d, hd0, hd1, hd2⟩ : ∃ d, w.heap.size ≤ d ∧ d < w1.heap.size ∧ ∀ ad, A1 = some ad → ad.block = d := by
    cases A1 with
    | none => exact ⟨w.heap.size, Nat.le_refl _, by omega, fun ad h => by cases h⟩
    | some ad => exact ⟨ad.block, own_base ho ad.block rfl, own_lt ho ad.block rfl, fun ad' h => by injection h with h; rw [h]⟩
  refine ⟨_, d, rfl, ⟨A1, c1, alloc_at _ _, (HR1.out).below (below_alloc (Below.refl _ _) _), own_cap ho, fun ad h _ => hd2 ad h, Nat.ne_of_lt hd1, HX.out⟩, below_alloc HB.out _, HB.out.size, hd0, ?_⟩
  simp only [World.size_alloc]; omega
end Go.Proofs.YtbekfoldohhbpaaDoor
