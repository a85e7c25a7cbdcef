/-
  Well-formed texts: the decoder's steps, and the reference's bytes, are one. Plain lemmas on lists of bytes; The calls of package pack's Reader: what each comes to, and what it leaves in memory; What package name's Right, and the reference's, come to; Whether an operation is right: what package op, and the reference, come to; The calls of package pack's Reader that read: Number, Text; The calls of package pack's Reader that read texts; What a number's form comes to, said by its last byte; plain lemmas on lists of bytes; What package pack writes, and the reference: the forms of numbers and texts; The reference's form of a text; Forms that are read, and what is read: plain lemmas on lists of bytes; Forms of texts that are read: plain lemmas on lists of bytes; The bytes of an operation: what package op writes; What package op's Take comes to
-/
import Derived.Lib.ValidLaws
import Derived.Lib.TrimUEq
import Derived.Laws.RangeAny
import Derived.Test.YtfnoegijkdhckaaDoorProg
import Derived.WalkKit
import Derived.WalkSpells
import Derived.WalkLawsBesides
import Derived.BigQuiet
import Derived.Lib.Hide
import Derived.Handy
import Derived.Test.YtfnoegijkdhckaaDoorWWords
import Derived.Test.YtfnoegijkdhckaaDoorShelf
import Derived.Test.YtfnoegijkdhckaaDoorPWireEncodesx1
import Derived.Test.YtfnoegijkdhckaaDoorPWireEncodesx2
import Derived.Test.YtfnoegijkdhckaaDoorPWireEncodesx3
import Derived.Test.YtfnoegijkdhckaaDoorPWireEncodesx4
import Derived.Test.YtfnoegijkdhckaaDoorPWireEncodesx5
/- Well-formed texts: the decoder's steps, and the reference's bytes, are one. Plain lemmas on lists of bytes. -/
namespace Go.Proofs.YtfnoegijkdhckaaDoor
open Go.Lib

/-- The reference's step: how many bytes there are, if these are well-formed. -/
def stepN (len b0 b1 b2 b3 : Nat) : Option Nat :=
  if b0 < 128 then some 1
  else if 194 ≤ b0 ∧ b0 ≤ 223 then (if 1 < len ∧ 128 ≤ b1 ∧ b1 ≤ 191 then some 2 else none)
  else if b0 = 224 then (if 2 < len ∧ 160 ≤ b1 ∧ b1 ≤ 191 ∧ 128 ≤ b2 ∧ b2 ≤ 191 then some 3 else none)
  else if b0 = 237 then (if 2 < len ∧ 128 ≤ b1 ∧ b1 ≤ 159 ∧ 128 ≤ b2 ∧ b2 ≤ 191 then some 3 else none)
  else if 225 ≤ b0 ∧ b0 ≤ 239 then (if 2 < len ∧ 128 ≤ b1 ∧ b1 ≤ 191 ∧ 128 ≤ b2 ∧ b2 ≤ 191 then some 3 else none)
  else if b0 = 240 then (if 3 < len ∧ 144 ≤ b1 ∧ b1 ≤ 191 ∧ 128 ≤ b2 ∧ b2 ≤ 191 ∧ 128 ≤ b3 ∧ b3 ≤ 191 then some 4 else none)
  else if 241 ≤ b0 ∧ b0 ≤ 243 then (if 3 < len ∧ 128 ≤ b1 ∧ b1 ≤ 191 ∧ 128 ≤ b2 ∧ b2 ≤ 191 ∧ 128 ≤ b3 ∧ b3 ≤ 191 then some 4 else none)
  else if b0 = 244 then (if 3 < len ∧ 128 ≤ b1 ∧ b1 ≤ 143 ∧ 128 ≤ b2 ∧ b2 ≤ 191 ∧ 128 ≤ b3 ∧ b3 ≤ 191 then some 4 else none)
  else none

set_option maxHeartbeats 2000000 in
theorem step_one (len b0 b1 b2 b3 : Nat) (h0 : b0 < 256) (h1 : b1 < 256) (h2 : b2 < 256) (h3 : b3 < 256) :
    (stepN len b0 b1 b2 b3 = some 1 ∧ decodeN len b0 b1 b2 b3 = (b0, 1) ∧ b0 < 128) ∨
    (∃ r, stepN len b0 b1 b2 b3 = some 2 ∧ decodeN len b0 b1 b2 b3 = (r, 2) ∧ 128 ≤ r ∧ 128 ≤ b0 ∧ 128 ≤ b1 ∧ 1 < len) ∨
    (∃ r, stepN len b0 b1 b2 b3 = some 3 ∧ decodeN len b0 b1 b2 b3 = (r, 3) ∧ 128 ≤ r ∧ 128 ≤ b0 ∧ 128 ≤ b1 ∧ 128 ≤ b2 ∧ 2 < len) ∨
    (∃ r, stepN len b0 b1 b2 b3 = some 4 ∧ decodeN len b0 b1 b2 b3 = (r, 4) ∧ 128 ≤ r ∧ 128 ≤ b0 ∧ 128 ≤ b1 ∧ 128 ≤ b2 ∧ 128 ≤ b3 ∧ 3 < len) ∨
    (stepN len b0 b1 b2 b3 = none ∧ decodeN len b0 b1 b2 b3 = (65533, 1) ∧ 128 ≤ b0) := by
  by_cases c0 : b0 < 128
  · exact .inl ⟨by rw [stepN, if_pos c0], by rw [decodeN, if_pos c0], c0⟩
  · refine .inr ?_
    by_cases c2 : b0 / 32 = 6 ∧ (1 < len ∧ b1 / 64 = 2)
    · by_cases d2 : b0 % 32 * 64 + b1 % 64 ≥ 128
      · refine .inl ⟨_, ?_, by rw [decodeN, if_neg c0, if_pos c2, if_pos d2], d2, by omega, by omega, by omega⟩
        rw [stepN, if_neg c0, if_pos (by omega), if_pos (by omega)]
      · refine .inr (.inr (.inr ⟨?_, by rw [decodeN, if_neg c0, if_pos c2, if_neg d2], by omega⟩))
        rw [stepN, if_neg c0, if_neg (by omega), if_neg (by omega), if_neg (by omega), if_neg (by omega), if_neg (by omega), if_neg (by omega), if_neg (by omega)]
    · by_cases c3 : b0 / 16 = 14 ∧ (1 < len ∧ b1 / 64 = 2) ∧ (2 < len ∧ b2 / 64 = 2)
      · by_cases d3 : b0 % 16 * 4096 + b1 % 64 * 64 + b2 % 64 ≥ 2048 ∧ (b0 % 16 * 4096 + b1 % 64 * 64 + b2 % 64 < 55296 ∨ (57344 ≤ b0 % 16 * 4096 + b1 % 64 * 64 + b2 % 64 ∧ b0 % 16 * 4096 + b1 % 64 * 64 + b2 % 64 ≤ 1114111))
        · refine .inr (.inl ⟨_, ?_, by rw [decodeN, if_neg c0, if_neg c2, if_pos c3, if_pos d3], by omega, by omega, by omega, by omega, by omega⟩)
          rw [stepN, if_neg c0, if_neg (by omega)]
          by_cases e1 : b0 = 224
          · rw [if_pos e1, if_pos (by omega)]
          · rw [if_neg e1]
            by_cases e2 : b0 = 237
            · rw [if_pos e2, if_pos (by omega)]
            · rw [if_neg e2, if_pos (by omega), if_pos (by omega)]
        · refine .inr (.inr (.inr ⟨?_, by rw [decodeN, if_neg c0, if_neg c2, if_pos c3, if_neg d3], by omega⟩))
          rw [stepN, if_neg c0, if_neg (by omega)]
          by_cases e1 : b0 = 224
          · rw [if_pos e1, if_neg (by omega)]
          · rw [if_neg e1]
            by_cases e2 : b0 = 237
            · rw [if_pos e2, if_neg (by omega)]
            · omega
      · by_cases c4 : b0 / 8 = 30 ∧ (1 < len ∧ b1 / 64 = 2) ∧ (2 < len ∧ b2 / 64 = 2) ∧ (3 < len ∧ b3 / 64 = 2)
        · by_cases d4 : b0 % 8 * 262144 + b1 % 64 * 4096 + b2 % 64 * 64 + b3 % 64 ≥ 65536 ∧ (b0 % 8 * 262144 + b1 % 64 * 4096 + b2 % 64 * 64 + b3 % 64 < 55296 ∨ (57344 ≤ b0 % 8 * 262144 + b1 % 64 * 4096 + b2 % 64 * 64 + b3 % 64 ∧ b0 % 8 * 262144 + b1 % 64 * 4096 + b2 % 64 * 64 + b3 % 64 ≤ 1114111))
          · refine .inr (.inr (.inl ⟨_, ?_, by rw [decodeN, if_neg c0, if_neg c2, if_neg c3, if_pos c4, if_pos d4], by omega, by omega, by omega, by omega, by omega, by omega⟩))
            rw [stepN, if_neg c0, if_neg (by omega), if_neg (by omega), if_neg (by omega), if_neg (by omega)]
            by_cases e1 : b0 = 240
            · rw [if_pos e1, if_pos (by omega)]
            · rw [if_neg e1]
              by_cases e2 : 241 ≤ b0 ∧ b0 ≤ 243
              · rw [if_pos e2, if_pos (by omega)]
              · rw [if_neg e2, if_pos (by omega), if_pos (by omega)]
          · refine .inr (.inr (.inr ⟨?_, by rw [decodeN, if_neg c0, if_neg c2, if_neg c3, if_pos c4, if_neg d4], by omega⟩))
            rw [stepN, if_neg c0, if_neg (by omega), if_neg (by omega), if_neg (by omega), if_neg (by omega)]
            by_cases e1 : b0 = 240
            · rw [if_pos e1, if_neg (by omega)]
            · rw [if_neg e1]
              by_cases e2 : 241 ≤ b0 ∧ b0 ≤ 243
              · omega
              · rw [if_neg e2]
                by_cases e3 : b0 = 244
                · rw [if_pos e3, if_neg (by omega)]
                · rw [if_neg e3]
        · refine .inr (.inr (.inr ⟨?_, by rw [decodeN, if_neg c0, if_neg c2, if_neg c3, if_neg c4], by omega⟩))
          rw [stepN, if_neg c0]
          by_cases e0 : 194 ≤ b0 ∧ b0 ≤ 223
          · rw [if_pos e0, if_neg (by omega)]
          · rw [if_neg e0]
            by_cases e1 : b0 = 224
            · rw [if_pos e1, if_neg (by omega)]
            · rw [if_neg e1]
              by_cases e2 : b0 = 237
              · rw [if_pos e2, if_neg (by omega)]
              · rw [if_neg e2]
                by_cases e3 : 225 ≤ b0 ∧ b0 ≤ 239
                · rw [if_pos e3, if_neg (by omega)]
                · rw [if_neg e3]
                  by_cases e4 : b0 = 240
                  · rw [if_pos e4, if_neg (by omega)]
                  · rw [if_neg e4]
                    by_cases e5 : 241 ≤ b0 ∧ b0 ≤ 243
                    · rw [if_pos e5, if_neg (by omega)]
                    · rw [if_neg e5]
                      by_cases e6 : b0 = 244
                      · rw [if_pos e6, if_neg (by omega)]
                      · rw [if_neg e6]

def bN (l : List UInt8) (k : Nat) : Nat := (l.getD k 0).toNat
def stepL (l : List UInt8) : Option Nat := stepN l.length (bN l 0) (bN l 1) (bN l 2) (bN l 3)
/-- Well-formed, step by step. -/
def formedL : Nat → List UInt8 → Bool
  | 0, _ => true
  | n + 1, l => if l = [] then true else match stepL l with
    | some k => formedL n (l.drop k)
    | none => false
/-- A byte that may be in a name, by itself. -/
def okB (c : UInt8) : Bool := decide (32 ≤ c.toNat) && (c.toNat != 47 && c.toNat != 127)
/-- A rune that may be in a name. -/
def signR (r : Nat) : Bool := decide (32 ≤ r) && (r != 127 && r != 47)
def runesOk : Nat → List UInt8 → Bool
  | 0, _ => true
  | n + 1, l => if l = [] then true else signR (decodeL l).1 && runesOk n (l.drop (decodeL l).2)
theorem bN_lt (l : List UInt8) (k : Nat) : bN l k < 256 := (l.getD k 0).toNat_lt
theorem okB_high (c : UInt8) (h : 128 ≤ c.toNat) : okB c = true := by
  simp only [okB, Bool.and_eq_true, decide_eq_true_eq, bne_iff_ne]; omega
theorem signR_high (r : Nat) (h : 128 ≤ r) : signR r = true := by
  simp only [signR, Bool.and_eq_true, decide_eq_true_eq, bne_iff_ne]; omega
theorem signR_okB (c : UInt8) : signR c.toNat = okB c := by
  unfold signR okB
  rw [Bool.and_comm (c.toNat != 127)]
theorem stepL_le (l : List UInt8) (hne : l ≠ []) (k : Nat) (h : stepL l = some k) : 1 ≤ k ∧ k ≤ l.length := by
  have hl : 0 < l.length := List.length_pos_iff.2 hne
  rcases step_one l.length (bN l 0) (bN l 1) (bN l 2) (bN l 3) (bN_lt _ _) (bN_lt _ _) (bN_lt _ _) (bN_lt _ _) with ⟨h1, _⟩ | ⟨r, h1, _, _, _, _, h2⟩ | ⟨r, h1, _, _, _, _, _, h2⟩ | ⟨r, h1, _, _, _, _, _, _, h2⟩ | ⟨h1, _⟩
  all_goals
    unfold stepL at h
    rw [h1] at h
    first | (cases h; done) | (injection h with h; omega)
theorem validGo_formed (n : Nat) : ∀ l : List UInt8, validGoD n l = formedL n l := by
  induction n with
  | zero => intro l; rfl
  | succ n ih =>
    intro l
    rw [validGoD, formedL]
    by_cases hl : l = []
    · rw [if_pos hl, if_pos hl]
    · rw [if_neg hl, if_neg hl]
      rw [decodeL_N]
      have hs := step_one l.length (bN l 0) (bN l 1) (bN l 2) (bN l 3) (bN_lt _ _) (bN_lt _ _) (bN_lt _ _) (bN_lt _ _)
      have e : stepL l = stepN l.length (bN l 0) (bN l 1) (bN l 2) (bN l 3) := rfl
      rw [e]
      change (if (decodeN l.length (bN l 0) (bN l 1) (bN l 2) (bN l 3)).1 = 65533 ∧ (decodeN l.length (bN l 0) (bN l 1) (bN l 2) (bN l 3)).2 = 1 then false else validGoD n (l.drop (decodeN l.length (bN l 0) (bN l 1) (bN l 2) (bN l 3)).2)) = _
      rcases hs with ⟨h1, h2, h3⟩ | ⟨r, h1, h2, _⟩ | ⟨r, h1, h2, _⟩ | ⟨r, h1, h2, _⟩ | ⟨h1, h2, _⟩
      · rw [h1, h2, if_neg (by simp; omega)]; exact ih _
      · rw [h1, h2, if_neg (by simp)]; exact ih _
      · rw [h1, h2, if_neg (by simp)]; exact ih _
      · rw [h1, h2, if_neg (by simp)]; exact ih _
      · rw [h1, h2, if_pos (by simp)]
theorem all_take_drop (p : UInt8 → Bool) (l : List UInt8) (k : Nat) (h : (l.take k).all p = true) : l.all p = (l.drop k).all p := by
  have e : l.all p = (l.take k ++ l.drop k).all p := by rw [List.take_append_drop]
  rw [e, List.all_append, h, Bool.true_and]
theorem take_high (l : List UInt8) (k : Nat) (h : ∀ j, j < k → 128 ≤ bN l j) (hk : k ≤ l.length) : (l.take k).all okB = true := by
  rw [List.all_eq_true]
  intro c hc
  obtain ⟨j, hj, rfl⟩ := List.mem_iff_getElem.1 hc
  have hj' : j < k := by rw [List.length_take] at hj; omega
  have := h j hj'
  unfold bN at this
  rw [List.getD_eq_getElem?_getD, List.getElem?_eq_getElem (by omega)] at this
  rw [List.getElem_take]
  exact okB_high _ this
/-- In what is well-formed runes are right just where bytes are. -/
theorem runes_bytes (n : Nat) : ∀ l : List UInt8, l.length ≤ n → formedL n l = true → runesOk n l = l.all okB := by
  induction n with
  | zero => intro l hl _; obtain rfl : l = [] := List.eq_nil_of_length_eq_zero (by omega); rfl
  | succ n ih =>
    intro l hl hf
    rw [formedL] at hf
    rw [runesOk]
    by_cases hne : l = []
    · rw [if_pos hne, hne]; rfl
    · rw [if_neg hne] at hf
      rw [if_neg hne, decodeL_N]
      have hs := step_one l.length (bN l 0) (bN l 1) (bN l 2) (bN l 3) (bN_lt _ _) (bN_lt _ _) (bN_lt _ _) (bN_lt _ _)
      have e : stepL l = stepN l.length (bN l 0) (bN l 1) (bN l 2) (bN l 3) := rfl
      rw [e] at hf
      change (signR (decodeN l.length (bN l 0) (bN l 1) (bN l 2) (bN l 3)).1 && runesOk n (l.drop (decodeN l.length (bN l 0) (bN l 1) (bN l 2) (bN l 3)).2)) = _
      have hlen : 0 < l.length := List.length_pos_iff.2 hne
      rcases hs with ⟨h1, h2, h3⟩ | ⟨r, h1, h2, h3, h4, h5, h6⟩ | ⟨r, h1, h2, h3, h4, h5, h6, h7⟩ | ⟨r, h1, h2, h3, h4, h5, h6, h7, h8⟩ | ⟨h1, h2, _⟩
      · rw [h1] at hf
        rw [h2]
        cases l with
        | nil => exact absurd rfl hne
        | cons c l =>
          simp only [List.drop_succ_cons, List.drop_zero] at hf ⊢
          rw [ih l (by simp at hl; omega) hf, List.all_cons]
          congr 1
          exact signR_okB c
      · rw [h1] at hf
        rw [h2, signR_high r h3, Bool.true_and, all_take_drop okB l 2 (take_high l 2 (fun j hj => by match j, hj with | 0, _ => exact h4 | 1, _ => exact h5) (by omega))]
        exact ih _ (by rw [List.length_drop]; omega) hf
      · rw [h1] at hf
        rw [h2, signR_high r h3, Bool.true_and, all_take_drop okB l 3 (take_high l 3 (fun j hj => by match j, hj with | 0, _ => exact h4 | 1, _ => exact h5 | 2, _ => exact h6) (by omega))]
        exact ih _ (by rw [List.length_drop]; omega) hf
      · rw [h1] at hf
        rw [h2, signR_high r h3, Bool.true_and, all_take_drop okB l 4 (take_high l 4 (fun j hj => by match j, hj with | 0, _ => exact h4 | 1, _ => exact h5 | 2, _ => exact h6 | 3, _ => exact h7) (by omega))]
        exact ih _ (by rw [List.length_drop]; omega) hf
      · rw [h1] at hf; cases hf
/-- A name, by its bytes. -/
def nameB (l : List UInt8) : Bool := (decide (1 ≤ l.length) && decide (l.length ≤ 20)) && (l.all okB && formedL l.length l)
theorem nameB_runes (l : List UInt8) : nameB l = (runesOk l.length l && ((decide (1 ≤ l.length) && decide (l.length ≤ 20)) && validD l)) := by
  unfold nameB validD
  rw [validGo_formed]
  cases hf : formedL l.length l with
  | false => simp
  | true => rw [runes_bytes l.length l (Nat.le_refl _) hf, Bool.and_true, Bool.and_true, Bool.and_comm]
end Go.Proofs.YtfnoegijkdhckaaDoor
/- The calls of package pack's Reader: what each comes to, and what it leaves in memory. -/
namespace Go.Proofs.YtfnoegijkdhckaaDoor
open Go.RowKit Go.Proofs.YtfnoegijkdhckaaDoorW.PrintWords
theorem pkInfo5 : (Tryd.prog.info? 5).map (fun i => (i.zero, i.size, i.bytes)) = some (some (.int .u8 0), 1, 1) := by kernel_rfl

theorem alloc_at (w : World) (o : Obj) : (w.alloc o).heap[w.heap.size]? = some o := by
  show (w.heap.push o)[w.heap.size]? = some o
  simp
theorem alloc_old {w : World} {k : Nat} {o' : Obj} (o : Obj) (h : w.heap[k]? = some o') : (w.alloc o).heap[k]? = some o' := (Below.heap_alloc w o k (blk_lt h)).trans h

/-- Only block a may have been written; none is new. -/
structure Only (a : Nat) (w w' : World) : Prop where
  os : w'.os = w.os
  tape : w'.tape = w.tape
  output : w'.output = w.output
  size : w'.heap.size = w.heap.size
  block : ∀ k, k ≠ a → w'.heap[k]? = w.heap[k]?

theorem Only.refl (a : Nat) (w : World) : Only a w w := ⟨rfl, rfl, rfl, rfl, fun _ _ => rfl⟩
theorem Only.trans {a : Nat} {w w1 w2 : World} (h : Only a w w1) (k : Only a w1 w2) : Only a w w2 :=
  ⟨k.os.trans h.os, k.tape.trans h.tape, k.output.trans h.output, k.size.trans h.size, fun i hi => (k.block i hi).trans (h.block i hi)⟩
theorem Only.set {a : Nat} {w w1 : World} (h : Only a w w1) (j : Nat) (u : Value) : Only a w (w1.setCell ⟨a, j, none⟩ u) :=
  ⟨h.os, h.tape, h.output, by simpa [World.setCell] using h.size, fun i hi => (Below.heap_setCell w1 ⟨a, j, none⟩ u i hi).trans (h.block i hi)⟩
theorem Only.below {a B : Nat} {w w' : World} (h : Only a w w') (hB : B ≤ a) : Below B w w' :=
  ⟨h.os, h.tape, h.output, Nat.le_of_eq h.size.symm, fun k hk => h.block k (by omega)⟩
theorem Only.reads {a : Nat} {w w' : World} (h : Only a w w') {k : IntKind} {A : Option Addr} {n : Nat} {xs : List Int} (hr : ReadsInt w k A n xs) (hf : ∀ ad, A = some ad → 0 < n → ad.block ≠ a) : ReadsInt w' k A n xs :=
  ⟨hr.1, hr.2.1, fun hn => by
    obtain ⟨ad, e, hc⟩ := hr.2.2 hn
    exact ⟨ad, e, fun j hj => (World.cell?_of_block (h.block _ (by rw [add_block]; exact hf ad e hn))).trans (hc j hj)⟩⟩

/-- A Reader lies in block a, its bytes in block d: what it hasn't read, and what was wrong. -/
structure RD (T : Nat) (w : World) (a d : Nat) (xs : List Int) (e : Int) : Prop where
  mk' :: (out : ∃ A c, w.heap[a]? = some (.cells #[.slice A xs.length c, .int .i64 e] T (0,0)) ∧ ReadsInt w .u8 A xs.length xs ∧ xs.length ≤ c ∧ (∀ ad, A = some ad → 0 < xs.length → ad.block = d) ∧ d ≠ a ∧ (∀ x ∈ xs, 0 ≤ x ∧ x < 256))

theorem RD.other {T : Nat} {w w' : World} {a d b : Nat} {xs : List Int} {e : Int} (h : RD T w a d xs e) (ho : Only b w w') (hne : a ≠ b) (hd : d ≠ b) : RD T w' a d xs e := by
  obtain ⟨A, c, hb, hr, hc, hA, hda, hx⟩ := h.out
  exact ⟨A, c, (ho.block a hne).trans hb, ho.reads hr (fun ad e he => by rw [hA ad e he]; exact hd), hc, hA, hda, hx⟩
theorem RD.below {T : Nat} {w w' : World} {a d : Nat} {xs : List Int} {e : Int} (h : RD T w a d xs e) (hb : Below w.heap.size w w') : RD T w' a d xs e := by
  obtain ⟨A, c, hk, hr, hc, hA, hda, hx⟩ := h.out
  exact ⟨A, c, (hb.block a (blk_lt hk)).trans hk, hr.below hb, hc, hA, hda, hx⟩
theorem RD.lt {T : Nat} {w : World} {a d : Nat} {xs : List Int} {e : Int} (h : RD T w a d xs e) : a < w.heap.size := by
  obtain ⟨A, c, hk, _⟩ := h.out
  exact blk_lt hk

/-- What a Reader comes to, of which the first m bytes are struck. -/
theorem RD.cut {T : Nat} {w : World} {a d : Nat} {xs : List Int} {e : Int} {A : Option Addr} {c m : Nat} (h : RD T w a d xs e) (hb : w.heap[a]? = some (.cells #[.slice A xs.length c, .int .i64 e] T (0,0))) (hm : m ≤ xs.length) {A' : Option Addr} {n' c' : Nat} (hA' : A' = if c = m then A else A.map (·.add m)) (hn' : n' = xs.length - m) (hc' : c' = c - m) :
    RD T (w.setCell ⟨a, 0, none⟩ (.slice A' n' c')) a d (xs.drop m) e ∧ Only a w (w.setCell ⟨a, 0, none⟩ (.slice A' n' c')) := by
  obtain ⟨A, c2, hb2, hr, hc, hA, hda, hx⟩ := h.out
  rw [hb] at hb2
  obtain ⟨rfl, rfl⟩ : _ = A ∧ c = c2 := by injection hb2 with hb2; injection hb2 with hb2; simp at hb2; exact hb2
  have hl : (xs.drop m).length = xs.length - m := by simp
  subst hA' hn' hc'
  have hbl : ∀ ad', (if c = m then A else A.map (·.add m)) = some ad' → 0 < xs.length → ad'.block = d := by
    intro ad' he hn
    cases A with
    | none => simp at he
    | some ad =>
      have hbl := hA ad rfl hn
      by_cases hcm : c = m
      · rw [if_pos hcm] at he; injection he with he; subst he; exact hbl
      · rw [if_neg hcm] at he; injection he with he; subst he; rw [add_block, hbl]
  refine ⟨⟨if c = m then A else A.map (·.add m), c - m, ?_, ?_, by omega, fun ad' he hn => hbl ad' he (by omega), hda, fun x hx' => hx x (List.mem_of_mem_drop hx')⟩, (Only.refl a w).set 0 _⟩
  · have := blk_set hb 0 (.slice (if c = m then A else A.map (·.add m)) (xs.length - m) (c - m))
    rw [hl]; simpa using this
  · rw [hl]
    exact ((Only.refl a w).set 0 _).reads (hr.drop_ m hm hc) (fun ad' he hn => by rw [hbl ad' he (by omega)]; exact hda)

set_option maxHeartbeats 400000 in
theorem wrong_calls (w : World) (a d : Nat) (xs : List Int) (e0 e : Int) (h : RD 79 w a d xs e0) :
    Calls Tryd.prog 54 #[.pointer (some ⟨a, 0, none⟩), .int .i64 e] w fun r w' => r = .returned (.tuple #[]) ∧ RD 79 w' a d [] e ∧ Only a w w' := by
  obtain ⟨A, c, hb, hr, hc, hA, hda, hx⟩ := h.out
  have c0 := blk_cell hb 0
  have c1 := blk_cell hb 1
  have z0 := blk_frozen hb 0
  have z1 := blk_frozen hb 1
  simp at c0 c1
  have HB := Lib.hid hb
  clear hb h hr hA hx
  go_enter Tryd.func54, Tryd.ntmps54
  go_wp2
  go_end0
  refine ⟨rfl, ⟨none, 0, ?_, ?_, by simp, by simp, hda, by simp⟩, ((Only.refl a w).set 0 _).set 1 _⟩
  · have := blk_set (blk_set HB.out 0 (.slice none 0 0)) 1 (.int .i64 e)
    simpa using this
  · exact ReadsInt.nil _ _

set_option maxHeartbeats 400000 in
theorem left_calls (w : World) (a d : Nat) (xs : List Int) (e0 : Int) (h : RD 79 w a d xs e0) :
    Calls Tryd.prog 41 #[.pointer (some ⟨a, 0, none⟩)] w fun r w' => r = .returned (.int .i64 xs.length) ∧ w' = w := by
  obtain ⟨A, c, hb, hr, hc, hA, hda, hx⟩ := h.out
  have c0 := blk_cell hb 0
  simp at c0
  have hm := hr.2.1
  clear hb h hr hA hx
  go_enter Tryd.func41, Tryd.ntmps41
  go_wp2
  go_ret
  exact ⟨rfl, rfl⟩
set_option maxHeartbeats 400000 in
theorem err_calls (w : World) (a d : Nat) (xs : List Int) (e0 : Int) (h : RD 79 w a d xs e0) :
    Calls Tryd.prog 40 #[.pointer (some ⟨a, 0, none⟩)] w fun r w' => r = .returned (.int .i64 e0) ∧ w' = w := by
  obtain ⟨A, c, hb, hr, hc, hA, hda, hx⟩ := h.out
  have c1 := blk_cell hb 1
  simp at c1
  clear hb h hr hA hx
  go_enter Tryd.func40, Tryd.ntmps40
  go_wp2
  go_ret
  exact ⟨rfl, rfl⟩

set_option maxHeartbeats 400000 in
theorem new_calls (w : World) (A : Option Addr) (n c : Nat) (xs : List Int) (hr : ReadsInt w .u8 A n xs) (hn : n ≤ 140737488355328) (hx : ∀ x ∈ xs, 0 ≤ x ∧ x < 256) :
    Calls Tryd.prog 34 #[.slice A n c] w fun r w' => ∃ a d, r = .returned (.pointer (some ⟨a, 0, none⟩)) ∧ RD 79 w' a d xs 0 ∧ Below w.heap.size w w' ∧ w.heap.size ≤ a ∧ w.heap.size ≤ d ∧ d < w'.heap.size := by
  have HR := Lib.hid hr
  have HX := Lib.hid hx
  obtain rfl : xs.length = n := hr.1
  clear hr hx
  go_enter Tryd.func34, Tryd.ntmps34
  go_wp2_with (at_builtin; (refine print_append_row (w0 := w) w.heap.size rfl (.tmp 3) (.tmp 4) 25 5 .u8 1 rfl Tryd.underlying25 pkInfo5 (by decide) _ [] xs A xs.length c rfl rfl ?cO ?cR ?cB ?cS ?cL ?_; (case cO => exact own_lit w w.heap.size 5 .u8 [] (Nat.le_refl _) (by decide)); (case cR => exact HR.out.below (below_alloc (Below.refl _ _) _)); (case cB => exact below_alloc (Below.refl _ _) _); (case cS => simp); (case cL => show (0 + xs.length) * 1 ≤ _; omega); intro v1 w1 ho hb hg hat; obtain ⟨A1, c1, rfl, hr1⟩ := own_reads ho; have HO := Lib.hid ho; have HB := Lib.hid hb; have HR1 := Lib.hid hr1; have HG := Lib.hid hg.size; clear ho hb hg hat hr1))
  go_ret
  have ho := HO.out
  simp only [List.nil_append] at ho
  have hG : w.heap.size + 1 ≤ w1.heap.size := by have := HG.out; simpa using this
  obtain ⟨d, hd0, hd1, hd2⟩ : ∃ d, w.heap.size ≤ d ∧ d < w1.heap.size ∧ ∀ ad, A1 = some ad → ad.block = d := by
    cases A1 with
    | none => exact ⟨w.heap.size, Nat.le_refl _, by omega, fun ad h => by cases h⟩
    | some ad => exact ⟨ad.block, own_base ho ad.block rfl, own_lt ho ad.block rfl, fun ad' h => by injection h with h; rw [h]⟩
  refine ⟨_, d, rfl, ⟨A1, c1, alloc_at _ _, (HR1.out).below (below_alloc (Below.refl _ _) _), own_cap ho, fun ad h _ => hd2 ad h, Nat.ne_of_lt hd1, HX.out⟩, below_alloc HB.out _, HB.out.size, hd0, ?_⟩
  simp only [World.size_alloc]; omega
end Go.Proofs.YtfnoegijkdhckaaDoor
/- What package name's Right, and the reference's, come to. -/
namespace Go.Proofs.YtfnoegijkdhckaaDoor
open Go.RowKit Go.Proofs.YtfnoegijkdhckaaDoorW.PrintWords Go.Lib

/-- Go's own tables for utf8 lie where they were laid. -/
def Tabs (w : World) : Prop := Lib.Utf8Tabs (Tryd.laysValid_ren.g 3) (Tryd.laysValid_ren.g 4) w
theorem Tabs.below {w w' : World} (h : Tabs w) (hb : Below w.heap.size w w') : Tabs w' := Utf8Tabs_below h hb

set_option maxHeartbeats 400000 in
theorem sign_calls (r : Nat) (w : World) (hr : r ≤ 2147483647) : Calls Tryd.prog 60 #[.int .i32 r] w fun e w' => e = .returned (.bool (signR r)) ∧ w' = w := by
  by_cases h1 : 32 ≤ r
  · by_cases h2 : r = 127
    · subst h2
      go_enter Tryd.func60, Tryd.ntmps60
      go_wp2
      go_ret
      exact ⟨rfl, rfl⟩
    · by_cases h3 : r = 47
      · subst h3
        go_enter Tryd.func60, Tryd.ntmps60
        go_wp2
        go_ret
        exact ⟨rfl, rfl⟩
      · have hs := Lib.hid (show signR r = true by unfold signR; simp only [Bool.and_eq_true, decide_eq_true_eq, bne_iff_ne]; omega)
        have e2 : ((r : Int) != 127) = true := by rw [bne_iff_ne]; omega
        have e3 : ((r : Int) != 47) = true := by rw [bne_iff_ne]; omega
        go_enter Tryd.func60, Tryd.ntmps60
        go_wp2
        go_ret
        rw [hs.out]
        exact ⟨by simp, rfl⟩
  · have hs := Lib.hid (show signR r = false by unfold signR; rw [decide_eq_false (by omega), Bool.false_and])
    go_enter Tryd.func60, Tryd.ntmps60
    go_wp2
    go_ret
    rw [hs.out]
    exact ⟨by simp, rfl⟩

set_option maxHeartbeats 1000000 in
theorem nright_calls (s : ByteArray) (w : World) (hs : s.size ≤ 9223372036854775807) (hT : Tabs w) : Calls Tryd.prog 47 #[.string s] w fun e w' => e = .returned (.bool (nameB s.data.toList)) ∧ Below w.heap.size w w' := by
  have HT := Lib.hid hT
  have cV : ∀ w1, Tabs w1 → Calls Tryd.prog 61 #[.string s] w1 _ := fun w1 h1 => Any.utf8_ValidString Tryd.laysValid s w1 hs h1
  have HV := Lib.hid cV
  have hsz : s.data.toList.length = s.size := by rw [Array.length_toList]; rfl
  have HN := Lib.hid (nameB_runes s.data.toList)
  have HSZ := Lib.hid hsz
  clear hT cV hsz
  go_enter Tryd.func47, Tryd.ntmps47
  go_wp2
  go_loopw [] (fun w' => ∃ (pos b : Nat), w' = w.iter s pos ∧ Hid (runesOk s.data.toList.length s.data.toList = runesOk b (s.data.toList.drop pos)) ∧ s.size ≤ pos + b) (fun w' => s.size - w'.iterPos w.heap.size)
  case atStart => exact ⟨0, s.size, rfl, Lib.hid (by rw [HSZ.out, List.drop_zero]), by omega⟩
  case round =>
    obtain ⟨pos, b, rfl, HR, hb⟩ := hrel
    by_cases hp : pos < s.size
    · have hnx : ∀ ty, (Instr.next (.pointer (some ⟨w.heap.size, 0, none⟩)) true ty).run Tryd.prog (w.iter s pos) = _ := fun ty => run_next_any w s pos ty hp
      obtain ⟨b', rfl⟩ : ∃ b', b = b' + 1 := ⟨b - 1, by omega⟩
      have hne : s.data.toList.drop pos ≠ [] := by
        intro h
        have := congrArg List.length h
        rw [List.length_drop, HSZ.out] at this
        simp at this; omega
      have hr := HR.out
      rw [runesOk, if_neg hne, decodeL_drop, List.drop_drop] at hr
      have hle := decode_le s pos
      have hwd : 1 ≤ (Utf8.decode s pos).2 := by rw [← decodeL_drop]; exact decodeL_width _
      obtain ⟨r, hrr⟩ : ∃ r, r = (Utf8.decode s pos).1 := ⟨_, rfl⟩
      obtain ⟨wd, hw⟩ : ∃ wd, wd = (Utf8.decode s pos).2 := ⟨_, rfl⟩
      rw [← hrr] at hnx hr hle
      rw [← hw] at hnx hr hwd
      clear hrr hw hne HR
      by_cases hsg : signR r = true
      · rw [hsg, Bool.true_and] at hr
        have HR := Lib.hid hr
        have HS := Lib.hid hsg
        clear hr hsg
        go_wp2_with (go_at_call 60; refine (sign_calls r _ hle).mono ?_; rw [HS.out]; rintro e w' ⟨rfl, rfl⟩)
        go_roundw
        case rel => exact ⟨pos + wd, b', rfl, HR, by omega⟩
        case measure => simp; omega
      · have HF := Lib.hid (show nameB s.data.toList = false by rw [HN.out, hr]; simp [hsg])
        have HS := Lib.hid (show signR r = false by simpa using hsg)
        clear hr hsg
        go_wp2_with (go_at_call 60; refine (sign_calls r _ hle).mono ?_; rw [HS.out]; rintro e w' ⟨rfl, rfl⟩)
        go_ret
        rw [HF.out]
        exact ⟨rfl, below_alloc (Below.refl _ _) _⟩
    · have hnx : ∀ ty, (Instr.next (.pointer (some ⟨w.heap.size, 0, none⟩)) true ty).run Tryd.prog (w.iter s pos) = _ := fun ty => run_next_end w s pos ty hp
      have hend : runesOk b (s.data.toList.drop pos) = true := by
        rw [List.drop_eq_nil_of_le (by rw [HSZ.out]; omega)]
        cases b <;> simp [runesOk]
      have HF := Lib.hid (show nameB s.data.toList = ((decide (1 ≤ s.size) && decide (s.size ≤ 20)) && validD s.data.toList) by rw [HN.out, HR.out, hend, Bool.true_and, HSZ.out])
      have hbel : Below w.heap.size w (w.iter s pos) := below_alloc (Below.refl _ _) _
      have HTT := Lib.hid (HT.out.below hbel)
      have HBL := Lib.hid hbel
      clear hend HR hbel
      by_cases h1 : 1 ≤ s.size
      · by_cases h2 : s.size ≤ 20
        · go_wp2_with (go_at_call 61; refine (HV.out _ HTT.out).mono ?_; rintro e w' ⟨rfl, hb⟩; have HB := Lib.hid hb; clear hb)
          go_ret
          rw [HF.out, decide_eq_true h1, decide_eq_true h2]
          exact ⟨by simp, below_step HBL.out HB.out⟩
        · go_wp2
          go_ret
          rw [HF.out, decide_eq_false h2]
          exact ⟨by simp, HBL.out⟩
      · go_wp2
        go_ret
        rw [HF.out, decide_eq_false h1]
        exact ⟨by simp, HBL.out⟩
end Go.Proofs.YtfnoegijkdhckaaDoor
/- Whether an operation is right: what package op, and the reference, come to. -/
namespace Go.Proofs.YtfnoegijkdhckaaDoor
open Go.RowKit Go.Proofs.YtfnoegijkdhckaaDoorW.PrintWords

structure OpR where
  n : Int
  r : Int
  node : Int
  par : Int
  name : ByteArray
def opV (o : OpR) : Value := .agg #[.int .i64 o.n, .int .i64 o.r, .int .i64 o.node, .int .i64 o.par, .string o.name]
def nodeR (n : Int) : Bool := decide (256 ≤ n) && decide (n ≤ 4294967295)
def stampR (n r : Int) : Bool := (decide (1 ≤ n) && decide (n ≤ 16777215)) && (decide (0 ≤ r) && decide (r ≤ 255))
def toR (n : Int) : Bool := n == 0 || (n == 1 || nodeR n)
def opRight (o : OpR) : Bool := stampR o.n o.r && (nodeR o.node && (toR o.par && nameB o.name.data.toList))

theorem node_f (n : Int) : PWireEncodes.op_Node.f n = some (nodeR n) := by
  unfold PWireEncodes.op_Node.f nodeR
  by_cases h : n ≥ 256
  · rw [if_pos h, decide_eq_true h, Bool.true_and]
  · rw [if_neg h, decide_eq_false h, Bool.false_and]
theorem rnode_f (n : Int) : PWireEncodes.holtref05_Node.f n = some (nodeR n) := by
  unfold PWireEncodes.holtref05_Node.f nodeR
  by_cases h : n ≥ 256
  · rw [if_pos h, decide_eq_true h, Bool.true_and]
  · rw [if_neg h, decide_eq_false h, Bool.false_and]
theorem stamp_f (n r : Int) : PWireEncodes.stamp_Right.f n r = some (stampR n r) := by
  unfold PWireEncodes.stamp_Right.f stampR
  have e4 : decide (r < 256) = decide (r ≤ 255) := decide_eq_decide.2 (by omega)
  by_cases h1 : n ≥ 1
  · by_cases h2 : n ≤ 16777215
    · by_cases h3 : r ≥ 0
      · rw [if_pos h1, if_pos h2, if_pos h3, decide_eq_true h1, decide_eq_true h2, decide_eq_true h3, e4]; rfl
      · rw [if_pos h1, if_pos h2, if_neg h3, decide_eq_false h3]; simp
    · rw [if_pos h1, if_neg h2, decide_eq_false h2]; simp
  · rw [if_neg h1, decide_eq_false h1]; simp
theorem rstamp_f (n r : Int) : PWireEncodes.holtref04_Right.f n r = some (stampR n r) := by
  unfold PWireEncodes.holtref04_Right.f stampR
  have e2 : decide (n ≤ 16777215) = decide (n < 16777216) := decide_eq_decide.2 (by omega)
  by_cases h1 : n > 0
  · by_cases h2 : n < 16777216
    · by_cases h3 : r ≥ 0
      · rw [if_pos h1, if_pos h2, if_pos h3, e2, decide_eq_true (show 1 ≤ n by omega), decide_eq_true h2, decide_eq_true h3]; rfl
      · rw [if_pos h1, if_pos h2, if_neg h3, decide_eq_false h3]; simp
    · rw [if_pos h1, if_neg h2, e2, decide_eq_false h2]; simp
  · rw [if_neg h1, decide_eq_false (show ¬ 1 ≤ n by omega)]; simp
theorem node_calls (n : Int) (w : World) : Calls Tryd.prog 45 #[.int .i64 n] w fun e w' => e = .returned (.bool (nodeR n)) ∧ ∃ m, w' = w.drewN m :=
  (PWireEncodes.op_Node.calls n _ w (node_f n)).mono fun _ _ ⟨he, h⟩ => ⟨he, h.out⟩
theorem rnode_calls (n : Int) (w : World) : Calls Tryd.prog 52 #[.int .i64 n] w fun e w' => e = .returned (.bool (nodeR n)) ∧ ∃ m, w' = w.drewN m :=
  (PWireEncodes.holtref05_Node.calls n _ w (rnode_f n)).mono fun _ _ ⟨he, h⟩ => ⟨he, h.out⟩
theorem stamp_calls (n r : Int) (w : World) : Calls Tryd.prog 46 #[.agg #[.int .i64 n, .int .i64 r]] w fun e w' => e = .returned (.bool (stampR n r)) ∧ Below w.heap.size w w' :=
  PWireEncodes.stamp_Right.calls n r _ w (stamp_f n r)
theorem rstamp_calls (n r : Int) (w : World) : Calls Tryd.prog 50 #[.agg #[.int .i64 n, .int .i64 r]] w fun e w' => e = .returned (.bool (stampR n r)) ∧ Below w.heap.size w w' :=
  PWireEncodes.holtref04_Right.calls n r _ w (rstamp_f n r)

set_option maxHeartbeats 2000000 in
theorem right_calls (o : OpR) (w : World) (hs : o.name.size ≤ 9223372036854775807) (hT : Tabs w) : Calls Tryd.prog 22 #[opV o] w fun e w' => e = .returned (.bool (opRight o)) ∧ Below w.heap.size w w' := by
  obtain ⟨n, r, node, par, name⟩ := o
  simp only [opV] at hs ⊢
  have HT := Lib.hid hT
  clear hT
  have HR := Lib.hid (show opRight ⟨n, r, node, par, name⟩ = (stampR n r && (nodeR node && ((par == 0 || (par == 1 || nodeR par)) && nameB name.data.toList))) from rfl)
  have hc1 := stamp_calls n r
  have hc2 := node_calls node
  have hc3 := node_calls par
  have hc4 := fun w (h : Tabs w) => nright_calls name w hs h
  generalize opRight ⟨n, r, node, par, name⟩ = R at *
  generalize stampR n r = S at *
  generalize nodeR node = N at *
  generalize nodeR par = N2 at *
  generalize nameB name.data.toList = M at *
  have HC1 := Lib.hid hc1
  have HC2 := Lib.hid hc2
  have HC3 := Lib.hid hc3
  have HC4 := Lib.hid hc4
  have HB := Lib.hid (Below.refl w.heap.size w)
  clear hc1 hc2 hc3 hc4
  go_enter Tryd.func22, Tryd.ntmps22
  go_wp2_with (first
    | (go_at_call 45; (with_reducible refine (HC3.out _).mono ?_); rintro e w1 ⟨rfl, m1, rfl⟩)
    | (go_at_call 46; refine (HC1.out _).mono ?_; rintro e w2 ⟨rfl, hb⟩; have c2 : w2.cell? ⟨w.heap.size, 2, none⟩ = some (.int .i64 node) := pw_cell_below hb (by go_cell); have c4 : w2.cell? ⟨w.heap.size, 4, none⟩ = some (.string name) := pw_cell_below hb (by go_cell); have HBn := Lib.hid (below_step (by repeat (first | (with_reducible exact HB.out) | apply below_alloc | apply pw_below_drewN | apply below_drew1 | exact HB.out)) hb); clear hb HB; have HB := HBn; clear HBn)
    | (go_at_call 45; (with_reducible refine (HC2.out _).mono ?_); rintro e w3 ⟨rfl, m3, rfl⟩)
    | (go_at_call 47; refine (HC4.out _ (HT.out.below (by repeat (first | (with_reducible exact HB.out) | apply below_alloc | apply pw_below_drewN | apply below_drew1 | exact HB.out)))).mono ?_; rintro e w4 ⟨rfl, hb⟩; have HBn := Lib.hid (below_step (by repeat (first | (with_reducible exact HB.out) | apply below_alloc | apply pw_below_drewN | apply below_drew1 | exact HB.out)) hb); clear hb HB; have HB := HBn; clear HBn))
  go_ways
  all_goals (go_ret; refine ⟨?_, (by repeat (first | (with_reducible exact HB.out) | apply below_alloc | apply pw_below_drewN | apply below_drew1 | exact HB.out))⟩; rw [HR.out]; clear HC1 HC2 HC3 HC4; simp_all)
end Go.Proofs.YtfnoegijkdhckaaDoor
/- The calls of package pack's Reader that read: Number, Text. -/
namespace Go.Proofs.YtfnoegijkdhckaaDoor
open Go.RowKit Go.Proofs.YtfnoegijkdhckaaDoorW.PrintWords

/-- What is read of a number's form, from place i on: the number, what is left, what was wrong. -/
def numGo (xs : List Int) (most : Int) : Nat → Nat → Int → Int → Int × List Int × Int
  | 0, _, _, _ => (0, [], 3)
  | k + 1, i, n, unit =>
    if xs.length ≤ i then (0, [], 2) else
    if 128 ≤ xs.getD i 0 then numGo xs most k (i + 1) (n + xs.getD i 0 % 128 * unit) (unit * 128)
    else if (xs.getD i 0 = 0 ∧ 0 < i) ∨ 4294967295 < n + xs.getD i 0 % 128 * unit ∨ most < n + xs.getD i 0 % 128 * unit then (0, [], 3)
    else (n + xs.getD i 0 % 128 * unit, xs.drop (i + 1), 0)
def rdNum (xs : List Int) (e most : Int) : Int × List Int × Int := if e = 0 then numGo xs most 5 0 0 1 else (0, xs, e)

set_option maxHeartbeats 1000000 in
theorem num_calls (w : World) (a d : Nat) (xs : List Int) (e most : Int) (h : RD 79 w a d xs e) :
    Calls Tryd.prog 35 #[.pointer (some ⟨a, 0, none⟩), .int .i64 most] w fun r w' => r = .returned (.int .i64 (rdNum xs e most).1) ∧ RD 79 w' a d (rdNum xs e most).2.1 (rdNum xs e most).2.2 ∧ Only a w w' := by
  have h0 := Lib.hid h
  obtain ⟨A, c, hb, hr, hc, hA, hda, hx⟩ := h.out
  have c0 := blk_cell hb 0
  have c1 := blk_cell hb 1
  have z0 := blk_frozen hb 0
  have z1 := blk_frozen hb 1
  simp at c0 c1
  have HB := Lib.hid hb
  have HR := Lib.hid hr
  have HA := Lib.hid hA
  have HX := Lib.hid hx
  clear hb h hr hA hx
  by_cases he : e = 0
  · subst he
    go_enter Tryd.func35, Tryd.ntmps35
    go_wp2
    have HF : Hid (rdNum xs 0 most = numGo xs most 5 0 0 1) := Lib.hid (by rw [rdNum, if_pos rfl])
    go_loop [5, 6, 14] (fun vn vu vi => ∃ (k : Nat) (n u : Int), vi = .int .i64 k ∧ vn = .int .i64 n ∧ vu = .int .i64 u ∧ k ≤ 5 ∧ 0 ≤ n ∧ n < u ∧ u ≤ 34359738368 ∧ 1 ≤ u ∧ (k ≤ 4 → u ≤ 268435456) ∧ (k ≤ 3 → u ≤ 2097152) ∧ (k ≤ 2 → u ≤ 16384) ∧ (k ≤ 1 → u ≤ 128) ∧ (k ≤ 0 → u ≤ 1) ∧ Hid (rdNum xs 0 most = numGo xs most (5 - k) k n u)) (fun _ _ vi => (5 - intOf vi).toNat)
    case atStart => exact ⟨0, 0, 1, rfl, rfl, rfl, by omega, by omega, by omega, by omega, by omega, by omega, by omega, by omega, by omega, by omega, HF⟩
    case round =>
      obtain ⟨k, n, u, rfl, rfl, rfl, hk, hn0, hn1, hu0, hu1, hk4, hk3, hk2, hk1, hk0, HG⟩ := hrel
      clear HF
      by_cases hk5 : k < 5
      · by_cases hkl : k < xs.length
        · obtain ⟨ad, rfl, hcell⟩ := HR.out.at_ k (by omega) (by omega)
          rw [Int.toNat_natCast] at hcell
          have hxr : 0 ≤ rd xs k ∧ rd xs k < 256 := by
            have : rd xs k ∈ xs := by unfold rd; rw [Int.toNat_natCast, List.getD_eq_getElem?_getD, List.getElem?_eq_getElem hkl]; simp
            exact HX.out _ this
          obtain ⟨y, hy⟩ : ∃ y, y = rd xs k := ⟨_, rfl⟩
          rw [← hy] at hcell hxr
          have HY := Lib.hid hy
          clear hy
          obtain ⟨hy0, hy1⟩ := hxr
          obtain ⟨j, hj⟩ : ∃ j, 5 - k = j + 1 := ⟨4 - k, by omega⟩
          have hG := HG.out
          rw [hj, numGo, if_neg (by omega), show xs.getD k 0 = y from HY.out.symm] at hG
          obtain ⟨p, hp⟩ : ∃ p, p = y % 128 * u := ⟨_, rfl⟩
          have hp0 : 0 ≤ p := by rw [hp]; exact Int.mul_nonneg (by omega) (by omega)
          have hp1 : p ≤ 127 * u := by rw [hp]; exact Int.mul_le_mul_of_nonneg_right (by omega) (by omega)
          rw [← hp] at hG
          have hp' := hp.symm
          have HP := Lib.hid hp
          clear hp
          by_cases hy : 128 ≤ y
          · rw [if_pos hy] at hG
            have HG2 := Lib.hid hG
            have HJ := Lib.hid hj
            clear hG hj
            go_wp2
            go_round
            case rel => exact ⟨k + 1, n + p, u * 128, by go_num, rfl, rfl, by omega, by omega, by omega, by omega, by omega, by omega, by omega, by omega, by omega, by omega, by rw [show 5 - (k + 1) = j by have := HJ.out; omega]; exact HG2⟩
            case measure => simp [intOf] <;> omega
          · rw [if_neg hy] at hG
            clear hj
            by_cases bad : (y = 0 ∧ 0 < (k : Int)) ∨ 4294967295 < n + p ∨ most < n + p
            · have HG2 := Lib.hid (show rdNum xs 0 most = (0, [], 3) by rw [hG, if_pos (by omega)])
              clear hG
              go_wp2_with (go_at_call 54; refine (wrong_calls _ _ _ _ _ _ h0.out).mono ?_; rintro e w' ⟨rfl, hd, ho⟩; have HD := Lib.hid hd; have HO := Lib.hid ho; clear hd ho)
              all_goals
                go_ret
                rw [HG2.out]
                exact ⟨rfl, HD.out, HO.out⟩
            · have HG2 := Lib.hid (show rdNum xs 0 most = (n + p, xs.drop (k + 1), 0) by rw [hG, if_neg (by omega)])
              clear hG
              go_wp2
              all_goals
                go_ret
                rw [HG2.out]
                have hcut := fun A' n' c' h1 h2 h3 => RD.cut h0.out HB.out (m := k + 1) (by omega) (A' := A') (n' := n') (c' := c') h1 h2 h3
                refine ⟨rfl, (hcut _ _ _ ?_ ?_ ?_).1, (hcut _ _ _ ?_ ?_ ?_).2⟩
                all_goals first | omega | (rw [if_pos (by omega)]; done) | (rw [if_neg (by omega)]; simp [Addr.add]; done) | (rw [if_neg (by omega), show k + 1 = 1 by omega]; simp [Addr.add]; done)
        · go_wp2_with (go_at_call 54; refine (wrong_calls _ _ _ _ _ _ h0.out).mono ?_; rintro e w' ⟨rfl, hd, ho⟩; have HD := Lib.hid hd; have HO := Lib.hid ho; clear hd ho)
          go_ret
          rw [HG.out]
          obtain ⟨j, hj⟩ : ∃ j, 5 - k = j + 1 := ⟨4 - k, by omega⟩
          rw [hj, numGo, if_pos (by omega)]
          exact ⟨rfl, HD.out, HO.out⟩
      · obtain rfl : k = 5 := by omega
        go_wp2_with (go_at_call 54; refine (wrong_calls _ _ _ _ _ _ h0.out).mono ?_; rintro e w' ⟨rfl, hd, ho⟩; have HD := Lib.hid hd; have HO := Lib.hid ho; clear hd ho)
        go_ret
        rw [HG.out, numGo]
        exact ⟨rfl, HD.out, HO.out⟩
  · have he' : (e != 0) = true := by simp [he]
    go_enter Tryd.func35, Tryd.ntmps35
    go_wp2
    go_ret
    rw [rdNum, if_neg he]
    exact ⟨rfl, h0.out, Only.refl _ _⟩
end Go.Proofs.YtfnoegijkdhckaaDoor
/- The calls of package pack's Reader that read texts. -/
namespace Go.Proofs.YtfnoegijkdhckaaDoor
open Go.RowKit Go.Proofs.YtfnoegijkdhckaaDoorW.PrintWords

theorem numGo_range (xs : List Int) (most : Int) (hx : ∀ x ∈ xs, 0 ≤ x) (k : Nat) : ∀ (i : Nat) (n u : Int), 0 ≤ n → 0 ≤ u → 0 ≤ (numGo xs most k i n u).1 ∧ (numGo xs most k i n u).1 ≤ 4294967295 ∧ ((numGo xs most k i n u).2.2 = 0 → (numGo xs most k i n u).1 ≤ most) ∧ 0 ≤ (numGo xs most k i n u).2.2 ∧ (numGo xs most k i n u).2.2 ≤ 3 := by
  induction k with
  | zero => intro i n u _ _; simp [numGo]
  | succ k ih =>
    intro i n u hn hu
    rw [numGo]
    by_cases h1 : xs.length ≤ i
    · rw [if_pos h1]; simp
    · rw [if_neg h1]
      have hy : 0 ≤ xs.getD i 0 := by
        rw [List.getD_eq_getElem?_getD, List.getElem?_eq_getElem (by omega)]
        exact hx _ (by simp)
      have hp : 0 ≤ xs.getD i 0 % 128 * u := Int.mul_nonneg (by omega) hu
      by_cases h2 : 128 ≤ xs.getD i 0
      · rw [if_pos h2]; exact ih _ _ _ (by omega) (by omega)
      · rw [if_neg h2]
        split
        · simp
        · rename_i hb
          show 0 ≤ n + xs.getD i 0 % 128 * u ∧ n + xs.getD i 0 % 128 * u ≤ 4294967295 ∧ ((0 : Int) = 0 → n + xs.getD i 0 % 128 * u ≤ most) ∧ (0 : Int) ≤ 0 ∧ (0 : Int) ≤ 3
          omega
theorem rdNum_range (xs : List Int) (e most : Int) (hx : ∀ x ∈ xs, 0 ≤ x) (he : 0 ≤ e ∧ e ≤ 3) : 0 ≤ (rdNum xs e most).1 ∧ (rdNum xs e most).1 ≤ 4294967295 ∧ ((rdNum xs e most).2.2 = 0 → (rdNum xs e most).1 ≤ most) ∧ 0 ≤ (rdNum xs e most).2.2 ∧ (rdNum xs e most).2.2 ≤ 3 := by
  unfold rdNum
  split
  · exact numGo_range xs most hx 5 0 0 1 (by omega) (by omega)
  · refine ⟨?_, ?_, ?_, ?_, ?_⟩ <;> simp <;> omega

/-- What is read of a text's form. -/
def rdText (xs : List Int) (e most : Int) : ByteArray × List Int × Int :=
  if (rdNum xs e most).2.2 ≠ 0 then (strOfNums [], (rdNum xs e most).2.1, (rdNum xs e most).2.2)
  else if ((rdNum xs e most).2.1.length : Int) < (rdNum xs e most).1 then (strOfNums [], [], 2)
  else (strOfNums ((rdNum xs e most).2.1.take (rdNum xs e most).1.toNat), (rdNum xs e most).2.1.drop (rdNum xs e most).1.toNat, 0)

theorem pkInfo5' : ∃ i, Tryd.prog.info? 5 = some i ∧ i.size = 1 := by
  have h := pkInfo5
  obtain ⟨i, hi, hz⟩ := Option.map_eq_some_iff.1 h
  simp only [Prod.mk.injEq] at hz
  exact ⟨i, hi, hz.2.1⟩

set_option maxHeartbeats 1000000 in
theorem text_calls (w : World) (a d : Nat) (xs : List Int) (e most : Int) (h : RD 79 w a d xs e) (he : 0 ≤ e ∧ e ≤ 3) :
    Calls Tryd.prog 64 #[.pointer (some ⟨a, 0, none⟩), .int .i64 most] w fun r w' => r = .returned (.string (rdText xs e most).1) ∧ RD 79 w' a d (rdText xs e most).2.1 (rdText xs e most).2.2 ∧ Only a w w' := by
  have h0 := Lib.hid h
  have hr := rdNum_range xs e most (by obtain ⟨A, c, _, _, _, _, _, hx⟩ := h.out; exact fun x hx' => (hx x hx').1) he
  have hc := fun w => num_calls w a d xs e most
  obtain ⟨n, hn⟩ : ∃ n, n = (rdNum xs e most).1 := ⟨_, rfl⟩
  obtain ⟨ys, hys⟩ : ∃ ys, ys = (rdNum xs e most).2.1 := ⟨_, rfl⟩
  obtain ⟨e', he'⟩ : ∃ e', e' = (rdNum xs e most).2.2 := ⟨_, rfl⟩
  rw [← hn, ← he'] at hr
  simp only [← hn, ← hys, ← he'] at hc
  have HC := Lib.hid hc
  clear hc h
  obtain ⟨hr0, hr1, _, hr3, hr4⟩ := hr
  by_cases h1 : e' = 0
  · subst h1
    by_cases h2 : (ys.length : Int) < n
    · have HT := Lib.hid (show rdText xs e most = (strOfNums [], [], 2) by unfold rdText; rw [← hn, ← hys, ← he', if_neg (by simp), if_pos h2])
      clear hn hys he'
      go_enter Tryd.func64, Tryd.ntmps64
      go_wp2_with (first
        | (go_at_call 35; refine (HC.out _ h0.out).mono ?_; rintro e w' ⟨rfl, hd, ho⟩; obtain ⟨A, c, hb, hrd, hcc, _, _, _⟩ := hd.out; have c0 := blk_cell hb 0; have c1 := blk_cell hb 1; simp at c0 c1; have hm := hrd.2.1; have HD := Lib.hid hd; have HO := Lib.hid ho; clear hd ho hb hrd)
        | (go_at_call 54; refine (wrong_calls _ _ _ _ _ _ HD.out).mono ?_; rintro e w2 ⟨rfl, hd, ho⟩; have HD2 := Lib.hid hd; have HO2 := Lib.hid ho; clear hd ho))
      go_ret
      rw [HT.out]
      exact ⟨rfl, HD2.out, HO.out.trans HO2.out⟩
    · obtain ⟨m, rfl⟩ := Int.eq_ofNat_of_zero_le hr0
      have HT := Lib.hid (show rdText xs e most = (strOfNums (ys.take m), ys.drop m, 0) by unfold rdText; rw [← hn, ← hys, ← he', if_neg (by simp), if_neg h2]; simp)
      clear hn hys he'
      obtain ⟨i5, hi5, hs5⟩ := pkInfo5'
      go_enter Tryd.func64, Tryd.ntmps64
      go_wp2_with (first
        | (go_at_call 35; refine (HC.out _ h0.out).mono ?_; rintro e w' ⟨rfl, hd, ho⟩; obtain ⟨A, c, hb, hrd, hcc, _, _, _⟩ := hd.out; have c0 := blk_cell hb 0; have c1 := blk_cell hb 1; have z0 := blk_frozen hb 0; simp at c0 c1; have hm := hrd.2.1; have hst := string_of_reads (P := Tryd.prog) (n := m) (c := c) (src := 25) (dst := 9) Tryd.underlying25 Tryd.underlying5 Tryd.underlying9 (hrd.take_ m (by omega)); have HB := Lib.hid hb; have HD := Lib.hid hd; have HO := Lib.hid ho; clear hd ho hb hrd))
      all_goals
        go_ret
        have hcut := fun A' n' c' h1 h2 h3 => RD.cut HD.out HB.out (m := m) (by omega) (A' := A') (n' := n') (c' := c') h1 h2 h3
        rw [HT.out]
        refine ⟨rfl, (hcut _ _ _ ?_ ?_ ?_).1, HO.out.trans (hcut _ _ _ ?_ ?_ ?_).2⟩
        all_goals first | omega | (rw [if_pos (by omega)]; done) | (rw [if_neg (by omega)]; done)
  · have HT := Lib.hid (show rdText xs e most = (strOfNums [], ys, e') by unfold rdText; rw [← hn, ← hys, ← he', if_pos h1])
    clear hn hys he'
    have hb1 : (e' != 0) = true := by simp [h1]
    clear h1
    go_enter Tryd.func64, Tryd.ntmps64
    go_wp2_with (first
        | (go_at_call 35; refine (HC.out _ h0.out).mono ?_; rintro e w' ⟨rfl, hd, ho⟩; obtain ⟨A, c, hb, hrd, hcc, _, _, _⟩ := hd.out; have c0 := blk_cell hb 0; have c1 := blk_cell hb 1; simp at c0 c1; have HD := Lib.hid hd; have HO := Lib.hid ho; clear hd ho hb hrd))
    go_ret
    rw [HT.out]
    exact ⟨rfl, HD.out, HO.out⟩
end Go.Proofs.YtfnoegijkdhckaaDoor
/- What a number's form comes to, said by its last byte; plain lemmas on lists of bytes. -/
namespace Go.Proofs.YtfnoegijkdhckaaDoor
open Go.RowKit Go.Proofs.YtfnoegijkdhckaaDoorW.PrintWords

/-- The number of the first k digits. -/
def lo (xs : List Int) : Nat → Int
  | 0 => 0
  | k + 1 => lo xs k + xs.getD k 0 % 128 * 128 ^ k
/-- The number of the first j digits, behind those that are there. -/
def valGo (xs : List Int) : Nat → Int → Int
  | 0, n => n
  | j + 1, n => valGo xs j (128 * n + xs.getD j 0 % 128)
theorem valGo_eq (xs : List Int) (j : Nat) : ∀ n, valGo xs j n = n * 128 ^ j + lo xs j := by
  induction j with
  | zero => intro n; simp [valGo, lo]
  | succ j ih =>
    intro n
    rw [valGo, ih, lo, Int.add_mul, Int.pow_succ]
    have h1 : 128 * n * 128 ^ j = n * (128 ^ j * 128) := by rw [Int.mul_comm 128 n, Int.mul_assoc, Int.mul_comm 128]
    rw [h1]
    omega
theorem valGo_zero (xs : List Int) (j : Nat) : valGo xs j 0 = lo xs j := by rw [valGo_eq]; simp
theorem all_snoc {P : Nat → Prop} {k : Nat} (h : ∀ j, j < k → P j) (hk : P k) : ∀ j, j < k + 1 → P j := by
  intro j hj
  rcases Nat.lt_or_ge j k with h1 | h1
  · exact h j h1
  · have : j = k := by omega
    exact this ▸ hk
theorem numGo_at (xs : List Int) (most : Int) (l : Nat) (hl : ∀ j, j < l → 128 ≤ xs.getD j 0) (hn : l ≤ xs.length) (h5 : l ≤ 5) : rdNum xs 0 most = numGo xs most (5 - l) l (lo xs l) (128 ^ l) := by
  induction l with
  | zero => rw [rdNum, if_pos rfl]; rfl
  | succ l ih =>
    rw [ih (fun j hj => hl j (by omega)) (by omega) (by omega)]
    obtain ⟨k, hk⟩ : ∃ k, 5 - l = k + 1 := ⟨4 - l, by omega⟩
    rw [hk, numGo, if_neg (by omega), if_pos (hl l (by omega)), show 5 - (l + 1) = k by omega, lo, Int.pow_succ]
theorem rdNum_none (xs : List Int) (most : Int) (l : Nat) (hl : ∀ j, j < l → 128 ≤ xs.getD j 0) (h : l = 5 ∧ l ≤ xs.length ∨ l = xs.length ∧ l < 5) : rdNum xs 0 most = (0, [], if xs.length < 5 then 2 else 3) := by
  rw [numGo_at xs most l hl (by omega) (by omega)]
  rcases h with ⟨rfl, h2⟩ | ⟨rfl, h2⟩
  · rw [if_neg (by omega)]; rfl
  · rw [if_pos h2]
    obtain ⟨k, hk⟩ : ∃ k, 5 - xs.length = k + 1 := ⟨4 - xs.length, by omega⟩
    rw [hk, numGo, if_pos (by omega)]
theorem rdNum_some (xs : List Int) (most : Int) (l : Nat) (hl : ∀ j, j < l → 128 ≤ xs.getD j 0) (hn : l < xs.length) (h5 : l < 5) (hy : xs.getD l 0 < 128) :
    rdNum xs 0 most = if (xs.getD l 0 = 0 ∧ 0 < l) ∨ 4294967295 < lo xs (l + 1) ∨ most < lo xs (l + 1) then (0, [], 3) else (lo xs (l + 1), xs.drop (l + 1), 0) := by
  rw [numGo_at xs most l hl (by omega) (by omega)]
  obtain ⟨k, hk⟩ : ∃ k, 5 - l = k + 1 := ⟨4 - l, by omega⟩
  rw [hk, numGo, if_neg (by omega), if_neg (by omega)]
  rfl
end Go.Proofs.YtfnoegijkdhckaaDoor
/- What package pack writes, and the reference: the forms of numbers and texts. -/
namespace Go.Proofs.YtfnoegijkdhckaaDoor
open Go.RowKit Go.Proofs.YtfnoegijkdhckaaDoorW.PrintWords Go.Proofs.YtfnoegijkdhckaaDoorW.PrintLast Go.Proofs.YtfnoegijkdhckaaDoorW.PrintMore

def formGo : Nat → Int → List Int
  | 0, n => [n]
  | k + 1, n => if 128 ≤ n then (n % 128 + 128) :: formGo k (n / 128) else [n]
/-- A number's form. -/
def form (n : Int) : List Int := if n < 0 ∨ 4294967295 < n then [] else formGo 4 n
/-- A text's form. -/
def textForm (s : ByteArray) : List Int := if 4096 < s.size then [] else form s.size ++ bytesOf s

theorem formGo_length (k : Nat) : ∀ n, (formGo k n).length ≤ k + 1 := by
  induction k with
  | zero => intro n; simp [formGo]
  | succ k ih =>
    intro n
    rw [formGo]
    split
    · simp only [List.length_cons]; have := ih (n / 128); omega
    · simp
theorem form_length (n : Int) : (form n).length ≤ 5 := by
  unfold form
  split
  · simp
  · exact formGo_length 4 n

theorem l0_form (j : Nat) : ∀ (n : Int) (acc : List Int), 0 ≤ n → n < 128 * 128 ^ j → n ≤ 4294967295 → acc.length + j < 100 → PWireEncodes.pack_Number.l0 (j + 1) n acc = some (acc ++ formGo j n) := by
  induction j with
  | zero =>
    intro n acc h0 h1 h2 h3
    rw [PWireEncodes.pack_Number.l0, if_neg (by omega), if_pos (by omega), formGo, Int.emod_eq_of_lt h0 (by omega)]
  | succ j ih =>
    intro n acc h0 h1 h2 h3
    rw [PWireEncodes.pack_Number.l0, formGo]
    by_cases hn : 128 ≤ n
    · have e1 : wrap64 (Int.tdiv n 128) = n / 128 := by
        rw [Int.tdiv_eq_ediv_of_nonneg h0]; unfold wrap64; omega
      have e2 : wrap64 (Int.tmod n 128 + 128) % 256 = n % 128 + 128 := by
        rw [Int.tmod_eq_emod_of_nonneg h0]; unfold wrap64; omega
      have hb : n / 128 < 128 * 128 ^ j := by
        rw [Int.pow_succ] at h1
        omega
      rw [if_pos hn, if_pos (by omega), if_pos hn, e1, e2, ih (n / 128) _ (by omega) hb (by omega) (by simp; omega)]
      simp
    · rw [if_neg hn, if_pos (by omega), if_neg hn, Int.emod_eq_of_lt h0 (by omega)]
theorem pnum_form (n : Int) : PWireEncodes.pack_Number.f 6 n = some (form n) := by
  unfold PWireEncodes.pack_Number.f form
  by_cases h : n < 0
  · rw [if_pos h, if_pos (.inl h)]; rfl
  · rw [if_neg h, PWireEncodes.pack_Number.j0]
    by_cases h2 : 4294967295 < n
    · rw [if_pos (by simpa using h2), if_pos (.inr h2)]
    · rw [if_neg (by simpa using h2), if_neg (by omega)]
      exact l0_form 4 n [] (by omega) (by omega) (by omega) (by simp)
theorem rnum_go (j : Nat) : ∀ (n : Int), 0 ≤ n → n < 128 * 128 ^ j → n ≤ 4294967295 → j < 50 → PWireEncodes.holtref01_Number.f (2 * j + 2) n = some (formGo j n) := by
  induction j with
  | zero =>
    intro n h0 h1 h2 h3
    rw [PWireEncodes.holtref01_Number.f, if_neg (by omega), PWireEncodes.holtref01_Number.j0, if_neg (by simp; omega), if_pos (by omega), formGo, Int.emod_eq_of_lt h0 (by omega)]
  | succ j ih =>
    intro n h0 h1 h2 h3
    rw [show 2 * (j + 1) + 2 = 2 * j + 2 + 1 + 1 by omega, PWireEncodes.holtref01_Number.f, if_neg (by omega), PWireEncodes.holtref01_Number.j0, if_neg (by simp; omega), formGo]
    by_cases hn : 128 ≤ n
    · have e1 : wrap64 (Int.tdiv n 128) = n / 128 := by
        rw [Int.tdiv_eq_ediv_of_nonneg h0]; unfold wrap64; omega
      have e2 : wrap64 (Int.tmod n 128 + 128) % 256 = n % 128 + 128 := by
        rw [Int.tmod_eq_emod_of_nonneg h0]; unfold wrap64; omega
      have hb : n / 128 < 128 * 128 ^ j := by
        rw [Int.pow_succ] at h1
        omega
      have hl := formGo_length j (n / 128)
      rw [if_neg (by omega), if_pos hn, e1, e2, ih (n / 128) (by omega) hb (by omega) (by omega)]
      simp only [Option.bind_some, List.length_singleton]
      rw [if_pos (by omega)]
      rfl
    · rw [if_pos (by omega), if_neg hn, Int.emod_eq_of_lt h0 (by omega)]
theorem rnum_form (n : Int) : PWireEncodes.holtref01_Number.f 10 n = some (form n) := by
  unfold form
  by_cases h : n < 0
  · rw [PWireEncodes.holtref01_Number.f, if_pos h, if_pos (.inl h)]; rfl
  · by_cases h2 : 4294967295 < n
    · rw [PWireEncodes.holtref01_Number.f, if_neg h, PWireEncodes.holtref01_Number.j0, if_pos (by simpa using h2), if_pos (.inr h2)]
    · rw [if_neg (by omega)]
      exact rnum_go 4 n (by omega) (by omega) (by omega) (by omega)

theorem formGo_range (k : Nat) : ∀ n : Int, 0 ≤ n → n < 128 * 128 ^ k → ∀ x ∈ formGo k n, 0 ≤ x ∧ x < 256 := by
  induction k with
  | zero => intro n h0 h1 x hx; simp [formGo] at hx; omega
  | succ k ih =>
    intro n h0 h1 x hx
    rw [formGo] at hx
    split at hx
    · rcases List.mem_cons.1 hx with rfl | hx
      · omega
      · exact ih _ (by omega) (by rw [Int.pow_succ] at h1; omega) x hx
    · simp at hx; omega
theorem form_range (n : Int) : ∀ x ∈ form n, 0 ≤ x ∧ x < 256 := by
  unfold form
  split
  · simp
  · exact formGo_range 4 n (by omega) (by omega)
theorem bytesOf_range (s : ByteArray) : ∀ x ∈ bytesOf s, 0 ≤ x ∧ x < 256 := by
  intro x hx
  obtain ⟨b, _, rfl⟩ := List.mem_map.1 hx
  have := b.toNat_lt
  omega
theorem textForm_range (s : ByteArray) : ∀ x ∈ textForm s, 0 ≤ x ∧ x < 256 := by
  unfold textForm
  split
  · simp
  · intro x hx
    rcases List.mem_append.1 hx with h | h
    · exact form_range _ x h
    · exact bytesOf_range s x h
theorem ptext_form (s : ByteArray) : PWireEncodes.pack_Text.f 6 s = some (textForm s) := by
  unfold PWireEncodes.pack_Text.f textForm
  by_cases h : 4096 < s.size
  · rw [if_pos (by omega), if_pos h]
  · have hl := form_length s.size
    rw [if_neg (by omega), if_neg h, pnum_form]
    simp only [Option.bind_some]
    rw [if_pos (by omega)]

/-- A list of bytes of the call's own. -/
def OwnB (w : World) (base : Nat) (v : Value) (xs : List Int) : Prop := w.ownsRow base 5 1 v xs.length (nums .u8 xs)
theorem OwnB.of_R {w : World} {base : Nat} {ok : Nat → Prop} {v : Value} {xs : List Int} (h : Kd.R (Kd.int .u8) 5 w base ok v xs) : OwnB w base v xs := Kd.own_of_R h
theorem pwrite_calls (w : World) (n : Int) : Calls Tryd.prog 23 #[.int .i64 n] w fun e w' => ∃ v, e = .returned v ∧ OwnB w' w.heap.size v (form n) ∧ Below w.heap.size w w' :=
  (PWireEncodes.pack_Number.calls 6 n _ w (pnum_form n)).mono fun _ _ ⟨v, he, h, hb⟩ => ⟨v, he, OwnB.of_R h, hb⟩
theorem rwrite_calls (w : World) (n : Int) : Calls Tryd.prog 27 #[.int .i64 n] w fun e w' => ∃ v, e = .returned v ∧ OwnB w' w.heap.size v (form n) ∧ Below w.heap.size w w' :=
  (PWireEncodes.holtref01_Number.calls 10 n _ w (rnum_form n)).mono fun _ _ ⟨v, he, h, hb⟩ => ⟨v, he, OwnB.of_R h, hb⟩
theorem ptext_calls (w : World) (s : ByteArray) : Calls Tryd.prog 48 #[.string s] w fun e w' => ∃ v, e = .returned v ∧ OwnB w' w.heap.size v (textForm s) ∧ Below w.heap.size w w' :=
  (PWireEncodes.pack_Text.calls 6 s _ w (ptext_form s)).mono fun _ _ ⟨v, he, h, hb⟩ => ⟨v, he, OwnB.of_R h, hb⟩
set_option maxHeartbeats 400000 in
theorem same_calls (w : World) (A : Option Addr) (c : Nat) (xs : List Int) (B : Option Addr) (d : Nat) (ys : List Int) (hx : ReadsInt w .u8 A xs.length xs) (_ : xs.length ≤ c) (hy : ReadsInt w .u8 B ys.length ys) (_ : ys.length ≤ d) :
    Calls Tryd.prog 13 #[.slice A xs.length c, .slice B ys.length d] w fun e w' => e = .returned (.bool ((strOfNums xs).toList == (strOfNums ys).toList)) ∧ ∃ n, w' = w.drewN n := by
  have h1 := string_of_reads (P := Tryd.prog) (c := c) (src := 25) (dst := 9) Tryd.underlying25 Tryd.underlying5 Tryd.underlying9 hx
  have h2 := string_of_reads (P := Tryd.prog) (c := d) (src := 25) (dst := 9) Tryd.underlying25 Tryd.underlying5 Tryd.underlying9 hy
  clear hx hy
  go_enter Tryd.func13, Tryd.ntmps13
  go_wp2
  go_ret
  exact ⟨by simp, 0, rfl⟩
theorem same_calls2 (w : World) {A : Option Addr} {c n : Nat} {xs : List Int} {B : Option Addr} {d m : Nat} {ys : List Int} (hx : ReadsInt w .u8 A n xs) (hc : n ≤ c) (hy : ReadsInt w .u8 B m ys) (hd : m ≤ d) :
    Calls Tryd.prog 13 #[.slice A n c, .slice B m d] w fun e w' => e = .returned (.bool ((strOfNums xs).toList == (strOfNums ys).toList)) ∧ ∃ n, w' = w.drewN n := by
  obtain rfl := hx.1
  obtain rfl := hy.1
  exact same_calls w A c xs B d ys hx hc hy hd
theorem same_calls_eq (w : World) {A : Option Addr} {c n : Nat} {xs : List Int} {B : Option Addr} {d m : Nat} {ys : List Int} (hx : ReadsInt w .u8 A n xs) (hc : n ≤ c) (hy : ReadsInt w .u8 B m ys) (hd : m ≤ d) (he : xs = ys) :
    Calls Tryd.prog 13 #[.slice A n c, .slice B m d] w fun e w' => e = .returned (.bool true) ∧ ∃ n, w' = w.drewN n := by
  subst he
  have := same_calls2 w hx hc hy hd
  rw [beq_self_eq_true] at this
  exact this
theorem lit_reads (W : World) (xs : List Int) (hm : xs.length ≤ 9223372036854775807) : ReadsInt (W.alloc (.cells (nums .u8 xs).toArray 5)) .u8 (some ⟨W.heap.size, 0, none⟩) xs.length xs :=
  own_reads' (own_lit W W.heap.size 5 .u8 xs (Nat.le_refl _) hm)
/-- What is owned stays owned behind a call that makes memory of its own, though orders have been drawn ahead of it. -/
theorem OwnB.now {w W w1 : World} {base : Nat} {v : Value} {xs : List Int} (h : OwnB w base v xs) (hb : Below W.heap.size W w1) (hW : W.heap = w.heap) : OwnB w1 base v xs :=
  own_move h (fun k hk => by rw [hb.block k (by rw [hW]; exact own_lt h k hk), hW])
section
variable {ops : Array Oper} {o : Oper} {a : Act} {Q : Exit → Act → World → Prop} {Kc : Act → World → Prop}
/-- append(v, ys...) of bytes, as a step of a region that draws its order. -/
theorem appB_step {w0 W : World} (base : Nat) (hw : Region.wanted o (yielded ops a.tmps) = true) (s x : Operand)
    (ho : o.op = .call { callee := .builtin .append, args := #[s, x], argTypes := #[25, 25] })
    (v : Value) (xs ys : List Int) (A : Option Addr) (m c : Nat) (hs : a.eval s = v) (hx : a.eval x = .slice A m c)
    (HO : OwnB W base v xs) (HR : ReadsInt W .u8 A m ys) (HB : Below base w0 W) (hbase : base ≤ W.heap.size) (hl : xs.length + m ≤ 140737488355328)
    (h : ∀ v1 w1, OwnB w1 base v1 (xs ++ ys) → Below base w0 w1 → W.grownBy w1 v.ownBlock → (v1.ownBlock = v.ownBlock ∨ ∃ b, v1.ownBlock = some b ∧ W.heap.size ≤ b) → Kc (a.put o.dst v1) w1) :
    if Region.wanted o (yielded ops a.tmps) = true then Oper.wp Tryd.prog o a W Kc Q else Kc (a.put o.dst undef) W :=
  Kd.R_append_rows_step (Kd.int .u8) (Rr := fun x cs => cs = [.int .u8 x]) base hw s x 25 5 (.int .u8 0) 1 ho Tryd.underlying25 pkInfo5 rfl (by decide) (by decide) v xs ys A m c (fun _ => True) (fun _ => False) hs hx
    (Kd.R_of_own HO (fun _ _ => trivial)) (Kd.C_of_reads (d := (0 : Int)) (h1 := fun _ => rfl) HR) (fun _ _ hq => hq) (fun _ hk => hk.elim) (fun _ _ => trivial) HB hbase (by omega)
    (fun v1 w1 ho hb hg hat => h v1 w1 (OwnB.of_R ho) hb hg hat)
end
end Go.Proofs.YtfnoegijkdhckaaDoor
/- The reference's form of a text. -/
namespace Go.Proofs.YtfnoegijkdhckaaDoor
open Go.RowKit Go.Proofs.YtfnoegijkdhckaaDoorW.PrintWords
set_option maxHeartbeats 400000 in
theorem rtextw_calls (w : World) (s : ByteArray) (hs : s.size ≤ 9223372036854775807) : Calls Tryd.prog 53 #[.string s] w fun e w' => ∃ v, e = .returned v ∧ OwnB w' w.heap.size v (textForm s) ∧ Below w.heap.size w w' := by
  by_cases h : 4096 < s.size
  · have HF := Lib.hid (show textForm s = [] by rw [textForm, if_pos h])
    go_enter Tryd.func53, Tryd.ntmps53
    go_wp2
    go_ret
    rw [HF.out]
    exact ⟨_, rfl, own_nil _ _ _ _, Below.refl _ _⟩
  · have HF := Lib.hid (show textForm s = form s.size ++ bytesOf s by rw [textForm, if_neg h])
    have hcv := print_bytes (P := Tryd.prog) 9 25 5 Tryd.underlying9 Tryd.underlying25 Tryd.underlying5 s
    have hfl := form_length s.size
    go_enter Tryd.func53, Tryd.ntmps53
    go_wp2_with (first
      | (go_at_call 27; refine (rwrite_calls _ _).mono ?_; rintro e w1 ⟨v, rfl, ho, hb⟩; have HO := Lib.hid ho; have HB := Lib.hid hb; clear ho hb)
      | (at_builtin; (refine print_append_row (w0 := w) w.heap.size rfl (.tmp 8) (.tmp 10) 25 5 .u8 1 rfl Tryd.underlying25 pkInfo5 (by decide) _ (form s.size) (bytesOf s) (some ⟨w1.heap.size, 0, none⟩) s.size _ rfl rfl ?cO ?cR ?cB ?cS ?cL ?_; (case cO => exact pw_own_below HO.out (bytes_below (Below.refl _ _) (Nat.le_refl _) _ _)); (case cR => exact bytes_reads _ _ _ hs); (case cB => exact bytes_below HB.out HB.out.size _ _); (case cS => have := HB.out.size; have := (bytes_below (Below.refl w1.heap.size w1) (Nat.le_refl _) 5 s).size; omega); (case cL => omega); intro v1 w2 ho hb hg hat; have HO2 := Lib.hid ho; have HB2 := Lib.hid hb; clear ho hb hg hat)))
    go_ret
    rw [HF.out]
    exact ⟨_, rfl, HO2.out, HB2.out⟩
end Go.Proofs.YtfnoegijkdhckaaDoor
/- Forms that are read, and what is read: plain lemmas on lists of bytes. -/
namespace Go.Proofs.YtfnoegijkdhckaaDoor
open Go.RowKit Go.Proofs.YtfnoegijkdhckaaDoorW.PrintWords

/-- The number of a list of digits. -/
def val : List Int → Int
  | [] => 0
  | x :: xs => x % 128 + 128 * val xs
theorem val_snoc (xs : List Int) (y : Int) : val (xs ++ [y]) = val xs + y % 128 * 128 ^ xs.length := by
  induction xs with
  | nil => simp [val]
  | cons x xs ih =>
    rw [List.cons_append, val, val, ih, List.length_cons, Int.pow_succ, Int.mul_add]
    have : 128 * (y % 128 * 128 ^ xs.length) = y % 128 * (128 ^ xs.length * 128) := by rw [Int.mul_comm 128, Int.mul_assoc]
    omega
theorem lo_val (xs : List Int) (k : Nat) (hk : k ≤ xs.length) : lo xs k = val (xs.take k) := by
  induction k with
  | zero => simp [lo, val]
  | succ k ih =>
    have h : xs.getD k 0 = xs[k]'(by omega) := by rw [List.getD_eq_getElem?_getD, List.getElem?_eq_getElem (by omega)]; rfl
    rw [lo, ih (by omega), List.take_succ_eq_append_getElem (by omega), val_snoc, h, List.length_take, Nat.min_eq_left (by omega)]
theorem val_nonneg (xs : List Int) : 0 ≤ val xs := by
  induction xs with
  | nil => simp [val]
  | cons x xs ih => rw [val]; omega

/-- A list of bytes that is one number's form: all but the last one are 128 at least; the last one is less, and not 0, but where it stands alone. -/
def Formed : List Int → Prop
  | [] => False
  | [x] => 0 ≤ x ∧ x < 128
  | x :: y :: xs => 128 ≤ x ∧ x < 256 ∧ Formed (y :: xs) ∧ (xs = [] → y ≠ 0)
theorem formed_val_pos : ∀ (xs : List Int) (y : Int), Formed (y :: xs) → (xs = [] → y ≠ 0) → 0 < val (y :: xs)
  | [], y, h, hy => by have := hy rfl; simp only [Formed] at h; simp only [val]; omega
  | z :: xs, y, h, _ => by
    obtain ⟨_, _, h1, h2⟩ := h
    have := formed_val_pos xs z h1 h2
    rw [val]; omega
theorem formGo_val : ∀ (k : Nat) (xs : List Int), Formed xs → xs.length ≤ k + 1 → formGo k (val xs) = xs
  | 0, [], h, _ => h.elim
  | 0, [x], h, _ => by simp only [Formed] at h; simp only [formGo, val]; rw [Int.emod_eq_of_lt h.1 h.2]; simp
  | 0, x :: y :: xs, _, hl => by simp at hl
  | k + 1, [], h, _ => h.elim
  | k + 1, [x], h, _ => by
    simp only [Formed] at h
    have e : val [x] = x := by simp only [val]; omega
    rw [e, formGo, if_neg (by omega)]
  | k + 1, x :: y :: xs, h, hl => by
    obtain ⟨h0, h1, h2, h3⟩ := h
    have hp := formed_val_pos xs y h2 h3
    have hd : (x % 128 + 128 * val (y :: xs)) / 128 = val (y :: xs) := by omega
    have hm : (x % 128 + 128 * val (y :: xs)) % 128 + 128 = x := by omega
    rw [formGo, val, if_pos (by omega), hd, hm, formGo_val k (y :: xs) h2 (by simp at hl ⊢; omega)]
theorem formed_formGo (k : Nat) : ∀ n : Int, 0 ≤ n → n < 128 * 128 ^ k → Formed (formGo k n) ∧ val (formGo k n) = n ∧ (0 < n → ∀ y, formGo k n = [y] → y ≠ 0) := by
  induction k with
  | zero =>
    intro n h0 h1
    refine ⟨by simp only [formGo, Formed]; omega, by simp only [formGo, val]; omega, fun hn y hy => by simp only [formGo, List.cons.injEq, and_true] at hy; omega⟩
  | succ k ih =>
    intro n h0 h1
    rw [formGo]
    by_cases h : 128 ≤ n
    · obtain ⟨i1, i2, i3⟩ := ih (n / 128) (by omega) (by rw [Int.pow_succ] at h1; omega)
      rw [if_pos h]
      cases hf : formGo k (n / 128) with
      | nil => rw [hf] at i1; exact i1.elim
      | cons y ys =>
        rw [hf] at i1 i2 i3
        refine ⟨⟨by omega, by omega, i1, fun hy => i3 (by omega) y (by rw [hy])⟩, by rw [val, i2]; omega, fun _ z hz => by simp at hz⟩
    · rw [if_neg h]
      exact ⟨by simp only [Formed]; omega, by simp only [val]; omega, fun hn y hy => by simp only [List.cons.injEq, and_true] at hy; omega⟩
theorem formed_form (n : Int) (h0 : 0 ≤ n) (h1 : n ≤ 4294967295) : Formed (form n) ∧ val (form n) = n := by
  rw [form, if_neg (by omega)]
  have := formed_formGo 4 n h0 (by omega)
  exact ⟨this.1, this.2.1⟩
theorem formed_get : ∀ (xs : List Int), Formed xs → (∀ j, j + 1 < xs.length → 128 ≤ xs.getD j 0) ∧ xs.getD (xs.length - 1) 0 < 128 ∧ 1 ≤ xs.length ∧ (1 < xs.length → xs.getD (xs.length - 1) 0 ≠ 0)
  | [], h => h.elim
  | [x], h => by simp only [Formed] at h; simp; omega
  | x :: y :: xs, ⟨h0, h1, h2, h3⟩ => by
    obtain ⟨i1, i2, i3, i4⟩ := formed_get (y :: xs) h2
    refine ⟨?_, ?_, by simp, ?_⟩
    · intro j hj
      cases j with
      | zero => simpa using h0
      | succ j => have := i1 j (by simp at hj ⊢; omega); simpa using this
    · simpa using i2
    · intro _
      cases xs with
      | nil => simpa using h3 rfl
      | cons z zs => have := i4 (by simp); simpa using this

/-- A form, whatever is behind it, is read. -/
theorem rdNum_form (n : Int) (h0 : 0 ≤ n) (h1 : n ≤ 4294967295) (ys : List Int) (most : Int) : rdNum (form n ++ ys) 0 most = if most < n then (0, [], 3) else (n, ys, 0) := by
  obtain ⟨hf, hv⟩ := formed_form n h0 h1
  obtain ⟨g1, g2, g3, g4⟩ := formed_get _ hf
  have h5 := form_length n
  have hget : ∀ j, j < (form n).length → (form n ++ ys).getD j 0 = (form n).getD j 0 := by
    intro j hj; rw [List.getD_eq_getElem?_getD, List.getD_eq_getElem?_getD, List.getElem?_append_left hj]
  have hl : (form n).length - 1 + 1 = (form n).length := by omega
  rw [rdNum_some (form n ++ ys) most ((form n).length - 1) (fun j hj => by rw [hget j (by omega)]; exact g1 j (by omega)) (by simp; omega) (by omega) (by rw [hget _ (by omega)]; exact g2), hget _ (by omega), hl, lo_val _ _ (by simp), List.take_left, hv, List.drop_left]
  by_cases hm : most < n
  · rw [if_pos (.inr (.inr hm)), if_pos hm]
  · rw [if_neg hm, if_neg ?_]
    rintro (⟨hz, hp⟩ | h | h)
    · exact g4 (by omega) hz
    · omega
    · exact hm h
/-- What is cut off within a form is too short. -/
theorem rdNum_cut (n : Int) (h0 : 0 ≤ n) (h1 : n ≤ 4294967295) (k : Nat) (hk : k < (form n).length) (most : Int) : rdNum ((form n).take k) 0 most = (0, [], 2) := by
  obtain ⟨hf, hv⟩ := formed_form n h0 h1
  obtain ⟨g1, g2, g3, g4⟩ := formed_get _ hf
  have h5 := form_length n
  have hlen : ((form n).take k).length = k := by rw [List.length_take]; omega
  rw [rdNum_none _ most k (fun j hj => by rw [List.getD_eq_getElem?_getD, List.getElem?_take, if_pos hj, ← List.getD_eq_getElem?_getD]; exact g1 j (by omega)) (.inr ⟨by rw [hlen], by omega⟩), hlen, if_pos (by omega)]
theorem formed_take : ∀ (l : Nat) (xs : List Int), (∀ x ∈ xs, 0 ≤ x ∧ x < 256) → l < xs.length → (∀ j, j < l → 128 ≤ xs.getD j 0) → xs.getD l 0 < 128 → (0 < l → xs.getD l 0 ≠ 0) → Formed (xs.take (l + 1))
  | _, [], _, h, _, _, _ => by simp at h
  | 0, x :: xs, hx, _, _, h, _ => by
    have := hx x (by simp)
    simp only [List.getD_cons_zero] at h
    simp only [List.take_succ_cons, List.take_zero, Formed]; omega
  | l + 1, [x], _, h, _, _, _ => by simp at h
  | l + 1, x :: y :: xs, hx, hl, hall, h, hz => by
    have ih := formed_take l (y :: xs) (fun z hz' => hx z (List.mem_cons_of_mem _ hz')) (by simp at hl ⊢; omega) (fun j hj => by have := hall (j + 1) (by omega); simpa using this) (by simpa using h) (fun hl' => by have := hz (by omega); simpa using this)
    have h0 := hall 0 (by omega)
    have h1 := hx x (by simp)
    simp only [List.getD_cons_zero] at h0
    rw [List.take_succ_cons] at ih ⊢
    refine ⟨h0, h1.2, ih, fun hxs => ?_⟩
    have := hz (by omega)
    cases l with
    | zero => simpa using this
    | succ l => cases xs with
      | nil => simp only [List.length_cons, List.length_nil] at hl; omega
      | cons z zs => simp at hxs
/-- What any bytes are read as. -/
theorem rdNum_cases (xs : List Int) (most : Int) (hx : ∀ x ∈ xs, 0 ≤ x ∧ x < 256) :
    (∃ e, rdNum xs 0 most = (0, [], e) ∧ (e = 2 ∨ e = 3)) ∨ ∃ (k : Nat) (n : Int), rdNum xs 0 most = (n, xs.drop k, 0) ∧ 1 ≤ k ∧ k ≤ 5 ∧ k ≤ xs.length ∧ form n = xs.take k ∧ 0 ≤ n ∧ n ≤ 4294967295 ∧ n ≤ most := by
  have key : ∀ m, m ≤ 5 → m ≤ xs.length → (∀ j, j < m → 128 ≤ xs.getD j 0) ∨ ∃ l, l < m ∧ (∀ j, j < l → 128 ≤ xs.getD j 0) ∧ xs.getD l 0 < 128 := by
    intro m
    induction m with
    | zero => intro _ _; exact .inl (fun j hj => by omega)
    | succ m ih =>
      intro h5 hl
      rcases ih (by omega) (by omega) with h | ⟨l, h1, h2, h3⟩
      · by_cases hm : 128 ≤ xs.getD m 0
        · exact .inl (all_snoc h hm)
        · exact .inr ⟨m, by omega, h, by omega⟩
      · exact .inr ⟨l, by omega, h2, h3⟩
  have hnone : ∀ m, (∀ j, j < m → 128 ≤ xs.getD j 0) → (m = 5 ∧ m ≤ xs.length ∨ m = xs.length ∧ m < 5) → ∃ e, rdNum xs 0 most = (0, [], e) ∧ (e = 2 ∨ e = 3) := by
    intro m h hm
    exact ⟨_, rdNum_none xs most m h hm, by split <;> simp⟩
  have hsome : ∀ l, l < 5 → l < xs.length → (∀ j, j < l → 128 ≤ xs.getD j 0) → xs.getD l 0 < 128 → (∃ e, rdNum xs 0 most = (0, [], e) ∧ (e = 2 ∨ e = 3)) ∨ ∃ (k : Nat) (n : Int), rdNum xs 0 most = (n, xs.drop k, 0) ∧ 1 ≤ k ∧ k ≤ 5 ∧ k ≤ xs.length ∧ form n = xs.take k ∧ 0 ≤ n ∧ n ≤ 4294967295 ∧ n ≤ most := by
    intro l h5 hl hall hy
    have h := rdNum_some xs most l hall hl h5 hy
    by_cases hb : (xs.getD l 0 = 0 ∧ 0 < l) ∨ 4294967295 < lo xs (l + 1) ∨ most < lo xs (l + 1)
    · rw [if_pos hb] at h; exact .inl ⟨3, h, .inr rfl⟩
    · rw [if_neg hb] at h
      have hfm := formed_take l xs hx hl hall hy (fun hl' hz => hb (.inl ⟨hz, hl'⟩))
      have hlv := lo_val xs (l + 1) (by omega)
      have hn := val_nonneg (xs.take (l + 1))
      refine .inr ⟨l + 1, lo xs (l + 1), h, by omega, by omega, by omega, ?_, by omega, by omega, by omega⟩
      rw [form, if_neg (by omega), hlv]
      exact formGo_val 4 _ hfm (by rw [List.length_take]; omega)
  rcases Nat.lt_or_ge xs.length 5 with h5 | h5
  · rcases key xs.length (by omega) (Nat.le_refl _) with h | ⟨l, h1, h2, h3⟩
    · exact .inl (hnone _ h (.inr ⟨rfl, h5⟩))
    · exact hsome l (by omega) h1 h2 h3
  · rcases key 5 (by omega) h5 with h | ⟨l, h1, h2, h3⟩
    · exact .inl (hnone _ h (.inl ⟨rfl, h5⟩))
    · exact hsome l h1 (by omega) h2 h3

theorem num_calls_eq (w : World) (a d : Nat) (xs : List Int) (e most : Int) {n : Int} {ys : List Int} {e' : Int} (h : RD 79 w a d xs e) (hf : rdNum xs e most = (n, ys, e')) :
    Calls Tryd.prog 35 #[.pointer (some ⟨a, 0, none⟩), .int .i64 most] w fun r w' => r = .returned (.int .i64 n) ∧ RD 79 w' a d ys e' ∧ Only a w w' := by
  have := num_calls w a d xs e most h
  rw [hf] at this
  exact this
theorem text_calls_eq (w : World) (a d : Nat) (xs : List Int) (e most : Int) {s : ByteArray} {ys : List Int} {e' : Int} (h : RD 79 w a d xs e) (he : 0 ≤ e ∧ e ≤ 3) (hf : rdText xs e most = (s, ys, e')) :
    Calls Tryd.prog 64 #[.pointer (some ⟨a, 0, none⟩), .int .i64 most] w fun r w' => r = .returned (.string s) ∧ RD 79 w' a d ys e' ∧ Only a w w' := by
  have := text_calls w a d xs e most h he
  rw [hf] at this
  exact this
end Go.Proofs.YtfnoegijkdhckaaDoor
/- Forms of texts that are read: plain lemmas on lists of bytes. -/
namespace Go.Proofs.YtfnoegijkdhckaaDoor
open Go.RowKit Go.Proofs.YtfnoegijkdhckaaDoorW.PrintWords

theorem int_of_C {w : World} {k : IntKind} {A : Option Addr} {n : Nat} {xs : List Int} (h : (Kd.int k).C w A n xs) : ReadsInt w k A n xs := Kd.reads_of_C (enc := Value.int k) (d := (0 : Int)) (h1 := fun _ => rfl) h
theorem byte_wf {n : Int} (h : (Lit.int .u8 n).wf = true) : 0 ≤ n ∧ n < 256 := by
  have : 0 ≤ n ∧ n ≤ 255 := by simpa [Lit.wf, IntKind.min, IntKind.max, IntKind.signed, IntKind.bits] using h
  omega
theorem textForm_length (s : ByteArray) (h : s.size ≤ 4096) : (textForm s).length = (form s.size).length + s.size := by
  rw [textForm, if_neg (by omega), List.length_append, bytesOf_length]
theorem form_pos (n : Int) (h0 : 0 ≤ n) (h1 : n ≤ 4294967295) : 1 ≤ (form n).length := (formed_get _ (formed_form n h0 h1).1).2.2.1
theorem strOf_bytesOf (s : ByteArray) : strOfNums (bytesOf s) = s := by
  have h : (bytesOf s).map (fun n => UInt8.ofNat n.toNat) = s.data.toList := by
    rw [bytesOf, List.map_map]
    have : ∀ l : List UInt8, l.map ((fun n : Int => UInt8.ofNat n.toNat) ∘ fun b => (b.toNat : Int)) = l := by
      intro l
      induction l with
      | nil => rfl
      | cons b l ih => rw [List.map_cons, ih]; simp
    exact this _
  unfold strOfNums
  rw [h]
theorem rdText_form (s : ByteArray) (h : s.size ≤ 4096) (ys : List Int) (most : Int) (hm : (s.size : Int) ≤ most) : rdText (textForm s ++ ys) 0 most = (s, ys, 0) := by
  have hn : rdNum (textForm s ++ ys) 0 most = ((s.size : Int), bytesOf s ++ ys, 0) := by
    rw [textForm, if_neg (by omega), List.append_assoc, rdNum_form _ (by omega) (by omega), if_neg (by omega)]
  unfold rdText
  rw [hn]
  simp only [ne_eq, not_true_eq_false, if_false]
  rw [if_neg (by rw [List.length_append, bytesOf_length]; omega), Int.toNat_natCast, ← bytesOf_length s, List.take_left, List.drop_left, strOf_bytesOf]
theorem rdText_cut (s : ByteArray) (h : s.size ≤ 4096) (k : Nat) (hk : k < (textForm s).length) (most : Int) (hm : (s.size : Int) ≤ most) : rdText ((textForm s).take k) 0 most = (strOfNums [], [], 2) := by
  rw [textForm_length s h] at hk
  by_cases hf : k < (form s.size).length
  · have hn : rdNum ((textForm s).take k) 0 most = (0, [], 2) := by
      rw [textForm, if_neg (by omega), List.take_append_of_le_length (by omega)]
      exact rdNum_cut _ (by omega) (by omega) k hf most
    unfold rdText
    rw [hn, if_pos (by decide)]
  · have hn : rdNum ((textForm s).take k) 0 most = ((s.size : Int), (bytesOf s).take (k - (form s.size).length), 0) := by
      rw [textForm, if_neg (by omega), List.take_append, List.take_of_length_le (by omega), rdNum_form _ (by omega) (by omega), if_neg (by omega)]
    unfold rdText
    rw [hn]
    simp only [ne_eq, not_true_eq_false, if_false]
    rw [if_pos (by rw [List.length_take, bytesOf_length]; omega)]

theorem RD.at_ {T : Nat} {w W : World} {a d : Nat} {xs : List Int} {e : Int} (h : RD T w a d xs e) (hW : W.heap = w.heap) : RD T W a d xs e := by
  obtain ⟨A, c, hb, hr, hc, hA, hda, hx⟩ := h.out
  exact ⟨A, c, by rw [hW]; exact hb, ⟨hr.1, hr.2.1, fun hn => by
    obtain ⟨ad, e, hc⟩ := hr.2.2 hn
    exact ⟨ad, e, fun j hj => (World.cell?_of_block (by rw [hW])).trans (hc j hj)⟩⟩, hc, hA, hda, hx⟩
theorem RD.nonneg {T : Nat} {w : World} {a d : Nat} {xs : List Int} {e : Int} (h : RD T w a d xs e) : ∀ x ∈ xs, 0 ≤ x := by
  obtain ⟨A, c, _, _, _, _, _, hx⟩ := h.out
  exact fun x hx' => (hx x hx').1
end Go.Proofs.YtfnoegijkdhckaaDoor
/- The bytes of an operation: what package op writes. -/
namespace Go.Proofs.YtfnoegijkdhckaaDoor
open Go.RowKit Go.Proofs.YtfnoegijkdhckaaDoorW.PrintWords

def putL (o : OpR) : List Int := [o.n, o.r, o.node, o.par]
def pre (o : OpR) (i : Nat) : List Int := ((putL o).take i).flatMap form
/-- An operation's bytes: none where it is none. -/
def opForm (o : OpR) : List Int := if opRight o = true then pre o 4 ++ textForm o.name else []

theorem pre_length (o : OpR) (i : Nat) (hi : i ≤ 4) : (pre o i).length ≤ 5 * i := by
  have h1 := form_length o.n
  have h2 := form_length o.r
  have h3 := form_length o.node
  have h4 := form_length o.par
  rcases (show i = 0 ∨ i = 1 ∨ i = 2 ∨ i = 3 ∨ i = 4 by omega) with rfl | rfl | rfl | rfl | rfl <;> simp [pre, putL] <;> omega
theorem pre_succ (o : OpR) (i : Nat) (hi : i < 4) : pre o (i + 1) = pre o i ++ form ((putL o).getD i 0) := by
  rcases (show i = 0 ∨ i = 1 ∨ i = 2 ∨ i = 3 by omega) with rfl | rfl | rfl | rfl <;> simp [pre, putL]
theorem pre_four (o : OpR) : pre o 4 = form o.n ++ form o.r ++ form o.node ++ form o.par := by simp [pre, putL]
theorem OwnB.le {w : World} {b c : Nat} {v : Value} {xs : List Int} (h : OwnB w c v xs) (hb : b ≤ c) : OwnB w b v xs := by
  obtain ⟨h1, h2⟩ := h
  refine ⟨h1, ?_⟩
  rcases h2 with h | ⟨g, cap, cur, rfl, hg, h⟩
  · exact .inl h
  · exact .inr ⟨g, cap, cur, rfl, Nat.le_trans hb hg, h⟩
theorem below_wide {B C : Nat} {w w1 w2 : World} (h : Below B w w1) (k : Below C w1 w2) (hB : B ≤ C) : Below B w w2 :=
  h.trans ⟨k.os, k.tape, k.output, k.size, fun i hi => k.block i (Nat.lt_of_lt_of_le hi hB)⟩

/-- The cells that the rounds read. -/
def PutHeld (g B : Nat) (o : OpR) (w : World) : Prop :=
  g < B ∧ B < w.heap.size ∧ w.cell? ⟨g, 4, none⟩ = some (.string o.name) ∧ w.cell? ⟨B, 0, none⟩ = some (.int .i64 o.n) ∧ w.cell? ⟨B, 1, none⟩ = some (.int .i64 o.r) ∧ w.cell? ⟨B, 2, none⟩ = some (.int .i64 o.node) ∧ w.cell? ⟨B, 3, none⟩ = some (.int .i64 o.par)
theorem PutHeld.keep {g B : Nat} {o : OpR} {w w1 : World} (k : PutHeld g B o w) (hb : Below (B + 1) w w1) : PutHeld g B o w1 := by
  obtain ⟨h1, h2, c4, a0, a1, a2, a3⟩ := k
  have := hb.size
  exact ⟨h1, by omega, (hb.cell (show g < B + 1 by omega)).trans c4, (hb.cell (show B < B + 1 by omega)).trans a0, (hb.cell (show B < B + 1 by omega)).trans a1, (hb.cell (show B < B + 1 by omega)).trans a2, (hb.cell (show B < B + 1 by omega)).trans a3⟩
theorem PutHeld.below {g B : Nat} {o : OpR} {w w1 : World} (k : PutHeld g B o w) (hb : Below w.heap.size w w1) : PutHeld g B o w1 :=
  k.keep ⟨hb.os, hb.tape, hb.output, hb.size, fun i hi => hb.block i (by have := k.2.1; omega)⟩

theorem PutHeld.at_ {g B : Nat} {o : OpR} {w : World} (k : PutHeld g B o w) (i : Nat) (hi : i < 4) : w.cell? ⟨B, i, none⟩ = some (.int .i64 ((putL o).getD i 0)) := by
  obtain ⟨h1, h2, c4, a0, a1, a2, a3⟩ := k
  rcases (show i = 0 ∨ i = 1 ∨ i = 2 ∨ i = 3 by omega) with rfl | rfl | rfl | rfl
  · exact a0
  · exact a1
  · exact a2
  · exact a3

set_option maxHeartbeats 2000000 in
theorem put_calls (o : OpR) (w : World) (hs : o.name.size ≤ 9223372036854775807) (hT : Tabs w) : Calls Tryd.prog 24 #[opV o] w fun e w' => ∃ v, e = .returned v ∧ OwnB w' w.heap.size v (opForm o) ∧ Below w.heap.size w w' := by
  have HB := Lib.hid (Below.refl w.heap.size w)
  by_cases hR : opRight o = true
  · have hc := fun w (h : Tabs w) => right_calls o w hs h
    rw [hR] at hc
    simp only [opV] at hc ⊢
    have HC := Lib.hid hc
    have HF := Lib.hid (show opForm o = pre o 4 ++ textForm o.name by rw [opForm, if_pos hR])
    have HT := Lib.hid hT
    have HL : Hid (o.name.size ≤ 20) := Lib.hid (by
      have : nameB o.name.data.toList = true := by
        unfold opRight at hR
        simp only [Bool.and_eq_true] at hR
        exact hR.2.2.2
      unfold nameB at this
      simp only [Bool.and_eq_true, decide_eq_true_eq] at this
      have h2 : o.name.data.toList.length = o.name.size := by rw [Array.length_toList]; rfl
      omega)
    clear hc hR hT
    go_enter Tryd.func24, Tryd.ntmps24
    go_wp2_with (go_at_call 22; refine (HC.out _ (HT.out.below (by repeat (first | (with_reducible exact HB.out) | apply below_alloc | apply pw_below_drewN | apply below_drew1 | exact HB.out)))).mono ?_; rintro e w1 ⟨rfl, hb⟩; have c0 : w1.cell? ⟨w.heap.size, 0, none⟩ = some (.int .i64 o.n) := pw_cell_below hb (by go_cell); have c1 : w1.cell? ⟨w.heap.size, 1, none⟩ = some (.int .i64 o.r) := pw_cell_below hb (by go_cell); have c2 : w1.cell? ⟨w.heap.size, 2, none⟩ = some (.int .i64 o.node) := pw_cell_below hb (by go_cell); have c3 : w1.cell? ⟨w.heap.size, 3, none⟩ = some (.int .i64 o.par) := pw_cell_below hb (by go_cell); have c4 : w1.cell? ⟨w.heap.size, 4, none⟩ = some (.string o.name) := pw_cell_below hb (by go_cell); have hlt := World.block_lt_of_cell? w1 _ c4; have HBn := Lib.hid (below_step (by repeat (first | (with_reducible exact HB.out) | apply below_alloc | apply pw_below_drewN | apply below_drew1 | exact HB.out)) hb); clear hb HB; have HB := HBn; clear HBn)
    go_loopw [3, 21] (fun v vi W => ∃ i : Nat, vi = .int .i64 i ∧ i ≤ 4 ∧ Hid (OwnB W (w1.heap.size + 1) v (pre o i)) ∧ Hid (PutHeld w.heap.size w1.heap.size o W) ∧ Hid (Below w.heap.size w W)) (fun _ vi _ => (4 - RowKit.intOf vi).toNat)
    case atStart =>
      refine ⟨0, rfl, by omega, Lib.hid (own_nil _ _ _ _), Lib.hid ?_, Lib.hid (by repeat (first | (with_reducible exact HB.out) | apply below_alloc | apply pw_below_drewN | apply below_drew1 | exact HB.out))⟩
      refine ⟨hlt, by simp, by go_cell, by go_cell, by go_cell, by go_cell, by go_cell⟩
    case round =>
      clear c0 c1 c2 c3 c4 HB
      obtain ⟨i, rfl, hi, HO, HK, HB⟩ := hrel
      have hw1 : w.heap.size + 1 ≤ w1.heap.size := hlt
      clear hlt
      by_cases hgo : i < 4
      · have hc := HK.out.at_ i hgo
        have hl := pre_length o i hi
        have HS := Lib.hid (pre_succ o i hgo)
        generalize (putL o).getD i 0 = x at *
        have hf := form_length x
        go_wp2_with (first
          | (go_at_call 23; refine (pwrite_calls _ _).mono ?_; rintro e w2 ⟨v2, rfl, ho, hb⟩; obtain ⟨A2, c2, rfl, hr⟩ := own_reads ho; have HK2 := Lib.hid (HK.out.below hb); have HO2 := Lib.hid (show OwnB w2 _ _ _ from pw_own_below HO.out hb); have HR2 := Lib.hid hr; clear ho hr; have HBn := Lib.hid (below_step (by repeat (first | (with_reducible exact HB.out) | apply below_alloc | apply pw_below_drewN | apply below_drew1 | exact HB.out)) hb); clear hb HB; have HB := HBn; clear HBn)
          | (at_builtin; (refine print_append_row (w0 := w2) (w1.heap.size + 1) rfl (.tmp 25) (.tmp 27) 25 5 .u8 1 rfl Tryd.underlying25 pkInfo5 (by decide) _ (pre o i) (form x) A2 (form x).length c2 rfl rfl ?cO ?cR ?cB ?cS ?cL ?_; (case cO => exact HO2.out); (case cR => exact HR2.out); (case cB => exact Below.refl _ _); (case cS => exact HK2.out.2.1); (case cL => omega); intro v1 w3 ho hb hg hat; have HO3 := Lib.hid ho; have HK3 := Lib.hid (HK2.out.keep hb); have HBn := Lib.hid (below_wide HB.out hb (by omega)); clear ho hb hg hat HB; have HB := HBn; clear HBn)))
        go_roundw
        case rel => exact ⟨i + 1, by go_num, by omega, by rw [HS.out]; exact HO3, HK3, HB⟩
        case measure => simp [intOf] <;> omega
      · obtain rfl : i = 4 := by omega
        have hc := HK.out.2.2.1
        have hl := pre_length o 4 hi
        have hl2 : (textForm o.name).length ≤ 25 := by
          have h1 := HL.out
          have h2 := textForm_length o.name (by omega)
          have h3 := form_length o.name.size
          omega
        go_wp2_with (first
          | (go_at_call 48; refine (ptext_calls _ _).mono ?_; rintro e w2 ⟨v2, rfl, ho, hb⟩; obtain ⟨A2, c2, rfl, hr⟩ := own_reads ho; have HK2 := Lib.hid (HK.out.below hb); have HO2 := Lib.hid (show OwnB w2 _ _ _ from pw_own_below HO.out hb); have HR2 := Lib.hid hr; clear ho hr; have HBn := Lib.hid (below_step (by repeat (first | (with_reducible exact HB.out) | apply below_alloc | apply pw_below_drewN | apply below_drew1 | exact HB.out)) hb); clear hb HB; have HB := HBn; clear HBn)
          | (at_builtin; (refine print_append_row (w0 := w2) (w1.heap.size + 1) rfl (.tmp 30) (.tmp 33) 25 5 .u8 1 rfl Tryd.underlying25 pkInfo5 (by decide) _ (pre o 4) (textForm o.name) A2 (textForm o.name).length c2 rfl rfl ?cO ?cR ?cB ?cS ?cL ?_; (case cO => exact HO2.out); (case cR => exact HR2.out); (case cB => exact Below.refl _ _); (case cS => exact HK2.out.2.1); (case cL => omega); intro v1 w3 ho hb hg hat; have HO3 := Lib.hid ho; have HBn := Lib.hid (below_wide HB.out hb (by omega)); clear ho hb hg hat HB; have HB := HBn; clear HBn)))
        go_ret
        rw [HF.out]
        exact ⟨_, rfl, OwnB.le HO3.out (by omega), HB.out⟩
  · have hc := fun w (h : Tabs w) => right_calls o w hs h
    rw [Bool.not_eq_true] at hR
    rw [hR] at hc
    simp only [opV] at hc ⊢
    have HC := Lib.hid hc
    have HF := Lib.hid (show opForm o = [] by rw [opForm, if_neg (by rw [hR]; decide)])
    have HT := Lib.hid hT
    clear hc hR hT
    go_enter Tryd.func24, Tryd.ntmps24
    go_wp2_with (go_at_call 22; refine (HC.out _ (HT.out.below (by repeat (first | (with_reducible exact HB.out) | apply below_alloc | apply pw_below_drewN | apply below_drew1 | exact HB.out)))).mono ?_; rintro e w1 ⟨rfl, hb⟩; have HBn := Lib.hid (below_step (by repeat (first | (with_reducible exact HB.out) | apply below_alloc | apply pw_below_drewN | apply below_drew1 | exact HB.out)) hb); clear hb HB; have HB := HBn; clear HBn)
    go_ret
    rw [HF.out]
    exact ⟨_, rfl, own_nil _ _ _ _, HB.out⟩
end Go.Proofs.YtfnoegijkdhckaaDoor
/- What package op's Take comes to. -/
namespace Go.Proofs.YtfnoegijkdhckaaDoor
open Go.RowKit Go.Proofs.YtfnoegijkdhckaaDoorW.PrintWords

/-- Block a may have been written, and blocks may be new. -/
structure Wide (a : Nat) (w w' : World) : Prop where
  os : w'.os = w.os
  tape : w'.tape = w.tape
  output : w'.output = w.output
  size : w.heap.size ≤ w'.heap.size
  block : ∀ k, k < w.heap.size → k ≠ a → w'.heap[k]? = w.heap[k]?
theorem Wide.refl (a : Nat) (w : World) : Wide a w w := ⟨rfl, rfl, rfl, Nat.le_refl _, fun _ _ _ => rfl⟩
theorem Wide.only {a : Nat} {w w1 w2 : World} (h : Wide a w w1) (k : Only a w1 w2) : Wide a w w2 :=
  ⟨k.os.trans h.os, k.tape.trans h.tape, k.output.trans h.output, by rw [k.size]; exact h.size, fun i hi hn => (k.block i hn).trans (h.block i hi hn)⟩
theorem Wide.set {a : Nat} {w w1 : World} (h : Wide a w w1) (g : Nat) (hg : w.heap.size ≤ g) (j : Nat) (u : Value) : Wide a w (w1.setCell ⟨g, j, none⟩ u) :=
  ⟨h.os, h.tape, h.output, by simpa [World.setCell] using h.size, fun i hi hn => (Below.heap_setCell w1 ⟨g, j, none⟩ u i (show i ≠ g by omega)).trans (h.block i hi hn)⟩
theorem Wide.alloc {a : Nat} {w w1 : World} (h : Wide a w w1) (o : Obj) : Wide a w (w1.alloc o) :=
  ⟨h.os, h.tape, h.output, by have := h.size; simp; omega, fun i hi hn => (Below.heap_alloc w1 o i (by have := h.size; omega)).trans (h.block i hi hn)⟩
theorem Wide.more {a : Nat} {w w1 w2 : World} (h : Wide a w w1) (k : Below w1.heap.size w1 w2) : Wide a w w2 :=
  ⟨k.os.trans h.os, k.tape.trans h.tape, k.output.trans h.output, Nat.le_trans h.size k.size, fun i hi hn => (k.block i (by have := h.size; omega)).trans (h.block i hi hn)⟩
theorem Wide.below {a B : Nat} {w0 w w1 : World} (h : Wide a w w1) (k : Below B w0 w) (hB : B ≤ a) (hw : B ≤ w.heap.size) : Below B w0 w1 :=
  k.trans ⟨h.os, h.tape, h.output, h.size, fun i hi => h.block i (by omega) (by omega)⟩
theorem RD.far {T : Nat} {w : World} {a d : Nat} {xs : List Int} {e : Int} (h : RD T w a d xs e) (g j : Nat) (u : Value) (ha : a ≠ g) (hd : d ≠ g) : RD T (w.setCell ⟨g, j, none⟩ u) a d xs e := h.other ((Only.refl g w).set j u) ha hd

/-- What is taken, and what is left of the bytes; what is wrong. -/
def tk1 (xs : List Int) (e : Int) := rdNum xs e 16777215
def tk2 (xs : List Int) (e : Int) := rdNum (tk1 xs e).2.1 (tk1 xs e).2.2 255
def tk3 (xs : List Int) (e : Int) := rdNum (tk2 xs e).2.1 (tk2 xs e).2.2 4294967295
def tk4 (xs : List Int) (e : Int) := rdNum (tk3 xs e).2.1 (tk3 xs e).2.2 4294967295
def tk5 (xs : List Int) (e : Int) := rdText (tk4 xs e).2.1 (tk4 xs e).2.2 20
def tkOp (xs : List Int) (e : Int) : OpR := ⟨(tk1 xs e).1, (tk2 xs e).1, (tk3 xs e).1, (tk4 xs e).1, (tk5 xs e).1⟩
def zeroOp : OpR := ⟨0, 0, 0, 0, ⟨#[]⟩⟩

theorem strOfNums_size (l : List Int) : (strOfNums l).size = l.length := by
  unfold strOfNums
  show (List.toArray _).size = _
  simp
theorem rdText_size (xs : List Int) (e : Int) (hx : ∀ x ∈ xs, 0 ≤ x ∧ x < 256) : (rdText xs e 20).1.size ≤ 20 := by
  unfold rdText
  by_cases he : e = 0
  · subst he
    rcases rdNum_cases xs 20 hx with ⟨e', h, h'⟩ | ⟨k, n, h, _, _, _, _, h0, _, hm⟩
    · rw [h, if_pos (by rcases h' with rfl | rfl <;> simp)]
      show (strOfNums []).size ≤ 20
      decide
    · rw [h, if_neg (by simp)]
      split
      · show (strOfNums []).size ≤ 20
        decide
      · show (strOfNums _).size ≤ 20
        rw [strOfNums_size, List.length_take]
        have : n.toNat ≤ 20 := by omega
        omega
  · have h : rdNum xs e 20 = (0, xs, e) := by rw [rdNum, if_neg he]
    rw [h, if_pos he]
    show (strOfNums []).size ≤ 20
    decide

set_option maxHeartbeats 2000000 in
theorem take_calls (w0 w : World) (a d : Nat) (xs : List Int) (e : Int) (h : RD 79 w a d xs e) (he : 0 ≤ e ∧ e ≤ 3) (hd : d < w.heap.size) (hT : Tabs w0) (hw : Below w0.heap.size w0 w) (ha : w0.heap.size ≤ a) :
    Calls Tryd.prog 55 #[.pointer (some ⟨a, 0, none⟩)] w fun r w' => r = .returned (.tuple #[opV (if opRight (tkOp xs e) = true then tkOp xs e else zeroOp), .bool (opRight (tkOp xs e))]) ∧ RD 79 w' a d (tk5 xs e).2.1 (tk5 xs e).2.2 ∧ Wide a w w' := by
  have hal := h.lt
  have hx : ∀ x ∈ xs, 0 ≤ x ∧ x < 256 := by obtain ⟨_, _, _, _, _, _, _, hx⟩ := h.out; exact hx
  have hdrop : ∀ (zs : List Int) (e most : Int), (∀ x ∈ zs, 0 ≤ x ∧ x < 256) → ∀ x ∈ (rdNum zs e most).2.1, 0 ≤ x ∧ x < 256 := by
    intro zs e most hz x hm
    by_cases he : e = 0
    · subst he
      rcases rdNum_cases zs most hz with ⟨e', h, _⟩ | ⟨k, n, h, _⟩
      · rw [h] at hm; simp at hm
      · rw [h] at hm; exact hz x (List.mem_of_mem_drop hm)
    · rw [rdNum, if_neg he] at hm; exact hz x hm
  have r1 := rdNum_range xs e 16777215 (fun x h => (hx x h).1) he
  have x1 := hdrop xs e 16777215 hx
  rcases h1 : rdNum xs e 16777215 with ⟨n1, y1, e1⟩
  rw [h1] at r1 x1
  have r2 := rdNum_range y1 e1 255 (fun x h => (x1 x h).1) ⟨r1.2.2.2.1, r1.2.2.2.2⟩
  have x2 := hdrop y1 e1 255 x1
  rcases h2 : rdNum y1 e1 255 with ⟨n2, y2, e2⟩
  rw [h2] at r2 x2
  have r3 := rdNum_range y2 e2 4294967295 (fun x h => (x2 x h).1) ⟨r2.2.2.2.1, r2.2.2.2.2⟩
  have x3 := hdrop y2 e2 4294967295 x2
  rcases h3 : rdNum y2 e2 4294967295 with ⟨n3, y3, e3⟩
  rw [h3] at r3 x3
  have r4 := rdNum_range y3 e3 4294967295 (fun x h => (x3 x h).1) ⟨r3.2.2.2.1, r3.2.2.2.2⟩
  have x4 := hdrop y3 e3 4294967295 x3
  rcases h4 : rdNum y3 e3 4294967295 with ⟨n4, y4, e4⟩
  rw [h4] at r4 x4
  have hsz := rdText_size y4 e4 x4
  rcases h5 : rdText y4 e4 20 with ⟨s, y5, e5⟩
  rw [h5] at hsz
  have t1 : tk1 xs e = (n1, y1, e1) := h1
  have t2 : tk2 xs e = (n2, y2, e2) := by rw [tk2, t1]; exact h2
  have t3 : tk3 xs e = (n3, y3, e3) := by rw [tk3, t2]; exact h3
  have t4 : tk4 xs e = (n4, y4, e4) := by rw [tk4, t3]; exact h4
  have t5 : tk5 xs e = (s, y5, e5) := by rw [tk5, t4]; exact h5
  have t6 : tkOp xs e = ⟨n1, n2, n3, n4, s⟩ := by rw [tkOp, t1, t2, t3, t4, t5]
  rw [t6, t5]
  have HE4 := Lib.hid (show 0 ≤ e4 ∧ e4 ≤ 3 from ⟨r4.2.2.2.1, r4.2.2.2.2⟩)
  have HS := Lib.hid (show s.size ≤ 9223372036854775807 from Nat.le_trans hsz (by decide))
  have H1 := Lib.hid h1
  have H2 := Lib.hid h2
  have H3 := Lib.hid h3
  have H4 := Lib.hid h4
  have H5 := Lib.hid h5
  clear t1 t2 t3 t4 t5 t6 r1 r2 r3 r4 x1 x2 x3 x4 hsz hdrop hx h1 h2 h3 h4 h5 he
  have HD0 := Lib.hid (show RD 79 ((w.alloc (.cells #[.int .i64 0, .int .i64 0, .int .i64 0, .int .i64 0, .string ⟨#[]⟩] 48)).alloc (.cells #[.int .i64 0, .int .i64 0, .int .i64 0, .int .i64 0, .string ⟨#[]⟩] 48)) a d xs e from (h.below ((Below.refl _ _).alloc (Nat.le_refl _) _)).below ((Below.refl _ _).alloc (Nat.le_refl _) _))
  have HA2 := Lib.hid (show a ≠ w.heap.size by omega)
  have HDM := Lib.hid (show d ≠ w.heap.size by omega)
  have HA4 := Lib.hid (show a ≠ w.heap.size + 1 by omega)
  have HDN := Lib.hid (show d ≠ w.heap.size + 1 by omega)
  have HT := Lib.hid hT
  have HB0 := Lib.hid hw.size
  have HW0 := Lib.hid hw
  have HA := Lib.hid ha
  clear h hT hw ha
  have hrc := fun w (h : Tabs w) => right_calls ⟨n1, n2, n3, n4, s⟩ w HS.out h
  simp only [opV] at hrc
  generalize opRight ⟨n1, n2, n3, n4, s⟩ = R at *
  have HRC := Lib.hid hrc
  clear hrc
  cases R
  all_goals
    go_enter Tryd.func55, Tryd.ntmps55
    go_wp2_with (first
      | (go_at_call 35; (with_reducible refine Calls.mono (num_calls_eq _ a d xs e 16777215 HD0.out H1.out) ?_); rintro r w1 ⟨rfl, hd, ho⟩; have HD1 := Lib.hid hd; clear hd HD0; have G21 := Lib.hid (show w1.heap[w.heap.size]? = some (.cells #[.int .i64 0, .int .i64 0, .int .i64 0, .int .i64 0, .string ⟨#[]⟩] 48 (0, 0)) from (ho.block _ (by omega)).trans (blk_alloc (blk_new _ _) _)); have G41 := Lib.hid (show w1.heap[w.heap.size + 1]? = some (.cells #[.int .i64 0, .int .i64 0, .int .i64 0, .int .i64 0, .string ⟨#[]⟩] 48 (0, 0)) from (ho.block _ (by omega)).trans (by have := blk_new (w.alloc (.cells #[.int .i64 0, .int .i64 0, .int .i64 0, .int .i64 0, .string ⟨#[]⟩] 48)) (.cells #[.int .i64 0, .int .i64 0, .int .i64 0, .int .i64 0, .string ⟨#[]⟩] 48); simpa using this)); have HW1 := Lib.hid (Wide.only (((Wide.refl a w).alloc _).alloc _) ho); clear ho; have c0 : w1.cell? ⟨w.heap.size + 1, 0, none⟩ = some (.int .i64 0) := blk_cell G41.out 0; have z0 := blk_frozen G41.out 0)
      | (go_at_call 35; (with_reducible refine Calls.mono (num_calls_eq _ a d y1 e1 255 (HD1.out.far (w.heap.size + 1) 0 (.int .i64 n1) HA4.out HDN.out) H2.out) ?_); rintro r w2 ⟨rfl, hd, ho⟩; have HD2 := Lib.hid hd; clear hd HD1; have G22 := Lib.hid (show w2.heap[w.heap.size]? = some (.cells #[.int .i64 0, .int .i64 0, .int .i64 0, .int .i64 0, .string ⟨#[]⟩] 48 (0, 0)) from (ho.block _ (by omega)).trans (blk_far G21.out (show w.heap.size ≠ w.heap.size + 1 by omega) _)); have G42 := Lib.hid (show w2.heap[w.heap.size + 1]? = some (.cells #[.int .i64 n1, .int .i64 0, .int .i64 0, .int .i64 0, .string ⟨#[]⟩] 48 (0, 0)) from (ho.block _ (by omega)).trans (blk_put G41.out 0 (.int .i64 n1) rfl)); have HW2 := Lib.hid (Wide.only (HW1.out.set (w.heap.size + 1) (by omega) _ _) ho); clear ho; have c1 : w2.cell? ⟨w.heap.size + 1, 1, none⟩ = some (.int .i64 0) := blk_cell G42.out 1; have z1 := blk_frozen G42.out 1)
      | (go_at_call 35; (with_reducible refine Calls.mono (num_calls_eq _ a d y2 e2 4294967295 (HD2.out.far (w.heap.size + 1) 1 (.int .i64 n2) HA4.out HDN.out) H3.out) ?_); rintro r w3 ⟨rfl, hd, ho⟩; have HD3 := Lib.hid hd; clear hd HD2; have G23 := Lib.hid (show w3.heap[w.heap.size]? = some (.cells #[.int .i64 0, .int .i64 0, .int .i64 0, .int .i64 0, .string ⟨#[]⟩] 48 (0, 0)) from (ho.block _ (by omega)).trans (blk_far G22.out (show w.heap.size ≠ w.heap.size + 1 by omega) _)); have G43 := Lib.hid (show w3.heap[w.heap.size + 1]? = some (.cells #[.int .i64 n1, .int .i64 n2, .int .i64 0, .int .i64 0, .string ⟨#[]⟩] 48 (0, 0)) from (ho.block _ (by omega)).trans (blk_put G42.out 1 (.int .i64 n2) rfl)); have HW3 := Lib.hid (Wide.only (HW2.out.set (w.heap.size + 1) (by omega) _ _) ho); clear ho; have c2 : w3.cell? ⟨w.heap.size + 1, 2, none⟩ = some (.int .i64 0) := blk_cell G43.out 2; have z2 := blk_frozen G43.out 2)
      | (go_at_call 35; (with_reducible refine Calls.mono (num_calls_eq _ a d y3 e3 4294967295 (HD3.out.far (w.heap.size + 1) 2 (.int .i64 n3) HA4.out HDN.out) H4.out) ?_); rintro r w4 ⟨rfl, hd, ho⟩; have HD4 := Lib.hid hd; clear hd HD3; have G24 := Lib.hid (show w4.heap[w.heap.size]? = some (.cells #[.int .i64 0, .int .i64 0, .int .i64 0, .int .i64 0, .string ⟨#[]⟩] 48 (0, 0)) from (ho.block _ (by omega)).trans (blk_far G23.out (show w.heap.size ≠ w.heap.size + 1 by omega) _)); have G44 := Lib.hid (show w4.heap[w.heap.size + 1]? = some (.cells #[.int .i64 n1, .int .i64 n2, .int .i64 n3, .int .i64 0, .string ⟨#[]⟩] 48 (0, 0)) from (ho.block _ (by omega)).trans (blk_put G43.out 2 (.int .i64 n3) rfl)); have HW4 := Lib.hid (Wide.only (HW3.out.set (w.heap.size + 1) (by omega) _ _) ho); clear ho; have c3 : w4.cell? ⟨w.heap.size + 1, 3, none⟩ = some (.int .i64 0) := blk_cell G44.out 3; have z3 := blk_frozen G44.out 3)
      | (go_at_call 64; (with_reducible refine Calls.mono (text_calls_eq _ a d y4 e4 20 (HD4.out.far (w.heap.size + 1) 3 (.int .i64 n4) HA4.out HDN.out) HE4.out H5.out) ?_); rintro r w5 ⟨rfl, hd, ho⟩; have HD5 := Lib.hid hd; clear hd HD4; have G25 := Lib.hid (show w5.heap[w.heap.size]? = some (.cells #[.int .i64 0, .int .i64 0, .int .i64 0, .int .i64 0, .string ⟨#[]⟩] 48 (0, 0)) from (ho.block _ (by omega)).trans (blk_far G24.out (show w.heap.size ≠ w.heap.size + 1 by omega) _)); have G45 := Lib.hid (show w5.heap[w.heap.size + 1]? = some (.cells #[.int .i64 n1, .int .i64 n2, .int .i64 n3, .int .i64 n4, .string ⟨#[]⟩] 48 (0, 0)) from (ho.block _ (by omega)).trans (blk_put G44.out 3 (.int .i64 n4) rfl)); have HW5 := Lib.hid (Wide.only (HW4.out.set (w.heap.size + 1) (by omega) _ _) ho); clear ho; have c4 : w5.cell? ⟨w.heap.size + 1, 4, none⟩ = some (.string ⟨#[]⟩) := blk_cell G45.out 4; have z4 := blk_frozen G45.out 4; have c0 : w5.cell? ⟨w.heap.size + 1, 0, none⟩ = some (.int .i64 n1) := blk_cell G45.out 0; have c1 : w5.cell? ⟨w.heap.size + 1, 1, none⟩ = some (.int .i64 n2) := blk_cell G45.out 1; have c2 : w5.cell? ⟨w.heap.size + 1, 2, none⟩ = some (.int .i64 n3) := blk_cell G45.out 2; have c3 : w5.cell? ⟨w.heap.size + 1, 3, none⟩ = some (.int .i64 n4) := blk_cell G45.out 3)
      | (go_at_call 22; (with_reducible refine Calls.mono (HRC.out _ (HT.out.below (Wide.below (HW5.out.set (w.heap.size + 1) (by omega) 4 (.string s)) HW0.out HA.out HB0.out))) ?_); rintro r w6 ⟨rfl, hb⟩; have HW6 := Lib.hid (Wide.more (HW5.out.set (w.heap.size + 1) (by omega) 4 (.string s)) hb); have HD6 := Lib.hid ((HD5.out.far (w.heap.size + 1) 4 (.string s) HA4.out HDN.out).below hb); have G26 := blk_below (blk_far G25.out (show w.heap.size ≠ w.heap.size + 1 by omega) _) hb; have G46 := blk_below (blk_put G45.out 4 (.string s) (cs' := #[.int .i64 n1, .int .i64 n2, .int .i64 n3, .int .i64 n4, .string s]) rfl) hb; clear hb; have p0 : w6.cell? ⟨w.heap.size, 0, none⟩ = some (.int .i64 0) := blk_cell G26 0; have q0 := blk_frozen G26 0; have m0 : w6.cell? ⟨w.heap.size + 1, 0, none⟩ = some (.int .i64 n1) := blk_cell G46 0; have p1 : w6.cell? ⟨w.heap.size, 1, none⟩ = some (.int .i64 0) := blk_cell G26 1; have q1 := blk_frozen G26 1; have m1 : w6.cell? ⟨w.heap.size + 1, 1, none⟩ = some (.int .i64 n2) := blk_cell G46 1; have p2 : w6.cell? ⟨w.heap.size, 2, none⟩ = some (.int .i64 0) := blk_cell G26 2; have q2 := blk_frozen G26 2; have m2 : w6.cell? ⟨w.heap.size + 1, 2, none⟩ = some (.int .i64 n3) := blk_cell G46 2; have p3 : w6.cell? ⟨w.heap.size, 3, none⟩ = some (.int .i64 0) := blk_cell G26 3; have q3 := blk_frozen G26 3; have m3 : w6.cell? ⟨w.heap.size + 1, 3, none⟩ = some (.int .i64 n4) := blk_cell G46 3; have p4 : w6.cell? ⟨w.heap.size, 4, none⟩ = some (.string ⟨#[]⟩) := blk_cell G26 4; have q4 := blk_frozen G26 4; have m4 : w6.cell? ⟨w.heap.size + 1, 4, none⟩ = some (.string s) := blk_cell G46 4)
      | (fail "no arm"))
  · refine (show ∀ W : World, (W.heap[w.heap.size]? = some (.cells #[.int .i64 0, .int .i64 0, .int .i64 0, .int .i64 0, .string ⟨#[]⟩] 48 (0, 0)) ∧ RD 79 W a d y5 e5 ∧ Wide a w W) → bodyPost _ _ _ _ _ W from fun W h => ?_) _ ⟨(blk_put (blk_put (blk_put (blk_put (blk_put G26 0 (.int .i64 0) rfl) 1 (.int .i64 0) rfl) 2 (.int .i64 0) rfl) 3 (.int .i64 0) rfl) 4 (.string ⟨#[]⟩) rfl), (((((HD6.out.far _ 0 (.int .i64 0) HA2.out HDM.out).far _ 1 (.int .i64 0) HA2.out HDM.out).far _ 2 (.int .i64 0) HA2.out HDM.out).far _ 3 (.int .i64 0) HA2.out HDM.out).far _ 4 (.string ⟨#[]⟩) HA2.out HDM.out), (((((HW6.out.set _ (Nat.le_refl _) 0 (.int .i64 0)).set _ (Nat.le_refl _) 1 (.int .i64 0)).set _ (Nat.le_refl _) 2 (.int .i64 0)).set _ (Nat.le_refl _) 3 (.int .i64 0)).set _ (Nat.le_refl _) 4 (.string ⟨#[]⟩))⟩
    obtain ⟨hG, hRD, hWi⟩ := h
    have k0 : W.cell? ⟨w.heap.size, 0, none⟩ = some (.int .i64 0) := blk_cell hG 0
    have k1 : W.cell? ⟨w.heap.size, 1, none⟩ = some (.int .i64 0) := blk_cell hG 1
    have k2 : W.cell? ⟨w.heap.size, 2, none⟩ = some (.int .i64 0) := blk_cell hG 2
    have k3 : W.cell? ⟨w.heap.size, 3, none⟩ = some (.int .i64 0) := blk_cell hG 3
    have k4 : W.cell? ⟨w.heap.size, 4, none⟩ = some (.string ⟨#[]⟩) := blk_cell hG 4
    have HG := Lib.hid hG
    clear hG
    refine bodyPost_ret (by simp [results, Tryd.results55, go_sem, k0, k1, k2, k3, k4]; try rfl) rfl ?_
    exact ⟨by simp [opV, zeroOp], hRD, hWi⟩
  · refine (show ∀ W : World, (W.heap[w.heap.size]? = some (.cells #[.int .i64 n1, .int .i64 n2, .int .i64 n3, .int .i64 n4, .string s] 48 (0, 0)) ∧ RD 79 W a d y5 e5 ∧ Wide a w W) → bodyPost _ _ _ _ _ W from fun W h => ?_) _ ⟨(blk_put (blk_put (blk_put (blk_put (blk_put G26 0 (.int .i64 n1) rfl) 1 (.int .i64 n2) rfl) 2 (.int .i64 n3) rfl) 3 (.int .i64 n4) rfl) 4 (.string s) rfl), (((((HD6.out.far _ 0 (.int .i64 n1) HA2.out HDM.out).far _ 1 (.int .i64 n2) HA2.out HDM.out).far _ 2 (.int .i64 n3) HA2.out HDM.out).far _ 3 (.int .i64 n4) HA2.out HDM.out).far _ 4 (.string s) HA2.out HDM.out), (((((HW6.out.set _ (Nat.le_refl _) 0 (.int .i64 n1)).set _ (Nat.le_refl _) 1 (.int .i64 n2)).set _ (Nat.le_refl _) 2 (.int .i64 n3)).set _ (Nat.le_refl _) 3 (.int .i64 n4)).set _ (Nat.le_refl _) 4 (.string s))⟩
    obtain ⟨hG, hRD, hWi⟩ := h
    have k0 : W.cell? ⟨w.heap.size, 0, none⟩ = some (.int .i64 n1) := blk_cell hG 0
    have k1 : W.cell? ⟨w.heap.size, 1, none⟩ = some (.int .i64 n2) := blk_cell hG 1
    have k2 : W.cell? ⟨w.heap.size, 2, none⟩ = some (.int .i64 n3) := blk_cell hG 2
    have k3 : W.cell? ⟨w.heap.size, 3, none⟩ = some (.int .i64 n4) := blk_cell hG 3
    have k4 : W.cell? ⟨w.heap.size, 4, none⟩ = some (.string s) := blk_cell hG 4
    have HG := Lib.hid hG
    clear hG
    refine bodyPost_ret (by simp [results, Tryd.results55, go_sem, k0, k1, k2, k3, k4]; try rfl) rfl ?_
    exact ⟨by simp [opV], hRD, hWi⟩
end Go.Proofs.YtfnoegijkdhckaaDoor
