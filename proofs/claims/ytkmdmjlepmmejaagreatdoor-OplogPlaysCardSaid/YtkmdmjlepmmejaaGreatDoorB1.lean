/-
  Well-formed texts: the decoder's steps, and the reference's bytes, are one. Plain lemmas on lists of bytes; Whether a number may be a node's, whether a stamp is right: walked by hand, where the print of these does not build; What package name's Right, and the reference's, come to; Whether an operation is right: what package op, and the reference, come to; How two operations stand: the words, and the small functions; How operations stand to each other: plain lemmas; Lists that rise by an order whose answers are numbers: sorted, struck of what is there twice, parted at an element
-/
import Derived.Lib.ValidLaws
import Derived.Lib.TrimUEq
import Derived.Laws.RangeAny
import Derived.WalkKit
import Derived.WalkSpells
import Derived.WalkLawsBesides
import Derived.BigQuiet
import Derived.Lib.Hide
import Derived.Handy
import Derived.Test.YtkmdmjlepmmejaaGreatDoorProg
import Derived.Test.YtkmdmjlepmmejaaGreatDoorWWords
import Derived.Test.YtkmdmjlepmmejaaGreatDoorShelf
import Derived.Test.YtkmdmjlepmmejaaGreatDoorPRightx2
/- Well-formed texts: the decoder's steps, and the reference's bytes, are one. Plain lemmas on lists of bytes. -/
namespace Go.Proofs.YtkmdmjlepmmejaaGreatDoor
open Go.Lib

/-- The reference's step: how many bytes there are, if these are well-formed. -/
def stepN (len b0 b1 b2 b3 : Nat) : Option Nat :=
  if b0 < 128 then some 1
  else if 194 ≤ b0 ∧ b0 ≤ 223 then (if 1 < len ∧ 128 ≤ b1 ∧ b1 ≤ 191 then some 2 else none)
  else if b0 = 224 then (if 2 < len ∧ 160 ≤ b1 ∧ b1 ≤ 191 ∧ 128 ≤ b2 ∧ b2 ≤ 191 then some 3 else none)
  else if b0 = 237 then (if 2 < len ∧ 128 ≤ b1 ∧ b1 ≤ 159 ∧ 128 ≤ b2 ∧ b2 ≤ 191 then some 3 else none)
  else if 225 ≤ b0 ∧ b0 ≤ 239 then (if 2 < len ∧ 128 ≤ b1 ∧ b1 ≤ 191 ∧ 128 ≤ b2 ∧ b2 ≤ 191 then some 3 else none)
  else if b0 = 240 then (if 3 < len ∧ 144 ≤ b1 ∧ b1 ≤ 191 ∧ 128 ≤ b2 ∧ b2 ≤ 191 ∧ 128 ≤ b3 ∧ b3 ≤ 191 then some 4 else none)
  else if 241 ≤ b0 ∧ b0 ≤ 243 then (if 3 < len ∧ 128 ≤ b1 ∧ b1 ≤ 191 ∧ 128 ≤ b2 ∧ b2 ≤ 191 ∧ 128 ≤ b3 ∧ b3 ≤ 191 then some 4 else none)
  else if b0 = 244 then (if 3 < len ∧ 128 ≤ b1 ∧ b1 ≤ 143 ∧ 128 ≤ b2 ∧ b2 ≤ 191 ∧ 128 ≤ b3 ∧ b3 ≤ 191 then some 4 else none)
  else none

set_option maxHeartbeats 2000000 in
theorem step_one (len b0 b1 b2 b3 : Nat) (h0 : b0 < 256) (h1 : b1 < 256) (h2 : b2 < 256) (h3 : b3 < 256) :
    (stepN len b0 b1 b2 b3 = some 1 ∧ decodeN len b0 b1 b2 b3 = (b0, 1) ∧ b0 < 128) ∨
    (∃ r, stepN len b0 b1 b2 b3 = some 2 ∧ decodeN len b0 b1 b2 b3 = (r, 2) ∧ 128 ≤ r ∧ 128 ≤ b0 ∧ 128 ≤ b1 ∧ 1 < len) ∨
    (∃ r, stepN len b0 b1 b2 b3 = some 3 ∧ decodeN len b0 b1 b2 b3 = (r, 3) ∧ 128 ≤ r ∧ 128 ≤ b0 ∧ 128 ≤ b1 ∧ 128 ≤ b2 ∧ 2 < len) ∨
    (∃ r, stepN len b0 b1 b2 b3 = some 4 ∧ decodeN len b0 b1 b2 b3 = (r, 4) ∧ 128 ≤ r ∧ 128 ≤ b0 ∧ 128 ≤ b1 ∧ 128 ≤ b2 ∧ 128 ≤ b3 ∧ 3 < len) ∨
    (stepN len b0 b1 b2 b3 = none ∧ decodeN len b0 b1 b2 b3 = (65533, 1) ∧ 128 ≤ b0) := by
  by_cases c0 : b0 < 128
  · exact .inl ⟨by rw [stepN, if_pos c0], by rw [decodeN, if_pos c0], c0⟩
  · refine .inr ?_
    by_cases c2 : b0 / 32 = 6 ∧ (1 < len ∧ b1 / 64 = 2)
    · by_cases d2 : b0 % 32 * 64 + b1 % 64 ≥ 128
      · refine .inl ⟨_, ?_, by rw [decodeN, if_neg c0, if_pos c2, if_pos d2], d2, by omega, by omega, by omega⟩
        rw [stepN, if_neg c0, if_pos (by omega), if_pos (by omega)]
      · refine .inr (.inr (.inr ⟨?_, by rw [decodeN, if_neg c0, if_pos c2, if_neg d2], by omega⟩))
        rw [stepN, if_neg c0, if_neg (by omega), if_neg (by omega), if_neg (by omega), if_neg (by omega), if_neg (by omega), if_neg (by omega), if_neg (by omega)]
    · by_cases c3 : b0 / 16 = 14 ∧ (1 < len ∧ b1 / 64 = 2) ∧ (2 < len ∧ b2 / 64 = 2)
      · by_cases d3 : b0 % 16 * 4096 + b1 % 64 * 64 + b2 % 64 ≥ 2048 ∧ (b0 % 16 * 4096 + b1 % 64 * 64 + b2 % 64 < 55296 ∨ (57344 ≤ b0 % 16 * 4096 + b1 % 64 * 64 + b2 % 64 ∧ b0 % 16 * 4096 + b1 % 64 * 64 + b2 % 64 ≤ 1114111))
        · refine .inr (.inl ⟨_, ?_, by rw [decodeN, if_neg c0, if_neg c2, if_pos c3, if_pos d3], by omega, by omega, by omega, by omega, by omega⟩)
          rw [stepN, if_neg c0, if_neg (by omega)]
          by_cases e1 : b0 = 224
          · rw [if_pos e1, if_pos (by omega)]
          · rw [if_neg e1]
            by_cases e2 : b0 = 237
            · rw [if_pos e2, if_pos (by omega)]
            · rw [if_neg e2, if_pos (by omega), if_pos (by omega)]
        · refine .inr (.inr (.inr ⟨?_, by rw [decodeN, if_neg c0, if_neg c2, if_pos c3, if_neg d3], by omega⟩))
          rw [stepN, if_neg c0, if_neg (by omega)]
          by_cases e1 : b0 = 224
          · rw [if_pos e1, if_neg (by omega)]
          · rw [if_neg e1]
            by_cases e2 : b0 = 237
            · rw [if_pos e2, if_neg (by omega)]
            · omega
      · by_cases c4 : b0 / 8 = 30 ∧ (1 < len ∧ b1 / 64 = 2) ∧ (2 < len ∧ b2 / 64 = 2) ∧ (3 < len ∧ b3 / 64 = 2)
        · by_cases d4 : b0 % 8 * 262144 + b1 % 64 * 4096 + b2 % 64 * 64 + b3 % 64 ≥ 65536 ∧ (b0 % 8 * 262144 + b1 % 64 * 4096 + b2 % 64 * 64 + b3 % 64 < 55296 ∨ (57344 ≤ b0 % 8 * 262144 + b1 % 64 * 4096 + b2 % 64 * 64 + b3 % 64 ∧ b0 % 8 * 262144 + b1 % 64 * 4096 + b2 % 64 * 64 + b3 % 64 ≤ 1114111))
          · refine .inr (.inr (.inl ⟨_, ?_, by rw [decodeN, if_neg c0, if_neg c2, if_neg c3, if_pos c4, if_pos d4], by omega, by omega, by omega, by omega, by omega, by omega⟩))
            rw [stepN, if_neg c0, if_neg (by omega), if_neg (by omega), if_neg (by omega), if_neg (by omega)]
            by_cases e1 : b0 = 240
            · rw [if_pos e1, if_pos (by omega)]
            · rw [if_neg e1]
              by_cases e2 : 241 ≤ b0 ∧ b0 ≤ 243
              · rw [if_pos e2, if_pos (by omega)]
              · rw [if_neg e2, if_pos (by omega), if_pos (by omega)]
          · refine .inr (.inr (.inr ⟨?_, by rw [decodeN, if_neg c0, if_neg c2, if_neg c3, if_pos c4, if_neg d4], by omega⟩))
            rw [stepN, if_neg c0, if_neg (by omega), if_neg (by omega), if_neg (by omega), if_neg (by omega)]
            by_cases e1 : b0 = 240
            · rw [if_pos e1, if_neg (by omega)]
            · rw [if_neg e1]
              by_cases e2 : 241 ≤ b0 ∧ b0 ≤ 243
              · omega
              · rw [if_neg e2]
                by_cases e3 : b0 = 244
                · rw [if_pos e3, if_neg (by omega)]
                · rw [if_neg e3]
        · refine .inr (.inr (.inr ⟨?_, by rw [decodeN, if_neg c0, if_neg c2, if_neg c3, if_neg c4], by omega⟩))
          rw [stepN, if_neg c0]
          by_cases e0 : 194 ≤ b0 ∧ b0 ≤ 223
          · rw [if_pos e0, if_neg (by omega)]
          · rw [if_neg e0]
            by_cases e1 : b0 = 224
            · rw [if_pos e1, if_neg (by omega)]
            · rw [if_neg e1]
              by_cases e2 : b0 = 237
              · rw [if_pos e2, if_neg (by omega)]
              · rw [if_neg e2]
                by_cases e3 : 225 ≤ b0 ∧ b0 ≤ 239
                · rw [if_pos e3, if_neg (by omega)]
                · rw [if_neg e3]
                  by_cases e4 : b0 = 240
                  · rw [if_pos e4, if_neg (by omega)]
                  · rw [if_neg e4]
                    by_cases e5 : 241 ≤ b0 ∧ b0 ≤ 243
                    · rw [if_pos e5, if_neg (by omega)]
                    · rw [if_neg e5]
                      by_cases e6 : b0 = 244
                      · rw [if_pos e6, if_neg (by omega)]
                      · rw [if_neg e6]

def bN (l : List UInt8) (k : Nat) : Nat := (l.getD k 0).toNat
def stepL (l : List UInt8) : Option Nat := stepN l.length (bN l 0) (bN l 1) (bN l 2) (bN l 3)
/-- Well-formed, step by step. -/
def formedL : Nat → List UInt8 → Bool
  | 0, _ => true
  | n + 1, l => if l = [] then true else match stepL l with
    | some k => formedL n (l.drop k)
    | none => false
/-- A byte that may be in a name, by itself. -/
def okB (c : UInt8) : Bool := decide (32 ≤ c.toNat) && (c.toNat != 47 && c.toNat != 127)
/-- A rune that may be in a name. -/
def signR (r : Nat) : Bool := decide (32 ≤ r) && (r != 127 && r != 47)
def runesOk : Nat → List UInt8 → Bool
  | 0, _ => true
  | n + 1, l => if l = [] then true else signR (decodeL l).1 && runesOk n (l.drop (decodeL l).2)
theorem bN_lt (l : List UInt8) (k : Nat) : bN l k < 256 := (l.getD k 0).toNat_lt
theorem okB_high (c : UInt8) (h : 128 ≤ c.toNat) : okB c = true := by
  simp only [okB, Bool.and_eq_true, decide_eq_true_eq, bne_iff_ne]; omega
theorem signR_high (r : Nat) (h : 128 ≤ r) : signR r = true := by
  simp only [signR, Bool.and_eq_true, decide_eq_true_eq, bne_iff_ne]; omega
theorem signR_okB (c : UInt8) : signR c.toNat = okB c := by
  unfold signR okB
  rw [Bool.and_comm (c.toNat != 127)]
theorem stepL_le (l : List UInt8) (hne : l ≠ []) (k : Nat) (h : stepL l = some k) : 1 ≤ k ∧ k ≤ l.length := by
  have hl : 0 < l.length := List.length_pos_iff.2 hne
  rcases step_one l.length (bN l 0) (bN l 1) (bN l 2) (bN l 3) (bN_lt _ _) (bN_lt _ _) (bN_lt _ _) (bN_lt _ _) with ⟨h1, _⟩ | ⟨r, h1, _, _, _, _, h2⟩ | ⟨r, h1, _, _, _, _, _, h2⟩ | ⟨r, h1, _, _, _, _, _, _, h2⟩ | ⟨h1, _⟩
  all_goals
    unfold stepL at h
    rw [h1] at h
    first | (cases h; done) | (injection h with h; omega)
theorem validGo_formed (n : Nat) : ∀ l : List UInt8, validGoD n l = formedL n l := by
  induction n with
  | zero => intro l; rfl
  | succ n ih =>
    intro l
    rw [validGoD, formedL]
    by_cases hl : l = []
    · rw [if_pos hl, if_pos hl]
    · rw [if_neg hl, if_neg hl]
      rw [decodeL_N]
      have hs := step_one l.length (bN l 0) (bN l 1) (bN l 2) (bN l 3) (bN_lt _ _) (bN_lt _ _) (bN_lt _ _) (bN_lt _ _)
      have e : stepL l = stepN l.length (bN l 0) (bN l 1) (bN l 2) (bN l 3) := rfl
      rw [e]
      change (if (decodeN l.length (bN l 0) (bN l 1) (bN l 2) (bN l 3)).1 = 65533 ∧ (decodeN l.length (bN l 0) (bN l 1) (bN l 2) (bN l 3)).2 = 1 then false else validGoD n (l.drop (decodeN l.length (bN l 0) (bN l 1) (bN l 2) (bN l 3)).2)) = _
      rcases hs with ⟨h1, h2, h3⟩ | ⟨r, h1, h2, _⟩ | ⟨r, h1, h2, _⟩ | ⟨r, h1, h2, _⟩ | ⟨h1, h2, _⟩
      · rw [h1, h2, if_neg (by simp; omega)]; exact ih _
      · rw [h1, h2, if_neg (by simp)]; exact ih _
      · rw [h1, h2, if_neg (by simp)]; exact ih _
      · rw [h1, h2, if_neg (by simp)]; exact ih _
      · rw [h1, h2, if_pos (by simp)]
theorem all_take_drop (p : UInt8 → Bool) (l : List UInt8) (k : Nat) (h : (l.take k).all p = true) : l.all p = (l.drop k).all p := by
  have e : l.all p = (l.take k ++ l.drop k).all p := by rw [List.take_append_drop]
  rw [e, List.all_append, h, Bool.true_and]
theorem take_high (l : List UInt8) (k : Nat) (h : ∀ j, j < k → 128 ≤ bN l j) (hk : k ≤ l.length) : (l.take k).all okB = true := by
  rw [List.all_eq_true]
  intro c hc
  obtain ⟨j, hj, rfl⟩ := List.mem_iff_getElem.1 hc
  have hj' : j < k := by rw [List.length_take] at hj; omega
  have := h j hj'
  unfold bN at this
  rw [List.getD_eq_getElem?_getD, List.getElem?_eq_getElem (by omega)] at this
  rw [List.getElem_take]
  exact okB_high _ this
/-- In what is well-formed runes are right just where bytes are. -/
theorem runes_bytes (n : Nat) : ∀ l : List UInt8, l.length ≤ n → formedL n l = true → runesOk n l = l.all okB := by
  induction n with
  | zero => intro l hl _; obtain rfl : l = [] := List.eq_nil_of_length_eq_zero (by omega); rfl
  | succ n ih =>
    intro l hl hf
    rw [formedL] at hf
    rw [runesOk]
    by_cases hne : l = []
    · rw [if_pos hne, hne]; rfl
    · rw [if_neg hne] at hf
      rw [if_neg hne, decodeL_N]
      have hs := step_one l.length (bN l 0) (bN l 1) (bN l 2) (bN l 3) (bN_lt _ _) (bN_lt _ _) (bN_lt _ _) (bN_lt _ _)
      have e : stepL l = stepN l.length (bN l 0) (bN l 1) (bN l 2) (bN l 3) := rfl
      rw [e] at hf
      change (signR (decodeN l.length (bN l 0) (bN l 1) (bN l 2) (bN l 3)).1 && runesOk n (l.drop (decodeN l.length (bN l 0) (bN l 1) (bN l 2) (bN l 3)).2)) = _
      have hlen : 0 < l.length := List.length_pos_iff.2 hne
      rcases hs with ⟨h1, h2, h3⟩ | ⟨r, h1, h2, h3, h4, h5, h6⟩ | ⟨r, h1, h2, h3, h4, h5, h6, h7⟩ | ⟨r, h1, h2, h3, h4, h5, h6, h7, h8⟩ | ⟨h1, h2, _⟩
      · rw [h1] at hf
        rw [h2]
        cases l with
        | nil => exact absurd rfl hne
        | cons c l =>
          simp only [List.drop_succ_cons, List.drop_zero] at hf ⊢
          rw [ih l (by simp at hl; omega) hf, List.all_cons]
          congr 1
          exact signR_okB c
      · rw [h1] at hf
        rw [h2, signR_high r h3, Bool.true_and, all_take_drop okB l 2 (take_high l 2 (fun j hj => by match j, hj with | 0, _ => exact h4 | 1, _ => exact h5) (by omega))]
        exact ih _ (by rw [List.length_drop]; omega) hf
      · rw [h1] at hf
        rw [h2, signR_high r h3, Bool.true_and, all_take_drop okB l 3 (take_high l 3 (fun j hj => by match j, hj with | 0, _ => exact h4 | 1, _ => exact h5 | 2, _ => exact h6) (by omega))]
        exact ih _ (by rw [List.length_drop]; omega) hf
      · rw [h1] at hf
        rw [h2, signR_high r h3, Bool.true_and, all_take_drop okB l 4 (take_high l 4 (fun j hj => by match j, hj with | 0, _ => exact h4 | 1, _ => exact h5 | 2, _ => exact h6 | 3, _ => exact h7) (by omega))]
        exact ih _ (by rw [List.length_drop]; omega) hf
      · rw [h1] at hf; cases hf
/-- A name, by its bytes. -/
def nameB (l : List UInt8) : Bool := (decide (1 ≤ l.length) && decide (l.length ≤ 20)) && (l.all okB && formedL l.length l)
theorem nameB_runes (l : List UInt8) : nameB l = (runesOk l.length l && ((decide (1 ≤ l.length) && decide (l.length ≤ 20)) && validD l)) := by
  unfold nameB validD
  rw [validGo_formed]
  cases hf : formedL l.length l with
  | false => simp
  | true => rw [runes_bytes l.length l (Nat.le_refl _) hf, Bool.and_true, Bool.and_true, Bool.and_comm]
end Go.Proofs.YtkmdmjlepmmejaaGreatDoor
/- Whether a number may be a node's, whether a stamp is right: walked by hand, where the print of these does not build. -/
namespace Go.Proofs.YtkmdmjlepmmejaaGreatDoor.PRight
open Go.RowKit Go.Proofs.YtkmdmjlepmmejaaGreatDoorW.PrintWords

def op_Node.f (a0 : Int) : Option (Bool) := if a0 ≥ 256 then some (decide (a0 ≤ 4294967295)) else some false
theorem op_Node.calls (a0 : Int) (r : Bool) (w : World) (h : op_Node.f a0 = some r) : Calls Tryz.prog 54 #[.int .i64 a0] w fun e w' => e = .returned (.bool r) ∧ Drawn0 w w' := by
  unfold op_Node.f at h
  by_cases c : a0 ≥ 256
  · rw [if_pos c] at h
    have c1 : decide (256 ≤ a0) = true := decide_eq_true c
    obtain rfl := Option.some.inj h
    clear c h
    go_enter Tryz.func54, Tryz.ntmps54
    go_wp2
    go_ret
    exact ⟨rfl, by repeat (first | exact Drawn0.refl _ | apply Drawn0.step)⟩
  · rw [if_neg c] at h
    have c1 : decide (256 ≤ a0) = false := decide_eq_false c
    obtain rfl := Option.some.inj h
    clear c h
    go_enter Tryz.func54, Tryz.ntmps54
    go_wp2
    go_ret
    exact ⟨rfl, by repeat (first | exact Drawn0.refl _ | apply Drawn0.step)⟩
def stamp_Right.f (n : Int) (r : Int) : Option (Bool) := if n ≥ 1 then (if n ≤ 16777215 then (if r ≥ 0 then some (decide (r < 256)) else some false) else some false) else some false
theorem stamp_Right.calls (n r : Int) (b : Bool) (w : World) (h : stamp_Right.f n r = some b) : Calls Tryz.prog 55 #[.agg #[.int .i64 n, .int .i64 r]] w fun e w' => e = .returned (.bool b) ∧ Below w.heap.size w w' := by
  unfold stamp_Right.f at h
  have HB := Lib.hid (Below.refl w.heap.size w)
  by_cases d1 : n ≥ 1
  · have c1 : decide (1 ≤ n) = true := decide_eq_true d1
    rw [if_pos d1] at h
    by_cases d2 : n ≤ 16777215
    · have c2 : decide (n ≤ 16777215) = true := decide_eq_true d2
      rw [if_pos d2] at h
      by_cases d3 : r ≥ 0
      · have c3 : decide (0 ≤ r) = true := decide_eq_true d3
        rw [if_pos d3] at h
        obtain rfl := Option.some.inj h
        clear h d1 d2 d3
        go_enter Tryz.func55, Tryz.ntmps55
        go_wp2
        go_ret
        exact ⟨rfl, (by repeat (first | (with_reducible exact HB.out) | apply below_alloc | apply pw_below_drewN | apply below_drew1 | exact HB.out))⟩
      · have c3 : decide (0 ≤ r) = false := decide_eq_false d3
        rw [if_neg d3] at h
        obtain rfl := Option.some.inj h
        clear h d1 d2 d3
        go_enter Tryz.func55, Tryz.ntmps55
        go_wp2
        go_ret
        exact ⟨rfl, (by repeat (first | (with_reducible exact HB.out) | apply below_alloc | apply pw_below_drewN | apply below_drew1 | exact HB.out))⟩
    · have c2 : decide (n ≤ 16777215) = false := decide_eq_false d2
      rw [if_neg d2] at h
      obtain rfl := Option.some.inj h
      clear h d1 d2
      go_enter Tryz.func55, Tryz.ntmps55
      go_wp2
      go_ret
      exact ⟨rfl, (by repeat (first | (with_reducible exact HB.out) | apply below_alloc | apply pw_below_drewN | apply below_drew1 | exact HB.out))⟩
  · have c1 : decide (1 ≤ n) = false := decide_eq_false d1
    rw [if_neg d1] at h
    obtain rfl := Option.some.inj h
    clear h d1
    go_enter Tryz.func55, Tryz.ntmps55
    go_wp2
    go_ret
    exact ⟨rfl, (by repeat (first | (with_reducible exact HB.out) | apply below_alloc | apply pw_below_drewN | apply below_drew1 | exact HB.out))⟩
end Go.Proofs.YtkmdmjlepmmejaaGreatDoor.PRight
/- What package name's Right, and the reference's, come to. -/
namespace Go.Proofs.YtkmdmjlepmmejaaGreatDoor
open Go.RowKit Go.Proofs.YtkmdmjlepmmejaaGreatDoorW.PrintWords Go.Lib

/-- Go's own tables for utf8 lie where they were laid. -/
def Tabs (w : World) : Prop := Lib.Utf8Tabs (Tryz.laysValid_ren.g 3) (Tryz.laysValid_ren.g 4) w
theorem Tabs.below {w w' : World} (h : Tabs w) (hb : Below w.heap.size w w') : Tabs w' := Utf8Tabs_below h hb

set_option maxHeartbeats 400000 in
theorem sign_calls (r : Nat) (w : World) (hr : r ≤ 2147483647) : Calls Tryz.prog 78 #[.int .i32 r] w fun e w' => e = .returned (.bool (signR r)) ∧ w' = w := by
  by_cases h1 : 32 ≤ r
  · by_cases h2 : r = 127
    · subst h2
      go_enter Tryz.func78, Tryz.ntmps78
      go_wp2
      go_ret
      exact ⟨rfl, rfl⟩
    · by_cases h3 : r = 47
      · subst h3
        go_enter Tryz.func78, Tryz.ntmps78
        go_wp2
        go_ret
        exact ⟨rfl, rfl⟩
      · have hs := Lib.hid (show signR r = true by unfold signR; simp only [Bool.and_eq_true, decide_eq_true_eq, bne_iff_ne]; omega)
        have e2 : ((r : Int) != 127) = true := by rw [bne_iff_ne]; omega
        have e3 : ((r : Int) != 47) = true := by rw [bne_iff_ne]; omega
        go_enter Tryz.func78, Tryz.ntmps78
        go_wp2
        go_ret
        rw [hs.out]
        exact ⟨by simp, rfl⟩
  · have hs := Lib.hid (show signR r = false by unfold signR; rw [decide_eq_false (by omega), Bool.false_and])
    go_enter Tryz.func78, Tryz.ntmps78
    go_wp2
    go_ret
    rw [hs.out]
    exact ⟨by simp, rfl⟩

set_option maxHeartbeats 1000000 in
theorem nright_calls (s : ByteArray) (w : World) (hs : s.size ≤ 9223372036854775807) (hT : Tabs w) : Calls Tryz.prog 56 #[.string s] w fun e w' => e = .returned (.bool (nameB s.data.toList)) ∧ Below w.heap.size w w' := by
  have HT := Lib.hid hT
  have cV : ∀ w1, Tabs w1 → Calls Tryz.prog 79 #[.string s] w1 _ := fun w1 h1 => Any.utf8_ValidString Tryz.laysValid s w1 hs h1
  have HV := Lib.hid cV
  have hsz : s.data.toList.length = s.size := by rw [Array.length_toList]; rfl
  have HN := Lib.hid (nameB_runes s.data.toList)
  have HSZ := Lib.hid hsz
  clear hT cV hsz
  go_enter Tryz.func56, Tryz.ntmps56
  go_wp2
  go_loopw [] (fun w' => ∃ (pos b : Nat), w' = w.iter s pos ∧ Hid (runesOk s.data.toList.length s.data.toList = runesOk b (s.data.toList.drop pos)) ∧ s.size ≤ pos + b) (fun w' => s.size - w'.iterPos w.heap.size)
  case atStart => exact ⟨0, s.size, rfl, Lib.hid (by rw [HSZ.out, List.drop_zero]), by omega⟩
  case round =>
    obtain ⟨pos, b, rfl, HR, hb⟩ := hrel
    by_cases hp : pos < s.size
    · have hnx : ∀ ty, (Instr.next (.pointer (some ⟨w.heap.size, 0, none⟩)) true ty).run Tryz.prog (w.iter s pos) = _ := fun ty => run_next_any w s pos ty hp
      obtain ⟨b', rfl⟩ : ∃ b', b = b' + 1 := ⟨b - 1, by omega⟩
      have hne : s.data.toList.drop pos ≠ [] := by
        intro h
        have := congrArg List.length h
        rw [List.length_drop, HSZ.out] at this
        simp at this; omega
      have hr := HR.out
      rw [runesOk, if_neg hne, decodeL_drop, List.drop_drop] at hr
      have hle := decode_le s pos
      have hwd : 1 ≤ (Utf8.decode s pos).2 := by rw [← decodeL_drop]; exact decodeL_width _
      obtain ⟨r, hrr⟩ : ∃ r, r = (Utf8.decode s pos).1 := ⟨_, rfl⟩
      obtain ⟨wd, hw⟩ : ∃ wd, wd = (Utf8.decode s pos).2 := ⟨_, rfl⟩
      rw [← hrr] at hnx hr hle
      rw [← hw] at hnx hr hwd
      clear hrr hw hne HR
      by_cases hsg : signR r = true
      · rw [hsg, Bool.true_and] at hr
        have HR := Lib.hid hr
        have HS := Lib.hid hsg
        clear hr hsg
        go_wp2_with (go_at_call 78; refine (sign_calls r _ hle).mono ?_; rw [HS.out]; rintro e w' ⟨rfl, rfl⟩)
        go_roundw
        case rel => exact ⟨pos + wd, b', rfl, HR, by omega⟩
        case measure => simp; omega
      · have HF := Lib.hid (show nameB s.data.toList = false by rw [HN.out, hr]; simp [hsg])
        have HS := Lib.hid (show signR r = false by simpa using hsg)
        clear hr hsg
        go_wp2_with (go_at_call 78; refine (sign_calls r _ hle).mono ?_; rw [HS.out]; rintro e w' ⟨rfl, rfl⟩)
        go_ret
        rw [HF.out]
        exact ⟨rfl, below_alloc (Below.refl _ _) _⟩
    · have hnx : ∀ ty, (Instr.next (.pointer (some ⟨w.heap.size, 0, none⟩)) true ty).run Tryz.prog (w.iter s pos) = _ := fun ty => run_next_end w s pos ty hp
      have hend : runesOk b (s.data.toList.drop pos) = true := by
        rw [List.drop_eq_nil_of_le (by rw [HSZ.out]; omega)]
        cases b <;> simp [runesOk]
      have HF := Lib.hid (show nameB s.data.toList = ((decide (1 ≤ s.size) && decide (s.size ≤ 20)) && validD s.data.toList) by rw [HN.out, HR.out, hend, Bool.true_and, HSZ.out])
      have hbel : Below w.heap.size w (w.iter s pos) := below_alloc (Below.refl _ _) _
      have HTT := Lib.hid (HT.out.below hbel)
      have HBL := Lib.hid hbel
      clear hend HR hbel
      by_cases h1 : 1 ≤ s.size
      · by_cases h2 : s.size ≤ 20
        · go_wp2_with (go_at_call 79; refine (HV.out _ HTT.out).mono ?_; rintro e w' ⟨rfl, hb⟩; have HB := Lib.hid hb; clear hb)
          go_ret
          rw [HF.out, decide_eq_true h1, decide_eq_true h2]
          exact ⟨by simp, below_step HBL.out HB.out⟩
        · go_wp2
          go_ret
          rw [HF.out, decide_eq_false h2]
          exact ⟨by simp, HBL.out⟩
      · go_wp2
        go_ret
        rw [HF.out, decide_eq_false h1]
        exact ⟨by simp, HBL.out⟩
end Go.Proofs.YtkmdmjlepmmejaaGreatDoor
/- Whether an operation is right: what package op, and the reference, come to. -/
namespace Go.Proofs.YtkmdmjlepmmejaaGreatDoor
open Go.RowKit Go.Proofs.YtkmdmjlepmmejaaGreatDoorW.PrintWords

structure OpR where
  n : Int
  r : Int
  node : Int
  par : Int
  name : ByteArray
def opV (o : OpR) : Value := .agg #[.int .i64 o.n, .int .i64 o.r, .int .i64 o.node, .int .i64 o.par, .string o.name]
def nodeR (n : Int) : Bool := decide (256 ≤ n) && decide (n ≤ 4294967295)
def stampR (n r : Int) : Bool := (decide (1 ≤ n) && decide (n ≤ 16777215)) && (decide (0 ≤ r) && decide (r ≤ 255))
def toR (n : Int) : Bool := n == 0 || (n == 1 || nodeR n)
def opRight (o : OpR) : Bool := stampR o.n o.r && (nodeR o.node && (toR o.par && nameB o.name.data.toList))

theorem node_f (n : Int) : PRight.op_Node.f n = some (nodeR n) := by
  unfold PRight.op_Node.f nodeR
  by_cases h : n ≥ 256
  · rw [if_pos h, decide_eq_true h, Bool.true_and]
  · rw [if_neg h, decide_eq_false h, Bool.false_and]
theorem stamp_f (n r : Int) : PRight.stamp_Right.f n r = some (stampR n r) := by
  unfold PRight.stamp_Right.f stampR
  have e4 : decide (r < 256) = decide (r ≤ 255) := decide_eq_decide.2 (by omega)
  by_cases h1 : n ≥ 1
  · by_cases h2 : n ≤ 16777215
    · by_cases h3 : r ≥ 0
      · rw [if_pos h1, if_pos h2, if_pos h3, decide_eq_true h1, decide_eq_true h2, decide_eq_true h3, e4]; rfl
      · rw [if_pos h1, if_pos h2, if_neg h3, decide_eq_false h3]; simp
    · rw [if_pos h1, if_neg h2, decide_eq_false h2]; simp
  · rw [if_neg h1, decide_eq_false h1]; simp
theorem node_calls (n : Int) (w : World) : Calls Tryz.prog 54 #[.int .i64 n] w fun e w' => e = .returned (.bool (nodeR n)) ∧ ∃ m, w' = w.drewN m :=
  (PRight.op_Node.calls n _ w (node_f n)).mono fun _ _ ⟨he, h⟩ => ⟨he, h.out⟩
theorem stamp_calls (n r : Int) (w : World) : Calls Tryz.prog 55 #[.agg #[.int .i64 n, .int .i64 r]] w fun e w' => e = .returned (.bool (stampR n r)) ∧ Below w.heap.size w w' :=
  PRight.stamp_Right.calls n r _ w (stamp_f n r)
set_option maxHeartbeats 2000000 in
theorem right_calls (o : OpR) (w : World) (hs : o.name.size ≤ 9223372036854775807) (hT : Tabs w) : Calls Tryz.prog 32 #[opV o] w fun e w' => e = .returned (.bool (opRight o)) ∧ Below w.heap.size w w' := by
  obtain ⟨n, r, node, par, name⟩ := o
  simp only [opV] at hs ⊢
  have HT := Lib.hid hT
  clear hT
  have HR := Lib.hid (show opRight ⟨n, r, node, par, name⟩ = (stampR n r && (nodeR node && ((par == 0 || (par == 1 || nodeR par)) && nameB name.data.toList))) from rfl)
  have hc1 := stamp_calls n r
  have hc2 := node_calls node
  have hc3 := node_calls par
  have hc4 := fun w (h : Tabs w) => nright_calls name w hs h
  generalize opRight ⟨n, r, node, par, name⟩ = R at *
  generalize stampR n r = S at *
  generalize nodeR node = N at *
  generalize nodeR par = N2 at *
  generalize nameB name.data.toList = M at *
  have HC1 := Lib.hid hc1
  have HC2 := Lib.hid hc2
  have HC3 := Lib.hid hc3
  have HC4 := Lib.hid hc4
  have HB := Lib.hid (Below.refl w.heap.size w)
  clear hc1 hc2 hc3 hc4
  go_enter Tryz.func32, Tryz.ntmps32
  go_wp2_with (first
    | (go_at_call 54; (with_reducible refine (HC3.out _).mono ?_); rintro e w1 ⟨rfl, m1, rfl⟩)
    | (go_at_call 55; refine (HC1.out _).mono ?_; rintro e w2 ⟨rfl, hb⟩; have c2 : w2.cell? ⟨w.heap.size, 2, none⟩ = some (.int .i64 node) := pw_cell_below hb (by go_cell); have c4 : w2.cell? ⟨w.heap.size, 4, none⟩ = some (.string name) := pw_cell_below hb (by go_cell); have HBn := Lib.hid (below_step (by repeat (first | (with_reducible exact HB.out) | apply below_alloc | apply pw_below_drewN | apply below_drew1 | exact HB.out)) hb); clear hb HB; have HB := HBn; clear HBn)
    | (go_at_call 54; (with_reducible refine (HC2.out _).mono ?_); rintro e w3 ⟨rfl, m3, rfl⟩)
    | (go_at_call 56; refine (HC4.out _ (HT.out.below (by repeat (first | (with_reducible exact HB.out) | apply below_alloc | apply pw_below_drewN | apply below_drew1 | exact HB.out)))).mono ?_; rintro e w4 ⟨rfl, hb⟩; have HBn := Lib.hid (below_step (by repeat (first | (with_reducible exact HB.out) | apply below_alloc | apply pw_below_drewN | apply below_drew1 | exact HB.out)) hb); clear hb HB; have HB := HBn; clear HBn))
  go_ways
  all_goals (go_ret; refine ⟨?_, (by repeat (first | (with_reducible exact HB.out) | apply below_alloc | apply pw_below_drewN | apply below_drew1 | exact HB.out))⟩; rw [HR.out]; clear HC1 HC2 HC3 HC4; simp_all)
end Go.Proofs.YtkmdmjlepmmejaaGreatDoor
/- How two operations stand: the words, and the small functions. -/
namespace Go.Proofs.YtkmdmjlepmmejaaGreatDoor
open Go.RowKit Go.Proofs.YtkmdmjlepmmejaaGreatDoorW.PrintWords

def cmpI (a b : Int) : Int := if a < b then -1 else if b < a then 1 else 0
def cmpS (a b : ByteArray) : Int := if Op.bytesLess a.toList b.toList = true then -1 else if (Op.bytesLess a.toList b.toList || a.toList == b.toList) = true then 0 else 1
def cmpT (a b c d : Int) : Int := if cmpI a c = 0 then cmpI b d else cmpI a c
def opCmp (a b : OpR) : Int := if cmpT a.n a.r b.n b.r = 0 then (if cmpI a.node b.node = 0 then (if cmpI a.par b.par = 0 then cmpS a.name b.name else cmpI a.par b.par) else cmpI a.node b.node) else cmpT a.n a.r b.n b.r

theorem isNaN_int_calls (a : Int) (w : World) : Calls Tryz.prog 121 #[.int .i64 a] w fun e w' => e = .returned (.bool false) ∧ w' = w := by
  go_enter Tryz.func121, Tryz.ntmps121
  go_wp2
  go_ret
  simp
theorem isNaN_str_calls (a : ByteArray) (w : World) : Calls Tryz.prog 122 #[.string a] w fun e w' => e = .returned (.bool false) ∧ w' = w := by
  go_enter Tryz.func122, Tryz.ntmps122
  go_wp2
  go_ret
  simp
theorem cmp_int_calls (a b : Int) (w : World) : Calls Tryz.prog 89 #[.int .i64 a, .int .i64 b] w fun e w' => e = .returned (.int .i64 (cmpI a b)) ∧ w' = w := by
  have HC := Lib.hid isNaN_int_calls
  have HE := Lib.hid (show cmpI a b = if a < b then -1 else if b < a then 1 else 0 from rfl)
  generalize cmpI a b = R at *
  by_cases h1 : a < b
  · go_enter Tryz.func89, Tryz.ntmps89
    go_wp2_with (go_at_call 121; refine (HC.out _ _).mono ?_; rintro e w1 ⟨rfl, rfl⟩)
    go_ret
    rw [HE.out, if_pos h1]
    exact ⟨rfl, rfl⟩
  · by_cases h2 : b < a
    · go_enter Tryz.func89, Tryz.ntmps89
      go_wp2_with (go_at_call 121; refine (HC.out _ _).mono ?_; rintro e w1 ⟨rfl, rfl⟩)
      go_ret
      rw [HE.out, if_neg (show ¬ a < b by omega), if_pos h2]
      exact ⟨rfl, rfl⟩
    · go_enter Tryz.func89, Tryz.ntmps89
      go_wp2_with (go_at_call 121; refine (HC.out _ _).mono ?_; rintro e w1 ⟨rfl, rfl⟩)
      go_ret
      rw [HE.out, if_neg (show ¬ a < b by omega), if_neg (show ¬ b < a by omega)]
      exact ⟨rfl, rfl⟩
theorem cmp_str_calls (a b : ByteArray) (w : World) : Calls Tryz.prog 90 #[.string a, .string b] w fun e w' => e = .returned (.int .i64 (cmpS a b)) ∧ w' = w := by
  have HC := Lib.hid isNaN_str_calls
  have HE := Lib.hid (show cmpS a b = if Op.bytesLess a.toList b.toList = true then -1 else if (Op.bytesLess a.toList b.toList || a.toList == b.toList) = true then 0 else 1 from rfl)
  generalize cmpS a b = R at *
  cases h1 : Op.bytesLess a.toList b.toList
  · cases h2 : (a.toList == b.toList)
    all_goals
      go_enter Tryz.func90, Tryz.ntmps90
      go_wp2_with (go_at_call 122; refine (HC.out _ _).mono ?_; rintro e w1 ⟨rfl, rfl⟩)
      go_ret
      rw [HE.out, h1, h2]
      exact ⟨rfl, rfl⟩
  · go_enter Tryz.func90, Tryz.ntmps90
    go_wp2_with (go_at_call 122; refine (HC.out _ _).mono ?_; rintro e w1 ⟨rfl, rfl⟩)
    go_ret
    rw [HE.out, h1]
    exact ⟨rfl, rfl⟩

/-- The first that isn't 0, of two. -/
theorem first_calls (a b : Int) (g : Nat) (w : World) (h0 : w.cell? ⟨g, 0, none⟩ = some (.int .i64 a)) (h1 : w.cell? ⟨g, 1, none⟩ = some (.int .i64 b)) : Calls Tryz.prog 123 #[.slice (some ⟨g, 0, none⟩) 2 2] w fun e w' => e = .returned (.int .i64 (if a = 0 then b else a)) ∧ w' = w := by
  by_cases ha : a = 0
  · subst ha
    by_cases hb : b = 0
    · subst hb
      go_enter Tryz.func123, Tryz.ntmps123
      go_wp2
      go_rounds 3
      go_ret
      simp
    · go_enter Tryz.func123, Tryz.ntmps123
      go_wp2
      go_rounds 2
      go_ret
      simp
  · go_enter Tryz.func123, Tryz.ntmps123
    go_wp2
    go_rounds 1
    go_ret
    simp
end Go.Proofs.YtkmdmjlepmmejaaGreatDoor
/- How operations stand to each other: plain lemmas. -/
namespace Go.Proofs.YtkmdmjlepmmejaaGreatDoor
open Go.RowKit

/-- How two lists of bytes stand. -/
def cmpL : List UInt8 → List UInt8 → Int
  | [], [] => 0
  | [], _ :: _ => -1
  | _ :: _, [] => 1
  | x :: xs, y :: ys => if x.toNat < y.toNat then -1 else if y.toNat < x.toNat then 1 else cmpL xs ys
theorem cmpL_neg : ∀ xs ys, cmpL ys xs = -cmpL xs ys
  | [], [] => rfl
  | [], _ :: _ => rfl
  | _ :: _, [] => rfl
  | x :: xs, y :: ys => by
    rw [cmpL, cmpL, cmpL_neg xs ys]
    split <;> split <;> first | omega | rfl
theorem cmpL_range : ∀ xs ys, cmpL xs ys = -1 ∨ cmpL xs ys = 0 ∨ cmpL xs ys = 1
  | [], [] => .inr (.inl rfl)
  | [], _ :: _ => .inl rfl
  | _ :: _, [] => .inr (.inr rfl)
  | x :: xs, y :: ys => by
    rw [cmpL]
    split
    · exact .inl rfl
    · split
      · exact .inr (.inr rfl)
      · exact cmpL_range xs ys
theorem cmpL_eq : ∀ xs ys, cmpL xs ys = 0 ↔ xs = ys
  | [], [] => by simp [cmpL]
  | [], _ :: _ => by simp [cmpL]
  | _ :: _, [] => by simp [cmpL]
  | x :: xs, y :: ys => by
    rw [cmpL, List.cons.injEq]
    have h := cmpL_eq xs ys
    by_cases h1 : x.toNat < y.toNat
    · rw [if_pos h1]
      refine ⟨fun h => by omega, fun h => ?_⟩
      rw [h.1] at h1; omega
    · by_cases h2 : y.toNat < x.toNat
      · rw [if_neg h1, if_pos h2]
        refine ⟨fun h => by omega, fun h => ?_⟩
        rw [h.1] at h2; omega
      · rw [if_neg h1, if_neg h2, h]
        have : x = y := UInt8.toNat_inj.1 (by omega)
        simp [this]
theorem cmpL_trans : ∀ xs ys zs, cmpL xs ys ≤ 0 → cmpL ys zs ≤ 0 → cmpL xs zs ≤ 0 ∧ (cmpL xs ys < 0 ∨ cmpL ys zs < 0 → cmpL xs zs < 0)
  | [], [], [] => by simp [cmpL]
  | [], [], _ :: _ => by simp [cmpL]
  | [], _ :: _, [] => by simp [cmpL]
  | [], _ :: _, _ :: _ => by simp [cmpL]
  | _ :: _, [], _ => by simp [cmpL]
  | _ :: _, _ :: _, [] => by simp [cmpL]
  | x :: xs, y :: ys, z :: zs => by
    have h := cmpL_trans xs ys zs
    rw [cmpL, cmpL, cmpL]
    by_cases a1 : x.toNat < y.toNat
    · by_cases b1 : y.toNat < z.toNat
      · simp [a1, b1, show x.toNat < z.toNat by omega]
      · by_cases b2 : z.toNat < y.toNat
        · simp [b1, b2]
        · simp [a1, b1, b2, show x.toNat < z.toNat by omega]
    · by_cases a2 : y.toNat < x.toNat
      · simp [a1, a2]
      · by_cases b1 : y.toNat < z.toNat
        · simp [b1, show x.toNat < z.toNat by omega]
        · by_cases b2 : z.toNat < y.toNat
          · simp [b1, b2]
          · rw [if_neg a1, if_neg a2, if_neg b1, if_neg b2, if_neg (by omega), if_neg (by omega)]
            exact h

theorem less_cmpL : ∀ xs ys, Op.bytesLess xs ys = decide (cmpL xs ys < 0)
  | [], [] => by simp [Op.bytesLess, cmpL]
  | [], _ :: _ => by simp [Op.bytesLess, cmpL]
  | _ :: _, [] => by simp [Op.bytesLess, cmpL]
  | x :: xs, y :: ys => by
    have h := less_cmpL xs ys
    rw [Op.bytesLess, cmpL, h]
    by_cases h1 : x.toNat < y.toNat
    · rw [if_pos h1, decide_eq_true (show x < y from h1)]; simp
    · rw [if_neg h1, decide_eq_false (show ¬ x < y from h1), Bool.false_or]
      by_cases h2 : y.toNat < x.toNat
      · have : (x == y) = false := by
          rw [beq_eq_false_iff_ne]; rintro rfl; omega
        rw [if_pos h2, this]; simp
      · have : x = y := UInt8.toNat_inj.1 (by omega)
        subst this
        rw [if_neg h2]; simp
theorem cmpS_eq (a b : ByteArray) : cmpS a b = cmpL a.toList b.toList := by
  unfold cmpS
  rw [less_cmpL]
  have hr := cmpL_range a.toList b.toList
  have he := cmpL_eq a.toList b.toList
  generalize cmpL a.toList b.toList = c at *
  rcases hr with rfl | rfl | rfl
  · simp
  · have := he.1 rfl
    simp [this]
  · have : ¬ a.toList = b.toList := fun h => by have := he.2 h; omega
    simp [this]

/-- An order's answers. -/
def Good {α : Type} (c : α → α → Int) : Prop :=
  (∀ a b, c b a = -c a b) ∧ ∀ a b d, c a b ≤ 0 → c b d ≤ 0 → c a d ≤ 0 ∧ (c a b < 0 ∨ c b d < 0 → c a d < 0)
theorem Good.lex {α : Type} {c1 c2 : α → α → Int} (h1 : Good c1) (h2 : Good c2) : Good fun a b => if c1 a b = 0 then c2 a b else c1 a b := by
  refine ⟨fun a b => ?_, fun a b d => ?_⟩
  · have e1 := h1.1 a b
    have e2 := h2.1 a b
    simp only
    split <;> split <;> omega
  · have t1 := h1.2 a b d
    have t2 := h2.2 a b d
    have r1 := h1.2 d b a
    have n1 := h1.1 a b
    have n2 := h1.1 b d
    have n3 := h1.1 a d
    have m1 := h2.1 a b
    simp only
    intro p q
    split at p <;> split at q <;> split <;> (constructor <;> (try intro o) <;> (try (split at o)) <;> (try (split at o)) <;> omega)
theorem Good.int {α : Type} (f : α → Int) : Good fun a b => cmpI (f a) (f b) := by
  unfold cmpI
  refine ⟨fun a b => ?_, fun a b d => ?_⟩
  · simp only; split <;> split <;> omega
  · simp only; split <;> split <;> split <;> (try split) <;> (try split) <;> (try split) <;> omega
theorem Good.str {α : Type} (f : α → ByteArray) : Good fun a b => cmpS (f a) (f b) := by
  simp only [cmpS_eq]
  exact ⟨fun a b => cmpL_neg _ _, fun a b d h1 h2 => cmpL_trans _ _ _ h1 h2⟩
theorem opCmp_good : Good opCmp :=
  Good.lex (Good.lex (Good.int OpR.n) (Good.int OpR.r)) (Good.lex (Good.int OpR.node) (Good.lex (Good.int OpR.par) (Good.str OpR.name)))
theorem cmpI_range (a b : Int) : -1 ≤ cmpI a b ∧ cmpI a b ≤ 1 := by unfold cmpI; split <;> (try split) <;> omega
theorem cmpI_zero (a b : Int) : cmpI a b = 0 ↔ a = b := by unfold cmpI; split <;> (try split) <;> omega
theorem cmpS_zero (a b : ByteArray) : cmpS a b = 0 ↔ a = b := by
  rw [cmpS_eq, cmpL_eq, ByteArray.toList_eq, ByteArray.toList_eq]
  constructor
  · intro h
    exact ByteArray.ext (Array.toList_inj.1 h)
  · rintro rfl; rfl
theorem opCmp_range (a b : OpR) : -1 ≤ opCmp a b ∧ opCmp a b ≤ 1 := by
  have h1 := cmpI_range a.n b.n
  have h2 := cmpI_range a.r b.r
  have h3 := cmpI_range a.node b.node
  have h4 := cmpI_range a.par b.par
  have h5 : -1 ≤ cmpS a.name b.name ∧ cmpS a.name b.name ≤ 1 := by
    rw [cmpS_eq]
    rcases cmpL_range a.name.toList b.name.toList with h | h | h <;> rw [h] <;> omega
  unfold opCmp cmpT
  repeat' split
  all_goals assumption
theorem opCmp_zero (a b : OpR) : opCmp a b = 0 ↔ a = b := by
  obtain ⟨n, r, node, par, name⟩ := a
  obtain ⟨n', r', node', par', name'⟩ := b
  have h1 := cmpI_zero n n'
  have h2 := cmpI_zero r r'
  have h3 := cmpI_zero node node'
  have h4 := cmpI_zero par par'
  have h5 := cmpS_zero name name'
  simp only [opCmp, cmpT, OpR.mk.injEq]
  rw [← h1, ← h2, ← h3, ← h4, ← h5]
  generalize cmpI n n' = c1
  generalize cmpI r r' = c2
  generalize cmpI node node' = c3
  generalize cmpI par par' = c4
  generalize cmpS name name' = c5
  by_cases k1 : c1 = 0 <;> by_cases k2 : c2 = 0 <;> by_cases k3 : c3 = 0 <;> by_cases k4 : c4 = 0 <;> simp [k1, k2, k3, k4]
end Go.Proofs.YtkmdmjlepmmejaaGreatDoor
/- Lists that rise by an order whose answers are numbers: sorted, struck of what is there twice, parted at an element. -/
namespace Go.Proofs.YtkmdmjlepmmejaaGreatDoor.Ol

/-- An order of which alone like ones are alike. -/
structure Ord {α : Type} (c : α → α → Int) : Prop where
  good : Good c
  zero : ∀ a b, c a b = 0 ↔ a = b
section
variable {α : Type} {c : α → α → Int}
def Asc (c : α → α → Int) (l : List α) : Prop := l.Pairwise fun a b => c a b < 0
def Weak (c : α → α → Int) (l : List α) : Prop := l.Pairwise fun a b => c a b ≤ 0
def srt (c : α → α → Int) (l : List α) : List α := l.mergeSort fun x y => !(decide (c y x < 0))
theorem Ord.neg (h : Ord c) (a b : α) : c b a = -c a b := h.good.1 a b
theorem Ord.self (h : Ord c) (a : α) : c a a = 0 := (h.zero a a).2 rfl
theorem Ord.lt_trans (h : Ord c) {a b d : α} (h1 : c a b < 0) (h2 : c b d < 0) : c a d < 0 := (h.good.2 a b d (by omega) (by omega)).2 (.inl h1)
theorem Ord.lt_le (h : Ord c) {a b d : α} (h1 : c a b < 0) (h2 : c b d ≤ 0) : c a d < 0 := (h.good.2 a b d (by omega) h2).2 (.inl h1)
theorem Ord.le_lt (h : Ord c) {a b d : α} (h1 : c a b ≤ 0) (h2 : c b d < 0) : c a d < 0 := (h.good.2 a b d h1 (by omega)).2 (.inr h2)
theorem Ord.le_trans (h : Ord c) {a b d : α} (h1 : c a b ≤ 0) (h2 : c b d ≤ 0) : c a d ≤ 0 := (h.good.2 a b d h1 h2).1
theorem srt_perm (l : List α) : (srt c l).Perm l := List.mergeSort_perm _ _
theorem mem_srt {l : List α} {x : α} : x ∈ srt c l ↔ x ∈ l := (srt_perm l).mem_iff
theorem srt_length (l : List α) : (srt c l).length = l.length := (srt_perm l).length_eq
theorem srt_weak (h : Ord c) (l : List α) : Weak c (srt c l) := by
  have := List.pairwise_mergeSort (le := fun x y => !(decide (c y x < 0))) (fun a b d h1 h2 => by
    simp only [Bool.not_eq_true', decide_eq_false_iff_not] at h1 h2 ⊢
    have e1 := h.neg a b
    have e2 := h.neg b d
    have e3 := h.neg a d
    have := h.le_trans (a := a) (b := b) (d := d) (by omega) (by omega)
    omega) (fun a b => by
    simp only [Bool.or_eq_true, Bool.not_eq_true', decide_eq_false_iff_not]
    have e1 := h.neg a b
    omega) l
  exact this.imp fun {a b} hab => by
    simp only [Bool.not_eq_true', decide_eq_false_iff_not] at hab
    have e1 := h.neg a b
    omega
theorem asc_weak {l : List α} (h : Asc c l) : Weak c l := h.imp fun hab => by omega
theorem asc_nodup (h : Ord c) {l : List α} (hl : Asc c l) : l.Nodup := hl.imp fun {a b} hab e => by subst e; have := h.self a; omega
theorem weak_asc (h : Ord c) {l : List α} (hl : Weak c l) (hn : l.Nodup) : Asc c l :=
  (hl.and hn).imp fun {a b} ⟨h1, h2⟩ => by
    have : c a b ≠ 0 := fun e => h2 ((h.zero a b).1 e)
    omega
theorem srt_asc (h : Ord c) {l : List α} (hn : l.Nodup) : Asc c (srt c l) := weak_asc h (srt_weak h l) ((srt_perm l).nodup_iff.2 hn)
/-- A rising list is told by what is in it. -/
theorem asc_ext (h : Ord c) : ∀ {l m : List α}, Asc c l → Asc c m → (∀ x, x ∈ l ↔ x ∈ m) → l = m
  | [], [], _, _, _ => rfl
  | [], b :: m, _, _, e => by have := (e b).2 (List.mem_cons_self ..); simp at this
  | a :: l, [], _, _, e => by have := (e a).1 (List.mem_cons_self ..); simp at this
  | a :: l, b :: m, hl, hm, e => by
    have hl' := List.pairwise_cons.1 hl
    have hm' := List.pairwise_cons.1 hm
    have hab : a = b := by
      rcases List.mem_cons.1 ((e a).1 (List.mem_cons_self ..)) with h1 | h1
      · exact h1
      · rcases List.mem_cons.1 ((e b).2 (List.mem_cons_self ..)) with h2 | h2
        · exact h2.symm
        · have h3 := hm'.1 a h1
          have h4 := hl'.1 b h2
          have := h.neg a b
          omega
    subst hab
    congr 1
    refine asc_ext h hl'.2 hm'.2 fun x => ?_
    constructor
    · intro hx
      rcases List.mem_cons.1 ((e x).1 (List.mem_cons_of_mem _ hx)) with h1 | h1
      · subst h1; have := hl'.1 x hx; have := h.self x; omega
      · exact h1
    · intro hx
      rcases List.mem_cons.1 ((e x).2 (List.mem_cons_of_mem _ hx)) with h1 | h1
      · subst h1; have := hm'.1 x hx; have := h.self x; omega
      · exact h1
/-- Struck of what stands twice side by side. -/
def cpt (c : α → α → Int) : List α → List α
  | [] => []
  | [a] => [a]
  | a :: b :: l => if c a b = 0 then cpt c (b :: l) else a :: cpt c (b :: l)
theorem mem_cpt (h : Ord c) : ∀ {l : List α} {x : α}, x ∈ cpt c l ↔ x ∈ l
  | [], x => by simp [cpt]
  | [a], x => by simp [cpt]
  | a :: b :: l, x => by
    rw [cpt]
    by_cases e : c a b = 0
    · rw [if_pos e, mem_cpt h]
      have := (h.zero a b).1 e
      subst this
      simp
    · rw [if_neg e, List.mem_cons, mem_cpt h, List.mem_cons (a := x) (b := a)]
theorem cpt_asc (h : Ord c) : ∀ {l : List α}, Weak c l → Asc c (cpt c l)
  | [], _ => List.Pairwise.nil
  | [a], _ => List.pairwise_singleton _ _
  | a :: b :: l, hl => by
    have hl' := List.pairwise_cons.1 hl
    rw [cpt]
    by_cases e : c a b = 0
    · rw [if_pos e]; exact cpt_asc h hl'.2
    · rw [if_neg e]
      refine List.pairwise_cons.2 ⟨fun x hx => ?_, cpt_asc h hl'.2⟩
      have hx' := (mem_cpt h).1 hx
      have hab := hl'.1 b (List.mem_cons_self ..)
      rcases List.mem_cons.1 hx' with h1 | h1
      · subst h1; omega
      · have := (List.pairwise_cons.1 hl'.2).1 x h1
        exact h.lt_le (by omega) this
theorem asc_filter {l : List α} (hl : Asc c l) (p : α → Bool) : Asc c (l.filter p) := hl.filter p
/-- What is ahead of an element: as many as are less. -/
theorem asc_take (h : Ord c) : ∀ {l : List α}, Asc c l → ∀ o, l.take (l.countP fun x => decide (c x o < 0)) = l.filter fun x => decide (c x o < 0)
  | [], _, _ => rfl
  | a :: l, hl, o => by
    have hl' := List.pairwise_cons.1 hl
    by_cases e : c a o < 0
    · rw [List.countP_cons_of_pos (by simpa using e), List.filter_cons_of_pos (by simpa using e), List.take_succ_cons, asc_take h hl'.2 o]
    · have none : ∀ x ∈ a :: l, ¬ c x o < 0 := by
        intro x hx
        rcases List.mem_cons.1 hx with h1 | h1
        · subst h1; exact e
        · intro hlt
          exact e (h.lt_trans (hl'.1 x h1) hlt)
      have c0 : (a :: l).countP (fun x => decide (c x o < 0)) = 0 := by
        rw [List.countP_eq_zero]
        intro x hx
        simpa using none x hx
      have f0 : (a :: l).filter (fun x => decide (c x o < 0)) = [] := by
        rw [List.filter_eq_nil_iff]
        intro x hx
        simpa using none x hx
      rw [c0, f0, List.take_zero]
/-- What is there is found at that place. -/
theorem asc_found (h : Ord c) : ∀ {l : List α}, Asc c l → ∀ o, o ∈ l ↔ l[l.countP fun x => decide (c x o < 0)]? = some o
  | [], _, o => by simp
  | a :: l, hl, o => by
    have hl' := List.pairwise_cons.1 hl
    by_cases e : c a o < 0
    · rw [List.countP_cons_of_pos (by simpa using e), List.getElem?_cons_succ, ← asc_found h hl'.2 o, List.mem_cons]
      constructor
      · rintro (rfl | h1)
        · have := h.self o; omega
        · exact h1
      · exact .inr
    · have none : ∀ x ∈ a :: l, ¬ c x o < 0 := by
        intro x hx
        rcases List.mem_cons.1 hx with h1 | h1
        · subst h1; exact e
        · intro hlt
          exact e (h.lt_trans (hl'.1 x h1) hlt)
      have c0 : (a :: l).countP (fun x => decide (c x o < 0)) = 0 := by
        rw [List.countP_eq_zero]
        intro x hx
        simpa using none x hx
      rw [c0, List.getElem?_cons_zero]
      constructor
      · intro hm
        rcases List.mem_cons.1 hm with h1 | h1
        · rw [h1]
        · exact absurd (hl'.1 o h1) e
      · intro h1
        injection h1 with h1
        subst h1
        exact List.mem_cons_self ..
theorem asc_mono (h : Ord c) {l : List α} (hl : Asc c l) (o : α) {i j : Nat} (hij : i ≤ j) (hj : j < l.length) (hlt : c l[j] o < 0) : c l[i] o < 0 := by
  rcases Nat.lt_or_eq_of_le hij with h1 | h1
  · exact h.lt_trans (List.pairwise_iff_getElem.1 hl i j (by omega) hj h1) hlt
  · subst h1; exact hlt
end
end Go.Proofs.YtkmdmjlepmmejaaGreatDoor.Ol
