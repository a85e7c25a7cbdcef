/-
  Well-formed texts: the decoder's steps, and the reference's bytes, are one. Plain lemmas on lists of bytes.
-/
import Derived.Lib.ValidLaws
import Derived.Lib.TrimUEq
import Derived.Laws.RangeAny
namespace Go.Proofs.YtmdfgjjbllbjmaaDoor
open Go.Lib

/-- The reference's step: how many bytes there are, if these are well-formed. -/
def stepN (len b0 b1 b2 b3 : Nat) : Option Nat :=
  if b0 < 128 then some 1
  else if 194 ≤ b0 ∧ b0 ≤ 223 then (if 1 < len ∧ 128 ≤ b1 ∧ b1 ≤ 191 then some 2 else none)
  else if b0 = 224 then (if 2 < len ∧ 160 ≤ b1 ∧ b1 ≤ 191 ∧ 128 ≤ b2 ∧ b2 ≤ 191 then some 3 else none)
  else if b0 = 237 then (if 2 < len ∧ 128 ≤ b1 ∧ b1 ≤ 159 ∧ 128 ≤ b2 ∧ b2 ≤ 191 then some 3 else none)
  else if 225 ≤ b0 ∧ b0 ≤ 239 then (if 2 < len ∧ 128 ≤ b1 ∧ b1 ≤ 191 ∧ 128 ≤ b2 ∧ b2 ≤ 191 then some 3 else none)
  else if b0 = 240 then (if 3 < len ∧ 144 ≤ b1 ∧ b1 ≤ 191 ∧ 128 ≤ b2 ∧ b2 ≤ 191 ∧ 128 ≤ b3 ∧ b3 ≤ 191 then some 4 else none)
  else if 241 ≤ b0 ∧ b0 ≤ 243 then (if 3 < len ∧ 128 ≤ b1 ∧ b1 ≤ 191 ∧ 128 ≤ b2 ∧ b2 ≤ 191 ∧ 128 ≤ b3 ∧ b3 ≤ 191 then some 4 else none)
  else if b0 = 244 then (if 3 < len ∧ 128 ≤ b1 ∧ b1 ≤ 143 ∧ 128 ≤ b2 ∧ b2 ≤ 191 ∧ 128 ≤ b3 ∧ b3 ≤ 191 then some 4 else none)
  else none

set_option maxHeartbeats 2000000 in
theorem step_one (len b0 b1 b2 b3 : Nat) (h0 : b0 < 256) (h1 : b1 < 256) (h2 : b2 < 256) (h3 : b3 < 256) :
    (stepN len b0 b1 b2 b3 = some 1 ∧ decodeN len b0 b1 b2 b3 = (b0, 1) ∧ b0 < 128) ∨
    (∃ r, stepN len b0 b1 b2 b3 = some 2 ∧ decodeN len b0 b1 b2 b3 = (r, 2) ∧ 128 ≤ r ∧ 128 ≤ b0 ∧ 128 ≤ b1 ∧ 1 < len) ∨
    (∃ r, stepN len b0 b1 b2 b3 = some 3 ∧ decodeN len b0 b1 b2 b3 = (r, 3) ∧ 128 ≤ r ∧ 128 ≤ b0 ∧ 128 ≤ b1 ∧ 128 ≤ b2 ∧ 2 < len) ∨
    (∃ r, stepN len b0 b1 b2 b3 = some 4 ∧ decodeN len b0 b1 b2 b3 = (r, 4) ∧ 128 ≤ r ∧ 128 ≤ b0 ∧ 128 ≤ b1 ∧ 128 ≤ b2 ∧ 128 ≤ b3 ∧ 3 < len) ∨
    (stepN len b0 b1 b2 b3 = none ∧ decodeN len b0 b1 b2 b3 = (65533, 1) ∧ 128 ≤ b0) := by
  by_cases c0 : b0 < 128
  · exact .inl ⟨by rw [stepN, if_pos c0], by rw [decodeN, if_pos c0], c0⟩
  · refine .inr ?_
    by_cases c2 : b0 / 32 = 6 ∧ (1 < len ∧ b1 / 64 = 2)
    · by_cases d2 : b0 % 32 * 64 + b1 % 64 ≥ 128
      · refine .inl ⟨_, ?_, by rw [decodeN, if_neg c0, if_pos c2, if_pos d2], d2, by omega, by omega, by omega⟩
        rw [stepN, if_neg c0, if_pos (by omega), if_pos (by omega)]
      · refine .inr (.inr (.inr ⟨?_, by rw [decodeN, if_neg c0, if_pos c2, if_neg d2], by omega⟩))
        rw [stepN, if_neg c0, if_neg (by omega), if_neg (by omega), if_neg (by omega), if_neg (by omega), if_neg (by omega), if_neg (by omega), if_neg (by omega)]
    · by_cases c3 : b0 / 16 = 14 ∧ (1 < len ∧ b1 / 64 = 2) ∧ (2 < len ∧ b2 / 64 = 2)
      · by_cases d3 : b0 % 16 * 4096 + b1 % 64 * 64 + b2 % 64 ≥ 2048 ∧ (b0 % 16 * 4096 + b1 % 64 * 64 + b2 % 64 < 55296 ∨ (57344 ≤ b0 % 16 * 4096 + b1 % 64 * 64 + b2 % 64 ∧ b0 % 16 * 4096 + b1 % 64 * 64 + b2 % 64 ≤ 1114111))
        · refine .inr (.inl ⟨_, ?_, by rw [decodeN, if_neg c0, if_neg c2, if_pos c3, if_pos d3], by omega, by omega, by omega, by omega, by omega⟩)
          rw [stepN, if_neg c0, if_neg (by omega)]
          by_cases e1 : b0 = 224
          · rw [if_pos e1, if_pos (by omega)]
          · rw [if_neg e1]
            by_cases e2 : b0 = 237
            · rw [if_pos e2, if_pos (by omega)]
            · rw [if_neg e2, if_pos (by omega), if_pos (by omega)]
        · refine .inr (.inr (.inr ⟨?_, by rw [decodeN, if_neg c0, if_neg c2, if_pos c3, if_neg d3], by omega⟩))
          rw [stepN, if_neg c0, if_neg (by omega)]
          by_cases e1 : b0 = 224
          · rw [if_pos e1, if_neg (by omega)]
          · rw [if_neg e1]
            by_cases e2 : b0 = 237
            · rw [if_pos e2, if_neg (by omega)]
            · omega
      · by_cases c4 : b0 / 8 = 30 ∧ (1 < len ∧ b1 / 64 = 2) ∧ (2 < len ∧ b2 / 64 = 2) ∧ (3 < len ∧ b3 / 64 = 2)
        · by_cases d4 : b0 % 8 * 262144 + b1 % 64 * 4096 + b2 % 64 * 64 + b3 % 64 ≥ 65536 ∧ (b0 % 8 * 262144 + b1 % 64 * 4096 + b2 % 64 * 64 + b3 % 64 < 55296 ∨ (57344 ≤ b0 % 8 * 262144 + b1 % 64 * 4096 + b2 % 64 * 64 + b3 % 64 ∧ b0 % 8 * 262144 + b1 % 64 * 4096 + b2 % 64 * 64 + b3 % 64 ≤ 1114111))
          · refine .inr (.inr (.inl ⟨_, ?_, by rw [decodeN, if_neg c0, if_neg c2, if_neg c3, if_pos c4, if_pos d4], by omega, by omega, by omega, by omega, by omega, by omega⟩))
            rw [stepN, if_neg c0, if_neg (by omega), if_neg (by omega), if_neg (by omega), if_neg (by omega)]
            by_cases e1 : b0 = 240
            · rw [if_pos e1, if_pos (by omega)]
            · rw [if_neg e1]
              by_cases e2 : 241 ≤ b0 ∧ b0 ≤ 243
              · rw [if_pos e2, if_pos (by omega)]
              · rw [if_neg e2, if_pos (by omega), if_pos (by omega)]
          · refine .inr (.inr (.inr ⟨?_, by rw [decodeN, if_neg c0, if_neg c2, if_neg c3, if_pos c4, if_neg d4], by omega⟩))
            rw [stepN, if_neg c0, if_neg (by omega), if_neg (by omega), if_neg (by omega), if_neg (by omega)]
            by_cases e1 : b0 = 240
            · rw [if_pos e1, if_neg (by omega)]
            · rw [if_neg e1]
              by_cases e2 : 241 ≤ b0 ∧ b0 ≤ 243
              · omega
              · rw [if_neg e2]
                by_cases e3 : b0 = 244
                · rw [if_pos e3, if_neg (by omega)]
                · rw [if_neg e3]
        · refine .inr (.inr (.inr ⟨?_, by rw [decodeN, if_neg c0, if_neg c2, if_neg c3, if_neg c4], by omega⟩))
          rw [stepN, if_neg c0]
          by_cases e0 : 194 ≤ b0 ∧ b0 ≤ 223
          · rw [if_pos e0, if_neg (by omega)]
          · rw [if_neg e0]
            by_cases e1 : b0 = 224
            · rw [if_pos e1, if_neg (by omega)]
            · rw [if_neg e1]
              by_cases e2 : b0 = 237
              · rw [if_pos e2, if_neg (by omega)]
              · rw [if_neg e2]
                by_cases e3 : 225 ≤ b0 ∧ b0 ≤ 239
                · rw [if_pos e3, if_neg (by omega)]
                · rw [if_neg e3]
                  by_cases e4 : b0 = 240
                  · rw [if_pos e4, if_neg (by omega)]
                  · rw [if_neg e4]
                    by_cases e5 : 241 ≤ b0 ∧ b0 ≤ 243
                    · rw [if_pos e5, if_neg (by omega)]
                    · rw [if_neg e5]
                      by_cases e6 : b0 = 244
                      · rw [if_pos e6, if_neg (by omega)]
                      · rw [if_neg e6]

def bN (l : List UInt8) (k : Nat) : Nat := (l.getD k 0).toNat
def stepL (l : List UInt8) : Option Nat := stepN l.length (bN l 0) (bN l 1) (bN l 2) (bN l 3)
/-- Well-formed, step by step. -/
def formedL : Nat → List UInt8 → Bool
  | 0, _ => true
  | n + 1, l => if l = [] then true else match stepL l with
    | some k => formedL n (l.drop k)
    | none => false
/-- A byte that may be in a name, by itself. -/
def okB (c : UInt8) : Bool := decide (32 ≤ c.toNat) && (c.toNat != 47 && c.toNat != 127)
/-- A rune that may be in a name. -/
def signR (r : Nat) : Bool := decide (32 ≤ r) && (r != 127 && r != 47)
def runesOk : Nat → List UInt8 → Bool
  | 0, _ => true
  | n + 1, l => if l = [] then true else signR (decodeL l).1 && runesOk n (l.drop (decodeL l).2)
theorem bN_lt (l : List UInt8) (k : Nat) : bN l k < 256 := (l.getD k 0).toNat_lt
theorem okB_high (c : UInt8) (h : 128 ≤ c.toNat) : okB c = true := by
  simp only [okB, Bool.and_eq_true, decide_eq_true_eq, bne_iff_ne]; omega
theorem signR_high (r : Nat) (h : 128 ≤ r) : signR r = true := by
  simp only [signR, Bool.and_eq_true, decide_eq_true_eq, bne_iff_ne]; omega
theorem signR_okB (c : UInt8) : signR c.toNat = okB c := by
  unfold signR okB
  rw [Bool.and_comm (c.toNat != 127)]
theorem stepL_le (l : List UInt8) (hne : l ≠ []) (k : Nat) (h : stepL l = some k) : 1 ≤ k ∧ k ≤ l.length := by
  have hl : 0 < l.length := List.length_pos_iff.2 hne
  rcases step_one l.length (bN l 0) (bN l 1) (bN l 2) (bN l 3) (bN_lt _ _) (bN_lt _ _) (bN_lt _ _) (bN_lt _ _) with ⟨h1, _⟩ | ⟨r, h1, _, _, _, _, h2⟩ | ⟨r, h1, _, _, _, _, _, h2⟩ | ⟨r, h1, _, _, _, _, _, _, h2⟩ | ⟨h1, _⟩
  all_goals
    unfold stepL at h
    rw [h1] at h
    first | (cases h; done) | (injection h with h; omega)
theorem validGo_formed (n : Nat) : ∀ l : List UInt8, validGoD n l = formedL n l := by
  induction n with
  | zero => intro l; rfl
  | succ n ih =>
    intro l
    rw [validGoD, formedL]
    by_cases hl : l = []
    · rw [if_pos hl, if_pos hl]
    · rw [if_neg hl, if_neg hl]
      rw [decodeL_N]
      have hs := step_one l.length (bN l 0) (bN l 1) (bN l 2) (bN l 3) (bN_lt _ _) (bN_lt _ _) (bN_lt _ _) (bN_lt _ _)
      have e : stepL l = stepN l.length (bN l 0) (bN l 1) (bN l 2) (bN l 3) := rfl
      rw [e]
      change (if (decodeN l.length (bN l 0) (bN l 1) (bN l 2) (bN l 3)).1 = 65533 ∧ (decodeN l.length (bN l 0) (bN l 1) (bN l 2) (bN l 3)).2 = 1 then false else validGoD n (l.drop (decodeN l.length (bN l 0) (bN l 1) (bN l 2) (bN l 3)).2)) = _
      rcases hs with ⟨h1, h2, h3⟩ | ⟨r, h1, h2, _⟩ | ⟨r, h1, h2, _⟩ | ⟨r, h1, h2, _⟩ | ⟨h1, h2, _⟩
      · rw [h1, h2, if_neg (by simp; omega)]; exact ih _
      · rw [h1, h2, if_neg (by simp)]; exact ih _
      · rw [h1, h2, if_neg (by simp)]; exact ih _
      · rw [h1, h2, if_neg (by simp)]; exact ih _
      · rw [h1, h2, if_pos (by simp)]
theorem all_take_drop (p : UInt8 → Bool) (l : List UInt8) (k : Nat) (h : (l.take k).all p = true) : l.all p = (l.drop k).all p := by
  have e : l.all p = (l.take k ++ l.drop k).all p := by rw [List.take_append_drop]
  rw [e, List.all_append, h, Bool.true_and]
theorem take_high (l : List UInt8) (k : Nat) (h : ∀ j, j < k → 128 ≤ bN l j) (hk : k ≤ l.length) : (l.take k).all okB = true := by
  rw [List.all_eq_true]
  intro c hc
  obtain ⟨j, hj, rfl⟩ := List.mem_iff_getElem.1 hc
  have hj' : j < k := by rw [List.length_take] at hj; omega
  have := h j hj'
  unfold bN at this
  rw [List.getD_eq_getElem?_getD, List.getElem?_eq_getElem (by omega)] at this
  rw [List.getElem_take]
  exact okB_high _ this
/-- In what is well-formed runes are right just where bytes are. -/
theorem runes_bytes (n : Nat) : ∀ l : List UInt8, l.length ≤ n → formedL n l = true → runesOk n l = l.all okB := by
  induction n with
  | zero => intro l hl _; obtain rfl : l = [] := List.eq_nil_of_length_eq_zero (by omega); rfl
  | succ n ih =>
    intro l hl hf
    rw [formedL] at hf
    rw [runesOk]
    by_cases hne : l = []
    · rw [if_pos hne, hne]; rfl
    · rw [if_neg hne] at hf
      rw [if_neg hne, decodeL_N]
      have hs := step_one l.length (bN l 0) (bN l 1) (bN l 2) (bN l 3) (bN_lt _ _) (bN_lt _ _) (bN_lt _ _) (bN_lt _ _)
      have e : stepL l = stepN l.length (bN l 0) (bN l 1) (bN l 2) (bN l 3) := rfl
      rw [e] at hf
      change (signR (decodeN l.length (bN l 0) (bN l 1) (bN l 2) (bN l 3)).1 && runesOk n (l.drop (decodeN l.length (bN l 0) (bN l 1) (bN l 2) (bN l 3)).2)) = _
      have hlen : 0 < l.length := List.length_pos_iff.2 hne
      rcases hs with ⟨h1, h2, h3⟩ | ⟨r, h1, h2, h3, h4, h5, h6⟩ | ⟨r, h1, h2, h3, h4, h5, h6, h7⟩ | ⟨r, h1, h2, h3, h4, h5, h6, h7, h8⟩ | ⟨h1, h2, _⟩
      · rw [h1] at hf
        rw [h2]
        cases l with
        | nil => exact absurd rfl hne
        | cons c l =>
          simp only [List.drop_succ_cons, List.drop_zero] at hf ⊢
          rw [ih l (by simp at hl; omega) hf, List.all_cons]
          congr 1
          exact signR_okB c
      · rw [h1] at hf
        rw [h2, signR_high r h3, Bool.true_and, all_take_drop okB l 2 (take_high l 2 (fun j hj => by match j, hj with | 0, _ => exact h4 | 1, _ => exact h5) (by omega))]
        exact ih _ (by rw [List.length_drop]; omega) hf
      · rw [h1] at hf
        rw [h2, signR_high r h3, Bool.true_and, all_take_drop okB l 3 (take_high l 3 (fun j hj => by match j, hj with | 0, _ => exact h4 | 1, _ => exact h5 | 2, _ => exact h6) (by omega))]
        exact ih _ (by rw [List.length_drop]; omega) hf
      · rw [h1] at hf
        rw [h2, signR_high r h3, Bool.true_and, all_take_drop okB l 4 (take_high l 4 (fun j hj => by match j, hj with | 0, _ => exact h4 | 1, _ => exact h5 | 2, _ => exact h6 | 3, _ => exact h7) (by omega))]
        exact ih _ (by rw [List.length_drop]; omega) hf
      · rw [h1] at hf; cases hf
/-- A name, by its bytes. -/
def nameB (l : List UInt8) : Bool := (decide (1 ≤ l.length) && decide (l.length ≤ 20)) && (l.all okB && formedL l.length l)
theorem nameB_runes (l : List UInt8) : nameB l = (runesOk l.length l && ((decide (1 ≤ l.length) && decide (l.length ≤ 20)) && validD l)) := by
  unfold nameB validD
  rw [validGo_formed]
  cases hf : formedL l.length l with
  | false => simp
  | true => rw [runes_bytes l.length l (Nat.le_refl _) hf, Bool.and_true, Bool.and_true, Bool.and_comm]
end Go.Proofs.YtmdfgjjbllbjmaaDoor
