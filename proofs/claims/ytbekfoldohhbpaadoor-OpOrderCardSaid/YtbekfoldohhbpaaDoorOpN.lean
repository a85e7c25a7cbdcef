/-
  How operations stand to each other: plain lemmas.
-/
import Derived.Test.YtbekfoldohhbpaaDoorOpC
namespace Go.Proofs.YtbekfoldohhbpaaDoor
open Go.RowKit

/-- How two lists of bytes stand. -/
def cmpL : List UInt8 → List UInt8 → Int
  | [], [] => 0
  | [], _ :: _ => -1
  | _ :: _, [] => 1
  | x :: xs, y :: ys => if x.toNat < y.toNat then -1 else if y.toNat < x.toNat then 1 else cmpL xs ys
theorem cmpL_neg : ∀ xs ys, cmpL ys xs = -cmpL xs ys
  | [], [] => rfl
  | [], _ :: _ => rfl
  | _ :: _, [] => rfl
  | x :: xs, y :: ys => by
    rw [cmpL, cmpL, cmpL_neg xs ys]
    split <;> split <;> first | omega | rfl
theorem cmpL_range : ∀ xs ys, cmpL xs ys = -1 ∨ cmpL xs ys = 0 ∨ cmpL xs ys = 1
  | [], [] => .inr (.inl rfl)
  | [], _ :: _ => .inl rfl
  | _ :: _, [] => .inr (.inr rfl)
  | x :: xs, y :: ys => by
    rw [cmpL]
    split
    · exact .inl rfl
    · split
      · exact .inr (.inr rfl)
      · exact cmpL_range xs ys
theorem cmpL_eq : ∀ xs ys, cmpL xs ys = 0 ↔ xs = ys
  | [], [] => by simp [cmpL]
  | [], _ :: _ => by simp [cmpL]
  | _ :: _, [] => by simp [cmpL]
  | x :: xs, y :: ys => by
    rw [cmpL, List.cons.injEq]
    have h := cmpL_eq xs ys
    by_cases h1 : x.toNat < y.toNat
    · rw [if_pos h1]
      refine ⟨fun h => by omega, fun h => ?_⟩
      rw [h.1] at h1; omega
    · by_cases h2 : y.toNat < x.toNat
      · rw [if_neg h1, if_pos h2]
        refine ⟨fun h => by omega, fun h => ?_⟩
        rw [h.1] at h2; omega
      · rw [if_neg h1, if_neg h2, h]
        have : x = y := UInt8.toNat_inj.1 (by omega)
        simp [this]
theorem cmpL_trans : ∀ xs ys zs, cmpL xs ys ≤ 0 → cmpL ys zs ≤ 0 → cmpL xs zs ≤ 0 ∧ (cmpL xs ys < 0 ∨ cmpL ys zs < 0 → cmpL xs zs < 0)
  | [], [], [] => by simp [cmpL]
  | [], [], _ :: _ => by simp [cmpL]
  | [], _ :: _, [] => by simp [cmpL]
  | [], _ :: _, _ :: _ => by simp [cmpL]
  | _ :: _, [], _ => by simp [cmpL]
  | _ :: _, _ :: _, [] => by simp [cmpL]
  | x :: xs, y :: ys, z :: zs => by
    have h := cmpL_trans xs ys zs
    rw [cmpL, cmpL, cmpL]
    by_cases a1 : x.toNat < y.toNat
    · by_cases b1 : y.toNat < z.toNat
      · simp [a1, b1, show x.toNat < z.toNat by omega]
      · by_cases b2 : z.toNat < y.toNat
        · simp [b1, b2]
        · simp [a1, b1, b2, show x.toNat < z.toNat by omega]
    · by_cases a2 : y.toNat < x.toNat
      · simp [a1, a2]
      · by_cases b1 : y.toNat < z.toNat
        · simp [b1, show x.toNat < z.toNat by omega]
        · by_cases b2 : z.toNat < y.toNat
          · simp [b1, b2]
          · rw [if_neg a1, if_neg a2, if_neg b1, if_neg b2, if_neg (by omega), if_neg (by omega)]
            exact h

theorem less_cmpL : ∀ xs ys, Op.bytesLess xs ys = decide (cmpL xs ys < 0)
  | [], [] => by simp [Op.bytesLess, cmpL]
  | [], _ :: _ => by simp [Op.bytesLess, cmpL]
  | _ :: _, [] => by simp [Op.bytesLess, cmpL]
  | x :: xs, y :: ys => by
    have h := less_cmpL xs ys
    rw [Op.bytesLess, cmpL, h]
    by_cases h1 : x.toNat < y.toNat
    · rw [if_pos h1, decide_eq_true (show x < y from h1)]; simp
    · rw [if_neg h1, decide_eq_false (show ¬ x < y from h1), Bool.false_or]
      by_cases h2 : y.toNat < x.toNat
      · have : (x == y) = false := by
          rw [beq_eq_false_iff_ne]; rintro rfl; omega
        rw [if_pos h2, this]; simp
      · have : x = y := UInt8.toNat_inj.1 (by omega)
        subst this
        rw [if_neg h2]; simp
theorem cmpS_eq (a b : ByteArray) : cmpS a b = cmpL a.toList b.toList := by
  unfold cmpS
  rw [less_cmpL]
  have hr := cmpL_range a.toList b.toList
  have he := cmpL_eq a.toList b.toList
  generalize cmpL a.toList b.toList = c at *
  rcases hr with rfl | rfl | rfl
  · simp
  · have := he.1 rfl
    simp [this]
  · have : ¬ a.toList = b.toList := fun h => by have := he.2 h; omega
    simp [this]

/-- An order's answers. -/
def Good {α : Type} (c : α → α → Int) : Prop :=
  (∀ a b, c b a = -c a b) ∧ ∀ a b d, c a b ≤ 0 → c b d ≤ 0 → c a d ≤ 0 ∧ (c a b < 0 ∨ c b d < 0 → c a d < 0)
theorem Good.lex {α : Type} {c1 c2 : α → α → Int} (h1 : Good c1) (h2 : Good c2) : Good fun a b => if c1 a b = 0 then c2 a b else c1 a b := by
  refine ⟨fun a b => ?_, fun a b d => ?_⟩
  · have e1 := h1.1 a b
    have e2 := h2.1 a b
    simp only
    split <;> split <;> omega
  · have t1 := h1.2 a b d
    have t2 := h2.2 a b d
    have r1 := h1.2 d b a
    have n1 := h1.1 a b
    have n2 := h1.1 b d
    have n3 := h1.1 a d
    have m1 := h2.1 a b
    simp only
    intro p q
    split at p <;> split at q <;> split <;> (constructor <;> (try intro o) <;> (try (split at o)) <;> (try (split at o)) <;> omega)
theorem Good.int {α : Type} (f : α → Int) : Good fun a b => cmpI (f a) (f b) := by
  unfold cmpI
  refine ⟨fun a b => ?_, fun a b d => ?_⟩
  · simp only; split <;> split <;> omega
  · simp only; split <;> split <;> split <;> (try split) <;> (try split) <;> (try split) <;> omega
theorem Good.str {α : Type} (f : α → ByteArray) : Good fun a b => cmpS (f a) (f b) := by
  simp only [cmpS_eq]
  exact ⟨fun a b => cmpL_neg _ _, fun a b d h1 h2 => cmpL_trans _ _ _ h1 h2⟩
theorem opCmp_good : Good opCmp :=
  Good.lex (Good.lex (Good.int OpR.n) (Good.int OpR.r)) (Good.lex (Good.int OpR.node) (Good.lex (Good.int OpR.par) (Good.str OpR.name)))
theorem cmpI_range (a b : Int) : -1 ≤ cmpI a b ∧ cmpI a b ≤ 1 := by unfold cmpI; split <;> (try split) <;> omega
theorem cmpI_zero (a b : Int) : cmpI a b = 0 ↔ a = b := by unfold cmpI; split <;> (try split) <;> omega
theorem cmpS_zero (a b : ByteArray) : cmpS a b = 0 ↔ a = b := by
  rw [cmpS_eq, cmpL_eq, ByteArray.toList_eq, ByteArray.toList_eq]
  constructor
  · intro h
    exact ByteArray.ext (Array.toList_inj.1 h)
  · rintro rfl; rfl
theorem opCmp_range (a b : OpR) : -1 ≤ opCmp a b ∧ opCmp a b ≤ 1 := by
  have h1 := cmpI_range a.n b.n
  have h2 := cmpI_range a.r b.r
  have h3 := cmpI_range a.node b.node
  have h4 := cmpI_range a.par b.par
  have h5 : -1 ≤ cmpS a.name b.name ∧ cmpS a.name b.name ≤ 1 := by
    rw [cmpS_eq]
    rcases cmpL_range a.name.toList b.name.toList with h | h | h <;> rw [h] <;> omega
  unfold opCmp cmpT
  repeat' split
  all_goals assumption
theorem opCmp_zero (a b : OpR) : opCmp a b = 0 ↔ a = b := by
  obtain ⟨n, r, node, par, name⟩ := a
  obtain ⟨n', r', node', par', name'⟩ := b
  have h1 := cmpI_zero n n'
  have h2 := cmpI_zero r r'
  have h3 := cmpI_zero node node'
  have h4 := cmpI_zero par par'
  have h5 := cmpS_zero name name'
  simp only [opCmp, cmpT, OpR.mk.injEq]
  rw [← h1, ← h2, ← h3, ← h4, ← h5]
  generalize cmpI n n' = c1
  generalize cmpI r r' = c2
  generalize cmpI node node' = c3
  generalize cmpI par par' = c4
  generalize cmpS name name' = c5
  by_cases k1 : c1 = 0 <;> by_cases k2 : c2 = 0 <;> by_cases k3 : c3 = 0 <;> by_cases k4 : c4 = 0 <;> simp [k1, k2, k3, k4]
end Go.Proofs.YtbekfoldohhbpaaDoor
