/-
  The small operations: holtref05.Of.
-/
import Derived.Test.YtbekfoldohhbpaaDoorOpA
import Derived.Test.YtbekfoldohhbpaaDoorPOpCutsx2
namespace Go.Proofs.YtbekfoldohhbpaaDoor
open Go.RowKit Go.Proofs.YtbekfoldohhbpaaDoorW.PrintWords

def shortN (n : Int) : ByteArray := (⟨#[97, 98, 99, 100, 101, 102, 103, 104]⟩ : ByteArray).extract (n % 8).toNat (n % 8 + 1).toNat
def ofOp (n r node to' name : Int) : OpR := ⟨1 + n % 40, r % 4, 256 + node % 8, if 2 ≤ to' % 10 then 254 + to' % 10 else to' % 10, shortN name⟩
theorem of_f (n r node to' name : Int) (h0 : 0 ≤ n ∧ n < 256) (h1 : 0 ≤ r ∧ r < 256) (h2 : 0 ≤ node ∧ node < 256) (h3 : 0 ≤ to' ∧ to' < 256) (h4 : 0 ≤ name ∧ name < 256) :
    POpCuts.holtref05_Of.f n r node to' name = some ((ofOp n r node to' name).n, (ofOp n r node to' name).r, (ofOp n r node to' name).node, (ofOp n r node to' name).par, (ofOp n r node to' name).name) := by
  have e0 : wrap64 (Int.tmod n 40) = n % 40 := by rw [Int.tmod_eq_emod_of_nonneg h0.1]; unfold wrap64; omega
  have e1 : wrap64 (Int.tmod r 4) = r % 4 := by rw [Int.tmod_eq_emod_of_nonneg h1.1]; unfold wrap64; omega
  have e2 : wrap64 (Int.tmod node 8) = node % 8 := by rw [Int.tmod_eq_emod_of_nonneg h2.1]; unfold wrap64; omega
  have e3 : wrap64 (Int.tmod to' 10) = to' % 10 := by rw [Int.tmod_eq_emod_of_nonneg h3.1]; unfold wrap64; omega
  have e4 : wrap64 (Int.tmod name 8) = name % 8 := by rw [Int.tmod_eq_emod_of_nonneg h4.1]; unfold wrap64; omega
  have w0 : wrap64 (1 + n % 40) = 1 + n % 40 := by unfold wrap64; omega
  have w2 : wrap64 (256 + node % 8) = 256 + node % 8 := by unfold wrap64; omega
  have w3 : wrap64 (254 + to' % 10) = 254 + to' % 10 := by unfold wrap64; omega
  have w4 : wrap64 (name % 8 + 1) = name % 8 + 1 := by unfold wrap64; omega
  have hs : POpCuts.holtref03_Short.f name = some (shortN name) := by
    unfold POpCuts.holtref03_Short.f shortN
    rw [e4, w4, if_pos (by omega), if_pos (by omega), if_pos (by omega)]
  unfold POpCuts.holtref05_Of.f POpCuts.holtref04_Small.f
  rw [hs, e0, e1, e2, e3, w0, w2, w3]
  unfold ofOp
  by_cases h : 2 ≤ to' % 10
  · rw [if_pos h]; simp [h]
  · rw [if_neg (show ¬ to' % 10 ≥ 2 from h)]; simp [h]
theorem nameB_short (n : Int) : nameB (shortN n).data.toList = true := by
  have h : n % 8 = 0 ∨ n % 8 = 1 ∨ n % 8 = 2 ∨ n % 8 = 3 ∨ n % 8 = 4 ∨ n % 8 = 5 ∨ n % 8 = 6 ∨ n % 8 = 7 := by omega
  unfold shortN
  rcases h with h | h | h | h | h | h | h | h <;> rw [h] <;> decide +kernel
theorem of_right (n r node to' name : Int) : opRight (ofOp n r node to' name) = true := by
  unfold opRight ofOp
  simp only [nameB_short, Bool.and_true, Bool.and_eq_true]
  refine ⟨?_, ?_, ?_⟩
  · unfold stampR; simp only [Bool.and_eq_true, decide_eq_true_eq]; omega
  · unfold nodeR; simp only [Bool.and_eq_true, decide_eq_true_eq]; omega
  · unfold toR nodeR
    simp only [Bool.or_eq_true, Bool.and_eq_true, decide_eq_true_eq, beq_iff_eq]
    split <;> omega
theorem of_calls (n r node to' name : Int) (w : World) (h0 : 0 ≤ n ∧ n < 256) (h1 : 0 ≤ r ∧ r < 256) (h2 : 0 ≤ node ∧ node < 256) (h3 : 0 ≤ to' ∧ to' < 256) (h4 : 0 ≤ name ∧ name < 256) :
    Calls Tryd.prog 19 #[.agg #[.int .u8 n, .int .u8 r, .int .u8 node, .int .u8 to', .int .u8 name]] w fun e w' => e = .returned (opV (ofOp n r node to' name)) ∧ Below w.heap.size w w' :=
  POpCuts.holtref05_Of.calls n r node to' name _ _ _ _ _ w (of_f n r node to' name h0 h1 h2 h3 h4)
end Go.Proofs.YtbekfoldohhbpaaDoor
