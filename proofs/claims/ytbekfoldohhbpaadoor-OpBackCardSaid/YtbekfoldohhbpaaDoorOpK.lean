/-
  An operation as an argument.
-/
import Derived.Test.YtbekfoldohhbpaaDoorOpA
import Derived.Test.YtbekfoldohhbpaaDoorOpen
namespace Go.Proofs.YtbekfoldohhbpaaDoor
open Go.RowKit Go.Proofs.YtbekfoldohhbpaaDoorW.Open Go.Proofs.YtbekfoldohhbpaaDoorW.PrintWords

abbrev OpT := (Int × Int) × (Int × (Int × ByteArray))
def opOf (x : OpT) : OpR := ⟨x.1.1, x.1.2, x.2.1, x.2.2.1, x.2.2.2⟩
def opCs (o : OpR) : Array Value := #[.int .i64 o.n, .int .i64 o.r, .int .i64 o.node, .int .i64 o.par, .string o.name]
abbrev opKd : Kd OpT := Kd.pair (Kd.pair (Kd.int .i64) (Kd.int .i64)) (Kd.pair (Kd.int .i64) (Kd.pair (Kd.int .i64) Kd.string))
abbrev opOk (x : OpT) : Prop := ((Lit.int .i64 x.1.1).wf = true ∧ (Lit.int .i64 x.1.2).wf = true) ∧ (Lit.int .i64 x.2.1).wf = true ∧ (Lit.int .i64 x.2.2.1).wf = true ∧ x.2.2.2.size ≤ maxLen
theorem stOpens : Opens Tryd.prog 23 (Kd.pair (Kd.int .i64) (Kd.int .i64)) (fun x => (Lit.int .i64 x.1).wf = true ∧ (Lit.int .i64 x.2).wf = true) :=
  Opens.struct Tryd.underlying23 (by kernel_rfl) (OpensF.cons (Opens.int Tryd.underlying3 (by kernel_rfl)) (OpensF.one (Opens.int Tryd.underlying3 (by kernel_rfl))) rfl)
theorem opOpens : Opens Tryd.prog 25 opKd opOk :=
  Opens.struct Tryd.underlying25 (by kernel_rfl)
    (OpensF.cons (ok := fun x : Int × Int => (Lit.int .i64 x.1).wf = true ∧ (Lit.int .i64 x.2).wf = true) stOpens
      (OpensF.cons (Opens.int Tryd.underlying3 (by kernel_rfl)) (OpensF.cons (Opens.int Tryd.underlying3 (by kernel_rfl)) (OpensF.one (Opens.string Tryd.underlying9 (by kernel_rfl))) rfl) rfl) rfl)
theorem opCs_of {W : World} {x : OpT} {cs : Array Value} (h : opKd.K W x (Value.cells (.agg cs)).toList) : cs = opCs (opOf x) := by
  obtain ⟨c1, c2, e, ⟨c3, c4, rfl, h1, h2⟩, ⟨c5, c6, rfl, h3, ⟨c7, c8, rfl, h4, h5⟩⟩⟩ := h
  have e1 : c3 = [.int .i64 x.1.1] := h1
  have e2 : c4 = [.int .i64 x.1.2] := h2
  have e3 : c5 = [.int .i64 x.2.1] := h3
  have e4 : c7 = [.int .i64 x.2.2.1] := h4
  have e5 : c8 = [.string x.2.2.2] := h5
  subst e1 e2 e3 e4 e5
  have : cs.toList = (opCs (opOf x)).toList := e
  exact Array.toList_inj.1 this
theorem opSize {x : OpT} (h : opOk x) : (opOf x).name.size ≤ 9223372036854775807 := by
  have := h.2.2.2
  unfold maxLen at this
  exact this
end Go.Proofs.YtbekfoldohhbpaaDoor
