/-
  A small operation as an argument.
-/
import Derived.Test.YtbekfoldohhbpaaDoorPkH
import Derived.Test.YtbekfoldohhbpaaDoorOpen
namespace Go.Proofs.YtbekfoldohhbpaaDoor
open Go.RowKit Go.Proofs.YtbekfoldohhbpaaDoorW.Open Go.Proofs.YtbekfoldohhbpaaDoorW.PrintWords

abbrev TinyT := Int × (Int × (Int × (Int × Int)))
def tinyCs (x : TinyT) : Array Value := #[.int .u8 x.1, .int .u8 x.2.1, .int .u8 x.2.2.1, .int .u8 x.2.2.2.1, .int .u8 x.2.2.2.2]
abbrev tinyKd : Kd TinyT := Kd.pair (Kd.int .u8) (Kd.pair (Kd.int .u8) (Kd.pair (Kd.int .u8) (Kd.pair (Kd.int .u8) (Kd.int .u8))))
abbrev tinyOk (x : TinyT) : Prop := (Lit.int .u8 x.1).wf = true ∧ (Lit.int .u8 x.2.1).wf = true ∧ (Lit.int .u8 x.2.2.1).wf = true ∧ (Lit.int .u8 x.2.2.2.1).wf = true ∧ (Lit.int .u8 x.2.2.2.2).wf = true
def TinyIn (x : TinyT) : Prop := (0 ≤ x.1 ∧ x.1 < 256) ∧ (0 ≤ x.2.1 ∧ x.2.1 < 256) ∧ (0 ≤ x.2.2.1 ∧ x.2.2.1 < 256) ∧ (0 ≤ x.2.2.2.1 ∧ x.2.2.2.1 < 256) ∧ (0 ≤ x.2.2.2.2 ∧ x.2.2.2.2 < 256)
theorem tinyOpens : Opens Tryd.prog 38 tinyKd tinyOk :=
  Opens.struct Tryd.underlying38 (by kernel_rfl)
    (OpensF.cons (Opens.int Tryd.underlying5 (by kernel_rfl)) (OpensF.cons (Opens.int Tryd.underlying5 (by kernel_rfl)) (OpensF.cons (Opens.int Tryd.underlying5 (by kernel_rfl)) (OpensF.cons (Opens.int Tryd.underlying5 (by kernel_rfl)) (OpensF.one (Opens.int Tryd.underlying5 (by kernel_rfl))) rfl) rfl) rfl) rfl)
theorem tinyCs_of {W : World} {x : TinyT} {cs : Array Value} (h : tinyKd.K W x (Value.cells (.agg cs)).toList) : cs = tinyCs x := by
  obtain ⟨c1, _, e, h1, ⟨c2, _, rfl, h2, ⟨c3, _, rfl, h3, ⟨c4, c5, rfl, h4, h5⟩⟩⟩⟩ := h
  have e1 : c1 = [.int .u8 x.1] := h1
  have e2 : c2 = [.int .u8 x.2.1] := h2
  have e3 : c3 = [.int .u8 x.2.2.1] := h3
  have e4 : c4 = [.int .u8 x.2.2.2.1] := h4
  have e5 : c5 = [.int .u8 x.2.2.2.2] := h5
  subst e1 e2 e3 e4 e5
  have : cs.toList = (tinyCs x).toList := e
  exact Array.toList_inj.1 this
theorem tinyIn {x : TinyT} (h : tinyOk x) : TinyIn x := ⟨byte_wf h.1, byte_wf h.2.1, byte_wf h.2.2.1, byte_wf h.2.2.2.1, byte_wf h.2.2.2.2⟩
theorem tinySelf (x : TinyT) : x = x := rfl
end Go.Proofs.YtbekfoldohhbpaaDoor
