/-
  NARROWER THAN 'FOR EVERY INPUT', by the rows' own cells (each row's printed sentence says how): OpTells: laid · OpOrder: laid · OpUnlike: laid · OpBack: laid · OpCuts: laid.
  DERIVED. THE GIVEN ROWS OF THIS SEAT. 5 by the template 'for every input the law returns true; each argument reads behind the call as it read before'; 0 by the template 'total and deterministic' (their statements: YtbekfoldohhbpaaDoorTotals.lean).
  GIVEN WITH THE SEED: the statements are not yours to turn. If you find one false, say at which input.
  Laid BY PROGRAM, IN A SANDBOX (cutbox-rows.mjs): the forced cells as the released guide's own fill.sh prints them over the translation 1d754774384bf42e… (all of the seat's roots in one cut). By AI agents, Wed Nov 11 2026. No macro, syntax, notation, axiom, sorry.
-/
import Derived.Test.YtbekfoldohhbpaaDoorChecked
import GoSem.PinnedTables
import GoSem.Claim
import GoSem.ClaimJoined
import GoSem.ClaimMapViews
import Derived.JoinedTies
import Derived.KernelRfl
namespace Go.Proofs.YtbekfoldohhbpaaDoor
/- THE CELL 'sum', in the pinned program and in every row, IS THE sha256 OF THE DUMP (.gsa) THAT YtbekfoldohhbpaaDoorProg.lean LOADS. Nothing in Lean hashes anything: it is a label: what it is worth is what the hold of that sum in a sandbox is worth. -/
noncomputable def Tryd.pinned : Pinned := { name := "ytbekfoldohhbpaadoor", sum := "1d754774384bf42e39806412e183974ede156a80e4999e7900c21063175ecdaa", checked := Tryd.checked }
namespace Rows
def none {H : Type} : Left H := { results := [], args := [] }

/- WHAT THE LISTED PACKAGE-LEVEL VARIABLES READ AS WHEN THE CALL BEGINS. Each datum BY PROGRAM (the guide's laid-datum.mjs) off the statement by which the dump's own 'gosem.cut.vars' lays the variable. In a bare row this is a premise. The card (YtbekfoldohhbpaaDoorCards.lean) ties it to the program's text. -/
def laid_unicode_utf8_acceptRanges {H : Type} : DataW H := .agg [.agg [.lit (.int .u8 128), .lit (.int .u8 191)], .agg [.lit (.int .u8 160), .lit (.int .u8 191)], .agg [.lit (.int .u8 128), .lit (.int .u8 159)], .agg [.lit (.int .u8 144), .lit (.int .u8 191)], .agg [.lit (.int .u8 128), .lit (.int .u8 143)], .agg [.lit (.int .u8 0), .lit (.int .u8 0)], .agg [.lit (.int .u8 0), .lit (.int .u8 0)], .agg [.lit (.int .u8 0), .lit (.int .u8 0)], .agg [.lit (.int .u8 0), .lit (.int .u8 0)], .agg [.lit (.int .u8 0), .lit (.int .u8 0)], .agg [.lit (.int .u8 0), .lit (.int .u8 0)], .agg [.lit (.int .u8 0), .lit (.int .u8 0)], .agg [.lit (.int .u8 0), .lit (.int .u8 0)], .agg [.lit (.int .u8 0), .lit (.int .u8 0)], .agg [.lit (.int .u8 0), .lit (.int .u8 0)], .agg [.lit (.int .u8 0), .lit (.int .u8 0)]]
/-- One of Go's own tables, pinned by name: the form's constant. -/
def laid_unicode_utf8_first : DataW Unit := Go.Pinned.utf8First

/-- 'holtlaw05.OpTells': WHATEVER THE INPUT: true; the input reads as it did. -/
def opTellsSpec : ChangeSpec := { name := "opTells", fn := fun _ => fun
  | [d1, d2, d3] => { results := [.lit (.bool true)], args := [d1, d2, d3] }
  | _ => none }
def opTellsRow : OpenClaim := { program := "ytbekfoldohhbpaadoor", sum := "1d754774384bf42e39806412e183974ede156a80e4999e7900c21063175ecdaa", func := "holt/holtlaw05.OpTells", spec := "opTells", unfollowed := true, recurses := true, named := ["unicode/utf8.first", "unicode/utf8.acceptRanges"], apart := false, laid := [("unicode/utf8.acceptRanges", laid_unicode_utf8_acceptRanges), ("unicode/utf8.first", laid_unicode_utf8_first)] }
def OpTellsSaid : Prop := opTellsRow.holds Tryd.pinned (OpenSpec.ofChange opTellsSpec)

/-- ITS FALSE NEIGHBOUR: 'it returns false'. Refute it at one input. -/
def opTellsWrong : ChangeSpec := { name := "opTells", fn := fun _ => fun
  | [d1, d2, d3] => { results := [.lit (.bool false)], args := [d1, d2, d3] }
  | _ => none }
def OpTellsWrongFalsely : Prop := opTellsRow.holds Tryd.pinned (OpenSpec.ofChange opTellsWrong)

/-- 'holtlaw05.OpOrder': WHATEVER THE INPUT: true; the input reads as it did. -/
def opOrderSpec : ChangeSpec := { name := "opOrder", fn := fun _ => fun
  | [d1, d2, d3] => { results := [.lit (.bool true)], args := [d1, d2, d3] }
  | _ => none }
def opOrderRow : OpenClaim := { program := "ytbekfoldohhbpaadoor", sum := "1d754774384bf42e39806412e183974ede156a80e4999e7900c21063175ecdaa", func := "holt/holtlaw05.OpOrder", spec := "opOrder", unfollowed := true, recurses := true, named := ["unicode/utf8.first", "unicode/utf8.acceptRanges"], apart := false, laid := [("unicode/utf8.acceptRanges", laid_unicode_utf8_acceptRanges), ("unicode/utf8.first", laid_unicode_utf8_first)] }
def OpOrderSaid : Prop := opOrderRow.holds Tryd.pinned (OpenSpec.ofChange opOrderSpec)

/-- ITS FALSE NEIGHBOUR: 'it returns false'. Refute it at one input. -/
def opOrderWrong : ChangeSpec := { name := "opOrder", fn := fun _ => fun
  | [d1, d2, d3] => { results := [.lit (.bool false)], args := [d1, d2, d3] }
  | _ => none }
def OpOrderWrongFalsely : Prop := opOrderRow.holds Tryd.pinned (OpenSpec.ofChange opOrderWrong)

/-- 'holtlaw05.OpUnlike': WHATEVER THE INPUT: true; the input reads as it did. -/
def opUnlikeSpec : ChangeSpec := { name := "opUnlike", fn := fun _ => fun
  | [d1, d2, d3] => { results := [.lit (.bool true)], args := [d1, d2, d3] }
  | _ => none }
def opUnlikeRow : OpenClaim := { program := "ytbekfoldohhbpaadoor", sum := "1d754774384bf42e39806412e183974ede156a80e4999e7900c21063175ecdaa", func := "holt/holtlaw05.OpUnlike", spec := "opUnlike", unfollowed := true, recurses := true, named := ["unicode/utf8.first", "unicode/utf8.acceptRanges"], apart := false, laid := [("unicode/utf8.acceptRanges", laid_unicode_utf8_acceptRanges), ("unicode/utf8.first", laid_unicode_utf8_first)] }
def OpUnlikeSaid : Prop := opUnlikeRow.holds Tryd.pinned (OpenSpec.ofChange opUnlikeSpec)

/-- ITS FALSE NEIGHBOUR: 'it returns false'. Refute it at one input. -/
def opUnlikeWrong : ChangeSpec := { name := "opUnlike", fn := fun _ => fun
  | [d1, d2, d3] => { results := [.lit (.bool false)], args := [d1, d2, d3] }
  | _ => none }
def OpUnlikeWrongFalsely : Prop := opUnlikeRow.holds Tryd.pinned (OpenSpec.ofChange opUnlikeWrong)

/-- 'holtlaw05.OpBack': WHATEVER THE INPUT: true; the input reads as it did. -/
def opBackSpec : ChangeSpec := { name := "opBack", fn := fun _ => fun
  | [d1, d2, d3] => { results := [.lit (.bool true)], args := [d1, d2, d3] }
  | _ => none }
def opBackRow : OpenClaim := { program := "ytbekfoldohhbpaadoor", sum := "1d754774384bf42e39806412e183974ede156a80e4999e7900c21063175ecdaa", func := "holt/holtlaw05.OpBack", spec := "opBack", unfollowed := true, recurses := true, named := ["unicode/utf8.first", "unicode/utf8.acceptRanges"], apart := false, laid := [("unicode/utf8.acceptRanges", laid_unicode_utf8_acceptRanges), ("unicode/utf8.first", laid_unicode_utf8_first)] }
def OpBackSaid : Prop := opBackRow.holds Tryd.pinned (OpenSpec.ofChange opBackSpec)

/-- ITS FALSE NEIGHBOUR: 'it returns false'. Refute it at one input. -/
def opBackWrong : ChangeSpec := { name := "opBack", fn := fun _ => fun
  | [d1, d2, d3] => { results := [.lit (.bool false)], args := [d1, d2, d3] }
  | _ => none }
def OpBackWrongFalsely : Prop := opBackRow.holds Tryd.pinned (OpenSpec.ofChange opBackWrong)

/-- 'holtlaw05.OpCuts': WHATEVER THE INPUT: true; the input reads as it did. -/
def opCutsSpec : ChangeSpec := { name := "opCuts", fn := fun _ => fun
  | [d1, d2] => { results := [.lit (.bool true)], args := [d1, d2] }
  | _ => none }
def opCutsRow : OpenClaim := { program := "ytbekfoldohhbpaadoor", sum := "1d754774384bf42e39806412e183974ede156a80e4999e7900c21063175ecdaa", func := "holt/holtlaw05.OpCuts", spec := "opCuts", unfollowed := true, recurses := true, named := ["unicode/utf8.first", "unicode/utf8.acceptRanges"], apart := false, laid := [("unicode/utf8.acceptRanges", laid_unicode_utf8_acceptRanges), ("unicode/utf8.first", laid_unicode_utf8_first)] }
def OpCutsSaid : Prop := opCutsRow.holds Tryd.pinned (OpenSpec.ofChange opCutsSpec)

/-- ITS FALSE NEIGHBOUR: 'it returns false'. Refute it at one input. -/
def opCutsWrong : ChangeSpec := { name := "opCuts", fn := fun _ => fun
  | [d1, d2] => { results := [.lit (.bool false)], args := [d1, d2] }
  | _ => none }
def OpCutsWrongFalsely : Prop := opCutsRow.holds Tryd.pinned (OpenSpec.ofChange opCutsWrong)

/- THE SECOND FORM. 'bulk': how many values and letters a reading holds, each counted each time it is reached (what is shared counts as often as it is met; a slice's spare places count too). A statement '..UptoSaid' is the law's where the arguments, and the package variables that the reading takes, are together of bulk at most 1048576: NARROWER than '..Said'. Prove '..Said' where nothing that the law and all that it calls make is longer than what came in: it says more and counts as full. Else prove '..UptoSaid'. A law counts once. -/
mutual
def uptoBulk {H : Type} : DataW H → Nat
  | .lit (.string bytes) => bytes.length + 1
  | .lit _ => 1
  | .nil => 1
  | .ptr d => uptoBulk d + 1
  | .slice elems spare => uptoBulkAll elems + uptoBulkAll spare + 1
  | .agg parts => uptoBulkAll parts + 1
  | .iface _ d => uptoBulk d + 1
  | .map entries => uptoBulkEntries entries + 1
  | .held _ => 1
def uptoBulkAll {H : Type} : List (DataW H) → Nat
  | [] => 0
  | d :: r => uptoBulk d + uptoBulkAll r
def uptoBulkEntries {H : Type} : List (Lit × DataW H) → Nat
  | [] => 0
  | x :: r => uptoBulkEntry x + uptoBulkEntries r
def uptoBulkEntry {H : Type} : Lit × DataW H → Nat
  | (.string bytes, d) => bytes.length + uptoBulk d + 1
  | (_, d) => uptoBulk d + 1
 end
def uptoSmall : (H : Type) → List (DataW H) → Bool := fun _ ds => decide (uptoBulkAll ds ≤ 1048576)
def OpenSpec.upto (s : _root_.Go.ChangeSpec) : _root_.Go.OpenSpec := { _root_.Go.OpenSpec.ofChange s with cond := some uptoSmall }

/-- 'holtlaw05.OpTells', WHERE WHAT IT READS IS OF BULK AT MOST 1048576: true; the input reads as it did. -/
def opTellsUptoRow : OpenClaim := { program := "ytbekfoldohhbpaadoor", sum := "1d754774384bf42e39806412e183974ede156a80e4999e7900c21063175ecdaa", func := "holt/holtlaw05.OpTells", spec := "opTells", unfollowed := true, recurses := true, named := ["unicode/utf8.first", "unicode/utf8.acceptRanges"], apart := false, laid := [("unicode/utf8.acceptRanges", laid_unicode_utf8_acceptRanges), ("unicode/utf8.first", laid_unicode_utf8_first)], narrowed := true }
def OpTellsUptoSaid : Prop := opTellsUptoRow.holds Tryd.pinned (OpenSpec.upto opTellsSpec)

/-- 'holtlaw05.OpOrder', WHERE WHAT IT READS IS OF BULK AT MOST 1048576: true; the input reads as it did. -/
def opOrderUptoRow : OpenClaim := { program := "ytbekfoldohhbpaadoor", sum := "1d754774384bf42e39806412e183974ede156a80e4999e7900c21063175ecdaa", func := "holt/holtlaw05.OpOrder", spec := "opOrder", unfollowed := true, recurses := true, named := ["unicode/utf8.first", "unicode/utf8.acceptRanges"], apart := false, laid := [("unicode/utf8.acceptRanges", laid_unicode_utf8_acceptRanges), ("unicode/utf8.first", laid_unicode_utf8_first)], narrowed := true }
def OpOrderUptoSaid : Prop := opOrderUptoRow.holds Tryd.pinned (OpenSpec.upto opOrderSpec)

/-- 'holtlaw05.OpUnlike', WHERE WHAT IT READS IS OF BULK AT MOST 1048576: true; the input reads as it did. -/
def opUnlikeUptoRow : OpenClaim := { program := "ytbekfoldohhbpaadoor", sum := "1d754774384bf42e39806412e183974ede156a80e4999e7900c21063175ecdaa", func := "holt/holtlaw05.OpUnlike", spec := "opUnlike", unfollowed := true, recurses := true, named := ["unicode/utf8.first", "unicode/utf8.acceptRanges"], apart := false, laid := [("unicode/utf8.acceptRanges", laid_unicode_utf8_acceptRanges), ("unicode/utf8.first", laid_unicode_utf8_first)], narrowed := true }
def OpUnlikeUptoSaid : Prop := opUnlikeUptoRow.holds Tryd.pinned (OpenSpec.upto opUnlikeSpec)

/-- 'holtlaw05.OpBack', WHERE WHAT IT READS IS OF BULK AT MOST 1048576: true; the input reads as it did. -/
def opBackUptoRow : OpenClaim := { program := "ytbekfoldohhbpaadoor", sum := "1d754774384bf42e39806412e183974ede156a80e4999e7900c21063175ecdaa", func := "holt/holtlaw05.OpBack", spec := "opBack", unfollowed := true, recurses := true, named := ["unicode/utf8.first", "unicode/utf8.acceptRanges"], apart := false, laid := [("unicode/utf8.acceptRanges", laid_unicode_utf8_acceptRanges), ("unicode/utf8.first", laid_unicode_utf8_first)], narrowed := true }
def OpBackUptoSaid : Prop := opBackUptoRow.holds Tryd.pinned (OpenSpec.upto opBackSpec)

/-- 'holtlaw05.OpCuts', WHERE WHAT IT READS IS OF BULK AT MOST 1048576: true; the input reads as it did. -/
def opCutsUptoRow : OpenClaim := { program := "ytbekfoldohhbpaadoor", sum := "1d754774384bf42e39806412e183974ede156a80e4999e7900c21063175ecdaa", func := "holt/holtlaw05.OpCuts", spec := "opCuts", unfollowed := true, recurses := true, named := ["unicode/utf8.first", "unicode/utf8.acceptRanges"], apart := false, laid := [("unicode/utf8.acceptRanges", laid_unicode_utf8_acceptRanges), ("unicode/utf8.first", laid_unicode_utf8_first)], narrowed := true }
def OpCutsUptoSaid : Prop := opCutsUptoRow.holds Tryd.pinned (OpenSpec.upto opCutsSpec)

end Rows
end Go.Proofs.YtbekfoldohhbpaaDoor
