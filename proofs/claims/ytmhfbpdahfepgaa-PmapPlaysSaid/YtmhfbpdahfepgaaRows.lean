/-
  No cell of these rows narrows 'for every input' (looked for: loops, veiled, ifaces, maps, wideKeys, modest, calm, conditions, laid).
  DERIVED. THE GIVEN ROWS OF THIS SEAT. 6 by the template 'for every input the law returns true; each argument reads behind the call as it read before'; 0 by the template 'total and deterministic' (their statements: YtmhfbpdahfepgaaTotals.lean).
  GIVEN WITH THE SEED: the statements are not yours to turn. If you find one false, say at which input.
  Laid BY PROGRAM, IN A SANDBOX (cutbox-rows.mjs): the forced cells as the released guide's own fill.sh prints them over the translation 706c954a957bf6d7… (all of the seat's roots in one cut). By AI agents, Wed Nov 11 2026. No macro, syntax, notation, axiom, sorry.
-/
import Derived.Test.YtmhfbpdahfepgaaChecked
import GoSem.Claim
import GoSem.ClaimJoined
import GoSem.ClaimMapViews
import Derived.JoinedTies
import Derived.KernelRfl
namespace Go.Proofs.Ytmhfbpdahfepgaa
/- THE CELL 'sum', in the pinned program and in every row, IS THE sha256 OF THE DUMP (.gsa) THAT YtmhfbpdahfepgaaProg.lean LOADS. Nothing in Lean hashes anything: it is a label: what it is worth is what the hold of that sum in a sandbox is worth. -/
noncomputable def Try.pinned : Pinned := { name := "ytmhfbpdahfepgaa", sum := "706c954a957bf6d7de9965fb22bf268c0f8f2bac61aebe52591c4207e4bb942f", checked := Try.checked }
namespace Rows
def none {H : Type} : Left H := { results := [], args := [] }

/-- 'holtlaw11.PmapHigh': WHATEVER THE INPUT: true; the input reads as it did. -/
def pmapHighSpec : ChangeSpec := { name := "pmapHigh", fn := fun _ => fun
  | [d1, d2, d3] => { results := [.lit (.bool true)], args := [d1, d2, d3] }
  | _ => none }
def pmapHighRow : OpenClaim := { program := "ytmhfbpdahfepgaa", sum := "706c954a957bf6d7de9965fb22bf268c0f8f2bac61aebe52591c4207e4bb942f", func := "holt/holtlaw11.PmapHigh", spec := "pmapHigh", unfollowed := true, recurses := true, apart := false }
def PmapHighSaid : Prop := pmapHighRow.holds Try.pinned (OpenSpec.ofChange pmapHighSpec)

/-- ITS FALSE NEIGHBOUR: 'it returns false'. Refute it at one input. -/
def pmapHighWrong : ChangeSpec := { name := "pmapHigh", fn := fun _ => fun
  | [d1, d2, d3] => { results := [.lit (.bool false)], args := [d1, d2, d3] }
  | _ => none }
def PmapHighWrongFalsely : Prop := pmapHighRow.holds Try.pinned (OpenSpec.ofChange pmapHighWrong)

/-- 'holtlaw11.PmapNew': WHATEVER THE INPUT: true; the input reads as it did. -/
def pmapNewSpec : ChangeSpec := { name := "pmapNew", fn := fun _ => fun
  | [d1, d2, d3] => { results := [.lit (.bool true)], args := [d1, d2, d3] }
  | _ => none }
def pmapNewRow : OpenClaim := { program := "ytmhfbpdahfepgaa", sum := "706c954a957bf6d7de9965fb22bf268c0f8f2bac61aebe52591c4207e4bb942f", func := "holt/holtlaw11.PmapNew", spec := "pmapNew", unfollowed := true, recurses := true, apart := false }
def PmapNewSaid : Prop := pmapNewRow.holds Try.pinned (OpenSpec.ofChange pmapNewSpec)

/-- ITS FALSE NEIGHBOUR: 'it returns false'. Refute it at one input. -/
def pmapNewWrong : ChangeSpec := { name := "pmapNew", fn := fun _ => fun
  | [d1, d2, d3] => { results := [.lit (.bool false)], args := [d1, d2, d3] }
  | _ => none }
def PmapNewWrongFalsely : Prop := pmapNewRow.holds Try.pinned (OpenSpec.ofChange pmapNewWrong)

/-- 'holtlaw11.PmapPlays': WHATEVER THE INPUT: true; the input reads as it did. -/
def pmapPlaysSpec : ChangeSpec := { name := "pmapPlays", fn := fun _ => fun
  | [d] => { results := [.lit (.bool true)], args := [d] }
  | _ => none }
def pmapPlaysRow : OpenClaim := { program := "ytmhfbpdahfepgaa", sum := "706c954a957bf6d7de9965fb22bf268c0f8f2bac61aebe52591c4207e4bb942f", func := "holt/holtlaw11.PmapPlays", spec := "pmapPlays", unfollowed := true, recurses := true, apart := false }
def PmapPlaysSaid : Prop := pmapPlaysRow.holds Try.pinned (OpenSpec.ofChange pmapPlaysSpec)

/-- ITS FALSE NEIGHBOUR: 'it returns false'. Refute it at one input. -/
def pmapPlaysWrong : ChangeSpec := { name := "pmapPlays", fn := fun _ => fun
  | [d] => { results := [.lit (.bool false)], args := [d] }
  | _ => none }
def PmapPlaysWrongFalsely : Prop := pmapPlaysRow.holds Try.pinned (OpenSpec.ofChange pmapPlaysWrong)

/-- 'holtlaw11.PmapGets': WHATEVER THE INPUT: true; the input reads as it did. -/
def pmapGetsSpec : ChangeSpec := { name := "pmapGets", fn := fun _ => fun
  | [d1, d2, d3] => { results := [.lit (.bool true)], args := [d1, d2, d3] }
  | _ => none }
def pmapGetsRow : OpenClaim := { program := "ytmhfbpdahfepgaa", sum := "706c954a957bf6d7de9965fb22bf268c0f8f2bac61aebe52591c4207e4bb942f", func := "holt/holtlaw11.PmapGets", spec := "pmapGets", unfollowed := true, recurses := true, apart := false }
def PmapGetsSaid : Prop := pmapGetsRow.holds Try.pinned (OpenSpec.ofChange pmapGetsSpec)

/-- ITS FALSE NEIGHBOUR: 'it returns false'. Refute it at one input. -/
def pmapGetsWrong : ChangeSpec := { name := "pmapGets", fn := fun _ => fun
  | [d1, d2, d3] => { results := [.lit (.bool false)], args := [d1, d2, d3] }
  | _ => none }
def PmapGetsWrongFalsely : Prop := pmapGetsRow.holds Try.pinned (OpenSpec.ofChange pmapGetsWrong)

/-- 'holtlaw11.PmapOrder': WHATEVER THE INPUT: true; the input reads as it did. -/
def pmapOrderSpec : ChangeSpec := { name := "pmapOrder", fn := fun _ => fun
  | [d1, d2] => { results := [.lit (.bool true)], args := [d1, d2] }
  | _ => none }
def pmapOrderRow : OpenClaim := { program := "ytmhfbpdahfepgaa", sum := "706c954a957bf6d7de9965fb22bf268c0f8f2bac61aebe52591c4207e4bb942f", func := "holt/holtlaw11.PmapOrder", spec := "pmapOrder", unfollowed := true, recurses := true, apart := false }
def PmapOrderSaid : Prop := pmapOrderRow.holds Try.pinned (OpenSpec.ofChange pmapOrderSpec)

/-- ITS FALSE NEIGHBOUR: 'it returns false'. Refute it at one input. -/
def pmapOrderWrong : ChangeSpec := { name := "pmapOrder", fn := fun _ => fun
  | [d1, d2] => { results := [.lit (.bool false)], args := [d1, d2] }
  | _ => none }
def PmapOrderWrongFalsely : Prop := pmapOrderRow.holds Try.pinned (OpenSpec.ofChange pmapOrderWrong)

/-- 'holtlaw11.PmapFrees': WHATEVER THE INPUT: true; the input reads as it did. -/
def pmapFreesSpec : ChangeSpec := { name := "pmapFrees", fn := fun _ => fun
  | [d] => { results := [.lit (.bool true)], args := [d] }
  | _ => none }
def pmapFreesRow : OpenClaim := { program := "ytmhfbpdahfepgaa", sum := "706c954a957bf6d7de9965fb22bf268c0f8f2bac61aebe52591c4207e4bb942f", func := "holt/holtlaw11.PmapFrees", spec := "pmapFrees", unfollowed := true, recurses := true, apart := false }
def PmapFreesSaid : Prop := pmapFreesRow.holds Try.pinned (OpenSpec.ofChange pmapFreesSpec)

/-- ITS FALSE NEIGHBOUR: 'it returns false'. Refute it at one input. -/
def pmapFreesWrong : ChangeSpec := { name := "pmapFrees", fn := fun _ => fun
  | [d] => { results := [.lit (.bool false)], args := [d] }
  | _ => none }
def PmapFreesWrongFalsely : Prop := pmapFreesRow.holds Try.pinned (OpenSpec.ofChange pmapFreesWrong)

/- THE SECOND FORM. 'bulk': how many values and letters a reading holds, each counted each time it is reached (what is shared counts as often as it is met; a slice's spare places count too). A statement '..UptoSaid' is the law's where the arguments, and the package variables that the reading takes, are together of bulk at most 1048576: NARROWER than '..Said'. Prove '..Said' where nothing that the law and all that it calls make is longer than what came in: it says more and counts as full. Else prove '..UptoSaid'. A law counts once. -/
mutual
def uptoBulk {H : Type} : DataW H → Nat
  | .lit (.string bytes) => bytes.length + 1
  | .lit _ => 1
  | .nil => 1
  | .ptr d => uptoBulk d + 1
  | .slice elems spare => uptoBulkAll elems + uptoBulkAll spare + 1
  | .agg parts => uptoBulkAll parts + 1
  | .iface _ d => uptoBulk d + 1
  | .map entries => uptoBulkEntries entries + 1
  | .held _ => 1
def uptoBulkAll {H : Type} : List (DataW H) → Nat
  | [] => 0
  | d :: r => uptoBulk d + uptoBulkAll r
def uptoBulkEntries {H : Type} : List (Lit × DataW H) → Nat
  | [] => 0
  | x :: r => uptoBulkEntry x + uptoBulkEntries r
def uptoBulkEntry {H : Type} : Lit × DataW H → Nat
  | (.string bytes, d) => bytes.length + uptoBulk d + 1
  | (_, d) => uptoBulk d + 1
 end
def uptoSmall : (H : Type) → List (DataW H) → Bool := fun _ ds => decide (uptoBulkAll ds ≤ 1048576)
def OpenSpec.upto (s : _root_.Go.ChangeSpec) : _root_.Go.OpenSpec := { _root_.Go.OpenSpec.ofChange s with cond := some uptoSmall }

/-- 'holtlaw11.PmapHigh', WHERE WHAT IT READS IS OF BULK AT MOST 1048576: true; the input reads as it did. -/
def pmapHighUptoRow : OpenClaim := { program := "ytmhfbpdahfepgaa", sum := "706c954a957bf6d7de9965fb22bf268c0f8f2bac61aebe52591c4207e4bb942f", func := "holt/holtlaw11.PmapHigh", spec := "pmapHigh", unfollowed := true, recurses := true, apart := false, narrowed := true }
def PmapHighUptoSaid : Prop := pmapHighUptoRow.holds Try.pinned (OpenSpec.upto pmapHighSpec)

/-- 'holtlaw11.PmapNew', WHERE WHAT IT READS IS OF BULK AT MOST 1048576: true; the input reads as it did. -/
def pmapNewUptoRow : OpenClaim := { program := "ytmhfbpdahfepgaa", sum := "706c954a957bf6d7de9965fb22bf268c0f8f2bac61aebe52591c4207e4bb942f", func := "holt/holtlaw11.PmapNew", spec := "pmapNew", unfollowed := true, recurses := true, apart := false, narrowed := true }
def PmapNewUptoSaid : Prop := pmapNewUptoRow.holds Try.pinned (OpenSpec.upto pmapNewSpec)

/-- 'holtlaw11.PmapPlays', WHERE WHAT IT READS IS OF BULK AT MOST 1048576: true; the input reads as it did. -/
def pmapPlaysUptoRow : OpenClaim := { program := "ytmhfbpdahfepgaa", sum := "706c954a957bf6d7de9965fb22bf268c0f8f2bac61aebe52591c4207e4bb942f", func := "holt/holtlaw11.PmapPlays", spec := "pmapPlays", unfollowed := true, recurses := true, apart := false, narrowed := true }
def PmapPlaysUptoSaid : Prop := pmapPlaysUptoRow.holds Try.pinned (OpenSpec.upto pmapPlaysSpec)

/-- 'holtlaw11.PmapGets', WHERE WHAT IT READS IS OF BULK AT MOST 1048576: true; the input reads as it did. -/
def pmapGetsUptoRow : OpenClaim := { program := "ytmhfbpdahfepgaa", sum := "706c954a957bf6d7de9965fb22bf268c0f8f2bac61aebe52591c4207e4bb942f", func := "holt/holtlaw11.PmapGets", spec := "pmapGets", unfollowed := true, recurses := true, apart := false, narrowed := true }
def PmapGetsUptoSaid : Prop := pmapGetsUptoRow.holds Try.pinned (OpenSpec.upto pmapGetsSpec)

/-- 'holtlaw11.PmapOrder', WHERE WHAT IT READS IS OF BULK AT MOST 1048576: true; the input reads as it did. -/
def pmapOrderUptoRow : OpenClaim := { program := "ytmhfbpdahfepgaa", sum := "706c954a957bf6d7de9965fb22bf268c0f8f2bac61aebe52591c4207e4bb942f", func := "holt/holtlaw11.PmapOrder", spec := "pmapOrder", unfollowed := true, recurses := true, apart := false, narrowed := true }
def PmapOrderUptoSaid : Prop := pmapOrderUptoRow.holds Try.pinned (OpenSpec.upto pmapOrderSpec)

/-- 'holtlaw11.PmapFrees', WHERE WHAT IT READS IS OF BULK AT MOST 1048576: true; the input reads as it did. -/
def pmapFreesUptoRow : OpenClaim := { program := "ytmhfbpdahfepgaa", sum := "706c954a957bf6d7de9965fb22bf268c0f8f2bac61aebe52591c4207e4bb942f", func := "holt/holtlaw11.PmapFrees", spec := "pmapFrees", unfollowed := true, recurses := true, apart := false, narrowed := true }
def PmapFreesUptoSaid : Prop := pmapFreesUptoRow.holds Try.pinned (OpenSpec.upto pmapFreesSpec)

end Rows
end Go.Proofs.Ytmhfbpdahfepgaa
