/-
  DERIVED. GIVEN WITH THE SEED: THE CARDS: each row of YtbekfoldohhbpaaDoorRows.lean that lists a variable, with what it lists TIED to the program's text (the seventh form; the later family's looks); each row that meets fmt, with fmt's text TOLD by the authors' own Lean function (tested against real Go, not proved from fmt's source: count such statements apart). THE CARD IS WHAT COUNTS. Prove the row's statement (the work); the ties are given (YtbekfoldohhbpaaDoorTie.lean); close each card by the builder's one call (the guide's Derived/Test/ToyasCard.lean, 'card_holds'). Laid BY PROGRAM, IN A SANDBOX (cutbox-door.mjs). By AI agents, Wed Nov 11 2026. No macro, syntax, notation, axiom, sorry.
-/
import Derived.Test.YtbekfoldohhbpaaDoorRows
import GoSem.ClaimSeven
namespace Go.Proofs.YtbekfoldohhbpaaDoor
namespace Rows

/-- THE TIED CARD OF 'holtlaw05.OpTells'. -/
def opTellsCard : Claim7 := { stood := { row := opTellsRow, standIns := [], harness := (true, "3400e7683c3eb38648f3e5490b2f1f0931c89a80ca9c368cdab197f0b4f3a32f"), looks := false }, kinds := [], alts := [], laidByText := true, laidKinds := [.data, .pinned], laidTests := true, laidLooks := .later }
def OpTellsCardSaid : Prop := Claim7.holds Tryd.pinned (.plain (OpenSpec.ofChange opTellsSpec)) opTellsCard

/-- THE TIED CARD OF 'holtlaw05.OpOrder'. -/
def opOrderCard : Claim7 := { stood := { row := opOrderRow, standIns := [], harness := (true, "3400e7683c3eb38648f3e5490b2f1f0931c89a80ca9c368cdab197f0b4f3a32f"), looks := false }, kinds := [], alts := [], laidByText := true, laidKinds := [.data, .pinned], laidTests := true, laidLooks := .later }
def OpOrderCardSaid : Prop := Claim7.holds Tryd.pinned (.plain (OpenSpec.ofChange opOrderSpec)) opOrderCard

/-- THE TIED CARD OF 'holtlaw05.OpUnlike'. -/
def opUnlikeCard : Claim7 := { stood := { row := opUnlikeRow, standIns := [], harness := (true, "3400e7683c3eb38648f3e5490b2f1f0931c89a80ca9c368cdab197f0b4f3a32f"), looks := false }, kinds := [], alts := [], laidByText := true, laidKinds := [.data, .pinned], laidTests := true, laidLooks := .later }
def OpUnlikeCardSaid : Prop := Claim7.holds Tryd.pinned (.plain (OpenSpec.ofChange opUnlikeSpec)) opUnlikeCard

/-- THE TIED CARD OF 'holtlaw05.OpBack'. -/
def opBackCard : Claim7 := { stood := { row := opBackRow, standIns := [], harness := (true, "3400e7683c3eb38648f3e5490b2f1f0931c89a80ca9c368cdab197f0b4f3a32f"), looks := false }, kinds := [], alts := [], laidByText := true, laidKinds := [.data, .pinned], laidTests := true, laidLooks := .later }
def OpBackCardSaid : Prop := Claim7.holds Tryd.pinned (.plain (OpenSpec.ofChange opBackSpec)) opBackCard

/-- THE TIED CARD OF 'holtlaw05.OpCuts'. -/
def opCutsCard : Claim7 := { stood := { row := opCutsRow, standIns := [], harness := (true, "3400e7683c3eb38648f3e5490b2f1f0931c89a80ca9c368cdab197f0b4f3a32f"), looks := false }, kinds := [], alts := [], laidByText := true, laidKinds := [.data, .pinned], laidTests := true, laidLooks := .later }
def OpCutsCardSaid : Prop := Claim7.holds Tryd.pinned (.plain (OpenSpec.ofChange opCutsSpec)) opCutsCard

/-- THE SECOND FORM's CARD OF 'holtlaw05.OpTells'. -/
def opTellsUptoCard : Claim7 := { stood := { row := opTellsUptoRow, standIns := [], harness := (true, "3400e7683c3eb38648f3e5490b2f1f0931c89a80ca9c368cdab197f0b4f3a32f"), looks := false }, kinds := [], alts := [], laidByText := true, laidKinds := [.data, .pinned], laidTests := true, laidLooks := .later }
def OpTellsUptoCardSaid : Prop := Claim7.holds Tryd.pinned (.plain (OpenSpec.upto opTellsSpec)) opTellsUptoCard

/-- THE SECOND FORM's CARD OF 'holtlaw05.OpOrder'. -/
def opOrderUptoCard : Claim7 := { stood := { row := opOrderUptoRow, standIns := [], harness := (true, "3400e7683c3eb38648f3e5490b2f1f0931c89a80ca9c368cdab197f0b4f3a32f"), looks := false }, kinds := [], alts := [], laidByText := true, laidKinds := [.data, .pinned], laidTests := true, laidLooks := .later }
def OpOrderUptoCardSaid : Prop := Claim7.holds Tryd.pinned (.plain (OpenSpec.upto opOrderSpec)) opOrderUptoCard

/-- THE SECOND FORM's CARD OF 'holtlaw05.OpUnlike'. -/
def opUnlikeUptoCard : Claim7 := { stood := { row := opUnlikeUptoRow, standIns := [], harness := (true, "3400e7683c3eb38648f3e5490b2f1f0931c89a80ca9c368cdab197f0b4f3a32f"), looks := false }, kinds := [], alts := [], laidByText := true, laidKinds := [.data, .pinned], laidTests := true, laidLooks := .later }
def OpUnlikeUptoCardSaid : Prop := Claim7.holds Tryd.pinned (.plain (OpenSpec.upto opUnlikeSpec)) opUnlikeUptoCard

/-- THE SECOND FORM's CARD OF 'holtlaw05.OpBack'. -/
def opBackUptoCard : Claim7 := { stood := { row := opBackUptoRow, standIns := [], harness := (true, "3400e7683c3eb38648f3e5490b2f1f0931c89a80ca9c368cdab197f0b4f3a32f"), looks := false }, kinds := [], alts := [], laidByText := true, laidKinds := [.data, .pinned], laidTests := true, laidLooks := .later }
def OpBackUptoCardSaid : Prop := Claim7.holds Tryd.pinned (.plain (OpenSpec.upto opBackSpec)) opBackUptoCard

/-- THE SECOND FORM's CARD OF 'holtlaw05.OpCuts'. -/
def opCutsUptoCard : Claim7 := { stood := { row := opCutsUptoRow, standIns := [], harness := (true, "3400e7683c3eb38648f3e5490b2f1f0931c89a80ca9c368cdab197f0b4f3a32f"), looks := false }, kinds := [], alts := [], laidByText := true, laidKinds := [.data, .pinned], laidTests := true, laidLooks := .later }
def OpCutsUptoCardSaid : Prop := Claim7.holds Tryd.pinned (.plain (OpenSpec.upto opCutsSpec)) opCutsUptoCard
end Rows
end Go.Proofs.YtbekfoldohhbpaaDoor
