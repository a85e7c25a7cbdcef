/-
  DERIVED. GIVEN WITH THE SEED: THE CARDS: each row of YtkmdmjlepmmejaaDoorRows.lean that lists a variable, with what it lists TIED to the program's text (the seventh form; the later family's looks); each row that meets fmt, with fmt's text TOLD by the authors' own Lean function (tested against real Go, not proved from fmt's source: count such statements apart). THE CARD IS WHAT COUNTS. Prove the row's statement (the work); the ties are given (YtkmdmjlepmmejaaDoorTie.lean); close each card by the builder's one call (the guide's Derived/Test/ToyasCard.lean, 'card_holds'). Laid BY PROGRAM, IN A SANDBOX (cutbox-door.mjs). By AI agents, Wed Nov 11 2026. No macro, syntax, notation, axiom, sorry.
-/
import Derived.Test.YtkmdmjlepmmejaaDoorRows
import GoSem.ClaimSeven
namespace Go.Proofs.YtkmdmjlepmmejaaDoor
namespace Rows

/-- THE TIED CARD OF 'holtlaw08.OplogChanges'. -/
def oplogChangesCard : Claim7 := { stood := { row := oplogChangesRow, standIns := [], harness := (true, "a1c277f66ca3d222e2fb7b606a7a703fb5baa65460a47f727c3013a7a9a2f163"), looks := true }, kinds := [], alts := [], laidByText := true, laidKinds := [.data, .pinned], laidTests := true, laidLooks := .later }
def OplogChangesCardSaid : Prop := Claim7.holds Tryd.pinned (.plain (OpenSpec.ofChange oplogChangesSpec)) oplogChangesCard

/-- THE TIED CARD OF 'holtlaw08.OplogOld'. -/
def oplogOldCard : Claim7 := { stood := { row := oplogOldRow, standIns := [], harness := (true, "a1c277f66ca3d222e2fb7b606a7a703fb5baa65460a47f727c3013a7a9a2f163"), looks := true }, kinds := [], alts := [], laidByText := true, laidKinds := [.data, .pinned], laidTests := true, laidLooks := .later }
def OplogOldCardSaid : Prop := Claim7.holds Tryd.pinned (.plain (OpenSpec.ofChange oplogOldSpec)) oplogOldCard

/-- THE TIED CARD OF 'holtlaw08.OplogFull'. -/
def oplogFullCard : Claim7 := { stood := { row := oplogFullRow, standIns := [], harness := (true, "a1c277f66ca3d222e2fb7b606a7a703fb5baa65460a47f727c3013a7a9a2f163"), looks := true }, kinds := [], alts := [], laidByText := true, laidKinds := [.data, .pinned], laidTests := true, laidLooks := .later }
def OplogFullCardSaid : Prop := Claim7.holds Tryd.pinned (.plain (OpenSpec.ofChange oplogFullSpec)) oplogFullCard

/-- THE SECOND FORM's CARD OF 'holtlaw08.OplogChanges'. -/
def oplogChangesUptoCard : Claim7 := { stood := { row := oplogChangesUptoRow, standIns := [], harness := (true, "a1c277f66ca3d222e2fb7b606a7a703fb5baa65460a47f727c3013a7a9a2f163"), looks := true }, kinds := [], alts := [], laidByText := true, laidKinds := [.data, .pinned], laidTests := true, laidLooks := .later }
def OplogChangesUptoCardSaid : Prop := Claim7.holds Tryd.pinned (.plain (OpenSpec.upto oplogChangesSpec)) oplogChangesUptoCard

/-- THE SECOND FORM's CARD OF 'holtlaw08.OplogOld'. -/
def oplogOldUptoCard : Claim7 := { stood := { row := oplogOldUptoRow, standIns := [], harness := (true, "a1c277f66ca3d222e2fb7b606a7a703fb5baa65460a47f727c3013a7a9a2f163"), looks := true }, kinds := [], alts := [], laidByText := true, laidKinds := [.data, .pinned], laidTests := true, laidLooks := .later }
def OplogOldUptoCardSaid : Prop := Claim7.holds Tryd.pinned (.plain (OpenSpec.upto oplogOldSpec)) oplogOldUptoCard

/-- THE SECOND FORM's CARD OF 'holtlaw08.OplogFull'. -/
def oplogFullUptoCard : Claim7 := { stood := { row := oplogFullUptoRow, standIns := [], harness := (true, "a1c277f66ca3d222e2fb7b606a7a703fb5baa65460a47f727c3013a7a9a2f163"), looks := true }, kinds := [], alts := [], laidByText := true, laidKinds := [.data, .pinned], laidTests := true, laidLooks := .later }
def OplogFullUptoCardSaid : Prop := Claim7.holds Tryd.pinned (.plain (OpenSpec.upto oplogFullSpec)) oplogFullUptoCard
end Rows
end Go.Proofs.YtkmdmjlepmmejaaDoor
