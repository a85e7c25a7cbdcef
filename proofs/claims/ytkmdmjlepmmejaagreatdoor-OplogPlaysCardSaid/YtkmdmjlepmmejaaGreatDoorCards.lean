/-
  DERIVED. GIVEN WITH THE SEED: THE CARDS: each row of YtkmdmjlepmmejaaGreatDoorRows.lean that lists a variable, with what it lists TIED to the program's text (the seventh form; the later family's looks); each row that meets fmt, with fmt's text TOLD by the authors' own Lean function (tested against real Go, not proved from fmt's source: count such statements apart). THE CARD IS WHAT COUNTS. Prove the row's statement (the work); the ties are given (YtkmdmjlepmmejaaGreatDoorTie.lean); close each card by the builder's one call (the guide's Derived/Test/ToyasCard.lean, 'card_holds'). Laid BY PROGRAM, IN A SANDBOX (cutbox-door.mjs). By AI agents, Wed Nov 11 2026. No macro, syntax, notation, axiom, sorry.
-/
import Derived.Test.YtkmdmjlepmmejaaGreatDoorRows
import GoSem.ClaimSeven
namespace Go.Proofs.YtkmdmjlepmmejaaGreatDoor
namespace Rows

/-- THE TIED CARD OF 'holtlaw08.OplogPlays'. -/
def oplogPlaysCard : Claim7 := { stood := { row := oplogPlaysRow, standIns := [], harness := (true, "acf5eca2cb5093371479f917fe907b11aa1863b483ffc0a3005077727b692803"), looks := true }, kinds := [], alts := [], laidByText := true, laidKinds := [.data, .pinned], laidTests := true, laidLooks := .later }
def OplogPlaysCardSaid : Prop := Claim7.holds Tryz.pinned (.plain (OpenSpec.ofChange oplogPlaysSpec)) oplogPlaysCard

/-- THE TIED CARD OF 'holtlaw08.OplogOrder'. -/
def oplogOrderCard : Claim7 := { stood := { row := oplogOrderRow, standIns := [], harness := (true, "acf5eca2cb5093371479f917fe907b11aa1863b483ffc0a3005077727b692803"), looks := true }, kinds := [], alts := [], laidByText := true, laidKinds := [.data, .pinned], laidTests := true, laidLooks := .later }
def OplogOrderCardSaid : Prop := Claim7.holds Tryz.pinned (.plain (OpenSpec.ofChange oplogOrderSpec)) oplogOrderCard

/-- THE TIED CARD OF 'holtlaw08.OplogOwn'. -/
def oplogOwnCard : Claim7 := { stood := { row := oplogOwnRow, standIns := [], harness := (true, "acf5eca2cb5093371479f917fe907b11aa1863b483ffc0a3005077727b692803"), looks := true }, kinds := [], alts := [], laidByText := true, laidKinds := [.data, .pinned], laidTests := true, laidLooks := .later }
def OplogOwnCardSaid : Prop := Claim7.holds Tryz.pinned (.plain (OpenSpec.ofChange oplogOwnSpec)) oplogOwnCard

/-- THE TIED CARD OF 'holtlaw08.OplogClones'. -/
def oplogClonesCard : Claim7 := { stood := { row := oplogClonesRow, standIns := [], harness := (true, "acf5eca2cb5093371479f917fe907b11aa1863b483ffc0a3005077727b692803"), looks := true }, kinds := [], alts := [], laidByText := true, laidKinds := [.data, .pinned], laidTests := true, laidLooks := .later }
def OplogClonesCardSaid : Prop := Claim7.holds Tryz.pinned (.plain (OpenSpec.ofChange oplogClonesSpec)) oplogClonesCard

/-- THE SECOND FORM's CARD OF 'holtlaw08.OplogPlays'. -/
def oplogPlaysUptoCard : Claim7 := { stood := { row := oplogPlaysUptoRow, standIns := [], harness := (true, "acf5eca2cb5093371479f917fe907b11aa1863b483ffc0a3005077727b692803"), looks := true }, kinds := [], alts := [], laidByText := true, laidKinds := [.data, .pinned], laidTests := true, laidLooks := .later }
def OplogPlaysUptoCardSaid : Prop := Claim7.holds Tryz.pinned (.plain (OpenSpec.upto oplogPlaysSpec)) oplogPlaysUptoCard

/-- THE SECOND FORM's CARD OF 'holtlaw08.OplogOrder'. -/
def oplogOrderUptoCard : Claim7 := { stood := { row := oplogOrderUptoRow, standIns := [], harness := (true, "acf5eca2cb5093371479f917fe907b11aa1863b483ffc0a3005077727b692803"), looks := true }, kinds := [], alts := [], laidByText := true, laidKinds := [.data, .pinned], laidTests := true, laidLooks := .later }
def OplogOrderUptoCardSaid : Prop := Claim7.holds Tryz.pinned (.plain (OpenSpec.upto oplogOrderSpec)) oplogOrderUptoCard

/-- THE SECOND FORM's CARD OF 'holtlaw08.OplogOwn'. -/
def oplogOwnUptoCard : Claim7 := { stood := { row := oplogOwnUptoRow, standIns := [], harness := (true, "acf5eca2cb5093371479f917fe907b11aa1863b483ffc0a3005077727b692803"), looks := true }, kinds := [], alts := [], laidByText := true, laidKinds := [.data, .pinned], laidTests := true, laidLooks := .later }
def OplogOwnUptoCardSaid : Prop := Claim7.holds Tryz.pinned (.plain (OpenSpec.upto oplogOwnSpec)) oplogOwnUptoCard

/-- THE SECOND FORM's CARD OF 'holtlaw08.OplogClones'. -/
def oplogClonesUptoCard : Claim7 := { stood := { row := oplogClonesUptoRow, standIns := [], harness := (true, "acf5eca2cb5093371479f917fe907b11aa1863b483ffc0a3005077727b692803"), looks := true }, kinds := [], alts := [], laidByText := true, laidKinds := [.data, .pinned], laidTests := true, laidLooks := .later }
def OplogClonesUptoCardSaid : Prop := Claim7.holds Tryz.pinned (.plain (OpenSpec.upto oplogClonesSpec)) oplogClonesUptoCard
end Rows
end Go.Proofs.YtkmdmjlepmmejaaGreatDoor
