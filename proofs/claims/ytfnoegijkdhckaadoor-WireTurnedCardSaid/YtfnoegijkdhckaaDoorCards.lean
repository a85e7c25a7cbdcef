/-
  DERIVED. GIVEN WITH THE SEED: THE CARDS: each row of YtfnoegijkdhckaaDoorRows.lean that lists a variable, with what it lists TIED to the program's text (the seventh form; the later family's looks); each row that meets fmt, with fmt's text TOLD by the authors' own Lean function (tested against real Go, not proved from fmt's source: count such statements apart). THE CARD IS WHAT COUNTS. Prove the row's statement (the work); the ties are given (YtfnoegijkdhckaaDoorTie.lean); close each card by the builder's one call (the guide's Derived/Test/ToyasCard.lean, 'card_holds'). Laid BY PROGRAM, IN A SANDBOX (cutbox-door.mjs). By AI agents, Wed Nov 11 2026. No macro, syntax, notation, axiom, sorry.
-/
import Derived.Test.YtfnoegijkdhckaaDoorRows
import GoSem.ClaimSeven
namespace Go.Proofs.YtfnoegijkdhckaaDoor
namespace Rows

/-- THE TIED CARD OF 'holtlaw06.WireEncodes'. -/
def wireEncodesCard : Claim7 := { stood := { row := wireEncodesRow, standIns := [], harness := (true, "ee8ca45ab003daabe33b4090dfd4d1995736ae94f68a9bda058eacab5fc92003"), looks := false }, kinds := [], alts := [], laidByText := true, laidKinds := [.data, .pinned], laidTests := true, laidLooks := .later }
def WireEncodesCardSaid : Prop := Claim7.holds Tryd.pinned (.plain (OpenSpec.ofChange wireEncodesSpec)) wireEncodesCard

/-- THE TIED CARD OF 'holtlaw06.WireDecodes'. -/
def wireDecodesCard : Claim7 := { stood := { row := wireDecodesRow, standIns := [], harness := (true, "ee8ca45ab003daabe33b4090dfd4d1995736ae94f68a9bda058eacab5fc92003"), looks := false }, kinds := [], alts := [], laidByText := true, laidKinds := [.data, .pinned], laidTests := true, laidLooks := .later }
def WireDecodesCardSaid : Prop := Claim7.holds Tryd.pinned (.plain (OpenSpec.ofChange wireDecodesSpec)) wireDecodesCard

/-- THE TIED CARD OF 'holtlaw06.WireBack'. -/
def wireBackCard : Claim7 := { stood := { row := wireBackRow, standIns := [], harness := (true, "ee8ca45ab003daabe33b4090dfd4d1995736ae94f68a9bda058eacab5fc92003"), looks := false }, kinds := [], alts := [], laidByText := true, laidKinds := [.data, .pinned], laidTests := true, laidLooks := .later }
def WireBackCardSaid : Prop := Claim7.holds Tryd.pinned (.plain (OpenSpec.ofChange wireBackSpec)) wireBackCard

/-- THE TIED CARD OF 'holtlaw06.WireTurned'. -/
def wireTurnedCard : Claim7 := { stood := { row := wireTurnedRow, standIns := [], harness := (true, "ee8ca45ab003daabe33b4090dfd4d1995736ae94f68a9bda058eacab5fc92003"), looks := false }, kinds := [], alts := [], laidByText := true, laidKinds := [.data, .pinned], laidTests := true, laidLooks := .later }
def WireTurnedCardSaid : Prop := Claim7.holds Tryd.pinned (.plain (OpenSpec.ofChange wireTurnedSpec)) wireTurnedCard

/-- THE TIED CARD OF 'holtlaw06.WireCuts'. -/
def wireCutsCard : Claim7 := { stood := { row := wireCutsRow, standIns := [], harness := (true, "ee8ca45ab003daabe33b4090dfd4d1995736ae94f68a9bda058eacab5fc92003"), looks := false }, kinds := [], alts := [], laidByText := true, laidKinds := [.data, .pinned], laidTests := true, laidLooks := .later }
def WireCutsCardSaid : Prop := Claim7.holds Tryd.pinned (.plain (OpenSpec.ofChange wireCutsSpec)) wireCutsCard

/-- THE TIED CARD OF 'holtlaw06.WireUnlike'. -/
def wireUnlikeCard : Claim7 := { stood := { row := wireUnlikeRow, standIns := [], harness := (true, "ee8ca45ab003daabe33b4090dfd4d1995736ae94f68a9bda058eacab5fc92003"), looks := false }, kinds := [], alts := [], laidByText := true, laidKinds := [.data, .pinned], laidTests := true, laidLooks := .later }
def WireUnlikeCardSaid : Prop := Claim7.holds Tryd.pinned (.plain (OpenSpec.ofChange wireUnlikeSpec)) wireUnlikeCard

/-- THE SECOND FORM's CARD OF 'holtlaw06.WireEncodes'. -/
def wireEncodesUptoCard : Claim7 := { stood := { row := wireEncodesUptoRow, standIns := [], harness := (true, "ee8ca45ab003daabe33b4090dfd4d1995736ae94f68a9bda058eacab5fc92003"), looks := false }, kinds := [], alts := [], laidByText := true, laidKinds := [.data, .pinned], laidTests := true, laidLooks := .later }
def WireEncodesUptoCardSaid : Prop := Claim7.holds Tryd.pinned (.plain (OpenSpec.upto wireEncodesSpec)) wireEncodesUptoCard

/-- THE SECOND FORM's CARD OF 'holtlaw06.WireDecodes'. -/
def wireDecodesUptoCard : Claim7 := { stood := { row := wireDecodesUptoRow, standIns := [], harness := (true, "ee8ca45ab003daabe33b4090dfd4d1995736ae94f68a9bda058eacab5fc92003"), looks := false }, kinds := [], alts := [], laidByText := true, laidKinds := [.data, .pinned], laidTests := true, laidLooks := .later }
def WireDecodesUptoCardSaid : Prop := Claim7.holds Tryd.pinned (.plain (OpenSpec.upto wireDecodesSpec)) wireDecodesUptoCard

/-- THE SECOND FORM's CARD OF 'holtlaw06.WireBack'. -/
def wireBackUptoCard : Claim7 := { stood := { row := wireBackUptoRow, standIns := [], harness := (true, "ee8ca45ab003daabe33b4090dfd4d1995736ae94f68a9bda058eacab5fc92003"), looks := false }, kinds := [], alts := [], laidByText := true, laidKinds := [.data, .pinned], laidTests := true, laidLooks := .later }
def WireBackUptoCardSaid : Prop := Claim7.holds Tryd.pinned (.plain (OpenSpec.upto wireBackSpec)) wireBackUptoCard

/-- THE SECOND FORM's CARD OF 'holtlaw06.WireTurned'. -/
def wireTurnedUptoCard : Claim7 := { stood := { row := wireTurnedUptoRow, standIns := [], harness := (true, "ee8ca45ab003daabe33b4090dfd4d1995736ae94f68a9bda058eacab5fc92003"), looks := false }, kinds := [], alts := [], laidByText := true, laidKinds := [.data, .pinned], laidTests := true, laidLooks := .later }
def WireTurnedUptoCardSaid : Prop := Claim7.holds Tryd.pinned (.plain (OpenSpec.upto wireTurnedSpec)) wireTurnedUptoCard

/-- THE SECOND FORM's CARD OF 'holtlaw06.WireCuts'. -/
def wireCutsUptoCard : Claim7 := { stood := { row := wireCutsUptoRow, standIns := [], harness := (true, "ee8ca45ab003daabe33b4090dfd4d1995736ae94f68a9bda058eacab5fc92003"), looks := false }, kinds := [], alts := [], laidByText := true, laidKinds := [.data, .pinned], laidTests := true, laidLooks := .later }
def WireCutsUptoCardSaid : Prop := Claim7.holds Tryd.pinned (.plain (OpenSpec.upto wireCutsSpec)) wireCutsUptoCard

/-- THE SECOND FORM's CARD OF 'holtlaw06.WireUnlike'. -/
def wireUnlikeUptoCard : Claim7 := { stood := { row := wireUnlikeUptoRow, standIns := [], harness := (true, "ee8ca45ab003daabe33b4090dfd4d1995736ae94f68a9bda058eacab5fc92003"), looks := false }, kinds := [], alts := [], laidByText := true, laidKinds := [.data, .pinned], laidTests := true, laidLooks := .later }
def WireUnlikeUptoCardSaid : Prop := Claim7.holds Tryd.pinned (.plain (OpenSpec.upto wireUnlikeSpec)) wireUnlikeUptoCard
end Rows
end Go.Proofs.YtfnoegijkdhckaaDoor
