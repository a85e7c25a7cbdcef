/-
  DERIVED. GIVEN WITH THE SEED: THE CARDS: each row of YtmdfgjjbllbjmaaDoorRows.lean that lists a variable, with what it lists TIED to the program's text (the seventh form; the later family's looks); each row that meets fmt, with fmt's text TOLD by the authors' own Lean function (tested against real Go, not proved from fmt's source: count such statements apart). THE CARD IS WHAT COUNTS. Prove the row's statement (the work); the ties are given (YtmdfgjjbllbjmaaDoorTie.lean); close each card by the builder's one call (the guide's Derived/Test/ToyasCard.lean, 'card_holds'). Laid BY PROGRAM, IN A SANDBOX (cutbox-door.mjs). By AI agents, Wed Nov 11 2026. No macro, syntax, notation, axiom, sorry.
-/
import Derived.Test.YtmdfgjjbllbjmaaDoorRows
import GoSem.ClaimSeven
namespace Go.Proofs.YtmdfgjjbllbjmaaDoor
namespace Rows

/-- THE TIED CARD OF 'holtlaw03.NameTells'. -/
def nameTellsCard : Claim7 := { stood := { row := nameTellsRow, standIns := [], harness := (true, "8725d740987b525c1f037dff4718182bddffe2afb8712178b394206667505f26"), looks := false }, kinds := [], alts := [], laidByText := true, laidKinds := [.data, .pinned], laidTests := true, laidLooks := .later }
def NameTellsCardSaid : Prop := Claim7.holds Tryd.pinned (.plain (OpenSpec.ofChange nameTellsSpec)) nameTellsCard

/-- THE TIED CARD OF 'holtlaw03.NameJoins'. -/
def nameJoinsCard : Claim7 := { stood := { row := nameJoinsRow, standIns := [], harness := (true, "8725d740987b525c1f037dff4718182bddffe2afb8712178b394206667505f26"), looks := false }, kinds := [], alts := [], laidByText := true, laidKinds := [.data, .pinned], laidTests := true, laidLooks := .later }
def NameJoinsCardSaid : Prop := Claim7.holds Tryd.pinned (.plain (OpenSpec.ofChange nameJoinsSpec)) nameJoinsCard

/-- THE TIED CARD OF 'holtlaw03.NameBack'. -/
def nameBackCard : Claim7 := { stood := { row := nameBackRow, standIns := [], harness := (true, "8725d740987b525c1f037dff4718182bddffe2afb8712178b394206667505f26"), looks := false }, kinds := [], alts := [], laidByText := true, laidKinds := [.data, .pinned], laidTests := true, laidLooks := .later }
def NameBackCardSaid : Prop := Claim7.holds Tryd.pinned (.plain (OpenSpec.ofChange nameBackSpec)) nameBackCard

/-- THE TIED CARD OF 'holtlaw03.NameCuts'. -/
def nameCutsCard : Claim7 := { stood := { row := nameCutsRow, standIns := [], harness := (true, "8725d740987b525c1f037dff4718182bddffe2afb8712178b394206667505f26"), looks := false }, kinds := [], alts := [], laidByText := true, laidKinds := [.data, .pinned], laidTests := true, laidLooks := .later }
def NameCutsCardSaid : Prop := Claim7.holds Tryd.pinned (.plain (OpenSpec.ofChange nameCutsSpec)) nameCutsCard

/-- THE TIED CARD OF 'holtlaw03.NameLonger'. -/
def nameLongerCard : Claim7 := { stood := { row := nameLongerRow, standIns := [], harness := (true, "8725d740987b525c1f037dff4718182bddffe2afb8712178b394206667505f26"), looks := false }, kinds := [], alts := [], laidByText := true, laidKinds := [.data, .pinned], laidTests := true, laidLooks := .later }
def NameLongerCardSaid : Prop := Claim7.holds Tryd.pinned (.plain (OpenSpec.ofChange nameLongerSpec)) nameLongerCard

/-- THE TIED CARD OF 'holtlaw03.NamePrefix'. -/
def namePrefixCard : Claim7 := { stood := { row := namePrefixRow, standIns := [], harness := (true, "8725d740987b525c1f037dff4718182bddffe2afb8712178b394206667505f26"), looks := false }, kinds := [], alts := [], laidByText := true, laidKinds := [.data, .pinned], laidTests := true, laidLooks := .later }
def NamePrefixCardSaid : Prop := Claim7.holds Tryd.pinned (.plain (OpenSpec.ofChange namePrefixSpec)) namePrefixCard

/-- THE SECOND FORM's CARD OF 'holtlaw03.NameTells'. -/
def nameTellsUptoCard : Claim7 := { stood := { row := nameTellsUptoRow, standIns := [], harness := (true, "8725d740987b525c1f037dff4718182bddffe2afb8712178b394206667505f26"), looks := false }, kinds := [], alts := [], laidByText := true, laidKinds := [.data, .pinned], laidTests := true, laidLooks := .later }
def NameTellsUptoCardSaid : Prop := Claim7.holds Tryd.pinned (.plain (OpenSpec.upto nameTellsSpec)) nameTellsUptoCard

/-- THE SECOND FORM's CARD OF 'holtlaw03.NameJoins'. -/
def nameJoinsUptoCard : Claim7 := { stood := { row := nameJoinsUptoRow, standIns := [], harness := (true, "8725d740987b525c1f037dff4718182bddffe2afb8712178b394206667505f26"), looks := false }, kinds := [], alts := [], laidByText := true, laidKinds := [.data, .pinned], laidTests := true, laidLooks := .later }
def NameJoinsUptoCardSaid : Prop := Claim7.holds Tryd.pinned (.plain (OpenSpec.upto nameJoinsSpec)) nameJoinsUptoCard

/-- THE SECOND FORM's CARD OF 'holtlaw03.NameBack'. -/
def nameBackUptoCard : Claim7 := { stood := { row := nameBackUptoRow, standIns := [], harness := (true, "8725d740987b525c1f037dff4718182bddffe2afb8712178b394206667505f26"), looks := false }, kinds := [], alts := [], laidByText := true, laidKinds := [.data, .pinned], laidTests := true, laidLooks := .later }
def NameBackUptoCardSaid : Prop := Claim7.holds Tryd.pinned (.plain (OpenSpec.upto nameBackSpec)) nameBackUptoCard

/-- THE SECOND FORM's CARD OF 'holtlaw03.NameCuts'. -/
def nameCutsUptoCard : Claim7 := { stood := { row := nameCutsUptoRow, standIns := [], harness := (true, "8725d740987b525c1f037dff4718182bddffe2afb8712178b394206667505f26"), looks := false }, kinds := [], alts := [], laidByText := true, laidKinds := [.data, .pinned], laidTests := true, laidLooks := .later }
def NameCutsUptoCardSaid : Prop := Claim7.holds Tryd.pinned (.plain (OpenSpec.upto nameCutsSpec)) nameCutsUptoCard

/-- THE SECOND FORM's CARD OF 'holtlaw03.NameLonger'. -/
def nameLongerUptoCard : Claim7 := { stood := { row := nameLongerUptoRow, standIns := [], harness := (true, "8725d740987b525c1f037dff4718182bddffe2afb8712178b394206667505f26"), looks := false }, kinds := [], alts := [], laidByText := true, laidKinds := [.data, .pinned], laidTests := true, laidLooks := .later }
def NameLongerUptoCardSaid : Prop := Claim7.holds Tryd.pinned (.plain (OpenSpec.upto nameLongerSpec)) nameLongerUptoCard

/-- THE SECOND FORM's CARD OF 'holtlaw03.NamePrefix'. -/
def namePrefixUptoCard : Claim7 := { stood := { row := namePrefixUptoRow, standIns := [], harness := (true, "8725d740987b525c1f037dff4718182bddffe2afb8712178b394206667505f26"), looks := false }, kinds := [], alts := [], laidByText := true, laidKinds := [.data, .pinned], laidTests := true, laidLooks := .later }
def NamePrefixUptoCardSaid : Prop := Claim7.holds Tryd.pinned (.plain (OpenSpec.upto namePrefixSpec)) namePrefixUptoCard
end Rows
end Go.Proofs.YtmdfgjjbllbjmaaDoor
