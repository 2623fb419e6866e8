/-
  DERIVED. GIVEN WITH THE SEED: THE CARDS: each row of YtfgapieofinadaaGreatDoorRows.lean that lists a variable, with what it lists TIED to the program's text (the seventh form; the later family's looks); each row that meets fmt, with fmt's text TOLD by the authors' own Lean function (tested against real Go, not proved from fmt's source: count such statements apart). THE CARD IS WHAT COUNTS. Prove the row's statement (the work); the ties are given (YtfgapieofinadaaGreatDoorTie.lean); close each card by the builder's one call (the guide's Derived/Test/ToyasCard.lean, 'card_holds'). Laid BY PROGRAM, IN A SANDBOX (cutbox-door.mjs). By AI agents, Wed Nov 11 2026. No macro, syntax, notation, axiom, sorry.
-/
import Derived.Test.YtfgapieofinadaaGreatDoorRows
import GoSem.ClaimSeven
namespace Go.Proofs.YtfgapieofinadaaGreatDoor
namespace Rows

/-- THE TIED CARD OF 'hornbooklaw28.OwnPlays'. -/
def ownPlaysCard : Claim7 := { stood := { row := ownPlaysRow, standIns := [], harness := (true, "9abf1f719af0f4c2768fd3078c25d469450800d09ffffb50f8bc9818408fec23"), looks := true }, kinds := [], alts := [], laidByText := true, laidKinds := [.data, .handle, .sentinel, .sentinel, .sentinel, .sentinel, .sentinel, .sentinel, .sentinel, .sentinel, .sentinel, .sentinel, .sentinel, .sentinel, .sentinel, .pinned], laidTests := true, laidLooks := .later }
def OwnPlaysCardSaid : Prop := Claim7.holds Tryz.pinned (.plain (OpenSpec.ofChange ownPlaysSpec)) ownPlaysCard

/-- THE TIED CARD OF 'hornbooklaw28.OwnOpens'. -/
def ownOpensCard : Claim7 := { stood := { row := ownOpensRow, standIns := [], harness := (true, "9abf1f719af0f4c2768fd3078c25d469450800d09ffffb50f8bc9818408fec23"), looks := true }, kinds := [], alts := [], laidByText := true, laidKinds := [.data, .handle, .sentinel, .sentinel, .sentinel, .sentinel, .sentinel, .sentinel, .sentinel, .sentinel, .sentinel, .sentinel, .sentinel, .sentinel, .sentinel, .pinned], laidTests := true, laidLooks := .later }
def OwnOpensCardSaid : Prop := Claim7.holds Tryz.pinned (.plain (OpenSpec.ofChange ownOpensSpec)) ownOpensCard

/-- THE TIED CARD OF 'hornbooklaw28.OwnSaved'. -/
def ownSavedCard : Claim7 := { stood := { row := ownSavedRow, standIns := [], harness := (true, "9abf1f719af0f4c2768fd3078c25d469450800d09ffffb50f8bc9818408fec23"), looks := true }, kinds := [], alts := [], laidByText := true, laidKinds := [.data, .handle, .sentinel, .sentinel, .sentinel, .sentinel, .sentinel, .sentinel, .sentinel, .sentinel, .sentinel, .sentinel, .sentinel, .sentinel, .sentinel, .pinned], laidTests := true, laidLooks := .later }
def OwnSavedCardSaid : Prop := Claim7.holds Tryz.pinned (.plain (OpenSpec.ofChange ownSavedSpec)) ownSavedCard

/-- THE SECOND FORM's CARD OF 'hornbooklaw28.OwnPlays'. -/
def ownPlaysUptoCard : Claim7 := { stood := { row := ownPlaysUptoRow, standIns := [], harness := (true, "9abf1f719af0f4c2768fd3078c25d469450800d09ffffb50f8bc9818408fec23"), looks := true }, kinds := [], alts := [], laidByText := true, laidKinds := [.data, .handle, .sentinel, .sentinel, .sentinel, .sentinel, .sentinel, .sentinel, .sentinel, .sentinel, .sentinel, .sentinel, .sentinel, .sentinel, .sentinel, .pinned], laidTests := true, laidLooks := .later }
def OwnPlaysUptoCardSaid : Prop := Claim7.holds Tryz.pinned (.plain (OpenSpec.upto ownPlaysSpec)) ownPlaysUptoCard

/-- THE SECOND FORM's CARD OF 'hornbooklaw28.OwnOpens'. -/
def ownOpensUptoCard : Claim7 := { stood := { row := ownOpensUptoRow, standIns := [], harness := (true, "9abf1f719af0f4c2768fd3078c25d469450800d09ffffb50f8bc9818408fec23"), looks := true }, kinds := [], alts := [], laidByText := true, laidKinds := [.data, .handle, .sentinel, .sentinel, .sentinel, .sentinel, .sentinel, .sentinel, .sentinel, .sentinel, .sentinel, .sentinel, .sentinel, .sentinel, .sentinel, .pinned], laidTests := true, laidLooks := .later }
def OwnOpensUptoCardSaid : Prop := Claim7.holds Tryz.pinned (.plain (OpenSpec.upto ownOpensSpec)) ownOpensUptoCard

/-- THE SECOND FORM's CARD OF 'hornbooklaw28.OwnSaved'. -/
def ownSavedUptoCard : Claim7 := { stood := { row := ownSavedUptoRow, standIns := [], harness := (true, "9abf1f719af0f4c2768fd3078c25d469450800d09ffffb50f8bc9818408fec23"), looks := true }, kinds := [], alts := [], laidByText := true, laidKinds := [.data, .handle, .sentinel, .sentinel, .sentinel, .sentinel, .sentinel, .sentinel, .sentinel, .sentinel, .sentinel, .sentinel, .sentinel, .sentinel, .sentinel, .pinned], laidTests := true, laidLooks := .later }
def OwnSavedUptoCardSaid : Prop := Claim7.holds Tryz.pinned (.plain (OpenSpec.upto ownSavedSpec)) ownSavedUptoCard
end Rows
end Go.Proofs.YtfgapieofinadaaGreatDoor
