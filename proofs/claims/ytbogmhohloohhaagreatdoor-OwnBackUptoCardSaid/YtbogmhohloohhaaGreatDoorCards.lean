/-
  DERIVED. GIVEN WITH THE SEED: THE CARDS: each row of YtbogmhohloohhaaGreatDoorRows.lean that lists a variable, with what it lists TIED to the program's text (the seventh form; the later family's looks); each row that meets fmt, with fmt's text TOLD by the authors' own Lean function (tested against real Go, not proved from fmt's source: count such statements apart). THE CARD IS WHAT COUNTS. Prove the row's statement (the work); the ties are given (YtbogmhohloohhaaGreatDoorTie.lean); close each card by the builder's one call (the guide's Derived/Test/ToyasCard.lean, 'card_holds'). Laid BY PROGRAM, IN A SANDBOX (cutbox-door.mjs). By AI agents, Wed Nov 11 2026. No macro, syntax, notation, axiom, sorry.
-/
import Derived.Test.YtbogmhohloohhaaGreatDoorRows
import GoSem.ClaimSeven
namespace Go.Proofs.YtbogmhohloohhaaGreatDoor
namespace Rows

/-- THE TIED CARD OF 'hornbooklaw28.OwnBack'. -/
def ownBackCard : Claim7 := { stood := { row := ownBackRow, standIns := [], harness := (true, "3480c02e1d89fcaec7f147d70075877cc2a852e0b9afc921d284188ccdf5b8d2"), looks := true }, kinds := [], alts := [], laidByText := true, laidKinds := [.data, .handle, .sentinel, .sentinel, .sentinel, .sentinel, .sentinel, .sentinel, .sentinel, .sentinel, .sentinel, .sentinel, .sentinel, .sentinel, .sentinel, .pinned], laidTests := true, laidLooks := .later }
def OwnBackCardSaid : Prop := Claim7.holds Tryz.pinned (.plain (OpenSpec.ofChange ownBackSpec)) ownBackCard

/-- THE TIED CARD OF 'hornbooklaw28.OwnNone'. -/
def ownNoneCard : Claim7 := { stood := { row := ownNoneRow, standIns := [], harness := (true, "3480c02e1d89fcaec7f147d70075877cc2a852e0b9afc921d284188ccdf5b8d2"), looks := true }, kinds := [], alts := [], laidByText := true, laidKinds := [.data, .handle, .sentinel, .sentinel, .sentinel, .sentinel, .sentinel, .sentinel, .sentinel, .sentinel, .sentinel, .sentinel, .sentinel, .sentinel, .sentinel, .pinned], laidTests := true, laidLooks := .later }
def OwnNoneCardSaid : Prop := Claim7.holds Tryz.pinned (.plain (OpenSpec.ofChange ownNoneSpec)) ownNoneCard

/-- THE TIED CARD OF 'hornbooklaw28.OwnSaved'. -/
def ownSavedCard : Claim7 := { stood := { row := ownSavedRow, standIns := [], harness := (true, "3480c02e1d89fcaec7f147d70075877cc2a852e0b9afc921d284188ccdf5b8d2"), looks := true }, kinds := [], alts := [], laidByText := true, laidKinds := [.data, .handle, .sentinel, .sentinel, .sentinel, .sentinel, .sentinel, .sentinel, .sentinel, .sentinel, .sentinel, .sentinel, .sentinel, .sentinel, .sentinel, .pinned], laidTests := true, laidLooks := .later }
def OwnSavedCardSaid : Prop := Claim7.holds Tryz.pinned (.plain (OpenSpec.ofChange ownSavedSpec)) ownSavedCard

/-- THE SECOND FORM's CARD OF 'hornbooklaw28.OwnBack'. -/
def ownBackUptoCard : Claim7 := { stood := { row := ownBackUptoRow, standIns := [], harness := (true, "3480c02e1d89fcaec7f147d70075877cc2a852e0b9afc921d284188ccdf5b8d2"), looks := true }, kinds := [], alts := [], laidByText := true, laidKinds := [.data, .handle, .sentinel, .sentinel, .sentinel, .sentinel, .sentinel, .sentinel, .sentinel, .sentinel, .sentinel, .sentinel, .sentinel, .sentinel, .sentinel, .pinned], laidTests := true, laidLooks := .later }
def OwnBackUptoCardSaid : Prop := Claim7.holds Tryz.pinned (.plain (OpenSpec.upto ownBackSpec)) ownBackUptoCard

/-- THE SECOND FORM's CARD OF 'hornbooklaw28.OwnNone'. -/
def ownNoneUptoCard : Claim7 := { stood := { row := ownNoneUptoRow, standIns := [], harness := (true, "3480c02e1d89fcaec7f147d70075877cc2a852e0b9afc921d284188ccdf5b8d2"), looks := true }, kinds := [], alts := [], laidByText := true, laidKinds := [.data, .handle, .sentinel, .sentinel, .sentinel, .sentinel, .sentinel, .sentinel, .sentinel, .sentinel, .sentinel, .sentinel, .sentinel, .sentinel, .sentinel, .pinned], laidTests := true, laidLooks := .later }
def OwnNoneUptoCardSaid : Prop := Claim7.holds Tryz.pinned (.plain (OpenSpec.upto ownNoneSpec)) ownNoneUptoCard

/-- THE SECOND FORM's CARD OF 'hornbooklaw28.OwnSaved'. -/
def ownSavedUptoCard : Claim7 := { stood := { row := ownSavedUptoRow, standIns := [], harness := (true, "3480c02e1d89fcaec7f147d70075877cc2a852e0b9afc921d284188ccdf5b8d2"), looks := true }, kinds := [], alts := [], laidByText := true, laidKinds := [.data, .handle, .sentinel, .sentinel, .sentinel, .sentinel, .sentinel, .sentinel, .sentinel, .sentinel, .sentinel, .sentinel, .sentinel, .sentinel, .sentinel, .pinned], laidTests := true, laidLooks := .later }
def OwnSavedUptoCardSaid : Prop := Claim7.holds Tryz.pinned (.plain (OpenSpec.upto ownSavedSpec)) ownSavedUptoCard
end Rows
end Go.Proofs.YtbogmhohloohhaaGreatDoor
