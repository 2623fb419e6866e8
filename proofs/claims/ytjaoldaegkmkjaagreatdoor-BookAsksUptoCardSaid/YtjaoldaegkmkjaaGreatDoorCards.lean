/-
  DERIVED. GIVEN WITH THE SEED: THE CARDS: each row of YtjaoldaegkmkjaaGreatDoorRows.lean that lists a variable, with what it lists TIED to the program's text (the seventh form; the later family's looks); each row that meets fmt, with fmt's text TOLD by the authors' own Lean function (tested against real Go, not proved from fmt's source: count such statements apart). THE CARD IS WHAT COUNTS. Prove the row's statement (the work); the ties are given (YtjaoldaegkmkjaaGreatDoorTie.lean); close each card by the builder's one call (the guide's Derived/Test/ToyasCard.lean, 'card_holds'). Laid BY PROGRAM, IN A SANDBOX (cutbox-door.mjs). By AI agents, Wed Nov 11 2026. No macro, syntax, notation, axiom, sorry.
-/
import Derived.Test.YtjaoldaegkmkjaaGreatDoorRows
import GoSem.ClaimSeven
namespace Go.Proofs.YtjaoldaegkmkjaaGreatDoor
namespace Rows

/-- THE TIED CARD OF 'hornbooklaw21.BookLoads'. -/
def bookLoadsCard : Claim7 := { stood := { row := bookLoadsRow, standIns := [], harness := (true, "fdccd6e750eb20e6d5da0afee000ea55b7a3db3c7ec598d36b43fed1d77a3e04"), looks := true }, kinds := [], alts := [], laidByText := true, laidKinds := [.data, .handle, .sentinel, .sentinel, .sentinel, .sentinel, .sentinel, .sentinel, .sentinel, .sentinel, .sentinel, .sentinel, .sentinel, .sentinel, .sentinel, .pinned], laidTests := true, laidLooks := .later }
def BookLoadsCardSaid : Prop := Claim7.holds Tryz.pinned (.plain (OpenSpec.ofChange bookLoadsSpec)) bookLoadsCard

/-- THE TIED CARD OF 'hornbooklaw21.BookAsks'. -/
def bookAsksCard : Claim7 := { stood := { row := bookAsksRow, standIns := [], harness := (true, "fdccd6e750eb20e6d5da0afee000ea55b7a3db3c7ec598d36b43fed1d77a3e04"), looks := true }, kinds := [], alts := [], laidByText := true, laidKinds := [.data, .handle, .sentinel, .sentinel, .sentinel, .sentinel, .sentinel, .sentinel, .sentinel, .sentinel, .sentinel, .sentinel, .sentinel, .sentinel, .sentinel, .pinned], laidTests := true, laidLooks := .later }
def BookAsksCardSaid : Prop := Claim7.holds Tryz.pinned (.plain (OpenSpec.ofChange bookAsksSpec)) bookAsksCard

/-- THE TIED CARD OF 'hornbooklaw21.BookKeeps'. -/
def bookKeepsCard : Claim7 := { stood := { row := bookKeepsRow, standIns := [], harness := (true, "fdccd6e750eb20e6d5da0afee000ea55b7a3db3c7ec598d36b43fed1d77a3e04"), looks := true }, kinds := [], alts := [], laidByText := true, laidKinds := [.data, .handle, .sentinel, .sentinel, .sentinel, .sentinel, .sentinel, .sentinel, .sentinel, .sentinel, .sentinel, .sentinel, .sentinel, .sentinel, .sentinel, .pinned], laidTests := true, laidLooks := .later }
def BookKeepsCardSaid : Prop := Claim7.holds Tryz.pinned (.plain (OpenSpec.ofChange bookKeepsSpec)) bookKeepsCard

/-- THE SECOND FORM's CARD OF 'hornbooklaw21.BookLoads'. -/
def bookLoadsUptoCard : Claim7 := { stood := { row := bookLoadsUptoRow, standIns := [], harness := (true, "fdccd6e750eb20e6d5da0afee000ea55b7a3db3c7ec598d36b43fed1d77a3e04"), looks := true }, kinds := [], alts := [], laidByText := true, laidKinds := [.data, .handle, .sentinel, .sentinel, .sentinel, .sentinel, .sentinel, .sentinel, .sentinel, .sentinel, .sentinel, .sentinel, .sentinel, .sentinel, .sentinel, .pinned], laidTests := true, laidLooks := .later }
def BookLoadsUptoCardSaid : Prop := Claim7.holds Tryz.pinned (.plain (OpenSpec.upto bookLoadsSpec)) bookLoadsUptoCard

/-- THE SECOND FORM's CARD OF 'hornbooklaw21.BookAsks'. -/
def bookAsksUptoCard : Claim7 := { stood := { row := bookAsksUptoRow, standIns := [], harness := (true, "fdccd6e750eb20e6d5da0afee000ea55b7a3db3c7ec598d36b43fed1d77a3e04"), looks := true }, kinds := [], alts := [], laidByText := true, laidKinds := [.data, .handle, .sentinel, .sentinel, .sentinel, .sentinel, .sentinel, .sentinel, .sentinel, .sentinel, .sentinel, .sentinel, .sentinel, .sentinel, .sentinel, .pinned], laidTests := true, laidLooks := .later }
def BookAsksUptoCardSaid : Prop := Claim7.holds Tryz.pinned (.plain (OpenSpec.upto bookAsksSpec)) bookAsksUptoCard

/-- THE SECOND FORM's CARD OF 'hornbooklaw21.BookKeeps'. -/
def bookKeepsUptoCard : Claim7 := { stood := { row := bookKeepsUptoRow, standIns := [], harness := (true, "fdccd6e750eb20e6d5da0afee000ea55b7a3db3c7ec598d36b43fed1d77a3e04"), looks := true }, kinds := [], alts := [], laidByText := true, laidKinds := [.data, .handle, .sentinel, .sentinel, .sentinel, .sentinel, .sentinel, .sentinel, .sentinel, .sentinel, .sentinel, .sentinel, .sentinel, .sentinel, .sentinel, .pinned], laidTests := true, laidLooks := .later }
def BookKeepsUptoCardSaid : Prop := Claim7.holds Tryz.pinned (.plain (OpenSpec.upto bookKeepsSpec)) bookKeepsUptoCard
end Rows
end Go.Proofs.YtjaoldaegkmkjaaGreatDoor
