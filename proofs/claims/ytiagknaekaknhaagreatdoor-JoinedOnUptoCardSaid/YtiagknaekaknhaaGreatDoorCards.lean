/-
  DERIVED. GIVEN WITH THE SEED: THE CARDS: each row of YtiagknaekaknhaaGreatDoorRows.lean that lists a variable, with what it lists TIED to the program's text (the seventh form; the later family's looks); each row that meets fmt, with fmt's text TOLD by the authors' own Lean function (tested against real Go, not proved from fmt's source: count such statements apart). THE CARD IS WHAT COUNTS. Prove the row's statement (the work); the ties are given (YtiagknaekaknhaaGreatDoorTie.lean); close each card by the builder's one call (the guide's Derived/Test/ToyasCard.lean, 'card_holds'). Laid BY PROGRAM, IN A SANDBOX (cutbox-door.mjs). By AI agents, Wed Nov 11 2026. No macro, syntax, notation, axiom, sorry.
-/
import Derived.Test.YtiagknaekaknhaaGreatDoorRows
import GoSem.ClaimSeven
namespace Go.Proofs.YtiagknaekaknhaaGreatDoor
namespace Rows

/-- THE TIED CARD OF 'hornbooklaw25.JoinedSplits'. -/
def joinedSplitsCard : Claim7 := { stood := { row := joinedSplitsRow, standIns := [], harness := (true, "15bc44ecd888781d67f5d762c0b967db8de00ecbc97a50c4998984eecc2f42b7"), looks := true }, kinds := [], alts := [], laidByText := true, laidKinds := [.data, .handle, .sentinel, .sentinel, .sentinel, .sentinel, .sentinel, .sentinel, .sentinel, .sentinel, .sentinel, .sentinel, .sentinel, .sentinel, .sentinel, .pinned], laidTests := true, laidLooks := .later }
def JoinedSplitsCardSaid : Prop := Claim7.holds Tryz.pinned (.plain (OpenSpec.ofChange joinedSplitsSpec)) joinedSplitsCard

/-- THE TIED CARD OF 'hornbooklaw25.JoinedCounts'. -/
def joinedCountsCard : Claim7 := { stood := { row := joinedCountsRow, standIns := [], harness := (true, "15bc44ecd888781d67f5d762c0b967db8de00ecbc97a50c4998984eecc2f42b7"), looks := true }, kinds := [], alts := [], laidByText := true, laidKinds := [.data, .handle, .sentinel, .sentinel, .sentinel, .sentinel, .sentinel, .sentinel, .sentinel, .sentinel, .sentinel, .sentinel, .sentinel, .sentinel, .sentinel, .pinned], laidTests := true, laidLooks := .later }
def JoinedCountsCardSaid : Prop := Claim7.holds Tryz.pinned (.plain (OpenSpec.ofChange joinedCountsSpec)) joinedCountsCard

/-- THE TIED CARD OF 'hornbooklaw25.JoinedSound'. -/
def joinedSoundCard : Claim7 := { stood := { row := joinedSoundRow, standIns := [], harness := (true, "15bc44ecd888781d67f5d762c0b967db8de00ecbc97a50c4998984eecc2f42b7"), looks := true }, kinds := [], alts := [], laidByText := true, laidKinds := [.data, .handle, .sentinel, .sentinel, .sentinel, .sentinel, .sentinel, .sentinel, .sentinel, .sentinel, .sentinel, .sentinel, .sentinel, .sentinel, .sentinel, .pinned], laidTests := true, laidLooks := .later }
def JoinedSoundCardSaid : Prop := Claim7.holds Tryz.pinned (.plain (OpenSpec.ofChange joinedSoundSpec)) joinedSoundCard

/-- THE TIED CARD OF 'hornbooklaw25.JoinedMade'. -/
def joinedMadeCard : Claim7 := { stood := { row := joinedMadeRow, standIns := [], harness := (true, "15bc44ecd888781d67f5d762c0b967db8de00ecbc97a50c4998984eecc2f42b7"), looks := true }, kinds := [], alts := [], laidByText := true, laidKinds := [.data, .handle, .sentinel, .sentinel, .sentinel, .sentinel, .sentinel, .sentinel, .sentinel, .sentinel, .sentinel, .sentinel, .sentinel, .sentinel, .sentinel, .pinned], laidTests := true, laidLooks := .later }
def JoinedMadeCardSaid : Prop := Claim7.holds Tryz.pinned (.plain (OpenSpec.ofChange joinedMadeSpec)) joinedMadeCard

/-- THE TIED CARD OF 'hornbooklaw25.JoinedOn'. -/
def joinedOnCard : Claim7 := { stood := { row := joinedOnRow, standIns := [], harness := (true, "15bc44ecd888781d67f5d762c0b967db8de00ecbc97a50c4998984eecc2f42b7"), looks := true }, kinds := [], alts := [], laidByText := true, laidKinds := [.data, .handle, .sentinel, .sentinel, .sentinel, .sentinel, .sentinel, .sentinel, .sentinel, .sentinel, .sentinel, .sentinel, .sentinel, .sentinel, .sentinel, .pinned], laidTests := true, laidLooks := .later }
def JoinedOnCardSaid : Prop := Claim7.holds Tryz.pinned (.plain (OpenSpec.ofChange joinedOnSpec)) joinedOnCard

/-- THE SECOND FORM's CARD OF 'hornbooklaw25.JoinedSplits'. -/
def joinedSplitsUptoCard : Claim7 := { stood := { row := joinedSplitsUptoRow, standIns := [], harness := (true, "15bc44ecd888781d67f5d762c0b967db8de00ecbc97a50c4998984eecc2f42b7"), looks := true }, kinds := [], alts := [], laidByText := true, laidKinds := [.data, .handle, .sentinel, .sentinel, .sentinel, .sentinel, .sentinel, .sentinel, .sentinel, .sentinel, .sentinel, .sentinel, .sentinel, .sentinel, .sentinel, .pinned], laidTests := true, laidLooks := .later }
def JoinedSplitsUptoCardSaid : Prop := Claim7.holds Tryz.pinned (.plain (OpenSpec.upto joinedSplitsSpec)) joinedSplitsUptoCard

/-- THE SECOND FORM's CARD OF 'hornbooklaw25.JoinedCounts'. -/
def joinedCountsUptoCard : Claim7 := { stood := { row := joinedCountsUptoRow, standIns := [], harness := (true, "15bc44ecd888781d67f5d762c0b967db8de00ecbc97a50c4998984eecc2f42b7"), looks := true }, kinds := [], alts := [], laidByText := true, laidKinds := [.data, .handle, .sentinel, .sentinel, .sentinel, .sentinel, .sentinel, .sentinel, .sentinel, .sentinel, .sentinel, .sentinel, .sentinel, .sentinel, .sentinel, .pinned], laidTests := true, laidLooks := .later }
def JoinedCountsUptoCardSaid : Prop := Claim7.holds Tryz.pinned (.plain (OpenSpec.upto joinedCountsSpec)) joinedCountsUptoCard

/-- THE SECOND FORM's CARD OF 'hornbooklaw25.JoinedSound'. -/
def joinedSoundUptoCard : Claim7 := { stood := { row := joinedSoundUptoRow, standIns := [], harness := (true, "15bc44ecd888781d67f5d762c0b967db8de00ecbc97a50c4998984eecc2f42b7"), looks := true }, kinds := [], alts := [], laidByText := true, laidKinds := [.data, .handle, .sentinel, .sentinel, .sentinel, .sentinel, .sentinel, .sentinel, .sentinel, .sentinel, .sentinel, .sentinel, .sentinel, .sentinel, .sentinel, .pinned], laidTests := true, laidLooks := .later }
def JoinedSoundUptoCardSaid : Prop := Claim7.holds Tryz.pinned (.plain (OpenSpec.upto joinedSoundSpec)) joinedSoundUptoCard

/-- THE SECOND FORM's CARD OF 'hornbooklaw25.JoinedMade'. -/
def joinedMadeUptoCard : Claim7 := { stood := { row := joinedMadeUptoRow, standIns := [], harness := (true, "15bc44ecd888781d67f5d762c0b967db8de00ecbc97a50c4998984eecc2f42b7"), looks := true }, kinds := [], alts := [], laidByText := true, laidKinds := [.data, .handle, .sentinel, .sentinel, .sentinel, .sentinel, .sentinel, .sentinel, .sentinel, .sentinel, .sentinel, .sentinel, .sentinel, .sentinel, .sentinel, .pinned], laidTests := true, laidLooks := .later }
def JoinedMadeUptoCardSaid : Prop := Claim7.holds Tryz.pinned (.plain (OpenSpec.upto joinedMadeSpec)) joinedMadeUptoCard

/-- THE SECOND FORM's CARD OF 'hornbooklaw25.JoinedOn'. -/
def joinedOnUptoCard : Claim7 := { stood := { row := joinedOnUptoRow, standIns := [], harness := (true, "15bc44ecd888781d67f5d762c0b967db8de00ecbc97a50c4998984eecc2f42b7"), looks := true }, kinds := [], alts := [], laidByText := true, laidKinds := [.data, .handle, .sentinel, .sentinel, .sentinel, .sentinel, .sentinel, .sentinel, .sentinel, .sentinel, .sentinel, .sentinel, .sentinel, .sentinel, .sentinel, .pinned], laidTests := true, laidLooks := .later }
def JoinedOnUptoCardSaid : Prop := Claim7.holds Tryz.pinned (.plain (OpenSpec.upto joinedOnSpec)) joinedOnUptoCard
end Rows
end Go.Proofs.YtiagknaekaknhaaGreatDoor
