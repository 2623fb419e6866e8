/-
  DERIVED. GIVEN WITH THE SEED: THE CARDS: each row of YtffmhpaepdkabaaGreatDoorRows.lean that lists a variable, with what it lists TIED to the program's text (the seventh form; the later family's looks); each row that meets fmt, with fmt's text TOLD by the authors' own Lean function (tested against real Go, not proved from fmt's source: count such statements apart). THE CARD IS WHAT COUNTS. Prove the row's statement (the work); the ties are given (YtffmhpaepdkabaaGreatDoorTie.lean); close each card by the builder's one call (the guide's Derived/Test/ToyasCard.lean, 'card_holds'). Laid BY PROGRAM, IN A SANDBOX (cutbox-door.mjs). By AI agents, Wed Nov 11 2026. No macro, syntax, notation, axiom, sorry.
-/
import Derived.Test.YtffmhpaepdkabaaGreatDoorRows
import GoSem.ClaimSeven
namespace Go.Proofs.YtffmhpaepdkabaaGreatDoor
namespace Rows

/-- THE TIED CARD OF 'hornbooklaw16.DeriveLists'. -/
def deriveListsCard : Claim7 := { stood := { row := deriveListsRow, standIns := [], harness := (true, "110e7420f6531483054808f7ee960a2db4a2f283ede945eb385ae9751eaf64d4"), looks := true }, kinds := [], alts := [], laidByText := true, laidKinds := [.data, .pinned], laidTests := true, laidLooks := .later }
def DeriveListsCardSaid : Prop := Claim7.holds Tryz.pinned (.plain (OpenSpec.ofChange deriveListsSpec)) deriveListsCard

/-- THE TIED CARD OF 'hornbooklaw16.DeriveEach'. -/
def deriveEachCard : Claim7 := { stood := { row := deriveEachRow, standIns := [], harness := (true, "110e7420f6531483054808f7ee960a2db4a2f283ede945eb385ae9751eaf64d4"), looks := true }, kinds := [], alts := [], laidByText := true, laidKinds := [.data, .pinned], laidTests := true, laidLooks := .later }
def DeriveEachCardSaid : Prop := Claim7.holds Tryz.pinned (.plain (OpenSpec.ofChange deriveEachSpec)) deriveEachCard

/-- THE TIED CARD OF 'hornbooklaw16.DeriveWalks'. -/
def deriveWalksCard : Claim7 := { stood := { row := deriveWalksRow, standIns := [], harness := (true, "110e7420f6531483054808f7ee960a2db4a2f283ede945eb385ae9751eaf64d4"), looks := true }, kinds := [], alts := [], laidByText := true, laidKinds := [.data, .pinned], laidTests := true, laidLooks := .later }
def DeriveWalksCardSaid : Prop := Claim7.holds Tryz.pinned (.plain (OpenSpec.ofChange deriveWalksSpec)) deriveWalksCard

/-- THE TIED CARD OF 'hornbooklaw16.DeriveWhole'. -/
def deriveWholeCard : Claim7 := { stood := { row := deriveWholeRow, standIns := [], harness := (true, "110e7420f6531483054808f7ee960a2db4a2f283ede945eb385ae9751eaf64d4"), looks := true }, kinds := [], alts := [], laidByText := true, laidKinds := [.data, .pinned], laidTests := true, laidLooks := .later }
def DeriveWholeCardSaid : Prop := Claim7.holds Tryz.pinned (.plain (OpenSpec.ofChange deriveWholeSpec)) deriveWholeCard

/-- THE TIED CARD OF 'hornbooklaw16.DeriveMeasures'. -/
def deriveMeasuresCard : Claim7 := { stood := { row := deriveMeasuresRow, standIns := [], harness := (true, "110e7420f6531483054808f7ee960a2db4a2f283ede945eb385ae9751eaf64d4"), looks := true }, kinds := [], alts := [], laidByText := true, laidKinds := [.data, .pinned], laidTests := true, laidLooks := .later }
def DeriveMeasuresCardSaid : Prop := Claim7.holds Tryz.pinned (.plain (OpenSpec.ofChange deriveMeasuresSpec)) deriveMeasuresCard

/-- THE TIED CARD OF 'hornbooklaw16.DeriveSound'. -/
def deriveSoundCard : Claim7 := { stood := { row := deriveSoundRow, standIns := [], harness := (true, "110e7420f6531483054808f7ee960a2db4a2f283ede945eb385ae9751eaf64d4"), looks := true }, kinds := [], alts := [], laidByText := true, laidKinds := [.data, .pinned], laidTests := true, laidLooks := .later }
def DeriveSoundCardSaid : Prop := Claim7.holds Tryz.pinned (.plain (OpenSpec.ofChange deriveSoundSpec)) deriveSoundCard

/-- THE TIED CARD OF 'hornbooklaw16.DeriveWants'. -/
def deriveWantsCard : Claim7 := { stood := { row := deriveWantsRow, standIns := [], harness := (true, "110e7420f6531483054808f7ee960a2db4a2f283ede945eb385ae9751eaf64d4"), looks := true }, kinds := [], alts := [], laidByText := true, laidKinds := [.data, .sentinel, .sentinel, .sentinel, .sentinel, .sentinel, .sentinel, .sentinel, .sentinel, .sentinel, .sentinel, .sentinel, .pinned], laidTests := true, laidLooks := .later }
def DeriveWantsCardSaid : Prop := Claim7.holds Tryz.pinned (.plain (OpenSpec.ofChange deriveWantsSpec)) deriveWantsCard

/-- THE TIED CARD OF 'hornbooklaw16.DeriveFeeds'. -/
def deriveFeedsCard : Claim7 := { stood := { row := deriveFeedsRow, standIns := [], harness := (true, "110e7420f6531483054808f7ee960a2db4a2f283ede945eb385ae9751eaf64d4"), looks := true }, kinds := [], alts := [], laidByText := true, laidKinds := [.data, .sentinel, .sentinel, .sentinel, .sentinel, .sentinel, .sentinel, .sentinel, .sentinel, .sentinel, .sentinel, .sentinel, .pinned], laidTests := true, laidLooks := .later }
def DeriveFeedsCardSaid : Prop := Claim7.holds Tryz.pinned (.plain (OpenSpec.ofChange deriveFeedsSpec)) deriveFeedsCard

/-- THE SECOND FORM's CARD OF 'hornbooklaw16.DeriveLists'. -/
def deriveListsUptoCard : Claim7 := { stood := { row := deriveListsUptoRow, standIns := [], harness := (true, "110e7420f6531483054808f7ee960a2db4a2f283ede945eb385ae9751eaf64d4"), looks := true }, kinds := [], alts := [], laidByText := true, laidKinds := [.data, .pinned], laidTests := true, laidLooks := .later }
def DeriveListsUptoCardSaid : Prop := Claim7.holds Tryz.pinned (.plain (OpenSpec.upto deriveListsSpec)) deriveListsUptoCard

/-- THE SECOND FORM's CARD OF 'hornbooklaw16.DeriveEach'. -/
def deriveEachUptoCard : Claim7 := { stood := { row := deriveEachUptoRow, standIns := [], harness := (true, "110e7420f6531483054808f7ee960a2db4a2f283ede945eb385ae9751eaf64d4"), looks := true }, kinds := [], alts := [], laidByText := true, laidKinds := [.data, .pinned], laidTests := true, laidLooks := .later }
def DeriveEachUptoCardSaid : Prop := Claim7.holds Tryz.pinned (.plain (OpenSpec.upto deriveEachSpec)) deriveEachUptoCard

/-- THE SECOND FORM's CARD OF 'hornbooklaw16.DeriveWalks'. -/
def deriveWalksUptoCard : Claim7 := { stood := { row := deriveWalksUptoRow, standIns := [], harness := (true, "110e7420f6531483054808f7ee960a2db4a2f283ede945eb385ae9751eaf64d4"), looks := true }, kinds := [], alts := [], laidByText := true, laidKinds := [.data, .pinned], laidTests := true, laidLooks := .later }
def DeriveWalksUptoCardSaid : Prop := Claim7.holds Tryz.pinned (.plain (OpenSpec.upto deriveWalksSpec)) deriveWalksUptoCard

/-- THE SECOND FORM's CARD OF 'hornbooklaw16.DeriveWhole'. -/
def deriveWholeUptoCard : Claim7 := { stood := { row := deriveWholeUptoRow, standIns := [], harness := (true, "110e7420f6531483054808f7ee960a2db4a2f283ede945eb385ae9751eaf64d4"), looks := true }, kinds := [], alts := [], laidByText := true, laidKinds := [.data, .pinned], laidTests := true, laidLooks := .later }
def DeriveWholeUptoCardSaid : Prop := Claim7.holds Tryz.pinned (.plain (OpenSpec.upto deriveWholeSpec)) deriveWholeUptoCard

/-- THE SECOND FORM's CARD OF 'hornbooklaw16.DeriveMeasures'. -/
def deriveMeasuresUptoCard : Claim7 := { stood := { row := deriveMeasuresUptoRow, standIns := [], harness := (true, "110e7420f6531483054808f7ee960a2db4a2f283ede945eb385ae9751eaf64d4"), looks := true }, kinds := [], alts := [], laidByText := true, laidKinds := [.data, .pinned], laidTests := true, laidLooks := .later }
def DeriveMeasuresUptoCardSaid : Prop := Claim7.holds Tryz.pinned (.plain (OpenSpec.upto deriveMeasuresSpec)) deriveMeasuresUptoCard

/-- THE SECOND FORM's CARD OF 'hornbooklaw16.DeriveSound'. -/
def deriveSoundUptoCard : Claim7 := { stood := { row := deriveSoundUptoRow, standIns := [], harness := (true, "110e7420f6531483054808f7ee960a2db4a2f283ede945eb385ae9751eaf64d4"), looks := true }, kinds := [], alts := [], laidByText := true, laidKinds := [.data, .pinned], laidTests := true, laidLooks := .later }
def DeriveSoundUptoCardSaid : Prop := Claim7.holds Tryz.pinned (.plain (OpenSpec.upto deriveSoundSpec)) deriveSoundUptoCard

/-- THE SECOND FORM's CARD OF 'hornbooklaw16.DeriveWants'. -/
def deriveWantsUptoCard : Claim7 := { stood := { row := deriveWantsUptoRow, standIns := [], harness := (true, "110e7420f6531483054808f7ee960a2db4a2f283ede945eb385ae9751eaf64d4"), looks := true }, kinds := [], alts := [], laidByText := true, laidKinds := [.data, .sentinel, .sentinel, .sentinel, .sentinel, .sentinel, .sentinel, .sentinel, .sentinel, .sentinel, .sentinel, .sentinel, .pinned], laidTests := true, laidLooks := .later }
def DeriveWantsUptoCardSaid : Prop := Claim7.holds Tryz.pinned (.plain (OpenSpec.upto deriveWantsSpec)) deriveWantsUptoCard

/-- THE SECOND FORM's CARD OF 'hornbooklaw16.DeriveFeeds'. -/
def deriveFeedsUptoCard : Claim7 := { stood := { row := deriveFeedsUptoRow, standIns := [], harness := (true, "110e7420f6531483054808f7ee960a2db4a2f283ede945eb385ae9751eaf64d4"), looks := true }, kinds := [], alts := [], laidByText := true, laidKinds := [.data, .sentinel, .sentinel, .sentinel, .sentinel, .sentinel, .sentinel, .sentinel, .sentinel, .sentinel, .sentinel, .sentinel, .pinned], laidTests := true, laidLooks := .later }
def DeriveFeedsUptoCardSaid : Prop := Claim7.holds Tryz.pinned (.plain (OpenSpec.upto deriveFeedsSpec)) deriveFeedsUptoCard
end Rows
end Go.Proofs.YtffmhpaepdkabaaGreatDoor
