/-
  DERIVED. GIVEN WITH THE SEED: THE CARDS: each row of YtkiemnnhcilhpaaGreatDoorRows.lean that lists a variable, with what it lists TIED to the program's text (the seventh form; the later family's looks); each row that meets fmt, with fmt's text TOLD by the authors' own Lean function (tested against real Go, not proved from fmt's source: count such statements apart). THE CARD IS WHAT COUNTS. Prove the row's statement (the work); the ties are given (YtkiemnnhcilhpaaGreatDoorTie.lean); close each card by the builder's one call (the guide's Derived/Test/ToyasCard.lean, 'card_holds'). Laid BY PROGRAM, IN A SANDBOX (cutbox-door.mjs). By AI agents, Wed Nov 11 2026. No macro, syntax, notation, axiom, sorry.
-/
import Derived.Test.YtkiemnnhcilhpaaGreatDoorRows
import GoSem.ClaimSeven
namespace Go.Proofs.YtkiemnnhcilhpaaGreatDoor
namespace Rows

/-- THE TIED CARD OF 'hornbooklaw12.DicReads'. -/
def dicReadsCard : Claim7 := { stood := { row := dicReadsRow, standIns := [], harness := (true, "a6601a5282f6b5e06e4d9af2d4b19db39eaa950544d9c0a5b5e2dec10a74cbe5"), looks := true }, kinds := [], alts := [], laidByText := true, laidKinds := [.data, .pinned], laidTests := true, laidLooks := .later }
def DicReadsCardSaid : Prop := Claim7.holds Tryz.pinned (.plain (OpenSpec.ofChange dicReadsSpec)) dicReadsCard

/-- THE TIED CARD OF 'hornbooklaw12.DicOrder'. -/
def dicOrderCard : Claim7 := { stood := { row := dicOrderRow, standIns := [], harness := (true, "a6601a5282f6b5e06e4d9af2d4b19db39eaa950544d9c0a5b5e2dec10a74cbe5"), looks := true }, kinds := [], alts := [], laidByText := true, laidKinds := [.data, .pinned], laidTests := true, laidLooks := .later }
def DicOrderCardSaid : Prop := Claim7.holds Tryz.pinned (.plain (OpenSpec.ofChange dicOrderSpec)) dicOrderCard

/-- THE TIED CARD OF 'hornbooklaw12.DicRemarks'. -/
def dicRemarksCard : Claim7 := { stood := { row := dicRemarksRow, standIns := [], harness := (true, "a6601a5282f6b5e06e4d9af2d4b19db39eaa950544d9c0a5b5e2dec10a74cbe5"), looks := true }, kinds := [], alts := [], laidByText := true, laidKinds := [.data, .pinned], laidTests := true, laidLooks := .later }
def DicRemarksCardSaid : Prop := Claim7.holds Tryz.pinned (.plain (OpenSpec.ofChange dicRemarksSpec)) dicRemarksCard

/-- THE TIED CARD OF 'hornbooklaw12.DicFirst'. -/
def dicFirstCard : Claim7 := { stood := { row := dicFirstRow, standIns := [], harness := (true, "a6601a5282f6b5e06e4d9af2d4b19db39eaa950544d9c0a5b5e2dec10a74cbe5"), looks := true }, kinds := [], alts := [], laidByText := true, laidKinds := [.data, .pinned], laidTests := true, laidLooks := .later }
def DicFirstCardSaid : Prop := Claim7.holds Tryz.pinned (.plain (OpenSpec.ofChange dicFirstSpec)) dicFirstCard

/-- THE TIED CARD OF 'hornbooklaw12.DicFinds'. -/
def dicFindsCard : Claim7 := { stood := { row := dicFindsRow, standIns := [], harness := (true, "a6601a5282f6b5e06e4d9af2d4b19db39eaa950544d9c0a5b5e2dec10a74cbe5"), looks := true }, kinds := [], alts := [], laidByText := true, laidKinds := [.data, .pinned], laidTests := true, laidLooks := .later }
def DicFindsCardSaid : Prop := Claim7.holds Tryz.pinned (.plain (OpenSpec.ofChange dicFindsSpec)) dicFindsCard

/-- THE TIED CARD OF 'hornbooklaw12.DicKeeps'. -/
def dicKeepsCard : Claim7 := { stood := { row := dicKeepsRow, standIns := [], harness := (true, "a6601a5282f6b5e06e4d9af2d4b19db39eaa950544d9c0a5b5e2dec10a74cbe5"), looks := true }, kinds := [], alts := [], laidByText := true, laidKinds := [.data, .pinned], laidTests := true, laidLooks := .later }
def DicKeepsCardSaid : Prop := Claim7.holds Tryz.pinned (.plain (OpenSpec.ofChange dicKeepsSpec)) dicKeepsCard

/-- THE TIED CARD OF 'hornbooklaw12.DicAnyWord'. -/
def dicAnyWordCard : Claim7 := { stood := { row := dicAnyWordRow, standIns := [], harness := (true, "a6601a5282f6b5e06e4d9af2d4b19db39eaa950544d9c0a5b5e2dec10a74cbe5"), looks := true }, kinds := [], alts := [], laidByText := true, laidKinds := [.data, .pinned], laidTests := true, laidLooks := .later }
def DicAnyWordCardSaid : Prop := Claim7.holds Tryz.pinned (.plain (OpenSpec.ofChange dicAnyWordSpec)) dicAnyWordCard

/-- THE SECOND FORM's CARD OF 'hornbooklaw12.DicReads'. -/
def dicReadsUptoCard : Claim7 := { stood := { row := dicReadsUptoRow, standIns := [], harness := (true, "a6601a5282f6b5e06e4d9af2d4b19db39eaa950544d9c0a5b5e2dec10a74cbe5"), looks := true }, kinds := [], alts := [], laidByText := true, laidKinds := [.data, .pinned], laidTests := true, laidLooks := .later }
def DicReadsUptoCardSaid : Prop := Claim7.holds Tryz.pinned (.plain (OpenSpec.upto dicReadsSpec)) dicReadsUptoCard

/-- THE SECOND FORM's CARD OF 'hornbooklaw12.DicOrder'. -/
def dicOrderUptoCard : Claim7 := { stood := { row := dicOrderUptoRow, standIns := [], harness := (true, "a6601a5282f6b5e06e4d9af2d4b19db39eaa950544d9c0a5b5e2dec10a74cbe5"), looks := true }, kinds := [], alts := [], laidByText := true, laidKinds := [.data, .pinned], laidTests := true, laidLooks := .later }
def DicOrderUptoCardSaid : Prop := Claim7.holds Tryz.pinned (.plain (OpenSpec.upto dicOrderSpec)) dicOrderUptoCard

/-- THE SECOND FORM's CARD OF 'hornbooklaw12.DicRemarks'. -/
def dicRemarksUptoCard : Claim7 := { stood := { row := dicRemarksUptoRow, standIns := [], harness := (true, "a6601a5282f6b5e06e4d9af2d4b19db39eaa950544d9c0a5b5e2dec10a74cbe5"), looks := true }, kinds := [], alts := [], laidByText := true, laidKinds := [.data, .pinned], laidTests := true, laidLooks := .later }
def DicRemarksUptoCardSaid : Prop := Claim7.holds Tryz.pinned (.plain (OpenSpec.upto dicRemarksSpec)) dicRemarksUptoCard

/-- THE SECOND FORM's CARD OF 'hornbooklaw12.DicFirst'. -/
def dicFirstUptoCard : Claim7 := { stood := { row := dicFirstUptoRow, standIns := [], harness := (true, "a6601a5282f6b5e06e4d9af2d4b19db39eaa950544d9c0a5b5e2dec10a74cbe5"), looks := true }, kinds := [], alts := [], laidByText := true, laidKinds := [.data, .pinned], laidTests := true, laidLooks := .later }
def DicFirstUptoCardSaid : Prop := Claim7.holds Tryz.pinned (.plain (OpenSpec.upto dicFirstSpec)) dicFirstUptoCard

/-- THE SECOND FORM's CARD OF 'hornbooklaw12.DicFinds'. -/
def dicFindsUptoCard : Claim7 := { stood := { row := dicFindsUptoRow, standIns := [], harness := (true, "a6601a5282f6b5e06e4d9af2d4b19db39eaa950544d9c0a5b5e2dec10a74cbe5"), looks := true }, kinds := [], alts := [], laidByText := true, laidKinds := [.data, .pinned], laidTests := true, laidLooks := .later }
def DicFindsUptoCardSaid : Prop := Claim7.holds Tryz.pinned (.plain (OpenSpec.upto dicFindsSpec)) dicFindsUptoCard

/-- THE SECOND FORM's CARD OF 'hornbooklaw12.DicKeeps'. -/
def dicKeepsUptoCard : Claim7 := { stood := { row := dicKeepsUptoRow, standIns := [], harness := (true, "a6601a5282f6b5e06e4d9af2d4b19db39eaa950544d9c0a5b5e2dec10a74cbe5"), looks := true }, kinds := [], alts := [], laidByText := true, laidKinds := [.data, .pinned], laidTests := true, laidLooks := .later }
def DicKeepsUptoCardSaid : Prop := Claim7.holds Tryz.pinned (.plain (OpenSpec.upto dicKeepsSpec)) dicKeepsUptoCard

/-- THE SECOND FORM's CARD OF 'hornbooklaw12.DicAnyWord'. -/
def dicAnyWordUptoCard : Claim7 := { stood := { row := dicAnyWordUptoRow, standIns := [], harness := (true, "a6601a5282f6b5e06e4d9af2d4b19db39eaa950544d9c0a5b5e2dec10a74cbe5"), looks := true }, kinds := [], alts := [], laidByText := true, laidKinds := [.data, .pinned], laidTests := true, laidLooks := .later }
def DicAnyWordUptoCardSaid : Prop := Claim7.holds Tryz.pinned (.plain (OpenSpec.upto dicAnyWordSpec)) dicAnyWordUptoCard
end Rows
end Go.Proofs.YtkiemnnhcilhpaaGreatDoor
