/-
  NARROWER THAN 'FOR EVERY INPUT', by the rows' own cells (each row's printed sentence says how): DicReads: laid · DicOrder: laid · DicRemarks: laid · DicFirst: laid · DicFinds: laid · DicKeeps: laid · DicAnyWord: laid.
  DERIVED. THE GIVEN ROWS OF THIS SEAT. 7 by the template 'for every input the law returns true; each argument reads behind the call as it read before'; 0 by the template 'total and deterministic' (their statements: YtkiemnnhcilhpaaGreatDoorTotals.lean).
  GIVEN WITH THE SEED: the statements are not yours to turn. If you find one false, say at which input.
  Laid BY PROGRAM, IN A SANDBOX (cutbox-rows.mjs): the forced cells as the released guide's own fill.sh prints them over the translation 93b7e06bc7797352… (all of the seat's roots in one cut). By AI agents, Wed Nov 11 2026. No macro, syntax, notation, axiom, sorry.
-/
import Derived.Test.YtkiemnnhcilhpaaGreatDoorChecked
import GoSem.PinnedTables
import GoSem.Claim
import GoSem.ClaimJoined
import GoSem.ClaimMapViews
import Derived.JoinedTies
import Derived.KernelRfl
namespace Go.Proofs.YtkiemnnhcilhpaaGreatDoor
/- THE CELL 'sum', in the pinned program and in every row, IS THE sha256 OF THE DUMP (.gsa) THAT YtkiemnnhcilhpaaGreatDoorProg.lean LOADS. Nothing in Lean hashes anything: it is a label: what it is worth is what the hold of that sum in a sandbox is worth. -/
noncomputable def Tryz.pinned : Pinned := { name := "ytkiemnnhcilhpaagreatdoor", sum := "93b7e06bc7797352017eb059e375258772ac80bba884bf9b6eb8ac637cbc5fa7", checked := Tryz.checked }
namespace Rows
def none {H : Type} : Left H := { results := [], args := [] }

/- WHAT THE LISTED PACKAGE-LEVEL VARIABLES READ AS WHEN THE CALL BEGINS. Each datum BY PROGRAM (the guide's laid-datum.mjs) off the statement by which the dump's own 'gosem.cut.vars' lays the variable. In a bare row this is a premise. The card (YtkiemnnhcilhpaaGreatDoorCards.lean) ties it to the program's text. -/
def laid_unicode_utf8_acceptRanges {H : Type} : DataW H := .agg [.agg [.lit (.int .u8 128), .lit (.int .u8 191)], .agg [.lit (.int .u8 160), .lit (.int .u8 191)], .agg [.lit (.int .u8 128), .lit (.int .u8 159)], .agg [.lit (.int .u8 144), .lit (.int .u8 191)], .agg [.lit (.int .u8 128), .lit (.int .u8 143)], .agg [.lit (.int .u8 0), .lit (.int .u8 0)], .agg [.lit (.int .u8 0), .lit (.int .u8 0)], .agg [.lit (.int .u8 0), .lit (.int .u8 0)], .agg [.lit (.int .u8 0), .lit (.int .u8 0)], .agg [.lit (.int .u8 0), .lit (.int .u8 0)], .agg [.lit (.int .u8 0), .lit (.int .u8 0)], .agg [.lit (.int .u8 0), .lit (.int .u8 0)], .agg [.lit (.int .u8 0), .lit (.int .u8 0)], .agg [.lit (.int .u8 0), .lit (.int .u8 0)], .agg [.lit (.int .u8 0), .lit (.int .u8 0)], .agg [.lit (.int .u8 0), .lit (.int .u8 0)]]
/-- One of Go's own tables, pinned by name: the form's constant. -/
def laid_unicode_utf8_first : DataW Unit := Go.Pinned.utf8First

/-- 'hornbooklaw12.DicReads': WHATEVER THE INPUT: true; the input reads as it did. -/
def dicReadsSpec : ChangeSpec := { name := "dicReads", fn := fun _ => fun
  | [d1, d2] => { results := [.lit (.bool true)], args := [d1, d2] }
  | _ => none }
def dicReadsRow : OpenClaim := { program := "ytkiemnnhcilhpaagreatdoor", sum := "93b7e06bc7797352017eb059e375258772ac80bba884bf9b6eb8ac637cbc5fa7", func := "hornbook/hornbooklaw12.DicReads", spec := "dicReads", inPlace := ["internal/bytealg.IndexByteString", "internal/bytealg.IndexString", "internal/abi.NoEscape", "internal/bytealg.CountString"], unfollowed := true, recurses := true, named := ["internal/bytealg.MaxLen", "unicode/utf8.first", "unicode/utf8.acceptRanges"], apart := false, laid := [("unicode/utf8.acceptRanges", laid_unicode_utf8_acceptRanges), ("unicode/utf8.first", laid_unicode_utf8_first)] }
def DicReadsSaid : Prop := dicReadsRow.holds Tryz.pinned (OpenSpec.ofChange dicReadsSpec)

/-- ITS FALSE NEIGHBOUR: 'it returns false'. Refute it at one input. -/
def dicReadsWrong : ChangeSpec := { name := "dicReads", fn := fun _ => fun
  | [d1, d2] => { results := [.lit (.bool false)], args := [d1, d2] }
  | _ => none }
def DicReadsWrongFalsely : Prop := dicReadsRow.holds Tryz.pinned (OpenSpec.ofChange dicReadsWrong)

/-- 'hornbooklaw12.DicOrder': WHATEVER THE INPUT: true; the input reads as it did. -/
def dicOrderSpec : ChangeSpec := { name := "dicOrder", fn := fun _ => fun
  | [d] => { results := [.lit (.bool true)], args := [d] }
  | _ => none }
def dicOrderRow : OpenClaim := { program := "ytkiemnnhcilhpaagreatdoor", sum := "93b7e06bc7797352017eb059e375258772ac80bba884bf9b6eb8ac637cbc5fa7", func := "hornbook/hornbooklaw12.DicOrder", spec := "dicOrder", inPlace := ["internal/bytealg.IndexByteString", "internal/bytealg.IndexString", "internal/abi.NoEscape", "internal/bytealg.CountString"], unfollowed := true, recurses := true, named := ["internal/bytealg.MaxLen", "unicode/utf8.first", "unicode/utf8.acceptRanges"], apart := false, laid := [("unicode/utf8.acceptRanges", laid_unicode_utf8_acceptRanges), ("unicode/utf8.first", laid_unicode_utf8_first)] }
def DicOrderSaid : Prop := dicOrderRow.holds Tryz.pinned (OpenSpec.ofChange dicOrderSpec)

/-- ITS FALSE NEIGHBOUR: 'it returns false'. Refute it at one input. -/
def dicOrderWrong : ChangeSpec := { name := "dicOrder", fn := fun _ => fun
  | [d] => { results := [.lit (.bool false)], args := [d] }
  | _ => none }
def DicOrderWrongFalsely : Prop := dicOrderRow.holds Tryz.pinned (OpenSpec.ofChange dicOrderWrong)

/-- 'hornbooklaw12.DicRemarks': WHATEVER THE INPUT: true; the input reads as it did. -/
def dicRemarksSpec : ChangeSpec := { name := "dicRemarks", fn := fun _ => fun
  | [d1, d2, d3] => { results := [.lit (.bool true)], args := [d1, d2, d3] }
  | _ => none }
def dicRemarksRow : OpenClaim := { program := "ytkiemnnhcilhpaagreatdoor", sum := "93b7e06bc7797352017eb059e375258772ac80bba884bf9b6eb8ac637cbc5fa7", func := "hornbook/hornbooklaw12.DicRemarks", spec := "dicRemarks", inPlace := ["internal/bytealg.IndexByteString", "internal/bytealg.IndexString", "internal/abi.NoEscape", "internal/bytealg.CountString"], unfollowed := true, recurses := true, named := ["internal/bytealg.MaxLen", "unicode/utf8.first", "unicode/utf8.acceptRanges"], apart := false, laid := [("unicode/utf8.acceptRanges", laid_unicode_utf8_acceptRanges), ("unicode/utf8.first", laid_unicode_utf8_first)] }
def DicRemarksSaid : Prop := dicRemarksRow.holds Tryz.pinned (OpenSpec.ofChange dicRemarksSpec)

/-- ITS FALSE NEIGHBOUR: 'it returns false'. Refute it at one input. -/
def dicRemarksWrong : ChangeSpec := { name := "dicRemarks", fn := fun _ => fun
  | [d1, d2, d3] => { results := [.lit (.bool false)], args := [d1, d2, d3] }
  | _ => none }
def DicRemarksWrongFalsely : Prop := dicRemarksRow.holds Tryz.pinned (OpenSpec.ofChange dicRemarksWrong)

/-- 'hornbooklaw12.DicFirst': WHATEVER THE INPUT: true; the input reads as it did. -/
def dicFirstSpec : ChangeSpec := { name := "dicFirst", fn := fun _ => fun
  | [d1, d2, d3] => { results := [.lit (.bool true)], args := [d1, d2, d3] }
  | _ => none }
def dicFirstRow : OpenClaim := { program := "ytkiemnnhcilhpaagreatdoor", sum := "93b7e06bc7797352017eb059e375258772ac80bba884bf9b6eb8ac637cbc5fa7", func := "hornbook/hornbooklaw12.DicFirst", spec := "dicFirst", inPlace := ["internal/bytealg.IndexByteString", "internal/bytealg.IndexString", "internal/abi.NoEscape", "internal/bytealg.CountString"], unfollowed := true, recurses := true, named := ["internal/bytealg.MaxLen", "unicode/utf8.first", "unicode/utf8.acceptRanges"], apart := false, laid := [("unicode/utf8.acceptRanges", laid_unicode_utf8_acceptRanges), ("unicode/utf8.first", laid_unicode_utf8_first)] }
def DicFirstSaid : Prop := dicFirstRow.holds Tryz.pinned (OpenSpec.ofChange dicFirstSpec)

/-- ITS FALSE NEIGHBOUR: 'it returns false'. Refute it at one input. -/
def dicFirstWrong : ChangeSpec := { name := "dicFirst", fn := fun _ => fun
  | [d1, d2, d3] => { results := [.lit (.bool false)], args := [d1, d2, d3] }
  | _ => none }
def DicFirstWrongFalsely : Prop := dicFirstRow.holds Tryz.pinned (OpenSpec.ofChange dicFirstWrong)

/-- 'hornbooklaw12.DicFinds': WHATEVER THE INPUT: true; the input reads as it did. -/
def dicFindsSpec : ChangeSpec := { name := "dicFinds", fn := fun _ => fun
  | [d1, d2, d3] => { results := [.lit (.bool true)], args := [d1, d2, d3] }
  | _ => none }
def dicFindsRow : OpenClaim := { program := "ytkiemnnhcilhpaagreatdoor", sum := "93b7e06bc7797352017eb059e375258772ac80bba884bf9b6eb8ac637cbc5fa7", func := "hornbook/hornbooklaw12.DicFinds", spec := "dicFinds", inPlace := ["internal/bytealg.IndexByteString", "internal/bytealg.IndexString", "internal/abi.NoEscape", "internal/bytealg.CountString"], unfollowed := true, recurses := true, named := ["internal/bytealg.MaxLen", "unicode/utf8.first", "unicode/utf8.acceptRanges"], apart := false, laid := [("unicode/utf8.acceptRanges", laid_unicode_utf8_acceptRanges), ("unicode/utf8.first", laid_unicode_utf8_first)] }
def DicFindsSaid : Prop := dicFindsRow.holds Tryz.pinned (OpenSpec.ofChange dicFindsSpec)

/-- ITS FALSE NEIGHBOUR: 'it returns false'. Refute it at one input. -/
def dicFindsWrong : ChangeSpec := { name := "dicFinds", fn := fun _ => fun
  | [d1, d2, d3] => { results := [.lit (.bool false)], args := [d1, d2, d3] }
  | _ => none }
def DicFindsWrongFalsely : Prop := dicFindsRow.holds Tryz.pinned (OpenSpec.ofChange dicFindsWrong)

/-- 'hornbooklaw12.DicKeeps': WHATEVER THE INPUT: true; the input reads as it did. -/
def dicKeepsSpec : ChangeSpec := { name := "dicKeeps", fn := fun _ => fun
  | [d1, d2] => { results := [.lit (.bool true)], args := [d1, d2] }
  | _ => none }
def dicKeepsRow : OpenClaim := { program := "ytkiemnnhcilhpaagreatdoor", sum := "93b7e06bc7797352017eb059e375258772ac80bba884bf9b6eb8ac637cbc5fa7", func := "hornbook/hornbooklaw12.DicKeeps", spec := "dicKeeps", inPlace := ["internal/bytealg.IndexByteString", "internal/bytealg.IndexString", "internal/abi.NoEscape", "internal/bytealg.CountString"], unfollowed := true, recurses := true, named := ["internal/bytealg.MaxLen", "unicode/utf8.first", "unicode/utf8.acceptRanges"], apart := false, laid := [("unicode/utf8.acceptRanges", laid_unicode_utf8_acceptRanges), ("unicode/utf8.first", laid_unicode_utf8_first)] }
def DicKeepsSaid : Prop := dicKeepsRow.holds Tryz.pinned (OpenSpec.ofChange dicKeepsSpec)

/-- ITS FALSE NEIGHBOUR: 'it returns false'. Refute it at one input. -/
def dicKeepsWrong : ChangeSpec := { name := "dicKeeps", fn := fun _ => fun
  | [d1, d2] => { results := [.lit (.bool false)], args := [d1, d2] }
  | _ => none }
def DicKeepsWrongFalsely : Prop := dicKeepsRow.holds Tryz.pinned (OpenSpec.ofChange dicKeepsWrong)

/-- 'hornbooklaw12.DicAnyWord': WHATEVER THE INPUT: true; the input reads as it did. -/
def dicAnyWordSpec : ChangeSpec := { name := "dicAnyWord", fn := fun _ => fun
  | [d] => { results := [.lit (.bool true)], args := [d] }
  | _ => none }
def dicAnyWordRow : OpenClaim := { program := "ytkiemnnhcilhpaagreatdoor", sum := "93b7e06bc7797352017eb059e375258772ac80bba884bf9b6eb8ac637cbc5fa7", func := "hornbook/hornbooklaw12.DicAnyWord", spec := "dicAnyWord", inPlace := ["internal/bytealg.IndexByteString", "internal/bytealg.IndexString", "internal/abi.NoEscape", "internal/bytealg.CountString"], unfollowed := true, recurses := true, named := ["internal/bytealg.MaxLen", "unicode/utf8.first", "unicode/utf8.acceptRanges"], apart := false, laid := [("unicode/utf8.acceptRanges", laid_unicode_utf8_acceptRanges), ("unicode/utf8.first", laid_unicode_utf8_first)] }
def DicAnyWordSaid : Prop := dicAnyWordRow.holds Tryz.pinned (OpenSpec.ofChange dicAnyWordSpec)

/-- ITS FALSE NEIGHBOUR: 'it returns false'. Refute it at one input. -/
def dicAnyWordWrong : ChangeSpec := { name := "dicAnyWord", fn := fun _ => fun
  | [d] => { results := [.lit (.bool false)], args := [d] }
  | _ => none }
def DicAnyWordWrongFalsely : Prop := dicAnyWordRow.holds Tryz.pinned (OpenSpec.ofChange dicAnyWordWrong)

/- THE SECOND FORM. 'bulk': how many values and letters a reading holds, each counted each time it is reached (what is shared counts as often as it is met; a slice's spare places count too). A statement '..UptoSaid' is the law's where the arguments, and the package variables that the reading takes, are together of bulk at most 1048576: NARROWER than '..Said'. Prove '..Said' where nothing that the law and all that it calls make is longer than what came in: it says more and counts as full. Else prove '..UptoSaid'. A law counts once. -/
mutual
def uptoBulk {H : Type} : DataW H → Nat
  | .lit (.string bytes) => bytes.length + 1
  | .lit _ => 1
  | .nil => 1
  | .ptr d => uptoBulk d + 1
  | .slice elems spare => uptoBulkAll elems + uptoBulkAll spare + 1
  | .agg parts => uptoBulkAll parts + 1
  | .iface _ d => uptoBulk d + 1
  | .map entries => uptoBulkEntries entries + 1
  | .held _ => 1
def uptoBulkAll {H : Type} : List (DataW H) → Nat
  | [] => 0
  | d :: r => uptoBulk d + uptoBulkAll r
def uptoBulkEntries {H : Type} : List (Lit × DataW H) → Nat
  | [] => 0
  | x :: r => uptoBulkEntry x + uptoBulkEntries r
def uptoBulkEntry {H : Type} : Lit × DataW H → Nat
  | (.string bytes, d) => bytes.length + uptoBulk d + 1
  | (_, d) => uptoBulk d + 1
 end
def uptoSmall : (H : Type) → List (DataW H) → Bool := fun _ ds => decide (uptoBulkAll ds ≤ 1048576)
def OpenSpec.upto (s : _root_.Go.ChangeSpec) : _root_.Go.OpenSpec := { _root_.Go.OpenSpec.ofChange s with cond := some uptoSmall }

/-- 'hornbooklaw12.DicReads', WHERE WHAT IT READS IS OF BULK AT MOST 1048576: true; the input reads as it did. -/
def dicReadsUptoRow : OpenClaim := { program := "ytkiemnnhcilhpaagreatdoor", sum := "93b7e06bc7797352017eb059e375258772ac80bba884bf9b6eb8ac637cbc5fa7", func := "hornbook/hornbooklaw12.DicReads", spec := "dicReads", inPlace := ["internal/bytealg.IndexByteString", "internal/bytealg.IndexString", "internal/abi.NoEscape", "internal/bytealg.CountString"], unfollowed := true, recurses := true, named := ["internal/bytealg.MaxLen", "unicode/utf8.first", "unicode/utf8.acceptRanges"], apart := false, laid := [("unicode/utf8.acceptRanges", laid_unicode_utf8_acceptRanges), ("unicode/utf8.first", laid_unicode_utf8_first)], narrowed := true }
def DicReadsUptoSaid : Prop := dicReadsUptoRow.holds Tryz.pinned (OpenSpec.upto dicReadsSpec)

/-- 'hornbooklaw12.DicOrder', WHERE WHAT IT READS IS OF BULK AT MOST 1048576: true; the input reads as it did. -/
def dicOrderUptoRow : OpenClaim := { program := "ytkiemnnhcilhpaagreatdoor", sum := "93b7e06bc7797352017eb059e375258772ac80bba884bf9b6eb8ac637cbc5fa7", func := "hornbook/hornbooklaw12.DicOrder", spec := "dicOrder", inPlace := ["internal/bytealg.IndexByteString", "internal/bytealg.IndexString", "internal/abi.NoEscape", "internal/bytealg.CountString"], unfollowed := true, recurses := true, named := ["internal/bytealg.MaxLen", "unicode/utf8.first", "unicode/utf8.acceptRanges"], apart := false, laid := [("unicode/utf8.acceptRanges", laid_unicode_utf8_acceptRanges), ("unicode/utf8.first", laid_unicode_utf8_first)], narrowed := true }
def DicOrderUptoSaid : Prop := dicOrderUptoRow.holds Tryz.pinned (OpenSpec.upto dicOrderSpec)

/-- 'hornbooklaw12.DicRemarks', WHERE WHAT IT READS IS OF BULK AT MOST 1048576: true; the input reads as it did. -/
def dicRemarksUptoRow : OpenClaim := { program := "ytkiemnnhcilhpaagreatdoor", sum := "93b7e06bc7797352017eb059e375258772ac80bba884bf9b6eb8ac637cbc5fa7", func := "hornbook/hornbooklaw12.DicRemarks", spec := "dicRemarks", inPlace := ["internal/bytealg.IndexByteString", "internal/bytealg.IndexString", "internal/abi.NoEscape", "internal/bytealg.CountString"], unfollowed := true, recurses := true, named := ["internal/bytealg.MaxLen", "unicode/utf8.first", "unicode/utf8.acceptRanges"], apart := false, laid := [("unicode/utf8.acceptRanges", laid_unicode_utf8_acceptRanges), ("unicode/utf8.first", laid_unicode_utf8_first)], narrowed := true }
def DicRemarksUptoSaid : Prop := dicRemarksUptoRow.holds Tryz.pinned (OpenSpec.upto dicRemarksSpec)

/-- 'hornbooklaw12.DicFirst', WHERE WHAT IT READS IS OF BULK AT MOST 1048576: true; the input reads as it did. -/
def dicFirstUptoRow : OpenClaim := { program := "ytkiemnnhcilhpaagreatdoor", sum := "93b7e06bc7797352017eb059e375258772ac80bba884bf9b6eb8ac637cbc5fa7", func := "hornbook/hornbooklaw12.DicFirst", spec := "dicFirst", inPlace := ["internal/bytealg.IndexByteString", "internal/bytealg.IndexString", "internal/abi.NoEscape", "internal/bytealg.CountString"], unfollowed := true, recurses := true, named := ["internal/bytealg.MaxLen", "unicode/utf8.first", "unicode/utf8.acceptRanges"], apart := false, laid := [("unicode/utf8.acceptRanges", laid_unicode_utf8_acceptRanges), ("unicode/utf8.first", laid_unicode_utf8_first)], narrowed := true }
def DicFirstUptoSaid : Prop := dicFirstUptoRow.holds Tryz.pinned (OpenSpec.upto dicFirstSpec)

/-- 'hornbooklaw12.DicFinds', WHERE WHAT IT READS IS OF BULK AT MOST 1048576: true; the input reads as it did. -/
def dicFindsUptoRow : OpenClaim := { program := "ytkiemnnhcilhpaagreatdoor", sum := "93b7e06bc7797352017eb059e375258772ac80bba884bf9b6eb8ac637cbc5fa7", func := "hornbook/hornbooklaw12.DicFinds", spec := "dicFinds", inPlace := ["internal/bytealg.IndexByteString", "internal/bytealg.IndexString", "internal/abi.NoEscape", "internal/bytealg.CountString"], unfollowed := true, recurses := true, named := ["internal/bytealg.MaxLen", "unicode/utf8.first", "unicode/utf8.acceptRanges"], apart := false, laid := [("unicode/utf8.acceptRanges", laid_unicode_utf8_acceptRanges), ("unicode/utf8.first", laid_unicode_utf8_first)], narrowed := true }
def DicFindsUptoSaid : Prop := dicFindsUptoRow.holds Tryz.pinned (OpenSpec.upto dicFindsSpec)

/-- 'hornbooklaw12.DicKeeps', WHERE WHAT IT READS IS OF BULK AT MOST 1048576: true; the input reads as it did. -/
def dicKeepsUptoRow : OpenClaim := { program := "ytkiemnnhcilhpaagreatdoor", sum := "93b7e06bc7797352017eb059e375258772ac80bba884bf9b6eb8ac637cbc5fa7", func := "hornbook/hornbooklaw12.DicKeeps", spec := "dicKeeps", inPlace := ["internal/bytealg.IndexByteString", "internal/bytealg.IndexString", "internal/abi.NoEscape", "internal/bytealg.CountString"], unfollowed := true, recurses := true, named := ["internal/bytealg.MaxLen", "unicode/utf8.first", "unicode/utf8.acceptRanges"], apart := false, laid := [("unicode/utf8.acceptRanges", laid_unicode_utf8_acceptRanges), ("unicode/utf8.first", laid_unicode_utf8_first)], narrowed := true }
def DicKeepsUptoSaid : Prop := dicKeepsUptoRow.holds Tryz.pinned (OpenSpec.upto dicKeepsSpec)

/-- 'hornbooklaw12.DicAnyWord', WHERE WHAT IT READS IS OF BULK AT MOST 1048576: true; the input reads as it did. -/
def dicAnyWordUptoRow : OpenClaim := { program := "ytkiemnnhcilhpaagreatdoor", sum := "93b7e06bc7797352017eb059e375258772ac80bba884bf9b6eb8ac637cbc5fa7", func := "hornbook/hornbooklaw12.DicAnyWord", spec := "dicAnyWord", inPlace := ["internal/bytealg.IndexByteString", "internal/bytealg.IndexString", "internal/abi.NoEscape", "internal/bytealg.CountString"], unfollowed := true, recurses := true, named := ["internal/bytealg.MaxLen", "unicode/utf8.first", "unicode/utf8.acceptRanges"], apart := false, laid := [("unicode/utf8.acceptRanges", laid_unicode_utf8_acceptRanges), ("unicode/utf8.first", laid_unicode_utf8_first)], narrowed := true }
def DicAnyWordUptoSaid : Prop := dicAnyWordUptoRow.holds Tryz.pinned (OpenSpec.upto dicAnyWordSpec)

end Rows
end Go.Proofs.YtkiemnnhcilhpaaGreatDoor
