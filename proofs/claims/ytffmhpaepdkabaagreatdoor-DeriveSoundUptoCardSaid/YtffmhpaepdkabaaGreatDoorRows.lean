/-
  NARROWER THAN 'FOR EVERY INPUT', by the rows' own cells (each row's printed sentence says how): DeriveLists: laid · DeriveEach: laid · DeriveWalks: laid · DeriveWhole: laid · DeriveMeasures: laid · DeriveSound: laid · DeriveWants: laid · DeriveFeeds: laid.
  DERIVED. THE GIVEN ROWS OF THIS SEAT. 8 by the template 'for every input the law returns true; each argument reads behind the call as it read before'; 0 by the template 'total and deterministic' (their statements: YtffmhpaepdkabaaGreatDoorTotals.lean).
  GIVEN WITH THE SEED: the statements are not yours to turn. If you find one false, say at which input.
  Laid BY PROGRAM, IN A SANDBOX (cutbox-rows.mjs): the forced cells as the released guide's own fill.sh prints them over the translation aac2a805378793a8… (all of the seat's roots in one cut). By AI agents, Wed Nov 11 2026. No macro, syntax, notation, axiom, sorry.
-/
import Derived.Test.YtffmhpaepdkabaaGreatDoorChecked
import GoSem.PinnedTables
import GoSem.Claim
import GoSem.ClaimJoined
import GoSem.ClaimMapViews
import Derived.JoinedTies
import Derived.KernelRfl
namespace Go.Proofs.YtffmhpaepdkabaaGreatDoor
/- THE CELL 'sum', in the pinned program and in every row, IS THE sha256 OF THE DUMP (.gsa) THAT YtffmhpaepdkabaaGreatDoorProg.lean LOADS. Nothing in Lean hashes anything: it is a label: what it is worth is what the hold of that sum in a sandbox is worth. -/
noncomputable def Tryz.pinned : Pinned := { name := "ytffmhpaepdkabaagreatdoor", sum := "aac2a805378793a840b144dfea2048d16c9d4d324a6394b7b3fa939f5aadd7bb", checked := Tryz.checked }
namespace Rows
def none {H : Type} : Left H := { results := [], args := [] }

/- WHAT THE LISTED PACKAGE-LEVEL VARIABLES READ AS WHEN THE CALL BEGINS. Each datum BY PROGRAM (the guide's laid-datum.mjs) off the statement by which the dump's own 'gosem.cut.vars' lays the variable. In a bare row this is a premise. The card (YtffmhpaepdkabaaGreatDoorCards.lean) ties it to the program's text. -/
def laid_unicode_utf8_acceptRanges {H : Type} : DataW H := .agg [.agg [.lit (.int .u8 128), .lit (.int .u8 191)], .agg [.lit (.int .u8 160), .lit (.int .u8 191)], .agg [.lit (.int .u8 128), .lit (.int .u8 159)], .agg [.lit (.int .u8 144), .lit (.int .u8 191)], .agg [.lit (.int .u8 128), .lit (.int .u8 143)], .agg [.lit (.int .u8 0), .lit (.int .u8 0)], .agg [.lit (.int .u8 0), .lit (.int .u8 0)], .agg [.lit (.int .u8 0), .lit (.int .u8 0)], .agg [.lit (.int .u8 0), .lit (.int .u8 0)], .agg [.lit (.int .u8 0), .lit (.int .u8 0)], .agg [.lit (.int .u8 0), .lit (.int .u8 0)], .agg [.lit (.int .u8 0), .lit (.int .u8 0)], .agg [.lit (.int .u8 0), .lit (.int .u8 0)], .agg [.lit (.int .u8 0), .lit (.int .u8 0)], .agg [.lit (.int .u8 0), .lit (.int .u8 0)], .agg [.lit (.int .u8 0), .lit (.int .u8 0)]]
/-- One of Go's own tables, pinned by name: the form's constant. -/
def laid_unicode_utf8_first : DataW Unit := Go.Pinned.utf8First
def laid_hornbook_api_FailNil {H : Type} : DataW H := .iface "*errors.errorString" (.ptr (.agg [.lit (.string [110, 111, 32, 111, 98, 106, 101, 99, 116])]))
def laid_hornbook_api_FailLimits {H : Type} : DataW H := .iface "*errors.errorString" (.ptr (.agg [.lit (.string [97, 32, 110, 117, 109, 98, 101, 114, 32, 111, 117, 116, 32, 111, 102, 32, 105, 116, 115, 32, 114, 97, 110, 103, 101])]))
def laid_hornbook_api_FailNoRun {H : Type} : DataW H := .iface "*errors.errorString" (.ptr (.agg [.lit (.string [110, 111, 32, 115, 117, 99, 104, 32, 114, 117, 110])]))
def laid_hornbook_api_FailSealed {H : Type} : DataW H := .iface "*errors.errorString" (.ptr (.agg [.lit (.string [116, 104, 101, 32, 114, 117, 110, 32, 105, 115, 32, 115, 101, 97, 108, 101, 100])]))
def laid_hornbook_api_FailOpen {H : Type} : DataW H := .iface "*errors.errorString" (.ptr (.agg [.lit (.string [116, 104, 101, 32, 114, 117, 110, 32, 105, 115, 32, 110, 111, 116, 32, 115, 101, 97, 108, 101, 100])]))
def laid_hornbook_api_FailRange {H : Type} : DataW H := .iface "*errors.errorString" (.ptr (.agg [.lit (.string [110, 111, 32, 115, 117, 99, 104, 32, 112, 108, 97, 99, 101, 32, 105, 110, 32, 116, 104, 101, 32, 114, 117, 110])]))
def laid_hornbook_api_FailFull {H : Type} : DataW H := .iface "*errors.errorString" (.ptr (.agg [.lit (.string [116, 104, 101, 32, 115, 116, 111, 114, 101, 32, 105, 115, 32, 102, 117, 108, 108])]))
def laid_hornbook_api_FailSpent {H : Type} : DataW H := .iface "*errors.errorString" (.ptr (.agg [.lit (.string [110, 111, 32, 114, 117, 110, 32, 110, 117, 109, 98, 101, 114, 32, 105, 115, 32, 108, 101, 102, 116])]))
def laid_hornbook_api_FailBroken {H : Type} : DataW H := .iface "*errors.errorString" (.ptr (.agg [.lit (.string [116, 104, 101, 32, 115, 116, 111, 114, 101, 32, 114, 101, 102, 117, 115, 101, 100, 32, 97, 32, 115, 116, 101, 112])]))
def laid_hornbook_api_FailRecord {H : Type} : DataW H := .iface "*errors.errorString" (.ptr (.agg [.lit (.string [116, 104, 101, 32, 114, 101, 99, 111, 114, 100, 32, 105, 115, 32, 116, 111, 111, 32, 108, 111, 110, 103])]))
def laid_hornbook_api_FailClosed {H : Type} : DataW H := .iface "*errors.errorString" (.ptr (.agg [.lit (.string [99, 108, 111, 115, 101, 100])]))

/-- 'hornbooklaw16.DeriveLists': WHATEVER THE INPUT: true; the input reads as it did. -/
def deriveListsSpec : ChangeSpec := { name := "deriveLists", fn := fun _ => fun
  | [d1, d2, d3] => { results := [.lit (.bool true)], args := [d1, d2, d3] }
  | _ => none }
def deriveListsRow : OpenClaim := { program := "ytffmhpaepdkabaagreatdoor", sum := "aac2a805378793a840b144dfea2048d16c9d4d324a6394b7b3fa939f5aadd7bb", func := "hornbook/hornbooklaw16.DeriveLists", spec := "deriveLists", inPlace := ["internal/bytealg.IndexByteString", "internal/bytealg.IndexString", "internal/abi.NoEscape", "internal/bytealg.CountString"], unfollowed := true, recurses := true, named := ["internal/bytealg.MaxLen", "unicode/utf8.first", "unicode/utf8.acceptRanges"], apart := false, laid := [("unicode/utf8.acceptRanges", laid_unicode_utf8_acceptRanges), ("unicode/utf8.first", laid_unicode_utf8_first)] }
def DeriveListsSaid : Prop := deriveListsRow.holds Tryz.pinned (OpenSpec.ofChange deriveListsSpec)

/-- ITS FALSE NEIGHBOUR: 'it returns false'. Refute it at one input. -/
def deriveListsWrong : ChangeSpec := { name := "deriveLists", fn := fun _ => fun
  | [d1, d2, d3] => { results := [.lit (.bool false)], args := [d1, d2, d3] }
  | _ => none }
def DeriveListsWrongFalsely : Prop := deriveListsRow.holds Tryz.pinned (OpenSpec.ofChange deriveListsWrong)

/-- 'hornbooklaw16.DeriveEach': WHATEVER THE INPUT: true; the input reads as it did. -/
def deriveEachSpec : ChangeSpec := { name := "deriveEach", fn := fun _ => fun
  | [d1, d2, d3] => { results := [.lit (.bool true)], args := [d1, d2, d3] }
  | _ => none }
def deriveEachRow : OpenClaim := { program := "ytffmhpaepdkabaagreatdoor", sum := "aac2a805378793a840b144dfea2048d16c9d4d324a6394b7b3fa939f5aadd7bb", func := "hornbook/hornbooklaw16.DeriveEach", spec := "deriveEach", inPlace := ["internal/bytealg.IndexByteString", "internal/bytealg.IndexString", "internal/abi.NoEscape", "internal/bytealg.CountString"], unfollowed := true, recurses := true, named := ["internal/bytealg.MaxLen", "unicode/utf8.first", "unicode/utf8.acceptRanges"], apart := false, laid := [("unicode/utf8.acceptRanges", laid_unicode_utf8_acceptRanges), ("unicode/utf8.first", laid_unicode_utf8_first)] }
def DeriveEachSaid : Prop := deriveEachRow.holds Tryz.pinned (OpenSpec.ofChange deriveEachSpec)

/-- ITS FALSE NEIGHBOUR: 'it returns false'. Refute it at one input. -/
def deriveEachWrong : ChangeSpec := { name := "deriveEach", fn := fun _ => fun
  | [d1, d2, d3] => { results := [.lit (.bool false)], args := [d1, d2, d3] }
  | _ => none }
def DeriveEachWrongFalsely : Prop := deriveEachRow.holds Tryz.pinned (OpenSpec.ofChange deriveEachWrong)

/-- 'hornbooklaw16.DeriveWalks': WHATEVER THE INPUT: true; the input reads as it did. -/
def deriveWalksSpec : ChangeSpec := { name := "deriveWalks", fn := fun _ => fun
  | [d1, d2, d3] => { results := [.lit (.bool true)], args := [d1, d2, d3] }
  | _ => none }
def deriveWalksRow : OpenClaim := { program := "ytffmhpaepdkabaagreatdoor", sum := "aac2a805378793a840b144dfea2048d16c9d4d324a6394b7b3fa939f5aadd7bb", func := "hornbook/hornbooklaw16.DeriveWalks", spec := "deriveWalks", inPlace := ["internal/bytealg.IndexByteString", "internal/bytealg.IndexString", "internal/abi.NoEscape", "internal/bytealg.CountString"], unfollowed := true, recurses := true, named := ["internal/bytealg.MaxLen", "unicode/utf8.first", "unicode/utf8.acceptRanges"], apart := false, laid := [("unicode/utf8.acceptRanges", laid_unicode_utf8_acceptRanges), ("unicode/utf8.first", laid_unicode_utf8_first)] }
def DeriveWalksSaid : Prop := deriveWalksRow.holds Tryz.pinned (OpenSpec.ofChange deriveWalksSpec)

/-- ITS FALSE NEIGHBOUR: 'it returns false'. Refute it at one input. -/
def deriveWalksWrong : ChangeSpec := { name := "deriveWalks", fn := fun _ => fun
  | [d1, d2, d3] => { results := [.lit (.bool false)], args := [d1, d2, d3] }
  | _ => none }
def DeriveWalksWrongFalsely : Prop := deriveWalksRow.holds Tryz.pinned (OpenSpec.ofChange deriveWalksWrong)

/-- 'hornbooklaw16.DeriveWhole': WHATEVER THE INPUT: true; the input reads as it did. -/
def deriveWholeSpec : ChangeSpec := { name := "deriveWhole", fn := fun _ => fun
  | [d1, d2, d3] => { results := [.lit (.bool true)], args := [d1, d2, d3] }
  | _ => none }
def deriveWholeRow : OpenClaim := { program := "ytffmhpaepdkabaagreatdoor", sum := "aac2a805378793a840b144dfea2048d16c9d4d324a6394b7b3fa939f5aadd7bb", func := "hornbook/hornbooklaw16.DeriveWhole", spec := "deriveWhole", inPlace := ["internal/bytealg.IndexByteString", "internal/bytealg.IndexString", "internal/abi.NoEscape", "internal/bytealg.CountString"], unfollowed := true, recurses := true, named := ["internal/bytealg.MaxLen", "unicode/utf8.first", "unicode/utf8.acceptRanges"], apart := false, laid := [("unicode/utf8.acceptRanges", laid_unicode_utf8_acceptRanges), ("unicode/utf8.first", laid_unicode_utf8_first)] }
def DeriveWholeSaid : Prop := deriveWholeRow.holds Tryz.pinned (OpenSpec.ofChange deriveWholeSpec)

/-- ITS FALSE NEIGHBOUR: 'it returns false'. Refute it at one input. -/
def deriveWholeWrong : ChangeSpec := { name := "deriveWhole", fn := fun _ => fun
  | [d1, d2, d3] => { results := [.lit (.bool false)], args := [d1, d2, d3] }
  | _ => none }
def DeriveWholeWrongFalsely : Prop := deriveWholeRow.holds Tryz.pinned (OpenSpec.ofChange deriveWholeWrong)

/-- 'hornbooklaw16.DeriveMeasures': WHATEVER THE INPUT: true; the input reads as it did. -/
def deriveMeasuresSpec : ChangeSpec := { name := "deriveMeasures", fn := fun _ => fun
  | [d1, d2, d3] => { results := [.lit (.bool true)], args := [d1, d2, d3] }
  | _ => none }
def deriveMeasuresRow : OpenClaim := { program := "ytffmhpaepdkabaagreatdoor", sum := "aac2a805378793a840b144dfea2048d16c9d4d324a6394b7b3fa939f5aadd7bb", func := "hornbook/hornbooklaw16.DeriveMeasures", spec := "deriveMeasures", inPlace := ["internal/bytealg.IndexByteString", "internal/bytealg.IndexString", "internal/abi.NoEscape", "internal/bytealg.CountString"], unfollowed := true, recurses := true, named := ["internal/bytealg.MaxLen", "unicode/utf8.first", "unicode/utf8.acceptRanges"], apart := false, laid := [("unicode/utf8.acceptRanges", laid_unicode_utf8_acceptRanges), ("unicode/utf8.first", laid_unicode_utf8_first)] }
def DeriveMeasuresSaid : Prop := deriveMeasuresRow.holds Tryz.pinned (OpenSpec.ofChange deriveMeasuresSpec)

/-- ITS FALSE NEIGHBOUR: 'it returns false'. Refute it at one input. -/
def deriveMeasuresWrong : ChangeSpec := { name := "deriveMeasures", fn := fun _ => fun
  | [d1, d2, d3] => { results := [.lit (.bool false)], args := [d1, d2, d3] }
  | _ => none }
def DeriveMeasuresWrongFalsely : Prop := deriveMeasuresRow.holds Tryz.pinned (OpenSpec.ofChange deriveMeasuresWrong)

/-- 'hornbooklaw16.DeriveSound': WHATEVER THE INPUT: true; the input reads as it did. -/
def deriveSoundSpec : ChangeSpec := { name := "deriveSound", fn := fun _ => fun
  | [d1, d2, d3] => { results := [.lit (.bool true)], args := [d1, d2, d3] }
  | _ => none }
def deriveSoundRow : OpenClaim := { program := "ytffmhpaepdkabaagreatdoor", sum := "aac2a805378793a840b144dfea2048d16c9d4d324a6394b7b3fa939f5aadd7bb", func := "hornbook/hornbooklaw16.DeriveSound", spec := "deriveSound", inPlace := ["internal/bytealg.IndexByteString", "internal/bytealg.IndexString", "internal/abi.NoEscape", "internal/bytealg.CountString"], unfollowed := true, recurses := true, named := ["internal/bytealg.MaxLen", "unicode/utf8.first", "unicode/utf8.acceptRanges"], apart := false, laid := [("unicode/utf8.acceptRanges", laid_unicode_utf8_acceptRanges), ("unicode/utf8.first", laid_unicode_utf8_first)] }
def DeriveSoundSaid : Prop := deriveSoundRow.holds Tryz.pinned (OpenSpec.ofChange deriveSoundSpec)

/-- ITS FALSE NEIGHBOUR: 'it returns false'. Refute it at one input. -/
def deriveSoundWrong : ChangeSpec := { name := "deriveSound", fn := fun _ => fun
  | [d1, d2, d3] => { results := [.lit (.bool false)], args := [d1, d2, d3] }
  | _ => none }
def DeriveSoundWrongFalsely : Prop := deriveSoundRow.holds Tryz.pinned (OpenSpec.ofChange deriveSoundWrong)

/-- 'hornbooklaw16.DeriveWants': WHATEVER THE INPUT: true; the input reads as it did. -/
def deriveWantsSpec : ChangeSpec := { name := "deriveWants", fn := fun _ => fun
  | [d] => { results := [.lit (.bool true)], args := [d] }
  | _ => none }
def deriveWantsRow : OpenClaim := { program := "ytffmhpaepdkabaagreatdoor", sum := "aac2a805378793a840b144dfea2048d16c9d4d324a6394b7b3fa939f5aadd7bb", func := "hornbook/hornbooklaw16.DeriveWants", spec := "deriveWants", inPlace := ["internal/bytealg.IndexByteString", "internal/bytealg.IndexString", "internal/abi.NoEscape", "internal/bytealg.CountString", "internal/bytealg.MakeNoZero"], unfollowed := true, recurses := true, named := ["internal/bytealg.MaxLen", "unicode/utf8.first", "unicode/utf8.acceptRanges", "hornbook/api.FailNil", "hornbook/api.FailLimits", "hornbook/api.FailRecord", "hornbook/api.FailSpent", "hornbook/api.FailBroken", "hornbook/api.FailClosed", "hornbook/api.FailNoRun", "hornbook/api.FailFull", "hornbook/api.FailSealed", "hornbook/api.FailOpen", "hornbook/api.FailRange"], apart := false, laid := [("unicode/utf8.acceptRanges", laid_unicode_utf8_acceptRanges), ("hornbook/api.FailNil", laid_hornbook_api_FailNil), ("hornbook/api.FailLimits", laid_hornbook_api_FailLimits), ("hornbook/api.FailNoRun", laid_hornbook_api_FailNoRun), ("hornbook/api.FailSealed", laid_hornbook_api_FailSealed), ("hornbook/api.FailOpen", laid_hornbook_api_FailOpen), ("hornbook/api.FailRange", laid_hornbook_api_FailRange), ("hornbook/api.FailFull", laid_hornbook_api_FailFull), ("hornbook/api.FailSpent", laid_hornbook_api_FailSpent), ("hornbook/api.FailBroken", laid_hornbook_api_FailBroken), ("hornbook/api.FailRecord", laid_hornbook_api_FailRecord), ("hornbook/api.FailClosed", laid_hornbook_api_FailClosed), ("unicode/utf8.first", laid_unicode_utf8_first)] }
def DeriveWantsSaid : Prop := deriveWantsRow.holds Tryz.pinned (OpenSpec.ofChange deriveWantsSpec)

/-- ITS FALSE NEIGHBOUR: 'it returns false'. Refute it at one input. -/
def deriveWantsWrong : ChangeSpec := { name := "deriveWants", fn := fun _ => fun
  | [d] => { results := [.lit (.bool false)], args := [d] }
  | _ => none }
def DeriveWantsWrongFalsely : Prop := deriveWantsRow.holds Tryz.pinned (OpenSpec.ofChange deriveWantsWrong)

/-- 'hornbooklaw16.DeriveFeeds': WHATEVER THE INPUT: true; the input reads as it did. -/
def deriveFeedsSpec : ChangeSpec := { name := "deriveFeeds", fn := fun _ => fun
  | [d1, d2, d3] => { results := [.lit (.bool true)], args := [d1, d2, d3] }
  | _ => none }
def deriveFeedsRow : OpenClaim := { program := "ytffmhpaepdkabaagreatdoor", sum := "aac2a805378793a840b144dfea2048d16c9d4d324a6394b7b3fa939f5aadd7bb", func := "hornbook/hornbooklaw16.DeriveFeeds", spec := "deriveFeeds", inPlace := ["internal/bytealg.IndexByteString", "internal/bytealg.IndexString", "internal/abi.NoEscape", "internal/bytealg.CountString", "internal/bytealg.MakeNoZero"], unfollowed := true, recurses := true, named := ["hornbook/api.FailFull", "internal/bytealg.MaxLen", "unicode/utf8.first", "unicode/utf8.acceptRanges", "hornbook/api.FailNil", "hornbook/api.FailLimits", "hornbook/api.FailRecord", "hornbook/api.FailSpent", "hornbook/api.FailBroken", "hornbook/api.FailClosed", "hornbook/api.FailNoRun", "hornbook/api.FailSealed", "hornbook/api.FailOpen", "hornbook/api.FailRange"], apart := false, laid := [("unicode/utf8.acceptRanges", laid_unicode_utf8_acceptRanges), ("hornbook/api.FailNil", laid_hornbook_api_FailNil), ("hornbook/api.FailLimits", laid_hornbook_api_FailLimits), ("hornbook/api.FailNoRun", laid_hornbook_api_FailNoRun), ("hornbook/api.FailSealed", laid_hornbook_api_FailSealed), ("hornbook/api.FailOpen", laid_hornbook_api_FailOpen), ("hornbook/api.FailRange", laid_hornbook_api_FailRange), ("hornbook/api.FailFull", laid_hornbook_api_FailFull), ("hornbook/api.FailSpent", laid_hornbook_api_FailSpent), ("hornbook/api.FailBroken", laid_hornbook_api_FailBroken), ("hornbook/api.FailRecord", laid_hornbook_api_FailRecord), ("hornbook/api.FailClosed", laid_hornbook_api_FailClosed), ("unicode/utf8.first", laid_unicode_utf8_first)] }
def DeriveFeedsSaid : Prop := deriveFeedsRow.holds Tryz.pinned (OpenSpec.ofChange deriveFeedsSpec)

/-- ITS FALSE NEIGHBOUR: 'it returns false'. Refute it at one input. -/
def deriveFeedsWrong : ChangeSpec := { name := "deriveFeeds", fn := fun _ => fun
  | [d1, d2, d3] => { results := [.lit (.bool false)], args := [d1, d2, d3] }
  | _ => none }
def DeriveFeedsWrongFalsely : Prop := deriveFeedsRow.holds Tryz.pinned (OpenSpec.ofChange deriveFeedsWrong)

/- THE SECOND FORM. 'bulk': how many values and letters a reading holds, each counted each time it is reached (what is shared counts as often as it is met; a slice's spare places count too). A statement '..UptoSaid' is the law's where the arguments, and the package variables that the reading takes, are together of bulk at most 1048576: NARROWER than '..Said'. Prove '..Said' where nothing that the law and all that it calls make is longer than what came in: it says more and counts as full. Else prove '..UptoSaid'. A law counts once. -/
mutual
def uptoBulk {H : Type} : DataW H → Nat
  | .lit (.string bytes) => bytes.length + 1
  | .lit _ => 1
  | .nil => 1
  | .ptr d => uptoBulk d + 1
  | .slice elems spare => uptoBulkAll elems + uptoBulkAll spare + 1
  | .agg parts => uptoBulkAll parts + 1
  | .iface _ d => uptoBulk d + 1
  | .map entries => uptoBulkEntries entries + 1
  | .held _ => 1
def uptoBulkAll {H : Type} : List (DataW H) → Nat
  | [] => 0
  | d :: r => uptoBulk d + uptoBulkAll r
def uptoBulkEntries {H : Type} : List (Lit × DataW H) → Nat
  | [] => 0
  | x :: r => uptoBulkEntry x + uptoBulkEntries r
def uptoBulkEntry {H : Type} : Lit × DataW H → Nat
  | (.string bytes, d) => bytes.length + uptoBulk d + 1
  | (_, d) => uptoBulk d + 1
 end
def uptoSmall : (H : Type) → List (DataW H) → Bool := fun _ ds => decide (uptoBulkAll ds ≤ 1048576)
def OpenSpec.upto (s : _root_.Go.ChangeSpec) : _root_.Go.OpenSpec := { _root_.Go.OpenSpec.ofChange s with cond := some uptoSmall }

/-- 'hornbooklaw16.DeriveLists', WHERE WHAT IT READS IS OF BULK AT MOST 1048576: true; the input reads as it did. -/
def deriveListsUptoRow : OpenClaim := { program := "ytffmhpaepdkabaagreatdoor", sum := "aac2a805378793a840b144dfea2048d16c9d4d324a6394b7b3fa939f5aadd7bb", func := "hornbook/hornbooklaw16.DeriveLists", spec := "deriveLists", inPlace := ["internal/bytealg.IndexByteString", "internal/bytealg.IndexString", "internal/abi.NoEscape", "internal/bytealg.CountString"], unfollowed := true, recurses := true, named := ["internal/bytealg.MaxLen", "unicode/utf8.first", "unicode/utf8.acceptRanges"], apart := false, laid := [("unicode/utf8.acceptRanges", laid_unicode_utf8_acceptRanges), ("unicode/utf8.first", laid_unicode_utf8_first)], narrowed := true }
def DeriveListsUptoSaid : Prop := deriveListsUptoRow.holds Tryz.pinned (OpenSpec.upto deriveListsSpec)

/-- 'hornbooklaw16.DeriveEach', WHERE WHAT IT READS IS OF BULK AT MOST 1048576: true; the input reads as it did. -/
def deriveEachUptoRow : OpenClaim := { program := "ytffmhpaepdkabaagreatdoor", sum := "aac2a805378793a840b144dfea2048d16c9d4d324a6394b7b3fa939f5aadd7bb", func := "hornbook/hornbooklaw16.DeriveEach", spec := "deriveEach", inPlace := ["internal/bytealg.IndexByteString", "internal/bytealg.IndexString", "internal/abi.NoEscape", "internal/bytealg.CountString"], unfollowed := true, recurses := true, named := ["internal/bytealg.MaxLen", "unicode/utf8.first", "unicode/utf8.acceptRanges"], apart := false, laid := [("unicode/utf8.acceptRanges", laid_unicode_utf8_acceptRanges), ("unicode/utf8.first", laid_unicode_utf8_first)], narrowed := true }
def DeriveEachUptoSaid : Prop := deriveEachUptoRow.holds Tryz.pinned (OpenSpec.upto deriveEachSpec)

/-- 'hornbooklaw16.DeriveWalks', WHERE WHAT IT READS IS OF BULK AT MOST 1048576: true; the input reads as it did. -/
def deriveWalksUptoRow : OpenClaim := { program := "ytffmhpaepdkabaagreatdoor", sum := "aac2a805378793a840b144dfea2048d16c9d4d324a6394b7b3fa939f5aadd7bb", func := "hornbook/hornbooklaw16.DeriveWalks", spec := "deriveWalks", inPlace := ["internal/bytealg.IndexByteString", "internal/bytealg.IndexString", "internal/abi.NoEscape", "internal/bytealg.CountString"], unfollowed := true, recurses := true, named := ["internal/bytealg.MaxLen", "unicode/utf8.first", "unicode/utf8.acceptRanges"], apart := false, laid := [("unicode/utf8.acceptRanges", laid_unicode_utf8_acceptRanges), ("unicode/utf8.first", laid_unicode_utf8_first)], narrowed := true }
def DeriveWalksUptoSaid : Prop := deriveWalksUptoRow.holds Tryz.pinned (OpenSpec.upto deriveWalksSpec)

/-- 'hornbooklaw16.DeriveWhole', WHERE WHAT IT READS IS OF BULK AT MOST 1048576: true; the input reads as it did. -/
def deriveWholeUptoRow : OpenClaim := { program := "ytffmhpaepdkabaagreatdoor", sum := "aac2a805378793a840b144dfea2048d16c9d4d324a6394b7b3fa939f5aadd7bb", func := "hornbook/hornbooklaw16.DeriveWhole", spec := "deriveWhole", inPlace := ["internal/bytealg.IndexByteString", "internal/bytealg.IndexString", "internal/abi.NoEscape", "internal/bytealg.CountString"], unfollowed := true, recurses := true, named := ["internal/bytealg.MaxLen", "unicode/utf8.first", "unicode/utf8.acceptRanges"], apart := false, laid := [("unicode/utf8.acceptRanges", laid_unicode_utf8_acceptRanges), ("unicode/utf8.first", laid_unicode_utf8_first)], narrowed := true }
def DeriveWholeUptoSaid : Prop := deriveWholeUptoRow.holds Tryz.pinned (OpenSpec.upto deriveWholeSpec)

/-- 'hornbooklaw16.DeriveMeasures', WHERE WHAT IT READS IS OF BULK AT MOST 1048576: true; the input reads as it did. -/
def deriveMeasuresUptoRow : OpenClaim := { program := "ytffmhpaepdkabaagreatdoor", sum := "aac2a805378793a840b144dfea2048d16c9d4d324a6394b7b3fa939f5aadd7bb", func := "hornbook/hornbooklaw16.DeriveMeasures", spec := "deriveMeasures", inPlace := ["internal/bytealg.IndexByteString", "internal/bytealg.IndexString", "internal/abi.NoEscape", "internal/bytealg.CountString"], unfollowed := true, recurses := true, named := ["internal/bytealg.MaxLen", "unicode/utf8.first", "unicode/utf8.acceptRanges"], apart := false, laid := [("unicode/utf8.acceptRanges", laid_unicode_utf8_acceptRanges), ("unicode/utf8.first", laid_unicode_utf8_first)], narrowed := true }
def DeriveMeasuresUptoSaid : Prop := deriveMeasuresUptoRow.holds Tryz.pinned (OpenSpec.upto deriveMeasuresSpec)

/-- 'hornbooklaw16.DeriveSound', WHERE WHAT IT READS IS OF BULK AT MOST 1048576: true; the input reads as it did. -/
def deriveSoundUptoRow : OpenClaim := { program := "ytffmhpaepdkabaagreatdoor", sum := "aac2a805378793a840b144dfea2048d16c9d4d324a6394b7b3fa939f5aadd7bb", func := "hornbook/hornbooklaw16.DeriveSound", spec := "deriveSound", inPlace := ["internal/bytealg.IndexByteString", "internal/bytealg.IndexString", "internal/abi.NoEscape", "internal/bytealg.CountString"], unfollowed := true, recurses := true, named := ["internal/bytealg.MaxLen", "unicode/utf8.first", "unicode/utf8.acceptRanges"], apart := false, laid := [("unicode/utf8.acceptRanges", laid_unicode_utf8_acceptRanges), ("unicode/utf8.first", laid_unicode_utf8_first)], narrowed := true }
def DeriveSoundUptoSaid : Prop := deriveSoundUptoRow.holds Tryz.pinned (OpenSpec.upto deriveSoundSpec)

/-- 'hornbooklaw16.DeriveWants', WHERE WHAT IT READS IS OF BULK AT MOST 1048576: true; the input reads as it did. -/
def deriveWantsUptoRow : OpenClaim := { program := "ytffmhpaepdkabaagreatdoor", sum := "aac2a805378793a840b144dfea2048d16c9d4d324a6394b7b3fa939f5aadd7bb", func := "hornbook/hornbooklaw16.DeriveWants", spec := "deriveWants", inPlace := ["internal/bytealg.IndexByteString", "internal/bytealg.IndexString", "internal/abi.NoEscape", "internal/bytealg.CountString", "internal/bytealg.MakeNoZero"], unfollowed := true, recurses := true, named := ["internal/bytealg.MaxLen", "unicode/utf8.first", "unicode/utf8.acceptRanges", "hornbook/api.FailNil", "hornbook/api.FailLimits", "hornbook/api.FailRecord", "hornbook/api.FailSpent", "hornbook/api.FailBroken", "hornbook/api.FailClosed", "hornbook/api.FailNoRun", "hornbook/api.FailFull", "hornbook/api.FailSealed", "hornbook/api.FailOpen", "hornbook/api.FailRange"], apart := false, laid := [("unicode/utf8.acceptRanges", laid_unicode_utf8_acceptRanges), ("hornbook/api.FailNil", laid_hornbook_api_FailNil), ("hornbook/api.FailLimits", laid_hornbook_api_FailLimits), ("hornbook/api.FailNoRun", laid_hornbook_api_FailNoRun), ("hornbook/api.FailSealed", laid_hornbook_api_FailSealed), ("hornbook/api.FailOpen", laid_hornbook_api_FailOpen), ("hornbook/api.FailRange", laid_hornbook_api_FailRange), ("hornbook/api.FailFull", laid_hornbook_api_FailFull), ("hornbook/api.FailSpent", laid_hornbook_api_FailSpent), ("hornbook/api.FailBroken", laid_hornbook_api_FailBroken), ("hornbook/api.FailRecord", laid_hornbook_api_FailRecord), ("hornbook/api.FailClosed", laid_hornbook_api_FailClosed), ("unicode/utf8.first", laid_unicode_utf8_first)], narrowed := true }
def DeriveWantsUptoSaid : Prop := deriveWantsUptoRow.holds Tryz.pinned (OpenSpec.upto deriveWantsSpec)

/-- 'hornbooklaw16.DeriveFeeds', WHERE WHAT IT READS IS OF BULK AT MOST 1048576: true; the input reads as it did. -/
def deriveFeedsUptoRow : OpenClaim := { program := "ytffmhpaepdkabaagreatdoor", sum := "aac2a805378793a840b144dfea2048d16c9d4d324a6394b7b3fa939f5aadd7bb", func := "hornbook/hornbooklaw16.DeriveFeeds", spec := "deriveFeeds", inPlace := ["internal/bytealg.IndexByteString", "internal/bytealg.IndexString", "internal/abi.NoEscape", "internal/bytealg.CountString", "internal/bytealg.MakeNoZero"], unfollowed := true, recurses := true, named := ["hornbook/api.FailFull", "internal/bytealg.MaxLen", "unicode/utf8.first", "unicode/utf8.acceptRanges", "hornbook/api.FailNil", "hornbook/api.FailLimits", "hornbook/api.FailRecord", "hornbook/api.FailSpent", "hornbook/api.FailBroken", "hornbook/api.FailClosed", "hornbook/api.FailNoRun", "hornbook/api.FailSealed", "hornbook/api.FailOpen", "hornbook/api.FailRange"], apart := false, laid := [("unicode/utf8.acceptRanges", laid_unicode_utf8_acceptRanges), ("hornbook/api.FailNil", laid_hornbook_api_FailNil), ("hornbook/api.FailLimits", laid_hornbook_api_FailLimits), ("hornbook/api.FailNoRun", laid_hornbook_api_FailNoRun), ("hornbook/api.FailSealed", laid_hornbook_api_FailSealed), ("hornbook/api.FailOpen", laid_hornbook_api_FailOpen), ("hornbook/api.FailRange", laid_hornbook_api_FailRange), ("hornbook/api.FailFull", laid_hornbook_api_FailFull), ("hornbook/api.FailSpent", laid_hornbook_api_FailSpent), ("hornbook/api.FailBroken", laid_hornbook_api_FailBroken), ("hornbook/api.FailRecord", laid_hornbook_api_FailRecord), ("hornbook/api.FailClosed", laid_hornbook_api_FailClosed), ("unicode/utf8.first", laid_unicode_utf8_first)], narrowed := true }
def DeriveFeedsUptoSaid : Prop := deriveFeedsUptoRow.holds Tryz.pinned (OpenSpec.upto deriveFeedsSpec)

end Rows
end Go.Proofs.YtffmhpaepdkabaaGreatDoor
