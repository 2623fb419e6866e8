/-
  NARROWER THAN 'FOR EVERY INPUT', by the rows' own cells (each row's printed sentence says how): BookLoads: laid · BookAsks: laid · BookKeeps: laid.
  DERIVED. THE GIVEN ROWS OF THIS SEAT. 3 by the template 'for every input the law returns true; each argument reads behind the call as it read before'; 0 by the template 'total and deterministic' (their statements: YtjaoldaegkmkjaaGreatDoorTotals.lean).
  GIVEN WITH THE SEED: the statements are not yours to turn. If you find one false, say at which input.
  Laid BY PROGRAM, IN A SANDBOX (cutbox-rows.mjs): the forced cells as the released guide's own fill.sh prints them over the translation ea214dd43b8f619b… (all of the seat's roots in one cut). By AI agents, Wed Nov 11 2026. No macro, syntax, notation, axiom, sorry.
-/
import Derived.Test.YtjaoldaegkmkjaaGreatDoorChecked
import GoSem.PinnedTables
import GoSem.Claim
import GoSem.ClaimJoined
import GoSem.ClaimMapViews
import Derived.JoinedTies
import Derived.KernelRfl
namespace Go.Proofs.YtjaoldaegkmkjaaGreatDoor
/- THE CELL 'sum', in the pinned program and in every row, IS THE sha256 OF THE DUMP (.gsa) THAT YtjaoldaegkmkjaaGreatDoorProg.lean LOADS. Nothing in Lean hashes anything: it is a label: what it is worth is what the hold of that sum in a sandbox is worth. -/
noncomputable def Tryz.pinned : Pinned := { name := "ytjaoldaegkmkjaagreatdoor", sum := "ea214dd43b8f619bb1ee28dce758be2247c1088bad27935efd95e42bcffde44c", checked := Tryz.checked }
namespace Rows
def none {H : Type} : Left H := { results := [], args := [] }

/- WHAT THE LISTED PACKAGE-LEVEL VARIABLES READ AS WHEN THE CALL BEGINS. Each datum BY PROGRAM (the guide's laid-datum.mjs) off the statement by which the dump's own 'gosem.cut.vars' lays the variable. In a bare row this is a premise. The card (YtjaoldaegkmkjaaGreatDoorCards.lean) ties it to the program's text. -/
def laid_unicode_utf8_acceptRanges {H : Type} : DataW H := .agg [.agg [.lit (.int .u8 128), .lit (.int .u8 191)], .agg [.lit (.int .u8 160), .lit (.int .u8 191)], .agg [.lit (.int .u8 128), .lit (.int .u8 159)], .agg [.lit (.int .u8 144), .lit (.int .u8 191)], .agg [.lit (.int .u8 128), .lit (.int .u8 143)], .agg [.lit (.int .u8 0), .lit (.int .u8 0)], .agg [.lit (.int .u8 0), .lit (.int .u8 0)], .agg [.lit (.int .u8 0), .lit (.int .u8 0)], .agg [.lit (.int .u8 0), .lit (.int .u8 0)], .agg [.lit (.int .u8 0), .lit (.int .u8 0)], .agg [.lit (.int .u8 0), .lit (.int .u8 0)], .agg [.lit (.int .u8 0), .lit (.int .u8 0)], .agg [.lit (.int .u8 0), .lit (.int .u8 0)], .agg [.lit (.int .u8 0), .lit (.int .u8 0)], .agg [.lit (.int .u8 0), .lit (.int .u8 0)], .agg [.lit (.int .u8 0), .lit (.int .u8 0)]]
def laid_errors_errorType {H : Type} : DataW H := .iface "internal/reflectlite.rtype" (.agg [.ptr (.lit (.string [101, 114, 114, 111, 114]))])
def laid_hornbook_api_FailNil {H : Type} : DataW H := .iface "*errors.errorString" (.ptr (.agg [.lit (.string [110, 111, 32, 111, 98, 106, 101, 99, 116])]))
def laid_hornbook_api_FailLimits {H : Type} : DataW H := .iface "*errors.errorString" (.ptr (.agg [.lit (.string [97, 32, 110, 117, 109, 98, 101, 114, 32, 111, 117, 116, 32, 111, 102, 32, 105, 116, 115, 32, 114, 97, 110, 103, 101])]))
def laid_hornbook_api_FailNoRun {H : Type} : DataW H := .iface "*errors.errorString" (.ptr (.agg [.lit (.string [110, 111, 32, 115, 117, 99, 104, 32, 114, 117, 110])]))
def laid_hornbook_api_FailSealed {H : Type} : DataW H := .iface "*errors.errorString" (.ptr (.agg [.lit (.string [116, 104, 101, 32, 114, 117, 110, 32, 105, 115, 32, 115, 101, 97, 108, 101, 100])]))
def laid_hornbook_api_FailOpen {H : Type} : DataW H := .iface "*errors.errorString" (.ptr (.agg [.lit (.string [116, 104, 101, 32, 114, 117, 110, 32, 105, 115, 32, 110, 111, 116, 32, 115, 101, 97, 108, 101, 100])]))
def laid_hornbook_api_FailRange {H : Type} : DataW H := .iface "*errors.errorString" (.ptr (.agg [.lit (.string [110, 111, 32, 115, 117, 99, 104, 32, 112, 108, 97, 99, 101, 32, 105, 110, 32, 116, 104, 101, 32, 114, 117, 110])]))
def laid_hornbook_api_FailFull {H : Type} : DataW H := .iface "*errors.errorString" (.ptr (.agg [.lit (.string [116, 104, 101, 32, 115, 116, 111, 114, 101, 32, 105, 115, 32, 102, 117, 108, 108])]))
def laid_hornbook_api_FailSpent {H : Type} : DataW H := .iface "*errors.errorString" (.ptr (.agg [.lit (.string [110, 111, 32, 114, 117, 110, 32, 110, 117, 109, 98, 101, 114, 32, 105, 115, 32, 108, 101, 102, 116])]))
def laid_hornbook_api_FailBroken {H : Type} : DataW H := .iface "*errors.errorString" (.ptr (.agg [.lit (.string [116, 104, 101, 32, 115, 116, 111, 114, 101, 32, 114, 101, 102, 117, 115, 101, 100, 32, 97, 32, 115, 116, 101, 112])]))
def laid_hornbook_api_FailRecord {H : Type} : DataW H := .iface "*errors.errorString" (.ptr (.agg [.lit (.string [116, 104, 101, 32, 114, 101, 99, 111, 114, 100, 32, 105, 115, 32, 116, 111, 111, 32, 108, 111, 110, 103])]))
def laid_hornbook_api_FailTorn {H : Type} : DataW H := .iface "*errors.errorString" (.ptr (.agg [.lit (.string [116, 104, 101, 32, 114, 117, 110, 32, 105, 115, 32, 116, 111, 114, 110])]))
def laid_hornbook_api_FailSame {H : Type} : DataW H := .iface "*errors.errorString" (.ptr (.agg [.lit (.string [97, 32, 114, 117, 110, 32, 105, 115, 32, 110, 97, 109, 101, 100, 32, 116, 119, 105, 99, 101])]))
def laid_hornbook_api_FailClosed {H : Type} : DataW H := .iface "*errors.errorString" (.ptr (.agg [.lit (.string [99, 108, 111, 115, 101, 100])]))
/-- One of Go's own tables, pinned by name: the form's constant. -/
def laid_unicode_utf8_first : DataW Unit := Go.Pinned.utf8First

/-- 'hornbooklaw21.BookLoads': WHATEVER THE INPUT: true; the input reads as it did. -/
def bookLoadsSpec : ChangeSpec := { name := "bookLoads", fn := fun _ => fun
  | [d] => { results := [.lit (.bool true)], args := [d] }
  | _ => none }
def bookLoadsRow : OpenClaim := { program := "ytjaoldaegkmkjaagreatdoor", sum := "ea214dd43b8f619bb1ee28dce758be2247c1088bad27935efd95e42bcffde44c", func := "hornbook/hornbooklaw21.BookLoads", spec := "bookLoads", inPlace := ["internal/abi.NoEscape", "internal/bytealg.IndexByteString", "internal/bytealg.IndexString", "internal/bytealg.CountString", "internal/bytealg.MakeNoZero", "internal/reflectlite.TypeOf", "internal/reflectlite.ValueOf", "(internal/reflectlite.Value).Type", "(internal/reflectlite.Value).IsNil", "(internal/reflectlite.Value).Elem", "(internal/reflectlite.Value).Set"], unfollowed := true, recurses := true, named := ["internal/bytealg.MaxLen", "unicode/utf8.first", "unicode/utf8.acceptRanges", "hornbook/api.FailNil", "hornbook/api.FailLimits", "hornbook/api.FailRecord", "hornbook/api.FailSpent", "hornbook/api.FailBroken", "hornbook/api.FailClosed", "hornbook/api.FailNoRun", "hornbook/api.FailFull", "hornbook/api.FailSealed", "hornbook/api.FailSame", "hornbook/api.FailOpen", "hornbook/api.FailRange", "hornbook/api.FailTorn", "errors.errorType"], plainKeys := false, apart := false, laid := [("unicode/utf8.acceptRanges", laid_unicode_utf8_acceptRanges), ("errors.errorType", laid_errors_errorType), ("hornbook/api.FailNil", laid_hornbook_api_FailNil), ("hornbook/api.FailLimits", laid_hornbook_api_FailLimits), ("hornbook/api.FailNoRun", laid_hornbook_api_FailNoRun), ("hornbook/api.FailSealed", laid_hornbook_api_FailSealed), ("hornbook/api.FailOpen", laid_hornbook_api_FailOpen), ("hornbook/api.FailRange", laid_hornbook_api_FailRange), ("hornbook/api.FailFull", laid_hornbook_api_FailFull), ("hornbook/api.FailSpent", laid_hornbook_api_FailSpent), ("hornbook/api.FailBroken", laid_hornbook_api_FailBroken), ("hornbook/api.FailRecord", laid_hornbook_api_FailRecord), ("hornbook/api.FailTorn", laid_hornbook_api_FailTorn), ("hornbook/api.FailSame", laid_hornbook_api_FailSame), ("hornbook/api.FailClosed", laid_hornbook_api_FailClosed), ("unicode/utf8.first", laid_unicode_utf8_first)] }
def BookLoadsSaid : Prop := bookLoadsRow.holds Tryz.pinned (OpenSpec.ofChange bookLoadsSpec)

/-- ITS FALSE NEIGHBOUR: 'it returns false'. Refute it at one input. -/
def bookLoadsWrong : ChangeSpec := { name := "bookLoads", fn := fun _ => fun
  | [d] => { results := [.lit (.bool false)], args := [d] }
  | _ => none }
def BookLoadsWrongFalsely : Prop := bookLoadsRow.holds Tryz.pinned (OpenSpec.ofChange bookLoadsWrong)

/-- 'hornbooklaw21.BookAsks': WHATEVER THE INPUT: true; the input reads as it did. -/
def bookAsksSpec : ChangeSpec := { name := "bookAsks", fn := fun _ => fun
  | [d] => { results := [.lit (.bool true)], args := [d] }
  | _ => none }
def bookAsksRow : OpenClaim := { program := "ytjaoldaegkmkjaagreatdoor", sum := "ea214dd43b8f619bb1ee28dce758be2247c1088bad27935efd95e42bcffde44c", func := "hornbook/hornbooklaw21.BookAsks", spec := "bookAsks", inPlace := ["internal/bytealg.IndexByteString", "internal/bytealg.IndexString", "internal/abi.NoEscape", "internal/bytealg.CountString", "internal/bytealg.MakeNoZero", "internal/reflectlite.TypeOf", "internal/reflectlite.ValueOf", "(internal/reflectlite.Value).Type", "(internal/reflectlite.Value).IsNil", "(internal/reflectlite.Value).Elem", "(internal/reflectlite.Value).Set"], unfollowed := true, recurses := true, named := ["internal/bytealg.MaxLen", "unicode/utf8.first", "unicode/utf8.acceptRanges", "hornbook/api.FailNil", "hornbook/api.FailLimits", "hornbook/api.FailRecord", "hornbook/api.FailSpent", "hornbook/api.FailBroken", "hornbook/api.FailClosed", "hornbook/api.FailNoRun", "hornbook/api.FailFull", "hornbook/api.FailSealed", "hornbook/api.FailSame", "hornbook/api.FailOpen", "hornbook/api.FailRange", "hornbook/api.FailTorn", "errors.errorType"], plainKeys := false, apart := false, laid := [("unicode/utf8.acceptRanges", laid_unicode_utf8_acceptRanges), ("errors.errorType", laid_errors_errorType), ("hornbook/api.FailNil", laid_hornbook_api_FailNil), ("hornbook/api.FailLimits", laid_hornbook_api_FailLimits), ("hornbook/api.FailNoRun", laid_hornbook_api_FailNoRun), ("hornbook/api.FailSealed", laid_hornbook_api_FailSealed), ("hornbook/api.FailOpen", laid_hornbook_api_FailOpen), ("hornbook/api.FailRange", laid_hornbook_api_FailRange), ("hornbook/api.FailFull", laid_hornbook_api_FailFull), ("hornbook/api.FailSpent", laid_hornbook_api_FailSpent), ("hornbook/api.FailBroken", laid_hornbook_api_FailBroken), ("hornbook/api.FailRecord", laid_hornbook_api_FailRecord), ("hornbook/api.FailTorn", laid_hornbook_api_FailTorn), ("hornbook/api.FailSame", laid_hornbook_api_FailSame), ("hornbook/api.FailClosed", laid_hornbook_api_FailClosed), ("unicode/utf8.first", laid_unicode_utf8_first)] }
def BookAsksSaid : Prop := bookAsksRow.holds Tryz.pinned (OpenSpec.ofChange bookAsksSpec)

/-- ITS FALSE NEIGHBOUR: 'it returns false'. Refute it at one input. -/
def bookAsksWrong : ChangeSpec := { name := "bookAsks", fn := fun _ => fun
  | [d] => { results := [.lit (.bool false)], args := [d] }
  | _ => none }
def BookAsksWrongFalsely : Prop := bookAsksRow.holds Tryz.pinned (OpenSpec.ofChange bookAsksWrong)

/-- 'hornbooklaw21.BookKeeps': WHATEVER THE INPUT: true; the input reads as it did. -/
def bookKeepsSpec : ChangeSpec := { name := "bookKeeps", fn := fun _ => fun
  | [d1, d2] => { results := [.lit (.bool true)], args := [d1, d2] }
  | _ => none }
def bookKeepsRow : OpenClaim := { program := "ytjaoldaegkmkjaagreatdoor", sum := "ea214dd43b8f619bb1ee28dce758be2247c1088bad27935efd95e42bcffde44c", func := "hornbook/hornbooklaw21.BookKeeps", spec := "bookKeeps", inPlace := ["internal/bytealg.IndexByteString", "internal/bytealg.IndexString", "internal/abi.NoEscape", "internal/bytealg.CountString", "internal/bytealg.MakeNoZero", "internal/reflectlite.TypeOf", "internal/reflectlite.ValueOf", "(internal/reflectlite.Value).Type", "(internal/reflectlite.Value).IsNil", "(internal/reflectlite.Value).Elem", "(internal/reflectlite.Value).Set"], unfollowed := true, recurses := true, named := ["internal/bytealg.MaxLen", "unicode/utf8.first", "unicode/utf8.acceptRanges", "hornbook/api.FailNil", "hornbook/api.FailLimits", "hornbook/api.FailRecord", "hornbook/api.FailSpent", "hornbook/api.FailBroken", "hornbook/api.FailClosed", "hornbook/api.FailNoRun", "hornbook/api.FailFull", "hornbook/api.FailSealed", "hornbook/api.FailSame", "hornbook/api.FailOpen", "hornbook/api.FailRange", "hornbook/api.FailTorn", "errors.errorType"], plainKeys := false, apart := false, laid := [("unicode/utf8.acceptRanges", laid_unicode_utf8_acceptRanges), ("errors.errorType", laid_errors_errorType), ("hornbook/api.FailNil", laid_hornbook_api_FailNil), ("hornbook/api.FailLimits", laid_hornbook_api_FailLimits), ("hornbook/api.FailNoRun", laid_hornbook_api_FailNoRun), ("hornbook/api.FailSealed", laid_hornbook_api_FailSealed), ("hornbook/api.FailOpen", laid_hornbook_api_FailOpen), ("hornbook/api.FailRange", laid_hornbook_api_FailRange), ("hornbook/api.FailFull", laid_hornbook_api_FailFull), ("hornbook/api.FailSpent", laid_hornbook_api_FailSpent), ("hornbook/api.FailBroken", laid_hornbook_api_FailBroken), ("hornbook/api.FailRecord", laid_hornbook_api_FailRecord), ("hornbook/api.FailTorn", laid_hornbook_api_FailTorn), ("hornbook/api.FailSame", laid_hornbook_api_FailSame), ("hornbook/api.FailClosed", laid_hornbook_api_FailClosed), ("unicode/utf8.first", laid_unicode_utf8_first)] }
def BookKeepsSaid : Prop := bookKeepsRow.holds Tryz.pinned (OpenSpec.ofChange bookKeepsSpec)

/-- ITS FALSE NEIGHBOUR: 'it returns false'. Refute it at one input. -/
def bookKeepsWrong : ChangeSpec := { name := "bookKeeps", fn := fun _ => fun
  | [d1, d2] => { results := [.lit (.bool false)], args := [d1, d2] }
  | _ => none }
def BookKeepsWrongFalsely : Prop := bookKeepsRow.holds Tryz.pinned (OpenSpec.ofChange bookKeepsWrong)

/- THE SECOND FORM. 'bulk': how many values and letters a reading holds, each counted each time it is reached (what is shared counts as often as it is met; a slice's spare places count too). A statement '..UptoSaid' is the law's where the arguments, and the package variables that the reading takes, are together of bulk at most 1048576: NARROWER than '..Said'. Prove '..Said' where nothing that the law and all that it calls make is longer than what came in: it says more and counts as full. Else prove '..UptoSaid'. A law counts once. -/
mutual
def uptoBulk {H : Type} : DataW H → Nat
  | .lit (.string bytes) => bytes.length + 1
  | .lit _ => 1
  | .nil => 1
  | .ptr d => uptoBulk d + 1
  | .slice elems spare => uptoBulkAll elems + uptoBulkAll spare + 1
  | .agg parts => uptoBulkAll parts + 1
  | .iface _ d => uptoBulk d + 1
  | .map entries => uptoBulkEntries entries + 1
  | .held _ => 1
def uptoBulkAll {H : Type} : List (DataW H) → Nat
  | [] => 0
  | d :: r => uptoBulk d + uptoBulkAll r
def uptoBulkEntries {H : Type} : List (Lit × DataW H) → Nat
  | [] => 0
  | x :: r => uptoBulkEntry x + uptoBulkEntries r
def uptoBulkEntry {H : Type} : Lit × DataW H → Nat
  | (.string bytes, d) => bytes.length + uptoBulk d + 1
  | (_, d) => uptoBulk d + 1
 end
def uptoSmall : (H : Type) → List (DataW H) → Bool := fun _ ds => decide (uptoBulkAll ds ≤ 1048576)
def OpenSpec.upto (s : _root_.Go.ChangeSpec) : _root_.Go.OpenSpec := { _root_.Go.OpenSpec.ofChange s with cond := some uptoSmall }

/-- 'hornbooklaw21.BookLoads', WHERE WHAT IT READS IS OF BULK AT MOST 1048576: true; the input reads as it did. -/
def bookLoadsUptoRow : OpenClaim := { program := "ytjaoldaegkmkjaagreatdoor", sum := "ea214dd43b8f619bb1ee28dce758be2247c1088bad27935efd95e42bcffde44c", func := "hornbook/hornbooklaw21.BookLoads", spec := "bookLoads", inPlace := ["internal/abi.NoEscape", "internal/bytealg.IndexByteString", "internal/bytealg.IndexString", "internal/bytealg.CountString", "internal/bytealg.MakeNoZero", "internal/reflectlite.TypeOf", "internal/reflectlite.ValueOf", "(internal/reflectlite.Value).Type", "(internal/reflectlite.Value).IsNil", "(internal/reflectlite.Value).Elem", "(internal/reflectlite.Value).Set"], unfollowed := true, recurses := true, named := ["internal/bytealg.MaxLen", "unicode/utf8.first", "unicode/utf8.acceptRanges", "hornbook/api.FailNil", "hornbook/api.FailLimits", "hornbook/api.FailRecord", "hornbook/api.FailSpent", "hornbook/api.FailBroken", "hornbook/api.FailClosed", "hornbook/api.FailNoRun", "hornbook/api.FailFull", "hornbook/api.FailSealed", "hornbook/api.FailSame", "hornbook/api.FailOpen", "hornbook/api.FailRange", "hornbook/api.FailTorn", "errors.errorType"], plainKeys := false, apart := false, laid := [("unicode/utf8.acceptRanges", laid_unicode_utf8_acceptRanges), ("errors.errorType", laid_errors_errorType), ("hornbook/api.FailNil", laid_hornbook_api_FailNil), ("hornbook/api.FailLimits", laid_hornbook_api_FailLimits), ("hornbook/api.FailNoRun", laid_hornbook_api_FailNoRun), ("hornbook/api.FailSealed", laid_hornbook_api_FailSealed), ("hornbook/api.FailOpen", laid_hornbook_api_FailOpen), ("hornbook/api.FailRange", laid_hornbook_api_FailRange), ("hornbook/api.FailFull", laid_hornbook_api_FailFull), ("hornbook/api.FailSpent", laid_hornbook_api_FailSpent), ("hornbook/api.FailBroken", laid_hornbook_api_FailBroken), ("hornbook/api.FailRecord", laid_hornbook_api_FailRecord), ("hornbook/api.FailTorn", laid_hornbook_api_FailTorn), ("hornbook/api.FailSame", laid_hornbook_api_FailSame), ("hornbook/api.FailClosed", laid_hornbook_api_FailClosed), ("unicode/utf8.first", laid_unicode_utf8_first)], narrowed := true }
def BookLoadsUptoSaid : Prop := bookLoadsUptoRow.holds Tryz.pinned (OpenSpec.upto bookLoadsSpec)

/-- 'hornbooklaw21.BookAsks', WHERE WHAT IT READS IS OF BULK AT MOST 1048576: true; the input reads as it did. -/
def bookAsksUptoRow : OpenClaim := { program := "ytjaoldaegkmkjaagreatdoor", sum := "ea214dd43b8f619bb1ee28dce758be2247c1088bad27935efd95e42bcffde44c", func := "hornbook/hornbooklaw21.BookAsks", spec := "bookAsks", inPlace := ["internal/bytealg.IndexByteString", "internal/bytealg.IndexString", "internal/abi.NoEscape", "internal/bytealg.CountString", "internal/bytealg.MakeNoZero", "internal/reflectlite.TypeOf", "internal/reflectlite.ValueOf", "(internal/reflectlite.Value).Type", "(internal/reflectlite.Value).IsNil", "(internal/reflectlite.Value).Elem", "(internal/reflectlite.Value).Set"], unfollowed := true, recurses := true, named := ["internal/bytealg.MaxLen", "unicode/utf8.first", "unicode/utf8.acceptRanges", "hornbook/api.FailNil", "hornbook/api.FailLimits", "hornbook/api.FailRecord", "hornbook/api.FailSpent", "hornbook/api.FailBroken", "hornbook/api.FailClosed", "hornbook/api.FailNoRun", "hornbook/api.FailFull", "hornbook/api.FailSealed", "hornbook/api.FailSame", "hornbook/api.FailOpen", "hornbook/api.FailRange", "hornbook/api.FailTorn", "errors.errorType"], plainKeys := false, apart := false, laid := [("unicode/utf8.acceptRanges", laid_unicode_utf8_acceptRanges), ("errors.errorType", laid_errors_errorType), ("hornbook/api.FailNil", laid_hornbook_api_FailNil), ("hornbook/api.FailLimits", laid_hornbook_api_FailLimits), ("hornbook/api.FailNoRun", laid_hornbook_api_FailNoRun), ("hornbook/api.FailSealed", laid_hornbook_api_FailSealed), ("hornbook/api.FailOpen", laid_hornbook_api_FailOpen), ("hornbook/api.FailRange", laid_hornbook_api_FailRange), ("hornbook/api.FailFull", laid_hornbook_api_FailFull), ("hornbook/api.FailSpent", laid_hornbook_api_FailSpent), ("hornbook/api.FailBroken", laid_hornbook_api_FailBroken), ("hornbook/api.FailRecord", laid_hornbook_api_FailRecord), ("hornbook/api.FailTorn", laid_hornbook_api_FailTorn), ("hornbook/api.FailSame", laid_hornbook_api_FailSame), ("hornbook/api.FailClosed", laid_hornbook_api_FailClosed), ("unicode/utf8.first", laid_unicode_utf8_first)], narrowed := true }
def BookAsksUptoSaid : Prop := bookAsksUptoRow.holds Tryz.pinned (OpenSpec.upto bookAsksSpec)

/-- 'hornbooklaw21.BookKeeps', WHERE WHAT IT READS IS OF BULK AT MOST 1048576: true; the input reads as it did. -/
def bookKeepsUptoRow : OpenClaim := { program := "ytjaoldaegkmkjaagreatdoor", sum := "ea214dd43b8f619bb1ee28dce758be2247c1088bad27935efd95e42bcffde44c", func := "hornbook/hornbooklaw21.BookKeeps", spec := "bookKeeps", inPlace := ["internal/bytealg.IndexByteString", "internal/bytealg.IndexString", "internal/abi.NoEscape", "internal/bytealg.CountString", "internal/bytealg.MakeNoZero", "internal/reflectlite.TypeOf", "internal/reflectlite.ValueOf", "(internal/reflectlite.Value).Type", "(internal/reflectlite.Value).IsNil", "(internal/reflectlite.Value).Elem", "(internal/reflectlite.Value).Set"], unfollowed := true, recurses := true, named := ["internal/bytealg.MaxLen", "unicode/utf8.first", "unicode/utf8.acceptRanges", "hornbook/api.FailNil", "hornbook/api.FailLimits", "hornbook/api.FailRecord", "hornbook/api.FailSpent", "hornbook/api.FailBroken", "hornbook/api.FailClosed", "hornbook/api.FailNoRun", "hornbook/api.FailFull", "hornbook/api.FailSealed", "hornbook/api.FailSame", "hornbook/api.FailOpen", "hornbook/api.FailRange", "hornbook/api.FailTorn", "errors.errorType"], plainKeys := false, apart := false, laid := [("unicode/utf8.acceptRanges", laid_unicode_utf8_acceptRanges), ("errors.errorType", laid_errors_errorType), ("hornbook/api.FailNil", laid_hornbook_api_FailNil), ("hornbook/api.FailLimits", laid_hornbook_api_FailLimits), ("hornbook/api.FailNoRun", laid_hornbook_api_FailNoRun), ("hornbook/api.FailSealed", laid_hornbook_api_FailSealed), ("hornbook/api.FailOpen", laid_hornbook_api_FailOpen), ("hornbook/api.FailRange", laid_hornbook_api_FailRange), ("hornbook/api.FailFull", laid_hornbook_api_FailFull), ("hornbook/api.FailSpent", laid_hornbook_api_FailSpent), ("hornbook/api.FailBroken", laid_hornbook_api_FailBroken), ("hornbook/api.FailRecord", laid_hornbook_api_FailRecord), ("hornbook/api.FailTorn", laid_hornbook_api_FailTorn), ("hornbook/api.FailSame", laid_hornbook_api_FailSame), ("hornbook/api.FailClosed", laid_hornbook_api_FailClosed), ("unicode/utf8.first", laid_unicode_utf8_first)], narrowed := true }
def BookKeepsUptoSaid : Prop := bookKeepsUptoRow.holds Tryz.pinned (OpenSpec.upto bookKeepsSpec)

end Rows
end Go.Proofs.YtjaoldaegkmkjaaGreatDoor
