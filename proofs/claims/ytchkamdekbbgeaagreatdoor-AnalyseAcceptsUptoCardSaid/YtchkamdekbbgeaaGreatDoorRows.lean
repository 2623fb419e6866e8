/-
  NARROWER THAN 'FOR EVERY INPUT', by the rows' own cells (each row's printed sentence says how): AnalyseWords: laid · AnalyseAccepts: laid · AnalyseStems: laid · AnalyseTells: laid · AnalyseMakes: laid · AnalyseCounts: laid.
  DERIVED. THE GIVEN ROWS OF THIS SEAT. 6 by the template 'for every input the law returns true; each argument reads behind the call as it read before'; 0 by the template 'total and deterministic' (their statements: YtchkamdekbbgeaaGreatDoorTotals.lean).
  GIVEN WITH THE SEED: the statements are not yours to turn. If you find one false, say at which input.
  Laid BY PROGRAM, IN A SANDBOX (cutbox-rows.mjs): the forced cells as the released guide's own fill.sh prints them over the translation f2e868dfba621a6f… (all of the seat's roots in one cut). By AI agents, Wed Nov 11 2026. No macro, syntax, notation, axiom, sorry.
-/
import Derived.Test.YtchkamdekbbgeaaGreatDoorChecked
import GoSem.PinnedTables
import GoSem.Claim
import GoSem.ClaimJoined
import GoSem.ClaimMapViews
import Derived.JoinedTies
import Derived.KernelRfl
namespace Go.Proofs.YtchkamdekbbgeaaGreatDoor
/- THE CELL 'sum', in the pinned program and in every row, IS THE sha256 OF THE DUMP (.gsa) THAT YtchkamdekbbgeaaGreatDoorProg.lean LOADS. Nothing in Lean hashes anything: it is a label: what it is worth is what the hold of that sum in a sandbox is worth. -/
noncomputable def Tryz.pinned : Pinned := { name := "ytchkamdekbbgeaagreatdoor", sum := "f2e868dfba621a6f8cd2fab29038a8e5a546de3ab0243a8dd9a9d0bb6debaae9", checked := Tryz.checked }
namespace Rows
def none {H : Type} : Left H := { results := [], args := [] }

/- WHAT THE LISTED PACKAGE-LEVEL VARIABLES READ AS WHEN THE CALL BEGINS. Each datum BY PROGRAM (the guide's laid-datum.mjs) off the statement by which the dump's own 'gosem.cut.vars' lays the variable. In a bare row this is a premise. The card (YtchkamdekbbgeaaGreatDoorCards.lean) ties it to the program's text. -/
def laid_unicode_utf8_acceptRanges {H : Type} : DataW H := .agg [.agg [.lit (.int .u8 128), .lit (.int .u8 191)], .agg [.lit (.int .u8 160), .lit (.int .u8 191)], .agg [.lit (.int .u8 128), .lit (.int .u8 159)], .agg [.lit (.int .u8 144), .lit (.int .u8 191)], .agg [.lit (.int .u8 128), .lit (.int .u8 143)], .agg [.lit (.int .u8 0), .lit (.int .u8 0)], .agg [.lit (.int .u8 0), .lit (.int .u8 0)], .agg [.lit (.int .u8 0), .lit (.int .u8 0)], .agg [.lit (.int .u8 0), .lit (.int .u8 0)], .agg [.lit (.int .u8 0), .lit (.int .u8 0)], .agg [.lit (.int .u8 0), .lit (.int .u8 0)], .agg [.lit (.int .u8 0), .lit (.int .u8 0)], .agg [.lit (.int .u8 0), .lit (.int .u8 0)], .agg [.lit (.int .u8 0), .lit (.int .u8 0)], .agg [.lit (.int .u8 0), .lit (.int .u8 0)], .agg [.lit (.int .u8 0), .lit (.int .u8 0)]]
/-- One of Go's own tables, pinned by name: the form's constant. -/
def laid_unicode_utf8_first : DataW Unit := Go.Pinned.utf8First

/-- 'hornbooklaw17.AnalyseWords': WHATEVER THE INPUT: true; the input reads as it did. -/
def analyseWordsSpec : ChangeSpec := { name := "analyseWords", fn := fun _ => fun
  | [d] => { results := [.lit (.bool true)], args := [d] }
  | _ => none }
def analyseWordsRow : OpenClaim := { program := "ytchkamdekbbgeaagreatdoor", sum := "f2e868dfba621a6f8cd2fab29038a8e5a546de3ab0243a8dd9a9d0bb6debaae9", func := "hornbook/hornbooklaw17.AnalyseWords", spec := "analyseWords", inPlace := ["internal/bytealg.IndexByteString", "internal/bytealg.IndexString", "internal/abi.NoEscape", "internal/bytealg.CountString"], unfollowed := true, recurses := true, named := ["internal/bytealg.MaxLen", "unicode/utf8.first", "unicode/utf8.acceptRanges"], plainKeys := false, apart := false, laid := [("unicode/utf8.acceptRanges", laid_unicode_utf8_acceptRanges), ("unicode/utf8.first", laid_unicode_utf8_first)] }
def AnalyseWordsSaid : Prop := analyseWordsRow.holds Tryz.pinned (OpenSpec.ofChange analyseWordsSpec)

/-- ITS FALSE NEIGHBOUR: 'it returns false'. Refute it at one input. -/
def analyseWordsWrong : ChangeSpec := { name := "analyseWords", fn := fun _ => fun
  | [d] => { results := [.lit (.bool false)], args := [d] }
  | _ => none }
def AnalyseWordsWrongFalsely : Prop := analyseWordsRow.holds Tryz.pinned (OpenSpec.ofChange analyseWordsWrong)

/-- 'hornbooklaw17.AnalyseAccepts': WHATEVER THE INPUT: true; the input reads as it did. -/
def analyseAcceptsSpec : ChangeSpec := { name := "analyseAccepts", fn := fun _ => fun
  | [d1, d2, d3] => { results := [.lit (.bool true)], args := [d1, d2, d3] }
  | _ => none }
def analyseAcceptsRow : OpenClaim := { program := "ytchkamdekbbgeaagreatdoor", sum := "f2e868dfba621a6f8cd2fab29038a8e5a546de3ab0243a8dd9a9d0bb6debaae9", func := "hornbook/hornbooklaw17.AnalyseAccepts", spec := "analyseAccepts", inPlace := ["internal/bytealg.IndexByteString", "internal/bytealg.IndexString", "internal/abi.NoEscape", "internal/bytealg.CountString"], unfollowed := true, recurses := true, named := ["internal/bytealg.MaxLen", "unicode/utf8.first", "unicode/utf8.acceptRanges"], plainKeys := false, apart := false, laid := [("unicode/utf8.acceptRanges", laid_unicode_utf8_acceptRanges), ("unicode/utf8.first", laid_unicode_utf8_first)] }
def AnalyseAcceptsSaid : Prop := analyseAcceptsRow.holds Tryz.pinned (OpenSpec.ofChange analyseAcceptsSpec)

/-- ITS FALSE NEIGHBOUR: 'it returns false'. Refute it at one input. -/
def analyseAcceptsWrong : ChangeSpec := { name := "analyseAccepts", fn := fun _ => fun
  | [d1, d2, d3] => { results := [.lit (.bool false)], args := [d1, d2, d3] }
  | _ => none }
def AnalyseAcceptsWrongFalsely : Prop := analyseAcceptsRow.holds Tryz.pinned (OpenSpec.ofChange analyseAcceptsWrong)

/-- 'hornbooklaw17.AnalyseStems': WHATEVER THE INPUT: true; the input reads as it did. -/
def analyseStemsSpec : ChangeSpec := { name := "analyseStems", fn := fun _ => fun
  | [d1, d2, d3] => { results := [.lit (.bool true)], args := [d1, d2, d3] }
  | _ => none }
def analyseStemsRow : OpenClaim := { program := "ytchkamdekbbgeaagreatdoor", sum := "f2e868dfba621a6f8cd2fab29038a8e5a546de3ab0243a8dd9a9d0bb6debaae9", func := "hornbook/hornbooklaw17.AnalyseStems", spec := "analyseStems", inPlace := ["internal/bytealg.IndexByteString", "internal/bytealg.IndexString", "internal/abi.NoEscape", "internal/bytealg.CountString"], unfollowed := true, recurses := true, named := ["internal/bytealg.MaxLen", "unicode/utf8.first", "unicode/utf8.acceptRanges"], plainKeys := false, apart := false, laid := [("unicode/utf8.acceptRanges", laid_unicode_utf8_acceptRanges), ("unicode/utf8.first", laid_unicode_utf8_first)] }
def AnalyseStemsSaid : Prop := analyseStemsRow.holds Tryz.pinned (OpenSpec.ofChange analyseStemsSpec)

/-- ITS FALSE NEIGHBOUR: 'it returns false'. Refute it at one input. -/
def analyseStemsWrong : ChangeSpec := { name := "analyseStems", fn := fun _ => fun
  | [d1, d2, d3] => { results := [.lit (.bool false)], args := [d1, d2, d3] }
  | _ => none }
def AnalyseStemsWrongFalsely : Prop := analyseStemsRow.holds Tryz.pinned (OpenSpec.ofChange analyseStemsWrong)

/-- 'hornbooklaw17.AnalyseTells': WHATEVER THE INPUT: true; the input reads as it did. -/
def analyseTellsSpec : ChangeSpec := { name := "analyseTells", fn := fun _ => fun
  | [d1, d2, d3] => { results := [.lit (.bool true)], args := [d1, d2, d3] }
  | _ => none }
def analyseTellsRow : OpenClaim := { program := "ytchkamdekbbgeaagreatdoor", sum := "f2e868dfba621a6f8cd2fab29038a8e5a546de3ab0243a8dd9a9d0bb6debaae9", func := "hornbook/hornbooklaw17.AnalyseTells", spec := "analyseTells", inPlace := ["internal/bytealg.IndexByteString", "internal/bytealg.IndexString", "internal/abi.NoEscape", "internal/bytealg.CountString"], unfollowed := true, recurses := true, named := ["internal/bytealg.MaxLen", "unicode/utf8.first", "unicode/utf8.acceptRanges"], plainKeys := false, apart := false, laid := [("unicode/utf8.acceptRanges", laid_unicode_utf8_acceptRanges), ("unicode/utf8.first", laid_unicode_utf8_first)] }
def AnalyseTellsSaid : Prop := analyseTellsRow.holds Tryz.pinned (OpenSpec.ofChange analyseTellsSpec)

/-- ITS FALSE NEIGHBOUR: 'it returns false'. Refute it at one input. -/
def analyseTellsWrong : ChangeSpec := { name := "analyseTells", fn := fun _ => fun
  | [d1, d2, d3] => { results := [.lit (.bool false)], args := [d1, d2, d3] }
  | _ => none }
def AnalyseTellsWrongFalsely : Prop := analyseTellsRow.holds Tryz.pinned (OpenSpec.ofChange analyseTellsWrong)

/-- 'hornbooklaw17.AnalyseMakes': WHATEVER THE INPUT: true; the input reads as it did. -/
def analyseMakesSpec : ChangeSpec := { name := "analyseMakes", fn := fun _ => fun
  | [d] => { results := [.lit (.bool true)], args := [d] }
  | _ => none }
def analyseMakesRow : OpenClaim := { program := "ytchkamdekbbgeaagreatdoor", sum := "f2e868dfba621a6f8cd2fab29038a8e5a546de3ab0243a8dd9a9d0bb6debaae9", func := "hornbook/hornbooklaw17.AnalyseMakes", spec := "analyseMakes", inPlace := ["internal/bytealg.IndexByteString", "internal/bytealg.IndexString", "internal/abi.NoEscape", "internal/bytealg.CountString"], unfollowed := true, recurses := true, named := ["internal/bytealg.MaxLen", "unicode/utf8.first", "unicode/utf8.acceptRanges"], plainKeys := false, apart := false, laid := [("unicode/utf8.acceptRanges", laid_unicode_utf8_acceptRanges), ("unicode/utf8.first", laid_unicode_utf8_first)] }
def AnalyseMakesSaid : Prop := analyseMakesRow.holds Tryz.pinned (OpenSpec.ofChange analyseMakesSpec)

/-- ITS FALSE NEIGHBOUR: 'it returns false'. Refute it at one input. -/
def analyseMakesWrong : ChangeSpec := { name := "analyseMakes", fn := fun _ => fun
  | [d] => { results := [.lit (.bool false)], args := [d] }
  | _ => none }
def AnalyseMakesWrongFalsely : Prop := analyseMakesRow.holds Tryz.pinned (OpenSpec.ofChange analyseMakesWrong)

/-- 'hornbooklaw17.AnalyseCounts': WHATEVER THE INPUT: true; the input reads as it did. -/
def analyseCountsSpec : ChangeSpec := { name := "analyseCounts", fn := fun _ => fun
  | [d1, d2] => { results := [.lit (.bool true)], args := [d1, d2] }
  | _ => none }
def analyseCountsRow : OpenClaim := { program := "ytchkamdekbbgeaagreatdoor", sum := "f2e868dfba621a6f8cd2fab29038a8e5a546de3ab0243a8dd9a9d0bb6debaae9", func := "hornbook/hornbooklaw17.AnalyseCounts", spec := "analyseCounts", inPlace := ["internal/bytealg.IndexByteString", "internal/bytealg.IndexString", "internal/abi.NoEscape", "internal/bytealg.CountString"], unfollowed := true, recurses := true, named := ["internal/bytealg.MaxLen", "unicode/utf8.first", "unicode/utf8.acceptRanges"], plainKeys := false, apart := false, laid := [("unicode/utf8.acceptRanges", laid_unicode_utf8_acceptRanges), ("unicode/utf8.first", laid_unicode_utf8_first)] }
def AnalyseCountsSaid : Prop := analyseCountsRow.holds Tryz.pinned (OpenSpec.ofChange analyseCountsSpec)

/-- ITS FALSE NEIGHBOUR: 'it returns false'. Refute it at one input. -/
def analyseCountsWrong : ChangeSpec := { name := "analyseCounts", fn := fun _ => fun
  | [d1, d2] => { results := [.lit (.bool false)], args := [d1, d2] }
  | _ => none }
def AnalyseCountsWrongFalsely : Prop := analyseCountsRow.holds Tryz.pinned (OpenSpec.ofChange analyseCountsWrong)

/- THE SECOND FORM. 'bulk': how many values and letters a reading holds, each counted each time it is reached (what is shared counts as often as it is met; a slice's spare places count too). A statement '..UptoSaid' is the law's where the arguments, and the package variables that the reading takes, are together of bulk at most 1048576: NARROWER than '..Said'. Prove '..Said' where nothing that the law and all that it calls make is longer than what came in: it says more and counts as full. Else prove '..UptoSaid'. A law counts once. -/
mutual
def uptoBulk {H : Type} : DataW H → Nat
  | .lit (.string bytes) => bytes.length + 1
  | .lit _ => 1
  | .nil => 1
  | .ptr d => uptoBulk d + 1
  | .slice elems spare => uptoBulkAll elems + uptoBulkAll spare + 1
  | .agg parts => uptoBulkAll parts + 1
  | .iface _ d => uptoBulk d + 1
  | .map entries => uptoBulkEntries entries + 1
  | .held _ => 1
def uptoBulkAll {H : Type} : List (DataW H) → Nat
  | [] => 0
  | d :: r => uptoBulk d + uptoBulkAll r
def uptoBulkEntries {H : Type} : List (Lit × DataW H) → Nat
  | [] => 0
  | x :: r => uptoBulkEntry x + uptoBulkEntries r
def uptoBulkEntry {H : Type} : Lit × DataW H → Nat
  | (.string bytes, d) => bytes.length + uptoBulk d + 1
  | (_, d) => uptoBulk d + 1
 end
def uptoSmall : (H : Type) → List (DataW H) → Bool := fun _ ds => decide (uptoBulkAll ds ≤ 1048576)
def OpenSpec.upto (s : _root_.Go.ChangeSpec) : _root_.Go.OpenSpec := { _root_.Go.OpenSpec.ofChange s with cond := some uptoSmall }

/-- 'hornbooklaw17.AnalyseWords', WHERE WHAT IT READS IS OF BULK AT MOST 1048576: true; the input reads as it did. -/
def analyseWordsUptoRow : OpenClaim := { program := "ytchkamdekbbgeaagreatdoor", sum := "f2e868dfba621a6f8cd2fab29038a8e5a546de3ab0243a8dd9a9d0bb6debaae9", func := "hornbook/hornbooklaw17.AnalyseWords", spec := "analyseWords", inPlace := ["internal/bytealg.IndexByteString", "internal/bytealg.IndexString", "internal/abi.NoEscape", "internal/bytealg.CountString"], unfollowed := true, recurses := true, named := ["internal/bytealg.MaxLen", "unicode/utf8.first", "unicode/utf8.acceptRanges"], plainKeys := false, apart := false, laid := [("unicode/utf8.acceptRanges", laid_unicode_utf8_acceptRanges), ("unicode/utf8.first", laid_unicode_utf8_first)], narrowed := true }
def AnalyseWordsUptoSaid : Prop := analyseWordsUptoRow.holds Tryz.pinned (OpenSpec.upto analyseWordsSpec)

/-- 'hornbooklaw17.AnalyseAccepts', WHERE WHAT IT READS IS OF BULK AT MOST 1048576: true; the input reads as it did. -/
def analyseAcceptsUptoRow : OpenClaim := { program := "ytchkamdekbbgeaagreatdoor", sum := "f2e868dfba621a6f8cd2fab29038a8e5a546de3ab0243a8dd9a9d0bb6debaae9", func := "hornbook/hornbooklaw17.AnalyseAccepts", spec := "analyseAccepts", inPlace := ["internal/bytealg.IndexByteString", "internal/bytealg.IndexString", "internal/abi.NoEscape", "internal/bytealg.CountString"], unfollowed := true, recurses := true, named := ["internal/bytealg.MaxLen", "unicode/utf8.first", "unicode/utf8.acceptRanges"], plainKeys := false, apart := false, laid := [("unicode/utf8.acceptRanges", laid_unicode_utf8_acceptRanges), ("unicode/utf8.first", laid_unicode_utf8_first)], narrowed := true }
def AnalyseAcceptsUptoSaid : Prop := analyseAcceptsUptoRow.holds Tryz.pinned (OpenSpec.upto analyseAcceptsSpec)

/-- 'hornbooklaw17.AnalyseStems', WHERE WHAT IT READS IS OF BULK AT MOST 1048576: true; the input reads as it did. -/
def analyseStemsUptoRow : OpenClaim := { program := "ytchkamdekbbgeaagreatdoor", sum := "f2e868dfba621a6f8cd2fab29038a8e5a546de3ab0243a8dd9a9d0bb6debaae9", func := "hornbook/hornbooklaw17.AnalyseStems", spec := "analyseStems", inPlace := ["internal/bytealg.IndexByteString", "internal/bytealg.IndexString", "internal/abi.NoEscape", "internal/bytealg.CountString"], unfollowed := true, recurses := true, named := ["internal/bytealg.MaxLen", "unicode/utf8.first", "unicode/utf8.acceptRanges"], plainKeys := false, apart := false, laid := [("unicode/utf8.acceptRanges", laid_unicode_utf8_acceptRanges), ("unicode/utf8.first", laid_unicode_utf8_first)], narrowed := true }
def AnalyseStemsUptoSaid : Prop := analyseStemsUptoRow.holds Tryz.pinned (OpenSpec.upto analyseStemsSpec)

/-- 'hornbooklaw17.AnalyseTells', WHERE WHAT IT READS IS OF BULK AT MOST 1048576: true; the input reads as it did. -/
def analyseTellsUptoRow : OpenClaim := { program := "ytchkamdekbbgeaagreatdoor", sum := "f2e868dfba621a6f8cd2fab29038a8e5a546de3ab0243a8dd9a9d0bb6debaae9", func := "hornbook/hornbooklaw17.AnalyseTells", spec := "analyseTells", inPlace := ["internal/bytealg.IndexByteString", "internal/bytealg.IndexString", "internal/abi.NoEscape", "internal/bytealg.CountString"], unfollowed := true, recurses := true, named := ["internal/bytealg.MaxLen", "unicode/utf8.first", "unicode/utf8.acceptRanges"], plainKeys := false, apart := false, laid := [("unicode/utf8.acceptRanges", laid_unicode_utf8_acceptRanges), ("unicode/utf8.first", laid_unicode_utf8_first)], narrowed := true }
def AnalyseTellsUptoSaid : Prop := analyseTellsUptoRow.holds Tryz.pinned (OpenSpec.upto analyseTellsSpec)

/-- 'hornbooklaw17.AnalyseMakes', WHERE WHAT IT READS IS OF BULK AT MOST 1048576: true; the input reads as it did. -/
def analyseMakesUptoRow : OpenClaim := { program := "ytchkamdekbbgeaagreatdoor", sum := "f2e868dfba621a6f8cd2fab29038a8e5a546de3ab0243a8dd9a9d0bb6debaae9", func := "hornbook/hornbooklaw17.AnalyseMakes", spec := "analyseMakes", inPlace := ["internal/bytealg.IndexByteString", "internal/bytealg.IndexString", "internal/abi.NoEscape", "internal/bytealg.CountString"], unfollowed := true, recurses := true, named := ["internal/bytealg.MaxLen", "unicode/utf8.first", "unicode/utf8.acceptRanges"], plainKeys := false, apart := false, laid := [("unicode/utf8.acceptRanges", laid_unicode_utf8_acceptRanges), ("unicode/utf8.first", laid_unicode_utf8_first)], narrowed := true }
def AnalyseMakesUptoSaid : Prop := analyseMakesUptoRow.holds Tryz.pinned (OpenSpec.upto analyseMakesSpec)

/-- 'hornbooklaw17.AnalyseCounts', WHERE WHAT IT READS IS OF BULK AT MOST 1048576: true; the input reads as it did. -/
def analyseCountsUptoRow : OpenClaim := { program := "ytchkamdekbbgeaagreatdoor", sum := "f2e868dfba621a6f8cd2fab29038a8e5a546de3ab0243a8dd9a9d0bb6debaae9", func := "hornbook/hornbooklaw17.AnalyseCounts", spec := "analyseCounts", inPlace := ["internal/bytealg.IndexByteString", "internal/bytealg.IndexString", "internal/abi.NoEscape", "internal/bytealg.CountString"], unfollowed := true, recurses := true, named := ["internal/bytealg.MaxLen", "unicode/utf8.first", "unicode/utf8.acceptRanges"], plainKeys := false, apart := false, laid := [("unicode/utf8.acceptRanges", laid_unicode_utf8_acceptRanges), ("unicode/utf8.first", laid_unicode_utf8_first)], narrowed := true }
def AnalyseCountsUptoSaid : Prop := analyseCountsUptoRow.holds Tryz.pinned (OpenSpec.upto analyseCountsSpec)

end Rows
end Go.Proofs.YtchkamdekbbgeaaGreatDoor
