/-
  DERIVED. GIVEN WITH THE SEED: THE CARDS: each row of YtchkamdekbbgeaaGreatDoorRows.lean that lists a variable, with what it lists TIED to the program's text (the seventh form; the later family's looks); each row that meets fmt, with fmt's text TOLD by the authors' own Lean function (tested against real Go, not proved from fmt's source: count such statements apart). THE CARD IS WHAT COUNTS. Prove the row's statement (the work); the ties are given (YtchkamdekbbgeaaGreatDoorTie.lean); close each card by the builder's one call (the guide's Derived/Test/ToyasCard.lean, 'card_holds'). Laid BY PROGRAM, IN A SANDBOX (cutbox-door.mjs). By AI agents, Wed Nov 11 2026. No macro, syntax, notation, axiom, sorry.
-/
import Derived.Test.YtchkamdekbbgeaaGreatDoorRows
import GoSem.ClaimSeven
namespace Go.Proofs.YtchkamdekbbgeaaGreatDoor
namespace Rows

/-- THE TIED CARD OF 'hornbooklaw17.AnalyseWords'. -/
def analyseWordsCard : Claim7 := { stood := { row := analyseWordsRow, standIns := [], harness := (true, "ea4a66c7ca64b905fd67eb75c7f4ce558fdc273c3292af68dac6632506575987"), looks := true }, kinds := [], alts := [], laidByText := true, laidKinds := [.data, .pinned], laidTests := true, laidLooks := .later }
def AnalyseWordsCardSaid : Prop := Claim7.holds Tryz.pinned (.plain (OpenSpec.ofChange analyseWordsSpec)) analyseWordsCard

/-- THE TIED CARD OF 'hornbooklaw17.AnalyseAccepts'. -/
def analyseAcceptsCard : Claim7 := { stood := { row := analyseAcceptsRow, standIns := [], harness := (true, "ea4a66c7ca64b905fd67eb75c7f4ce558fdc273c3292af68dac6632506575987"), looks := true }, kinds := [], alts := [], laidByText := true, laidKinds := [.data, .pinned], laidTests := true, laidLooks := .later }
def AnalyseAcceptsCardSaid : Prop := Claim7.holds Tryz.pinned (.plain (OpenSpec.ofChange analyseAcceptsSpec)) analyseAcceptsCard

/-- THE TIED CARD OF 'hornbooklaw17.AnalyseStems'. -/
def analyseStemsCard : Claim7 := { stood := { row := analyseStemsRow, standIns := [], harness := (true, "ea4a66c7ca64b905fd67eb75c7f4ce558fdc273c3292af68dac6632506575987"), looks := true }, kinds := [], alts := [], laidByText := true, laidKinds := [.data, .pinned], laidTests := true, laidLooks := .later }
def AnalyseStemsCardSaid : Prop := Claim7.holds Tryz.pinned (.plain (OpenSpec.ofChange analyseStemsSpec)) analyseStemsCard

/-- THE TIED CARD OF 'hornbooklaw17.AnalyseTells'. -/
def analyseTellsCard : Claim7 := { stood := { row := analyseTellsRow, standIns := [], harness := (true, "ea4a66c7ca64b905fd67eb75c7f4ce558fdc273c3292af68dac6632506575987"), looks := true }, kinds := [], alts := [], laidByText := true, laidKinds := [.data, .pinned], laidTests := true, laidLooks := .later }
def AnalyseTellsCardSaid : Prop := Claim7.holds Tryz.pinned (.plain (OpenSpec.ofChange analyseTellsSpec)) analyseTellsCard

/-- THE TIED CARD OF 'hornbooklaw17.AnalyseMakes'. -/
def analyseMakesCard : Claim7 := { stood := { row := analyseMakesRow, standIns := [], harness := (true, "ea4a66c7ca64b905fd67eb75c7f4ce558fdc273c3292af68dac6632506575987"), looks := true }, kinds := [], alts := [], laidByText := true, laidKinds := [.data, .pinned], laidTests := true, laidLooks := .later }
def AnalyseMakesCardSaid : Prop := Claim7.holds Tryz.pinned (.plain (OpenSpec.ofChange analyseMakesSpec)) analyseMakesCard

/-- THE TIED CARD OF 'hornbooklaw17.AnalyseCounts'. -/
def analyseCountsCard : Claim7 := { stood := { row := analyseCountsRow, standIns := [], harness := (true, "ea4a66c7ca64b905fd67eb75c7f4ce558fdc273c3292af68dac6632506575987"), looks := true }, kinds := [], alts := [], laidByText := true, laidKinds := [.data, .pinned], laidTests := true, laidLooks := .later }
def AnalyseCountsCardSaid : Prop := Claim7.holds Tryz.pinned (.plain (OpenSpec.ofChange analyseCountsSpec)) analyseCountsCard

/-- THE SECOND FORM's CARD OF 'hornbooklaw17.AnalyseWords'. -/
def analyseWordsUptoCard : Claim7 := { stood := { row := analyseWordsUptoRow, standIns := [], harness := (true, "ea4a66c7ca64b905fd67eb75c7f4ce558fdc273c3292af68dac6632506575987"), looks := true }, kinds := [], alts := [], laidByText := true, laidKinds := [.data, .pinned], laidTests := true, laidLooks := .later }
def AnalyseWordsUptoCardSaid : Prop := Claim7.holds Tryz.pinned (.plain (OpenSpec.upto analyseWordsSpec)) analyseWordsUptoCard

/-- THE SECOND FORM's CARD OF 'hornbooklaw17.AnalyseAccepts'. -/
def analyseAcceptsUptoCard : Claim7 := { stood := { row := analyseAcceptsUptoRow, standIns := [], harness := (true, "ea4a66c7ca64b905fd67eb75c7f4ce558fdc273c3292af68dac6632506575987"), looks := true }, kinds := [], alts := [], laidByText := true, laidKinds := [.data, .pinned], laidTests := true, laidLooks := .later }
def AnalyseAcceptsUptoCardSaid : Prop := Claim7.holds Tryz.pinned (.plain (OpenSpec.upto analyseAcceptsSpec)) analyseAcceptsUptoCard

/-- THE SECOND FORM's CARD OF 'hornbooklaw17.AnalyseStems'. -/
def analyseStemsUptoCard : Claim7 := { stood := { row := analyseStemsUptoRow, standIns := [], harness := (true, "ea4a66c7ca64b905fd67eb75c7f4ce558fdc273c3292af68dac6632506575987"), looks := true }, kinds := [], alts := [], laidByText := true, laidKinds := [.data, .pinned], laidTests := true, laidLooks := .later }
def AnalyseStemsUptoCardSaid : Prop := Claim7.holds Tryz.pinned (.plain (OpenSpec.upto analyseStemsSpec)) analyseStemsUptoCard

/-- THE SECOND FORM's CARD OF 'hornbooklaw17.AnalyseTells'. -/
def analyseTellsUptoCard : Claim7 := { stood := { row := analyseTellsUptoRow, standIns := [], harness := (true, "ea4a66c7ca64b905fd67eb75c7f4ce558fdc273c3292af68dac6632506575987"), looks := true }, kinds := [], alts := [], laidByText := true, laidKinds := [.data, .pinned], laidTests := true, laidLooks := .later }
def AnalyseTellsUptoCardSaid : Prop := Claim7.holds Tryz.pinned (.plain (OpenSpec.upto analyseTellsSpec)) analyseTellsUptoCard

/-- THE SECOND FORM's CARD OF 'hornbooklaw17.AnalyseMakes'. -/
def analyseMakesUptoCard : Claim7 := { stood := { row := analyseMakesUptoRow, standIns := [], harness := (true, "ea4a66c7ca64b905fd67eb75c7f4ce558fdc273c3292af68dac6632506575987"), looks := true }, kinds := [], alts := [], laidByText := true, laidKinds := [.data, .pinned], laidTests := true, laidLooks := .later }
def AnalyseMakesUptoCardSaid : Prop := Claim7.holds Tryz.pinned (.plain (OpenSpec.upto analyseMakesSpec)) analyseMakesUptoCard

/-- THE SECOND FORM's CARD OF 'hornbooklaw17.AnalyseCounts'. -/
def analyseCountsUptoCard : Claim7 := { stood := { row := analyseCountsUptoRow, standIns := [], harness := (true, "ea4a66c7ca64b905fd67eb75c7f4ce558fdc273c3292af68dac6632506575987"), looks := true }, kinds := [], alts := [], laidByText := true, laidKinds := [.data, .pinned], laidTests := true, laidLooks := .later }
def AnalyseCountsUptoCardSaid : Prop := Claim7.holds Tryz.pinned (.plain (OpenSpec.upto analyseCountsSpec)) analyseCountsUptoCard
end Rows
end Go.Proofs.YtchkamdekbbgeaaGreatDoor
