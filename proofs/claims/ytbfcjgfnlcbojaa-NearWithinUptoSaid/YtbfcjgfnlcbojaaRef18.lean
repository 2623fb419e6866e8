/-
  Walks of hornbookref18: the table, and the visit of an automaton. No conditions but those that each theorem names.
-/
import Derived.Test.YtbfcjgfnlcbojaaChecked
import Derived.Test.YtbfcjgfnlcbojaaCore
import Derived.Test.YtbfcjgfnlcbojaaRef06
set_option maxRecDepth 20000
set_option linter.unusedVariables false
namespace Go.Hb.Ref18
open Go.Proofs
open Go.Hb.Ref06
theorem cz3 : cellsN Try.prog 3 = some 1 := by kernel_rfl
theorem cz9 : cellsN Try.prog 9 = some 1 := by kernel_rfl
end Go.Hb.Ref18
