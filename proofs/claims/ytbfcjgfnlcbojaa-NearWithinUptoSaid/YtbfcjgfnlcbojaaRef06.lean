/-
  Walks of hornbookref06.Uint and Frame, and of hornbookref18.Rest and its like. No conditions but those that each theorem names.
-/
import Derived.Test.YtbfcjgfnlcbojaaChecked
import Derived.Test.YtbfcjgfnlcbojaaCore
set_option maxRecDepth 20000
set_option linter.unusedVariables false
namespace Go.Hb.Ref06
open Go.Proofs
end Go.Hb.Ref06
