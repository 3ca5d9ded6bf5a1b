/-
  CLOSED FACTS OF THE ROW, each by itself.
-/
import Derived.Test.YtilmoifpikljhaaGreatDoorRows
import Derived.JoinedOf
import Derived.SevenTiedAt
set_option linter.unusedVariables false
set_option linter.unusedSimpArgs false
namespace Go.Proofs.YtilmoifpikljhaaGreatDoor
open Go
set_option maxRecDepth 100000
theorem goes_none : Tryz.prog.funcs.any Func.goes = false := by kernel_rfl
end Go.Proofs.YtilmoifpikljhaaGreatDoor
