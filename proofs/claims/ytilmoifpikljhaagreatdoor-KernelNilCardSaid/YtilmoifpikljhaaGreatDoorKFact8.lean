/-
  CLOSED FACTS OF THE ROW, each by itself.
-/
import Derived.Test.YtilmoifpikljhaaGreatDoorRows
import Derived.JoinedOf
import Derived.SevenTiedAt
set_option linter.unusedVariables false
set_option linter.unusedSimpArgs false
namespace Go.Proofs.YtilmoifpikljhaaGreatDoor
open Go
set_option maxRecDepth 100000
theorem j2a : (List.range Tryz.prog.types.size).all (rowFine Tryz.prog) = true := by kernel_rfl
end Go.Proofs.YtilmoifpikljhaaGreatDoor
