/-
  CLOSED FACTS OF THE ROW, each by itself.
-/
import Derived.Test.YtilmoifpikljhaaGreatDoorRows
import Derived.JoinedOf
import Derived.SevenTiedAt
set_option linter.unusedVariables false
set_option linter.unusedSimpArgs false
namespace Go.Proofs.YtilmoifpikljhaaGreatDoor
open Go
set_option maxRecDepth 100000
theorem j13 : ((Rows.kernelNilRow.named == Tryz.prog.varsNamed 3)) = true := by kernel_rfl
end Go.Proofs.YtilmoifpikljhaaGreatDoor
