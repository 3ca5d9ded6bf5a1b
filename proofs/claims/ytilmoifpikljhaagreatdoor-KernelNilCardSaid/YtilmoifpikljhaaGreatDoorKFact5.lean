/-
  CLOSED FACTS OF THE ROW, each by itself.
-/
import Derived.Test.YtilmoifpikljhaaGreatDoorRows
import Derived.JoinedOf
import Derived.SevenTiedAt
set_option linter.unusedVariables false
set_option linter.unusedSimpArgs false
namespace Go.Proofs.YtilmoifpikljhaaGreatDoor
open Go
set_option maxRecDepth 100000
theorem card_wf : Rows.kernelNilRow.wfByText (OpenSpec.ofChange Rows.kernelNilSpec) = true := by kernel_rfl
theorem card_main : Tryz.pinned.checked.prog.mainIs = some (((true, "71c825833e2fedfaa7f407630c9328f82b3ae8e84ff5dca87fd78efa73869bb1") : Bool × String).1, ((true, "71c825833e2fedfaa7f407630c9328f82b3ae8e84ff5dca87fd78efa73869bb1") : Bool × String).2.toList) := by kernel_rfl
theorem card_looks : false = Tryz.prog.looks [] := by kernel_rfl
theorem card_plain : ([3, 3, 22, 25].all fun u => !Tryz.prog.wantsStandIn u) = true := by kernel_rfl
end Go.Proofs.YtilmoifpikljhaaGreatDoor
