/-
  CLOSED FACTS OF THE ROW, each by itself.
-/
import Derived.Test.YtilmoifpikljhaaGreatDoorRows
import Derived.JoinedOf
import Derived.SevenTiedAt
set_option linter.unusedVariables false
set_option linter.unusedSimpArgs false
namespace Go.Proofs.YtilmoifpikljhaaGreatDoor
open Go
set_option maxRecDepth 100000
theorem j25 : (Tryz.prog.stopsHeard) = true := by kernel_rfl
theorem j26 : (Tryz.prog.mayEnter) = true := by kernel_rfl
theorem j27 : ((Rows.kernelNilRow.lifted == Tryz.prog.liftsFinal)) = true := by kernel_rfl
theorem j28 : ((Tryz.prog.make == some Rows.kernelNilRow.make)) = true := by kernel_rfl
theorem j29 : ((Rows.kernelNilRow.kinds == (if Rows.kernelNilRow.domain.isEmpty then [] else Tryz.f3.params.toList.map fun t => match Tryz.prog.underlying t with | some (.int k) => some k | _ => none))) = true := by kernel_rfl
theorem j30 : ((Rows.kernelNilRow.pinned == Rows.kernelNilRow.pinnedBy)) = true := by kernel_rfl
theorem j31 : ((Rows.kernelNilRow.veiled == (Tryz.f3.params.toList ++ Rows.kernelNilSpec.plain.varTypes Tryz.prog ++ Tryz.f3.resultTypes.toList).any (Tryz.prog.veiledRec ·))) = true := by kernel_rfl
theorem j32 : (Rows.kernelNilRow.veiledFits Tryz.prog Tryz.f3.params.toList (Tryz.f3.params.toList ++ Rows.kernelNilSpec.plain.varTypes Tryz.prog ++ Tryz.f3.resultTypes.toList)) = true := by kernel_rfl
theorem law_named : Tryz.prog.funcNamed "detent/detentlaw31.KernelNil" = some 3 := by kernel_rfl
theorem instance_fact : Tryz.f3.isInstance Tryz.prog Rows.kernelNilRow.origin Rows.kernelNilRow.targs := of_decide_eq_true (by kernel_rfl)
theorem wrapper_fact : Tryz.f3.isWrapper Tryz.prog Rows.kernelNilRow.wrapper Rows.kernelNilRow.mainSum := by
  unfold Func.isWrapper; first | (rw [if_pos (by decide +kernel)]; kernel_rfl) | (rw [if_neg (by decide +kernel)]; exact ⟨rfl, rfl⟩)
end Go.Proofs.YtilmoifpikljhaaGreatDoor
