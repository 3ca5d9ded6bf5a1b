/-
  WHAT known() OF THE LAW'S PACKAGE COMES TO: computed once, known everywhere.
-/
import Derived.Test.YtilmoifpikljhaaGreatDoorKSum
set_option linter.unusedVariables false
set_option linter.unusedSimpArgs false
namespace Go.Ai
open Go
set_option maxRecDepth 100000
theorem known_run : val (resR dtab ytab noX 1000000 100 (.fn 12) [] (baseHeap 8 rows)) = .bool true := by kernel_rfl
theorem known_sum : SumOk Go.Proofs.Tryz.prog 12 (sums rows [([], .bool true)]) :=
  closed_ok (T := tabs 1000000) (x := noX) (D := dtab) (Y := ytab) (n := 1000000) (m := 100) (next := 8) (tabs_ok 1000000 (x := noX) fun _ _ h => by cases h) (dtab_ok _) (ytab_ok _) rows_ok tabs_all (by
    intro a v h
    simp only [List.mem_cons, List.not_mem_nil, or_false, Prod.mk.injEq] at h
    obtain ⟨rfl, rfl⟩ := h
    exact ⟨rfl, rfl, of_val (by intro h; cases h) known_run⟩)
/-- known() is a summary -/
def xK : XF := fun f => bif Nat.beq f 12 then some (sums rows [([], .bool true)]) else none
theorem xK_ok : ∀ f y, xK f = some y → SumOk Go.Proofs.Tryz.prog f y := by
  intro f y h
  unfold xK at h
  cases hb : Nat.beq f 12 with
  | true => rw [hb] at h; cases h; rw [beq_eq hb]; exact known_sum
  | false => rw [hb] at h; cases h
end Go.Ai
