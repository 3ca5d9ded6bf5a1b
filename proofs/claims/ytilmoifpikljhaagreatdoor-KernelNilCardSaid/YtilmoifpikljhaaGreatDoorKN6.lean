/-
  KERNEL NIL, by the evaluator, for some numbers of CPUs.
-/
import Derived.Test.YtilmoifpikljhaaGreatDoorKN
set_option linter.unusedVariables false
set_option linter.unusedSimpArgs false
namespace Go.Ai
set_option maxRecDepth 100000
theorem of4 : ∀ (k a b c x y : Int) (l o n m o' n' m' t : Nat), P16 4 k a b c x y (raw l o n m) (raw l o' n' m') t := by
  intro k a b c x y l o n m o' n' m' t
  unfold P16 Both Seg Fin None
  exact ⟨⟨fun K => by kernel_rfl, by kernel_rfl⟩, ⟨fun K => by kernel_rfl, by kernel_rfl⟩, ⟨fun K => by kernel_rfl, by kernel_rfl⟩, ⟨fun K => by kernel_rfl, by kernel_rfl⟩, ⟨fun K => by kernel_rfl, by kernel_rfl⟩, ⟨fun K => by kernel_rfl, by kernel_rfl⟩, ⟨fun K => by kernel_rfl, by kernel_rfl⟩, ⟨fun K => by kernel_rfl, by kernel_rfl⟩, ⟨fun K => by kernel_rfl, by kernel_rfl⟩, ⟨fun K => by kernel_rfl, by kernel_rfl⟩, ⟨fun K => by kernel_rfl, by kernel_rfl⟩, ⟨fun K => by kernel_rfl, by kernel_rfl⟩, ⟨fun K => by kernel_rfl, by kernel_rfl⟩, ⟨fun K => by kernel_rfl, by kernel_rfl⟩, ⟨fun K => by kernel_rfl, by kernel_rfl⟩, ⟨fun K => by kernel_rfl, by kernel_rfl⟩, by kernel_rfl, by kernel_rfl⟩
theorem of4n : ∀ (k a b c x y : Int) (t : Nat), P16 4 k a b c x y .nils .nils t := by
  intro k a b c x y t
  unfold P16 Both Seg Fin None
  exact ⟨⟨fun K => by kernel_rfl, by kernel_rfl⟩, ⟨fun K => by kernel_rfl, by kernel_rfl⟩, ⟨fun K => by kernel_rfl, by kernel_rfl⟩, ⟨fun K => by kernel_rfl, by kernel_rfl⟩, ⟨fun K => by kernel_rfl, by kernel_rfl⟩, ⟨fun K => by kernel_rfl, by kernel_rfl⟩, ⟨fun K => by kernel_rfl, by kernel_rfl⟩, ⟨fun K => by kernel_rfl, by kernel_rfl⟩, ⟨fun K => by kernel_rfl, by kernel_rfl⟩, ⟨fun K => by kernel_rfl, by kernel_rfl⟩, ⟨fun K => by kernel_rfl, by kernel_rfl⟩, ⟨fun K => by kernel_rfl, by kernel_rfl⟩, ⟨fun K => by kernel_rfl, by kernel_rfl⟩, ⟨fun K => by kernel_rfl, by kernel_rfl⟩, ⟨fun K => by kernel_rfl, by kernel_rfl⟩, ⟨fun K => by kernel_rfl, by kernel_rfl⟩, by kernel_rfl, by kernel_rfl⟩
theorem of29 : ∀ (k a b c x y : Int) (l o n m o' n' m' t : Nat), P16 29 k a b c x y (raw l o n m) (raw l o' n' m') t := by
  intro k a b c x y l o n m o' n' m' t
  unfold P16 Both Seg Fin None
  exact ⟨⟨fun K => by kernel_rfl, by kernel_rfl⟩, ⟨fun K => by kernel_rfl, by kernel_rfl⟩, ⟨fun K => by kernel_rfl, by kernel_rfl⟩, ⟨fun K => by kernel_rfl, by kernel_rfl⟩, ⟨fun K => by kernel_rfl, by kernel_rfl⟩, ⟨fun K => by kernel_rfl, by kernel_rfl⟩, ⟨fun K => by kernel_rfl, by kernel_rfl⟩, ⟨fun K => by kernel_rfl, by kernel_rfl⟩, ⟨fun K => by kernel_rfl, by kernel_rfl⟩, ⟨fun K => by kernel_rfl, by kernel_rfl⟩, ⟨fun K => by kernel_rfl, by kernel_rfl⟩, ⟨fun K => by kernel_rfl, by kernel_rfl⟩, ⟨fun K => by kernel_rfl, by kernel_rfl⟩, ⟨fun K => by kernel_rfl, by kernel_rfl⟩, ⟨fun K => by kernel_rfl, by kernel_rfl⟩, ⟨fun K => by kernel_rfl, by kernel_rfl⟩, by kernel_rfl, by kernel_rfl⟩
theorem of29n : ∀ (k a b c x y : Int) (t : Nat), P16 29 k a b c x y .nils .nils t := by
  intro k a b c x y t
  unfold P16 Both Seg Fin None
  exact ⟨⟨fun K => by kernel_rfl, by kernel_rfl⟩, ⟨fun K => by kernel_rfl, by kernel_rfl⟩, ⟨fun K => by kernel_rfl, by kernel_rfl⟩, ⟨fun K => by kernel_rfl, by kernel_rfl⟩, ⟨fun K => by kernel_rfl, by kernel_rfl⟩, ⟨fun K => by kernel_rfl, by kernel_rfl⟩, ⟨fun K => by kernel_rfl, by kernel_rfl⟩, ⟨fun K => by kernel_rfl, by kernel_rfl⟩, ⟨fun K => by kernel_rfl, by kernel_rfl⟩, ⟨fun K => by kernel_rfl, by kernel_rfl⟩, ⟨fun K => by kernel_rfl, by kernel_rfl⟩, ⟨fun K => by kernel_rfl, by kernel_rfl⟩, ⟨fun K => by kernel_rfl, by kernel_rfl⟩, ⟨fun K => by kernel_rfl, by kernel_rfl⟩, ⟨fun K => by kernel_rfl, by kernel_rfl⟩, ⟨fun K => by kernel_rfl, by kernel_rfl⟩, by kernel_rfl, by kernel_rfl⟩
theorem of45 : ∀ (k a b c x y : Int) (l o n m o' n' m' t : Nat), P16 45 k a b c x y (raw l o n m) (raw l o' n' m') t := by
  intro k a b c x y l o n m o' n' m' t
  unfold P16 Both Seg Fin None
  exact ⟨⟨fun K => by kernel_rfl, by kernel_rfl⟩, ⟨fun K => by kernel_rfl, by kernel_rfl⟩, ⟨fun K => by kernel_rfl, by kernel_rfl⟩, ⟨fun K => by kernel_rfl, by kernel_rfl⟩, ⟨fun K => by kernel_rfl, by kernel_rfl⟩, ⟨fun K => by kernel_rfl, by kernel_rfl⟩, ⟨fun K => by kernel_rfl, by kernel_rfl⟩, ⟨fun K => by kernel_rfl, by kernel_rfl⟩, ⟨fun K => by kernel_rfl, by kernel_rfl⟩, ⟨fun K => by kernel_rfl, by kernel_rfl⟩, ⟨fun K => by kernel_rfl, by kernel_rfl⟩, ⟨fun K => by kernel_rfl, by kernel_rfl⟩, ⟨fun K => by kernel_rfl, by kernel_rfl⟩, ⟨fun K => by kernel_rfl, by kernel_rfl⟩, ⟨fun K => by kernel_rfl, by kernel_rfl⟩, ⟨fun K => by kernel_rfl, by kernel_rfl⟩, by kernel_rfl, by kernel_rfl⟩
theorem of45n : ∀ (k a b c x y : Int) (t : Nat), P16 45 k a b c x y .nils .nils t := by
  intro k a b c x y t
  unfold P16 Both Seg Fin None
  exact ⟨⟨fun K => by kernel_rfl, by kernel_rfl⟩, ⟨fun K => by kernel_rfl, by kernel_rfl⟩, ⟨fun K => by kernel_rfl, by kernel_rfl⟩, ⟨fun K => by kernel_rfl, by kernel_rfl⟩, ⟨fun K => by kernel_rfl, by kernel_rfl⟩, ⟨fun K => by kernel_rfl, by kernel_rfl⟩, ⟨fun K => by kernel_rfl, by kernel_rfl⟩, ⟨fun K => by kernel_rfl, by kernel_rfl⟩, ⟨fun K => by kernel_rfl, by kernel_rfl⟩, ⟨fun K => by kernel_rfl, by kernel_rfl⟩, ⟨fun K => by kernel_rfl, by kernel_rfl⟩, ⟨fun K => by kernel_rfl, by kernel_rfl⟩, ⟨fun K => by kernel_rfl, by kernel_rfl⟩, ⟨fun K => by kernel_rfl, by kernel_rfl⟩, ⟨fun K => by kernel_rfl, by kernel_rfl⟩, ⟨fun K => by kernel_rfl, by kernel_rfl⟩, by kernel_rfl, by kernel_rfl⟩
theorem of52 : ∀ (k a b c x y : Int) (l o n m o' n' m' t : Nat), P16 52 k a b c x y (raw l o n m) (raw l o' n' m') t := by
  intro k a b c x y l o n m o' n' m' t
  unfold P16 Both Seg Fin None
  exact ⟨⟨fun K => by kernel_rfl, by kernel_rfl⟩, ⟨fun K => by kernel_rfl, by kernel_rfl⟩, ⟨fun K => by kernel_rfl, by kernel_rfl⟩, ⟨fun K => by kernel_rfl, by kernel_rfl⟩, ⟨fun K => by kernel_rfl, by kernel_rfl⟩, ⟨fun K => by kernel_rfl, by kernel_rfl⟩, ⟨fun K => by kernel_rfl, by kernel_rfl⟩, ⟨fun K => by kernel_rfl, by kernel_rfl⟩, ⟨fun K => by kernel_rfl, by kernel_rfl⟩, ⟨fun K => by kernel_rfl, by kernel_rfl⟩, ⟨fun K => by kernel_rfl, by kernel_rfl⟩, ⟨fun K => by kernel_rfl, by kernel_rfl⟩, ⟨fun K => by kernel_rfl, by kernel_rfl⟩, ⟨fun K => by kernel_rfl, by kernel_rfl⟩, ⟨fun K => by kernel_rfl, by kernel_rfl⟩, ⟨fun K => by kernel_rfl, by kernel_rfl⟩, by kernel_rfl, by kernel_rfl⟩
theorem of52n : ∀ (k a b c x y : Int) (t : Nat), P16 52 k a b c x y .nils .nils t := by
  intro k a b c x y t
  unfold P16 Both Seg Fin None
  exact ⟨⟨fun K => by kernel_rfl, by kernel_rfl⟩, ⟨fun K => by kernel_rfl, by kernel_rfl⟩, ⟨fun K => by kernel_rfl, by kernel_rfl⟩, ⟨fun K => by kernel_rfl, by kernel_rfl⟩, ⟨fun K => by kernel_rfl, by kernel_rfl⟩, ⟨fun K => by kernel_rfl, by kernel_rfl⟩, ⟨fun K => by kernel_rfl, by kernel_rfl⟩, ⟨fun K => by kernel_rfl, by kernel_rfl⟩, ⟨fun K => by kernel_rfl, by kernel_rfl⟩, ⟨fun K => by kernel_rfl, by kernel_rfl⟩, ⟨fun K => by kernel_rfl, by kernel_rfl⟩, ⟨fun K => by kernel_rfl, by kernel_rfl⟩, ⟨fun K => by kernel_rfl, by kernel_rfl⟩, ⟨fun K => by kernel_rfl, by kernel_rfl⟩, ⟨fun K => by kernel_rfl, by kernel_rfl⟩, ⟨fun K => by kernel_rfl, by kernel_rfl⟩, by kernel_rfl, by kernel_rfl⟩
end Go.Ai
/-
  KERNEL NIL, by the evaluator, for some numbers of CPUs.
-/
namespace Go.Ai
set_option maxRecDepth 100000
theorem of3 : ∀ (k a b c x y : Int) (l o n m o' n' m' t : Nat), P16 3 k a b c x y (raw l o n m) (raw l o' n' m') t := by
  intro k a b c x y l o n m o' n' m' t
  unfold P16 Both Seg Fin None
  exact ⟨⟨fun K => by kernel_rfl, by kernel_rfl⟩, ⟨fun K => by kernel_rfl, by kernel_rfl⟩, ⟨fun K => by kernel_rfl, by kernel_rfl⟩, ⟨fun K => by kernel_rfl, by kernel_rfl⟩, ⟨fun K => by kernel_rfl, by kernel_rfl⟩, ⟨fun K => by kernel_rfl, by kernel_rfl⟩, ⟨fun K => by kernel_rfl, by kernel_rfl⟩, ⟨fun K => by kernel_rfl, by kernel_rfl⟩, ⟨fun K => by kernel_rfl, by kernel_rfl⟩, ⟨fun K => by kernel_rfl, by kernel_rfl⟩, ⟨fun K => by kernel_rfl, by kernel_rfl⟩, ⟨fun K => by kernel_rfl, by kernel_rfl⟩, ⟨fun K => by kernel_rfl, by kernel_rfl⟩, ⟨fun K => by kernel_rfl, by kernel_rfl⟩, ⟨fun K => by kernel_rfl, by kernel_rfl⟩, ⟨fun K => by kernel_rfl, by kernel_rfl⟩, by kernel_rfl, by kernel_rfl⟩
theorem of3n : ∀ (k a b c x y : Int) (t : Nat), P16 3 k a b c x y .nils .nils t := by
  intro k a b c x y t
  unfold P16 Both Seg Fin None
  exact ⟨⟨fun K => by kernel_rfl, by kernel_rfl⟩, ⟨fun K => by kernel_rfl, by kernel_rfl⟩, ⟨fun K => by kernel_rfl, by kernel_rfl⟩, ⟨fun K => by kernel_rfl, by kernel_rfl⟩, ⟨fun K => by kernel_rfl, by kernel_rfl⟩, ⟨fun K => by kernel_rfl, by kernel_rfl⟩, ⟨fun K => by kernel_rfl, by kernel_rfl⟩, ⟨fun K => by kernel_rfl, by kernel_rfl⟩, ⟨fun K => by kernel_rfl, by kernel_rfl⟩, ⟨fun K => by kernel_rfl, by kernel_rfl⟩, ⟨fun K => by kernel_rfl, by kernel_rfl⟩, ⟨fun K => by kernel_rfl, by kernel_rfl⟩, ⟨fun K => by kernel_rfl, by kernel_rfl⟩, ⟨fun K => by kernel_rfl, by kernel_rfl⟩, ⟨fun K => by kernel_rfl, by kernel_rfl⟩, ⟨fun K => by kernel_rfl, by kernel_rfl⟩, by kernel_rfl, by kernel_rfl⟩
theorem of30 : ∀ (k a b c x y : Int) (l o n m o' n' m' t : Nat), P16 30 k a b c x y (raw l o n m) (raw l o' n' m') t := by
  intro k a b c x y l o n m o' n' m' t
  unfold P16 Both Seg Fin None
  exact ⟨⟨fun K => by kernel_rfl, by kernel_rfl⟩, ⟨fun K => by kernel_rfl, by kernel_rfl⟩, ⟨fun K => by kernel_rfl, by kernel_rfl⟩, ⟨fun K => by kernel_rfl, by kernel_rfl⟩, ⟨fun K => by kernel_rfl, by kernel_rfl⟩, ⟨fun K => by kernel_rfl, by kernel_rfl⟩, ⟨fun K => by kernel_rfl, by kernel_rfl⟩, ⟨fun K => by kernel_rfl, by kernel_rfl⟩, ⟨fun K => by kernel_rfl, by kernel_rfl⟩, ⟨fun K => by kernel_rfl, by kernel_rfl⟩, ⟨fun K => by kernel_rfl, by kernel_rfl⟩, ⟨fun K => by kernel_rfl, by kernel_rfl⟩, ⟨fun K => by kernel_rfl, by kernel_rfl⟩, ⟨fun K => by kernel_rfl, by kernel_rfl⟩, ⟨fun K => by kernel_rfl, by kernel_rfl⟩, ⟨fun K => by kernel_rfl, by kernel_rfl⟩, by kernel_rfl, by kernel_rfl⟩
theorem of30n : ∀ (k a b c x y : Int) (t : Nat), P16 30 k a b c x y .nils .nils t := by
  intro k a b c x y t
  unfold P16 Both Seg Fin None
  exact ⟨⟨fun K => by kernel_rfl, by kernel_rfl⟩, ⟨fun K => by kernel_rfl, by kernel_rfl⟩, ⟨fun K => by kernel_rfl, by kernel_rfl⟩, ⟨fun K => by kernel_rfl, by kernel_rfl⟩, ⟨fun K => by kernel_rfl, by kernel_rfl⟩, ⟨fun K => by kernel_rfl, by kernel_rfl⟩, ⟨fun K => by kernel_rfl, by kernel_rfl⟩, ⟨fun K => by kernel_rfl, by kernel_rfl⟩, ⟨fun K => by kernel_rfl, by kernel_rfl⟩, ⟨fun K => by kernel_rfl, by kernel_rfl⟩, ⟨fun K => by kernel_rfl, by kernel_rfl⟩, ⟨fun K => by kernel_rfl, by kernel_rfl⟩, ⟨fun K => by kernel_rfl, by kernel_rfl⟩, ⟨fun K => by kernel_rfl, by kernel_rfl⟩, ⟨fun K => by kernel_rfl, by kernel_rfl⟩, ⟨fun K => by kernel_rfl, by kernel_rfl⟩, by kernel_rfl, by kernel_rfl⟩
theorem of46 : ∀ (k a b c x y : Int) (l o n m o' n' m' t : Nat), P16 46 k a b c x y (raw l o n m) (raw l o' n' m') t := by
  intro k a b c x y l o n m o' n' m' t
  unfold P16 Both Seg Fin None
  exact ⟨⟨fun K => by kernel_rfl, by kernel_rfl⟩, ⟨fun K => by kernel_rfl, by kernel_rfl⟩, ⟨fun K => by kernel_rfl, by kernel_rfl⟩, ⟨fun K => by kernel_rfl, by kernel_rfl⟩, ⟨fun K => by kernel_rfl, by kernel_rfl⟩, ⟨fun K => by kernel_rfl, by kernel_rfl⟩, ⟨fun K => by kernel_rfl, by kernel_rfl⟩, ⟨fun K => by kernel_rfl, by kernel_rfl⟩, ⟨fun K => by kernel_rfl, by kernel_rfl⟩, ⟨fun K => by kernel_rfl, by kernel_rfl⟩, ⟨fun K => by kernel_rfl, by kernel_rfl⟩, ⟨fun K => by kernel_rfl, by kernel_rfl⟩, ⟨fun K => by kernel_rfl, by kernel_rfl⟩, ⟨fun K => by kernel_rfl, by kernel_rfl⟩, ⟨fun K => by kernel_rfl, by kernel_rfl⟩, ⟨fun K => by kernel_rfl, by kernel_rfl⟩, by kernel_rfl, by kernel_rfl⟩
theorem of46n : ∀ (k a b c x y : Int) (t : Nat), P16 46 k a b c x y .nils .nils t := by
  intro k a b c x y t
  unfold P16 Both Seg Fin None
  exact ⟨⟨fun K => by kernel_rfl, by kernel_rfl⟩, ⟨fun K => by kernel_rfl, by kernel_rfl⟩, ⟨fun K => by kernel_rfl, by kernel_rfl⟩, ⟨fun K => by kernel_rfl, by kernel_rfl⟩, ⟨fun K => by kernel_rfl, by kernel_rfl⟩, ⟨fun K => by kernel_rfl, by kernel_rfl⟩, ⟨fun K => by kernel_rfl, by kernel_rfl⟩, ⟨fun K => by kernel_rfl, by kernel_rfl⟩, ⟨fun K => by kernel_rfl, by kernel_rfl⟩, ⟨fun K => by kernel_rfl, by kernel_rfl⟩, ⟨fun K => by kernel_rfl, by kernel_rfl⟩, ⟨fun K => by kernel_rfl, by kernel_rfl⟩, ⟨fun K => by kernel_rfl, by kernel_rfl⟩, ⟨fun K => by kernel_rfl, by kernel_rfl⟩, ⟨fun K => by kernel_rfl, by kernel_rfl⟩, ⟨fun K => by kernel_rfl, by kernel_rfl⟩, by kernel_rfl, by kernel_rfl⟩
theorem of51 : ∀ (k a b c x y : Int) (l o n m o' n' m' t : Nat), P16 51 k a b c x y (raw l o n m) (raw l o' n' m') t := by
  intro k a b c x y l o n m o' n' m' t
  unfold P16 Both Seg Fin None
  exact ⟨⟨fun K => by kernel_rfl, by kernel_rfl⟩, ⟨fun K => by kernel_rfl, by kernel_rfl⟩, ⟨fun K => by kernel_rfl, by kernel_rfl⟩, ⟨fun K => by kernel_rfl, by kernel_rfl⟩, ⟨fun K => by kernel_rfl, by kernel_rfl⟩, ⟨fun K => by kernel_rfl, by kernel_rfl⟩, ⟨fun K => by kernel_rfl, by kernel_rfl⟩, ⟨fun K => by kernel_rfl, by kernel_rfl⟩, ⟨fun K => by kernel_rfl, by kernel_rfl⟩, ⟨fun K => by kernel_rfl, by kernel_rfl⟩, ⟨fun K => by kernel_rfl, by kernel_rfl⟩, ⟨fun K => by kernel_rfl, by kernel_rfl⟩, ⟨fun K => by kernel_rfl, by kernel_rfl⟩, ⟨fun K => by kernel_rfl, by kernel_rfl⟩, ⟨fun K => by kernel_rfl, by kernel_rfl⟩, ⟨fun K => by kernel_rfl, by kernel_rfl⟩, by kernel_rfl, by kernel_rfl⟩
theorem of51n : ∀ (k a b c x y : Int) (t : Nat), P16 51 k a b c x y .nils .nils t := by
  intro k a b c x y t
  unfold P16 Both Seg Fin None
  exact ⟨⟨fun K => by kernel_rfl, by kernel_rfl⟩, ⟨fun K => by kernel_rfl, by kernel_rfl⟩, ⟨fun K => by kernel_rfl, by kernel_rfl⟩, ⟨fun K => by kernel_rfl, by kernel_rfl⟩, ⟨fun K => by kernel_rfl, by kernel_rfl⟩, ⟨fun K => by kernel_rfl, by kernel_rfl⟩, ⟨fun K => by kernel_rfl, by kernel_rfl⟩, ⟨fun K => by kernel_rfl, by kernel_rfl⟩, ⟨fun K => by kernel_rfl, by kernel_rfl⟩, ⟨fun K => by kernel_rfl, by kernel_rfl⟩, ⟨fun K => by kernel_rfl, by kernel_rfl⟩, ⟨fun K => by kernel_rfl, by kernel_rfl⟩, ⟨fun K => by kernel_rfl, by kernel_rfl⟩, ⟨fun K => by kernel_rfl, by kernel_rfl⟩, ⟨fun K => by kernel_rfl, by kernel_rfl⟩, ⟨fun K => by kernel_rfl, by kernel_rfl⟩, by kernel_rfl, by kernel_rfl⟩
end Go.Ai
