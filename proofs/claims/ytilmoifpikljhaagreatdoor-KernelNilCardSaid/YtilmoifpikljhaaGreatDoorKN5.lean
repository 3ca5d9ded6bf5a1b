/-
  KERNEL NIL, by the evaluator, for some numbers of CPUs.
-/
import Derived.Test.YtilmoifpikljhaaGreatDoorKN
set_option linter.unusedVariables false
set_option linter.unusedSimpArgs false
namespace Go.Ai
set_option maxRecDepth 100000
theorem of6 : ∀ (k a b c x y : Int) (l o n m o' n' m' t : Nat), P16 6 k a b c x y (raw l o n m) (raw l o' n' m') t := by
  intro k a b c x y l o n m o' n' m' t
  unfold P16 Both Seg Fin None
  exact ⟨⟨fun K => by kernel_rfl, by kernel_rfl⟩, ⟨fun K => by kernel_rfl, by kernel_rfl⟩, ⟨fun K => by kernel_rfl, by kernel_rfl⟩, ⟨fun K => by kernel_rfl, by kernel_rfl⟩, ⟨fun K => by kernel_rfl, by kernel_rfl⟩, ⟨fun K => by kernel_rfl, by kernel_rfl⟩, ⟨fun K => by kernel_rfl, by kernel_rfl⟩, ⟨fun K => by kernel_rfl, by kernel_rfl⟩, ⟨fun K => by kernel_rfl, by kernel_rfl⟩, ⟨fun K => by kernel_rfl, by kernel_rfl⟩, ⟨fun K => by kernel_rfl, by kernel_rfl⟩, ⟨fun K => by kernel_rfl, by kernel_rfl⟩, ⟨fun K => by kernel_rfl, by kernel_rfl⟩, ⟨fun K => by kernel_rfl, by kernel_rfl⟩, ⟨fun K => by kernel_rfl, by kernel_rfl⟩, ⟨fun K => by kernel_rfl, by kernel_rfl⟩, by kernel_rfl, by kernel_rfl⟩
theorem of6n : ∀ (k a b c x y : Int) (t : Nat), P16 6 k a b c x y .nils .nils t := by
  intro k a b c x y t
  unfold P16 Both Seg Fin None
  exact ⟨⟨fun K => by kernel_rfl, by kernel_rfl⟩, ⟨fun K => by kernel_rfl, by kernel_rfl⟩, ⟨fun K => by kernel_rfl, by kernel_rfl⟩, ⟨fun K => by kernel_rfl, by kernel_rfl⟩, ⟨fun K => by kernel_rfl, by kernel_rfl⟩, ⟨fun K => by kernel_rfl, by kernel_rfl⟩, ⟨fun K => by kernel_rfl, by kernel_rfl⟩, ⟨fun K => by kernel_rfl, by kernel_rfl⟩, ⟨fun K => by kernel_rfl, by kernel_rfl⟩, ⟨fun K => by kernel_rfl, by kernel_rfl⟩, ⟨fun K => by kernel_rfl, by kernel_rfl⟩, ⟨fun K => by kernel_rfl, by kernel_rfl⟩, ⟨fun K => by kernel_rfl, by kernel_rfl⟩, ⟨fun K => by kernel_rfl, by kernel_rfl⟩, ⟨fun K => by kernel_rfl, by kernel_rfl⟩, ⟨fun K => by kernel_rfl, by kernel_rfl⟩, by kernel_rfl, by kernel_rfl⟩
theorem of27 : ∀ (k a b c x y : Int) (l o n m o' n' m' t : Nat), P16 27 k a b c x y (raw l o n m) (raw l o' n' m') t := by
  intro k a b c x y l o n m o' n' m' t
  unfold P16 Both Seg Fin None
  exact ⟨⟨fun K => by kernel_rfl, by kernel_rfl⟩, ⟨fun K => by kernel_rfl, by kernel_rfl⟩, ⟨fun K => by kernel_rfl, by kernel_rfl⟩, ⟨fun K => by kernel_rfl, by kernel_rfl⟩, ⟨fun K => by kernel_rfl, by kernel_rfl⟩, ⟨fun K => by kernel_rfl, by kernel_rfl⟩, ⟨fun K => by kernel_rfl, by kernel_rfl⟩, ⟨fun K => by kernel_rfl, by kernel_rfl⟩, ⟨fun K => by kernel_rfl, by kernel_rfl⟩, ⟨fun K => by kernel_rfl, by kernel_rfl⟩, ⟨fun K => by kernel_rfl, by kernel_rfl⟩, ⟨fun K => by kernel_rfl, by kernel_rfl⟩, ⟨fun K => by kernel_rfl, by kernel_rfl⟩, ⟨fun K => by kernel_rfl, by kernel_rfl⟩, ⟨fun K => by kernel_rfl, by kernel_rfl⟩, ⟨fun K => by kernel_rfl, by kernel_rfl⟩, by kernel_rfl, by kernel_rfl⟩
theorem of27n : ∀ (k a b c x y : Int) (t : Nat), P16 27 k a b c x y .nils .nils t := by
  intro k a b c x y t
  unfold P16 Both Seg Fin None
  exact ⟨⟨fun K => by kernel_rfl, by kernel_rfl⟩, ⟨fun K => by kernel_rfl, by kernel_rfl⟩, ⟨fun K => by kernel_rfl, by kernel_rfl⟩, ⟨fun K => by kernel_rfl, by kernel_rfl⟩, ⟨fun K => by kernel_rfl, by kernel_rfl⟩, ⟨fun K => by kernel_rfl, by kernel_rfl⟩, ⟨fun K => by kernel_rfl, by kernel_rfl⟩, ⟨fun K => by kernel_rfl, by kernel_rfl⟩, ⟨fun K => by kernel_rfl, by kernel_rfl⟩, ⟨fun K => by kernel_rfl, by kernel_rfl⟩, ⟨fun K => by kernel_rfl, by kernel_rfl⟩, ⟨fun K => by kernel_rfl, by kernel_rfl⟩, ⟨fun K => by kernel_rfl, by kernel_rfl⟩, ⟨fun K => by kernel_rfl, by kernel_rfl⟩, ⟨fun K => by kernel_rfl, by kernel_rfl⟩, ⟨fun K => by kernel_rfl, by kernel_rfl⟩, by kernel_rfl, by kernel_rfl⟩
theorem of43 : ∀ (k a b c x y : Int) (l o n m o' n' m' t : Nat), P16 43 k a b c x y (raw l o n m) (raw l o' n' m') t := by
  intro k a b c x y l o n m o' n' m' t
  unfold P16 Both Seg Fin None
  exact ⟨⟨fun K => by kernel_rfl, by kernel_rfl⟩, ⟨fun K => by kernel_rfl, by kernel_rfl⟩, ⟨fun K => by kernel_rfl, by kernel_rfl⟩, ⟨fun K => by kernel_rfl, by kernel_rfl⟩, ⟨fun K => by kernel_rfl, by kernel_rfl⟩, ⟨fun K => by kernel_rfl, by kernel_rfl⟩, ⟨fun K => by kernel_rfl, by kernel_rfl⟩, ⟨fun K => by kernel_rfl, by kernel_rfl⟩, ⟨fun K => by kernel_rfl, by kernel_rfl⟩, ⟨fun K => by kernel_rfl, by kernel_rfl⟩, ⟨fun K => by kernel_rfl, by kernel_rfl⟩, ⟨fun K => by kernel_rfl, by kernel_rfl⟩, ⟨fun K => by kernel_rfl, by kernel_rfl⟩, ⟨fun K => by kernel_rfl, by kernel_rfl⟩, ⟨fun K => by kernel_rfl, by kernel_rfl⟩, ⟨fun K => by kernel_rfl, by kernel_rfl⟩, by kernel_rfl, by kernel_rfl⟩
theorem of43n : ∀ (k a b c x y : Int) (t : Nat), P16 43 k a b c x y .nils .nils t := by
  intro k a b c x y t
  unfold P16 Both Seg Fin None
  exact ⟨⟨fun K => by kernel_rfl, by kernel_rfl⟩, ⟨fun K => by kernel_rfl, by kernel_rfl⟩, ⟨fun K => by kernel_rfl, by kernel_rfl⟩, ⟨fun K => by kernel_rfl, by kernel_rfl⟩, ⟨fun K => by kernel_rfl, by kernel_rfl⟩, ⟨fun K => by kernel_rfl, by kernel_rfl⟩, ⟨fun K => by kernel_rfl, by kernel_rfl⟩, ⟨fun K => by kernel_rfl, by kernel_rfl⟩, ⟨fun K => by kernel_rfl, by kernel_rfl⟩, ⟨fun K => by kernel_rfl, by kernel_rfl⟩, ⟨fun K => by kernel_rfl, by kernel_rfl⟩, ⟨fun K => by kernel_rfl, by kernel_rfl⟩, ⟨fun K => by kernel_rfl, by kernel_rfl⟩, ⟨fun K => by kernel_rfl, by kernel_rfl⟩, ⟨fun K => by kernel_rfl, by kernel_rfl⟩, ⟨fun K => by kernel_rfl, by kernel_rfl⟩, by kernel_rfl, by kernel_rfl⟩
theorem of54 : ∀ (k a b c x y : Int) (l o n m o' n' m' t : Nat), P16 54 k a b c x y (raw l o n m) (raw l o' n' m') t := by
  intro k a b c x y l o n m o' n' m' t
  unfold P16 Both Seg Fin None
  exact ⟨⟨fun K => by kernel_rfl, by kernel_rfl⟩, ⟨fun K => by kernel_rfl, by kernel_rfl⟩, ⟨fun K => by kernel_rfl, by kernel_rfl⟩, ⟨fun K => by kernel_rfl, by kernel_rfl⟩, ⟨fun K => by kernel_rfl, by kernel_rfl⟩, ⟨fun K => by kernel_rfl, by kernel_rfl⟩, ⟨fun K => by kernel_rfl, by kernel_rfl⟩, ⟨fun K => by kernel_rfl, by kernel_rfl⟩, ⟨fun K => by kernel_rfl, by kernel_rfl⟩, ⟨fun K => by kernel_rfl, by kernel_rfl⟩, ⟨fun K => by kernel_rfl, by kernel_rfl⟩, ⟨fun K => by kernel_rfl, by kernel_rfl⟩, ⟨fun K => by kernel_rfl, by kernel_rfl⟩, ⟨fun K => by kernel_rfl, by kernel_rfl⟩, ⟨fun K => by kernel_rfl, by kernel_rfl⟩, ⟨fun K => by kernel_rfl, by kernel_rfl⟩, by kernel_rfl, by kernel_rfl⟩
theorem of54n : ∀ (k a b c x y : Int) (t : Nat), P16 54 k a b c x y .nils .nils t := by
  intro k a b c x y t
  unfold P16 Both Seg Fin None
  exact ⟨⟨fun K => by kernel_rfl, by kernel_rfl⟩, ⟨fun K => by kernel_rfl, by kernel_rfl⟩, ⟨fun K => by kernel_rfl, by kernel_rfl⟩, ⟨fun K => by kernel_rfl, by kernel_rfl⟩, ⟨fun K => by kernel_rfl, by kernel_rfl⟩, ⟨fun K => by kernel_rfl, by kernel_rfl⟩, ⟨fun K => by kernel_rfl, by kernel_rfl⟩, ⟨fun K => by kernel_rfl, by kernel_rfl⟩, ⟨fun K => by kernel_rfl, by kernel_rfl⟩, ⟨fun K => by kernel_rfl, by kernel_rfl⟩, ⟨fun K => by kernel_rfl, by kernel_rfl⟩, ⟨fun K => by kernel_rfl, by kernel_rfl⟩, ⟨fun K => by kernel_rfl, by kernel_rfl⟩, ⟨fun K => by kernel_rfl, by kernel_rfl⟩, ⟨fun K => by kernel_rfl, by kernel_rfl⟩, ⟨fun K => by kernel_rfl, by kernel_rfl⟩, by kernel_rfl, by kernel_rfl⟩
end Go.Ai
/-
  KERNEL NIL, by the evaluator, for some numbers of CPUs.
-/
namespace Go.Ai
set_option maxRecDepth 100000
theorem of5 : ∀ (k a b c x y : Int) (l o n m o' n' m' t : Nat), P16 5 k a b c x y (raw l o n m) (raw l o' n' m') t := by
  intro k a b c x y l o n m o' n' m' t
  unfold P16 Both Seg Fin None
  exact ⟨⟨fun K => by kernel_rfl, by kernel_rfl⟩, ⟨fun K => by kernel_rfl, by kernel_rfl⟩, ⟨fun K => by kernel_rfl, by kernel_rfl⟩, ⟨fun K => by kernel_rfl, by kernel_rfl⟩, ⟨fun K => by kernel_rfl, by kernel_rfl⟩, ⟨fun K => by kernel_rfl, by kernel_rfl⟩, ⟨fun K => by kernel_rfl, by kernel_rfl⟩, ⟨fun K => by kernel_rfl, by kernel_rfl⟩, ⟨fun K => by kernel_rfl, by kernel_rfl⟩, ⟨fun K => by kernel_rfl, by kernel_rfl⟩, ⟨fun K => by kernel_rfl, by kernel_rfl⟩, ⟨fun K => by kernel_rfl, by kernel_rfl⟩, ⟨fun K => by kernel_rfl, by kernel_rfl⟩, ⟨fun K => by kernel_rfl, by kernel_rfl⟩, ⟨fun K => by kernel_rfl, by kernel_rfl⟩, ⟨fun K => by kernel_rfl, by kernel_rfl⟩, by kernel_rfl, by kernel_rfl⟩
theorem of5n : ∀ (k a b c x y : Int) (t : Nat), P16 5 k a b c x y .nils .nils t := by
  intro k a b c x y t
  unfold P16 Both Seg Fin None
  exact ⟨⟨fun K => by kernel_rfl, by kernel_rfl⟩, ⟨fun K => by kernel_rfl, by kernel_rfl⟩, ⟨fun K => by kernel_rfl, by kernel_rfl⟩, ⟨fun K => by kernel_rfl, by kernel_rfl⟩, ⟨fun K => by kernel_rfl, by kernel_rfl⟩, ⟨fun K => by kernel_rfl, by kernel_rfl⟩, ⟨fun K => by kernel_rfl, by kernel_rfl⟩, ⟨fun K => by kernel_rfl, by kernel_rfl⟩, ⟨fun K => by kernel_rfl, by kernel_rfl⟩, ⟨fun K => by kernel_rfl, by kernel_rfl⟩, ⟨fun K => by kernel_rfl, by kernel_rfl⟩, ⟨fun K => by kernel_rfl, by kernel_rfl⟩, ⟨fun K => by kernel_rfl, by kernel_rfl⟩, ⟨fun K => by kernel_rfl, by kernel_rfl⟩, ⟨fun K => by kernel_rfl, by kernel_rfl⟩, ⟨fun K => by kernel_rfl, by kernel_rfl⟩, by kernel_rfl, by kernel_rfl⟩
theorem of28 : ∀ (k a b c x y : Int) (l o n m o' n' m' t : Nat), P16 28 k a b c x y (raw l o n m) (raw l o' n' m') t := by
  intro k a b c x y l o n m o' n' m' t
  unfold P16 Both Seg Fin None
  exact ⟨⟨fun K => by kernel_rfl, by kernel_rfl⟩, ⟨fun K => by kernel_rfl, by kernel_rfl⟩, ⟨fun K => by kernel_rfl, by kernel_rfl⟩, ⟨fun K => by kernel_rfl, by kernel_rfl⟩, ⟨fun K => by kernel_rfl, by kernel_rfl⟩, ⟨fun K => by kernel_rfl, by kernel_rfl⟩, ⟨fun K => by kernel_rfl, by kernel_rfl⟩, ⟨fun K => by kernel_rfl, by kernel_rfl⟩, ⟨fun K => by kernel_rfl, by kernel_rfl⟩, ⟨fun K => by kernel_rfl, by kernel_rfl⟩, ⟨fun K => by kernel_rfl, by kernel_rfl⟩, ⟨fun K => by kernel_rfl, by kernel_rfl⟩, ⟨fun K => by kernel_rfl, by kernel_rfl⟩, ⟨fun K => by kernel_rfl, by kernel_rfl⟩, ⟨fun K => by kernel_rfl, by kernel_rfl⟩, ⟨fun K => by kernel_rfl, by kernel_rfl⟩, by kernel_rfl, by kernel_rfl⟩
theorem of28n : ∀ (k a b c x y : Int) (t : Nat), P16 28 k a b c x y .nils .nils t := by
  intro k a b c x y t
  unfold P16 Both Seg Fin None
  exact ⟨⟨fun K => by kernel_rfl, by kernel_rfl⟩, ⟨fun K => by kernel_rfl, by kernel_rfl⟩, ⟨fun K => by kernel_rfl, by kernel_rfl⟩, ⟨fun K => by kernel_rfl, by kernel_rfl⟩, ⟨fun K => by kernel_rfl, by kernel_rfl⟩, ⟨fun K => by kernel_rfl, by kernel_rfl⟩, ⟨fun K => by kernel_rfl, by kernel_rfl⟩, ⟨fun K => by kernel_rfl, by kernel_rfl⟩, ⟨fun K => by kernel_rfl, by kernel_rfl⟩, ⟨fun K => by kernel_rfl, by kernel_rfl⟩, ⟨fun K => by kernel_rfl, by kernel_rfl⟩, ⟨fun K => by kernel_rfl, by kernel_rfl⟩, ⟨fun K => by kernel_rfl, by kernel_rfl⟩, ⟨fun K => by kernel_rfl, by kernel_rfl⟩, ⟨fun K => by kernel_rfl, by kernel_rfl⟩, ⟨fun K => by kernel_rfl, by kernel_rfl⟩, by kernel_rfl, by kernel_rfl⟩
theorem of44 : ∀ (k a b c x y : Int) (l o n m o' n' m' t : Nat), P16 44 k a b c x y (raw l o n m) (raw l o' n' m') t := by
  intro k a b c x y l o n m o' n' m' t
  unfold P16 Both Seg Fin None
  exact ⟨⟨fun K => by kernel_rfl, by kernel_rfl⟩, ⟨fun K => by kernel_rfl, by kernel_rfl⟩, ⟨fun K => by kernel_rfl, by kernel_rfl⟩, ⟨fun K => by kernel_rfl, by kernel_rfl⟩, ⟨fun K => by kernel_rfl, by kernel_rfl⟩, ⟨fun K => by kernel_rfl, by kernel_rfl⟩, ⟨fun K => by kernel_rfl, by kernel_rfl⟩, ⟨fun K => by kernel_rfl, by kernel_rfl⟩, ⟨fun K => by kernel_rfl, by kernel_rfl⟩, ⟨fun K => by kernel_rfl, by kernel_rfl⟩, ⟨fun K => by kernel_rfl, by kernel_rfl⟩, ⟨fun K => by kernel_rfl, by kernel_rfl⟩, ⟨fun K => by kernel_rfl, by kernel_rfl⟩, ⟨fun K => by kernel_rfl, by kernel_rfl⟩, ⟨fun K => by kernel_rfl, by kernel_rfl⟩, ⟨fun K => by kernel_rfl, by kernel_rfl⟩, by kernel_rfl, by kernel_rfl⟩
theorem of44n : ∀ (k a b c x y : Int) (t : Nat), P16 44 k a b c x y .nils .nils t := by
  intro k a b c x y t
  unfold P16 Both Seg Fin None
  exact ⟨⟨fun K => by kernel_rfl, by kernel_rfl⟩, ⟨fun K => by kernel_rfl, by kernel_rfl⟩, ⟨fun K => by kernel_rfl, by kernel_rfl⟩, ⟨fun K => by kernel_rfl, by kernel_rfl⟩, ⟨fun K => by kernel_rfl, by kernel_rfl⟩, ⟨fun K => by kernel_rfl, by kernel_rfl⟩, ⟨fun K => by kernel_rfl, by kernel_rfl⟩, ⟨fun K => by kernel_rfl, by kernel_rfl⟩, ⟨fun K => by kernel_rfl, by kernel_rfl⟩, ⟨fun K => by kernel_rfl, by kernel_rfl⟩, ⟨fun K => by kernel_rfl, by kernel_rfl⟩, ⟨fun K => by kernel_rfl, by kernel_rfl⟩, ⟨fun K => by kernel_rfl, by kernel_rfl⟩, ⟨fun K => by kernel_rfl, by kernel_rfl⟩, ⟨fun K => by kernel_rfl, by kernel_rfl⟩, ⟨fun K => by kernel_rfl, by kernel_rfl⟩, by kernel_rfl, by kernel_rfl⟩
theorem of53 : ∀ (k a b c x y : Int) (l o n m o' n' m' t : Nat), P16 53 k a b c x y (raw l o n m) (raw l o' n' m') t := by
  intro k a b c x y l o n m o' n' m' t
  unfold P16 Both Seg Fin None
  exact ⟨⟨fun K => by kernel_rfl, by kernel_rfl⟩, ⟨fun K => by kernel_rfl, by kernel_rfl⟩, ⟨fun K => by kernel_rfl, by kernel_rfl⟩, ⟨fun K => by kernel_rfl, by kernel_rfl⟩, ⟨fun K => by kernel_rfl, by kernel_rfl⟩, ⟨fun K => by kernel_rfl, by kernel_rfl⟩, ⟨fun K => by kernel_rfl, by kernel_rfl⟩, ⟨fun K => by kernel_rfl, by kernel_rfl⟩, ⟨fun K => by kernel_rfl, by kernel_rfl⟩, ⟨fun K => by kernel_rfl, by kernel_rfl⟩, ⟨fun K => by kernel_rfl, by kernel_rfl⟩, ⟨fun K => by kernel_rfl, by kernel_rfl⟩, ⟨fun K => by kernel_rfl, by kernel_rfl⟩, ⟨fun K => by kernel_rfl, by kernel_rfl⟩, ⟨fun K => by kernel_rfl, by kernel_rfl⟩, ⟨fun K => by kernel_rfl, by kernel_rfl⟩, by kernel_rfl, by kernel_rfl⟩
theorem of53n : ∀ (k a b c x y : Int) (t : Nat), P16 53 k a b c x y .nils .nils t := by
  intro k a b c x y t
  unfold P16 Both Seg Fin None
  exact ⟨⟨fun K => by kernel_rfl, by kernel_rfl⟩, ⟨fun K => by kernel_rfl, by kernel_rfl⟩, ⟨fun K => by kernel_rfl, by kernel_rfl⟩, ⟨fun K => by kernel_rfl, by kernel_rfl⟩, ⟨fun K => by kernel_rfl, by kernel_rfl⟩, ⟨fun K => by kernel_rfl, by kernel_rfl⟩, ⟨fun K => by kernel_rfl, by kernel_rfl⟩, ⟨fun K => by kernel_rfl, by kernel_rfl⟩, ⟨fun K => by kernel_rfl, by kernel_rfl⟩, ⟨fun K => by kernel_rfl, by kernel_rfl⟩, ⟨fun K => by kernel_rfl, by kernel_rfl⟩, ⟨fun K => by kernel_rfl, by kernel_rfl⟩, ⟨fun K => by kernel_rfl, by kernel_rfl⟩, ⟨fun K => by kernel_rfl, by kernel_rfl⟩, ⟨fun K => by kernel_rfl, by kernel_rfl⟩, ⟨fun K => by kernel_rfl, by kernel_rfl⟩, by kernel_rfl, by kernel_rfl⟩
end Go.Ai
