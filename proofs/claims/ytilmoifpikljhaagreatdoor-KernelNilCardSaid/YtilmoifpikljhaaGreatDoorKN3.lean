/-
  KERNEL NIL, by the evaluator, for some numbers of CPUs.
-/
import Derived.Test.YtilmoifpikljhaaGreatDoorKN
set_option linter.unusedVariables false
set_option linter.unusedSimpArgs false
namespace Go.Ai
set_option maxRecDepth 100000
theorem of14 : ∀ (k a b c x y : Int) (l o n m o' n' m' t : Nat), P16 14 k a b c x y (raw l o n m) (raw l o' n' m') t := by
  intro k a b c x y l o n m o' n' m' t
  unfold P16 Both Seg Fin None
  exact ⟨⟨fun K => by kernel_rfl, by kernel_rfl⟩, ⟨fun K => by kernel_rfl, by kernel_rfl⟩, ⟨fun K => by kernel_rfl, by kernel_rfl⟩, ⟨fun K => by kernel_rfl, by kernel_rfl⟩, ⟨fun K => by kernel_rfl, by kernel_rfl⟩, ⟨fun K => by kernel_rfl, by kernel_rfl⟩, ⟨fun K => by kernel_rfl, by kernel_rfl⟩, ⟨fun K => by kernel_rfl, by kernel_rfl⟩, ⟨fun K => by kernel_rfl, by kernel_rfl⟩, ⟨fun K => by kernel_rfl, by kernel_rfl⟩, ⟨fun K => by kernel_rfl, by kernel_rfl⟩, ⟨fun K => by kernel_rfl, by kernel_rfl⟩, ⟨fun K => by kernel_rfl, by kernel_rfl⟩, ⟨fun K => by kernel_rfl, by kernel_rfl⟩, ⟨fun K => by kernel_rfl, by kernel_rfl⟩, ⟨fun K => by kernel_rfl, by kernel_rfl⟩, by kernel_rfl, by kernel_rfl⟩
theorem of14n : ∀ (k a b c x y : Int) (t : Nat), P16 14 k a b c x y .nils .nils t := by
  intro k a b c x y t
  unfold P16 Both Seg Fin None
  exact ⟨⟨fun K => by kernel_rfl, by kernel_rfl⟩, ⟨fun K => by kernel_rfl, by kernel_rfl⟩, ⟨fun K => by kernel_rfl, by kernel_rfl⟩, ⟨fun K => by kernel_rfl, by kernel_rfl⟩, ⟨fun K => by kernel_rfl, by kernel_rfl⟩, ⟨fun K => by kernel_rfl, by kernel_rfl⟩, ⟨fun K => by kernel_rfl, by kernel_rfl⟩, ⟨fun K => by kernel_rfl, by kernel_rfl⟩, ⟨fun K => by kernel_rfl, by kernel_rfl⟩, ⟨fun K => by kernel_rfl, by kernel_rfl⟩, ⟨fun K => by kernel_rfl, by kernel_rfl⟩, ⟨fun K => by kernel_rfl, by kernel_rfl⟩, ⟨fun K => by kernel_rfl, by kernel_rfl⟩, ⟨fun K => by kernel_rfl, by kernel_rfl⟩, ⟨fun K => by kernel_rfl, by kernel_rfl⟩, ⟨fun K => by kernel_rfl, by kernel_rfl⟩, by kernel_rfl, by kernel_rfl⟩
theorem of23 : ∀ (k a b c x y : Int) (l o n m o' n' m' t : Nat), P16 23 k a b c x y (raw l o n m) (raw l o' n' m') t := by
  intro k a b c x y l o n m o' n' m' t
  unfold P16 Both Seg Fin None
  exact ⟨⟨fun K => by kernel_rfl, by kernel_rfl⟩, ⟨fun K => by kernel_rfl, by kernel_rfl⟩, ⟨fun K => by kernel_rfl, by kernel_rfl⟩, ⟨fun K => by kernel_rfl, by kernel_rfl⟩, ⟨fun K => by kernel_rfl, by kernel_rfl⟩, ⟨fun K => by kernel_rfl, by kernel_rfl⟩, ⟨fun K => by kernel_rfl, by kernel_rfl⟩, ⟨fun K => by kernel_rfl, by kernel_rfl⟩, ⟨fun K => by kernel_rfl, by kernel_rfl⟩, ⟨fun K => by kernel_rfl, by kernel_rfl⟩, ⟨fun K => by kernel_rfl, by kernel_rfl⟩, ⟨fun K => by kernel_rfl, by kernel_rfl⟩, ⟨fun K => by kernel_rfl, by kernel_rfl⟩, ⟨fun K => by kernel_rfl, by kernel_rfl⟩, ⟨fun K => by kernel_rfl, by kernel_rfl⟩, ⟨fun K => by kernel_rfl, by kernel_rfl⟩, by kernel_rfl, by kernel_rfl⟩
theorem of23n : ∀ (k a b c x y : Int) (t : Nat), P16 23 k a b c x y .nils .nils t := by
  intro k a b c x y t
  unfold P16 Both Seg Fin None
  exact ⟨⟨fun K => by kernel_rfl, by kernel_rfl⟩, ⟨fun K => by kernel_rfl, by kernel_rfl⟩, ⟨fun K => by kernel_rfl, by kernel_rfl⟩, ⟨fun K => by kernel_rfl, by kernel_rfl⟩, ⟨fun K => by kernel_rfl, by kernel_rfl⟩, ⟨fun K => by kernel_rfl, by kernel_rfl⟩, ⟨fun K => by kernel_rfl, by kernel_rfl⟩, ⟨fun K => by kernel_rfl, by kernel_rfl⟩, ⟨fun K => by kernel_rfl, by kernel_rfl⟩, ⟨fun K => by kernel_rfl, by kernel_rfl⟩, ⟨fun K => by kernel_rfl, by kernel_rfl⟩, ⟨fun K => by kernel_rfl, by kernel_rfl⟩, ⟨fun K => by kernel_rfl, by kernel_rfl⟩, ⟨fun K => by kernel_rfl, by kernel_rfl⟩, ⟨fun K => by kernel_rfl, by kernel_rfl⟩, ⟨fun K => by kernel_rfl, by kernel_rfl⟩, by kernel_rfl, by kernel_rfl⟩
theorem of39 : ∀ (k a b c x y : Int) (l o n m o' n' m' t : Nat), P16 39 k a b c x y (raw l o n m) (raw l o' n' m') t := by
  intro k a b c x y l o n m o' n' m' t
  unfold P16 Both Seg Fin None
  exact ⟨⟨fun K => by kernel_rfl, by kernel_rfl⟩, ⟨fun K => by kernel_rfl, by kernel_rfl⟩, ⟨fun K => by kernel_rfl, by kernel_rfl⟩, ⟨fun K => by kernel_rfl, by kernel_rfl⟩, ⟨fun K => by kernel_rfl, by kernel_rfl⟩, ⟨fun K => by kernel_rfl, by kernel_rfl⟩, ⟨fun K => by kernel_rfl, by kernel_rfl⟩, ⟨fun K => by kernel_rfl, by kernel_rfl⟩, ⟨fun K => by kernel_rfl, by kernel_rfl⟩, ⟨fun K => by kernel_rfl, by kernel_rfl⟩, ⟨fun K => by kernel_rfl, by kernel_rfl⟩, ⟨fun K => by kernel_rfl, by kernel_rfl⟩, ⟨fun K => by kernel_rfl, by kernel_rfl⟩, ⟨fun K => by kernel_rfl, by kernel_rfl⟩, ⟨fun K => by kernel_rfl, by kernel_rfl⟩, ⟨fun K => by kernel_rfl, by kernel_rfl⟩, by kernel_rfl, by kernel_rfl⟩
theorem of39n : ∀ (k a b c x y : Int) (t : Nat), P16 39 k a b c x y .nils .nils t := by
  intro k a b c x y t
  unfold P16 Both Seg Fin None
  exact ⟨⟨fun K => by kernel_rfl, by kernel_rfl⟩, ⟨fun K => by kernel_rfl, by kernel_rfl⟩, ⟨fun K => by kernel_rfl, by kernel_rfl⟩, ⟨fun K => by kernel_rfl, by kernel_rfl⟩, ⟨fun K => by kernel_rfl, by kernel_rfl⟩, ⟨fun K => by kernel_rfl, by kernel_rfl⟩, ⟨fun K => by kernel_rfl, by kernel_rfl⟩, ⟨fun K => by kernel_rfl, by kernel_rfl⟩, ⟨fun K => by kernel_rfl, by kernel_rfl⟩, ⟨fun K => by kernel_rfl, by kernel_rfl⟩, ⟨fun K => by kernel_rfl, by kernel_rfl⟩, ⟨fun K => by kernel_rfl, by kernel_rfl⟩, ⟨fun K => by kernel_rfl, by kernel_rfl⟩, ⟨fun K => by kernel_rfl, by kernel_rfl⟩, ⟨fun K => by kernel_rfl, by kernel_rfl⟩, ⟨fun K => by kernel_rfl, by kernel_rfl⟩, by kernel_rfl, by kernel_rfl⟩
theorem of58 : ∀ (k a b c x y : Int) (l o n m o' n' m' t : Nat), P16 58 k a b c x y (raw l o n m) (raw l o' n' m') t := by
  intro k a b c x y l o n m o' n' m' t
  unfold P16 Both Seg Fin None
  exact ⟨⟨fun K => by kernel_rfl, by kernel_rfl⟩, ⟨fun K => by kernel_rfl, by kernel_rfl⟩, ⟨fun K => by kernel_rfl, by kernel_rfl⟩, ⟨fun K => by kernel_rfl, by kernel_rfl⟩, ⟨fun K => by kernel_rfl, by kernel_rfl⟩, ⟨fun K => by kernel_rfl, by kernel_rfl⟩, ⟨fun K => by kernel_rfl, by kernel_rfl⟩, ⟨fun K => by kernel_rfl, by kernel_rfl⟩, ⟨fun K => by kernel_rfl, by kernel_rfl⟩, ⟨fun K => by kernel_rfl, by kernel_rfl⟩, ⟨fun K => by kernel_rfl, by kernel_rfl⟩, ⟨fun K => by kernel_rfl, by kernel_rfl⟩, ⟨fun K => by kernel_rfl, by kernel_rfl⟩, ⟨fun K => by kernel_rfl, by kernel_rfl⟩, ⟨fun K => by kernel_rfl, by kernel_rfl⟩, ⟨fun K => by kernel_rfl, by kernel_rfl⟩, by kernel_rfl, by kernel_rfl⟩
theorem of58n : ∀ (k a b c x y : Int) (t : Nat), P16 58 k a b c x y .nils .nils t := by
  intro k a b c x y t
  unfold P16 Both Seg Fin None
  exact ⟨⟨fun K => by kernel_rfl, by kernel_rfl⟩, ⟨fun K => by kernel_rfl, by kernel_rfl⟩, ⟨fun K => by kernel_rfl, by kernel_rfl⟩, ⟨fun K => by kernel_rfl, by kernel_rfl⟩, ⟨fun K => by kernel_rfl, by kernel_rfl⟩, ⟨fun K => by kernel_rfl, by kernel_rfl⟩, ⟨fun K => by kernel_rfl, by kernel_rfl⟩, ⟨fun K => by kernel_rfl, by kernel_rfl⟩, ⟨fun K => by kernel_rfl, by kernel_rfl⟩, ⟨fun K => by kernel_rfl, by kernel_rfl⟩, ⟨fun K => by kernel_rfl, by kernel_rfl⟩, ⟨fun K => by kernel_rfl, by kernel_rfl⟩, ⟨fun K => by kernel_rfl, by kernel_rfl⟩, ⟨fun K => by kernel_rfl, by kernel_rfl⟩, ⟨fun K => by kernel_rfl, by kernel_rfl⟩, ⟨fun K => by kernel_rfl, by kernel_rfl⟩, by kernel_rfl, by kernel_rfl⟩
end Go.Ai
/-
  KERNEL NIL, by the evaluator, for some numbers of CPUs.
-/
namespace Go.Ai
set_option maxRecDepth 100000
theorem of12 : ∀ (k a b c x y : Int) (l o n m o' n' m' t : Nat), P16 12 k a b c x y (raw l o n m) (raw l o' n' m') t := by
  intro k a b c x y l o n m o' n' m' t
  unfold P16 Both Seg Fin None
  exact ⟨⟨fun K => by kernel_rfl, by kernel_rfl⟩, ⟨fun K => by kernel_rfl, by kernel_rfl⟩, ⟨fun K => by kernel_rfl, by kernel_rfl⟩, ⟨fun K => by kernel_rfl, by kernel_rfl⟩, ⟨fun K => by kernel_rfl, by kernel_rfl⟩, ⟨fun K => by kernel_rfl, by kernel_rfl⟩, ⟨fun K => by kernel_rfl, by kernel_rfl⟩, ⟨fun K => by kernel_rfl, by kernel_rfl⟩, ⟨fun K => by kernel_rfl, by kernel_rfl⟩, ⟨fun K => by kernel_rfl, by kernel_rfl⟩, ⟨fun K => by kernel_rfl, by kernel_rfl⟩, ⟨fun K => by kernel_rfl, by kernel_rfl⟩, ⟨fun K => by kernel_rfl, by kernel_rfl⟩, ⟨fun K => by kernel_rfl, by kernel_rfl⟩, ⟨fun K => by kernel_rfl, by kernel_rfl⟩, ⟨fun K => by kernel_rfl, by kernel_rfl⟩, by kernel_rfl, by kernel_rfl⟩
theorem of12n : ∀ (k a b c x y : Int) (t : Nat), P16 12 k a b c x y .nils .nils t := by
  intro k a b c x y t
  unfold P16 Both Seg Fin None
  exact ⟨⟨fun K => by kernel_rfl, by kernel_rfl⟩, ⟨fun K => by kernel_rfl, by kernel_rfl⟩, ⟨fun K => by kernel_rfl, by kernel_rfl⟩, ⟨fun K => by kernel_rfl, by kernel_rfl⟩, ⟨fun K => by kernel_rfl, by kernel_rfl⟩, ⟨fun K => by kernel_rfl, by kernel_rfl⟩, ⟨fun K => by kernel_rfl, by kernel_rfl⟩, ⟨fun K => by kernel_rfl, by kernel_rfl⟩, ⟨fun K => by kernel_rfl, by kernel_rfl⟩, ⟨fun K => by kernel_rfl, by kernel_rfl⟩, ⟨fun K => by kernel_rfl, by kernel_rfl⟩, ⟨fun K => by kernel_rfl, by kernel_rfl⟩, ⟨fun K => by kernel_rfl, by kernel_rfl⟩, ⟨fun K => by kernel_rfl, by kernel_rfl⟩, ⟨fun K => by kernel_rfl, by kernel_rfl⟩, ⟨fun K => by kernel_rfl, by kernel_rfl⟩, by kernel_rfl, by kernel_rfl⟩
theorem of24 : ∀ (k a b c x y : Int) (l o n m o' n' m' t : Nat), P16 24 k a b c x y (raw l o n m) (raw l o' n' m') t := by
  intro k a b c x y l o n m o' n' m' t
  unfold P16 Both Seg Fin None
  exact ⟨⟨fun K => by kernel_rfl, by kernel_rfl⟩, ⟨fun K => by kernel_rfl, by kernel_rfl⟩, ⟨fun K => by kernel_rfl, by kernel_rfl⟩, ⟨fun K => by kernel_rfl, by kernel_rfl⟩, ⟨fun K => by kernel_rfl, by kernel_rfl⟩, ⟨fun K => by kernel_rfl, by kernel_rfl⟩, ⟨fun K => by kernel_rfl, by kernel_rfl⟩, ⟨fun K => by kernel_rfl, by kernel_rfl⟩, ⟨fun K => by kernel_rfl, by kernel_rfl⟩, ⟨fun K => by kernel_rfl, by kernel_rfl⟩, ⟨fun K => by kernel_rfl, by kernel_rfl⟩, ⟨fun K => by kernel_rfl, by kernel_rfl⟩, ⟨fun K => by kernel_rfl, by kernel_rfl⟩, ⟨fun K => by kernel_rfl, by kernel_rfl⟩, ⟨fun K => by kernel_rfl, by kernel_rfl⟩, ⟨fun K => by kernel_rfl, by kernel_rfl⟩, by kernel_rfl, by kernel_rfl⟩
theorem of24n : ∀ (k a b c x y : Int) (t : Nat), P16 24 k a b c x y .nils .nils t := by
  intro k a b c x y t
  unfold P16 Both Seg Fin None
  exact ⟨⟨fun K => by kernel_rfl, by kernel_rfl⟩, ⟨fun K => by kernel_rfl, by kernel_rfl⟩, ⟨fun K => by kernel_rfl, by kernel_rfl⟩, ⟨fun K => by kernel_rfl, by kernel_rfl⟩, ⟨fun K => by kernel_rfl, by kernel_rfl⟩, ⟨fun K => by kernel_rfl, by kernel_rfl⟩, ⟨fun K => by kernel_rfl, by kernel_rfl⟩, ⟨fun K => by kernel_rfl, by kernel_rfl⟩, ⟨fun K => by kernel_rfl, by kernel_rfl⟩, ⟨fun K => by kernel_rfl, by kernel_rfl⟩, ⟨fun K => by kernel_rfl, by kernel_rfl⟩, ⟨fun K => by kernel_rfl, by kernel_rfl⟩, ⟨fun K => by kernel_rfl, by kernel_rfl⟩, ⟨fun K => by kernel_rfl, by kernel_rfl⟩, ⟨fun K => by kernel_rfl, by kernel_rfl⟩, ⟨fun K => by kernel_rfl, by kernel_rfl⟩, by kernel_rfl, by kernel_rfl⟩
theorem of40 : ∀ (k a b c x y : Int) (l o n m o' n' m' t : Nat), P16 40 k a b c x y (raw l o n m) (raw l o' n' m') t := by
  intro k a b c x y l o n m o' n' m' t
  unfold P16 Both Seg Fin None
  exact ⟨⟨fun K => by kernel_rfl, by kernel_rfl⟩, ⟨fun K => by kernel_rfl, by kernel_rfl⟩, ⟨fun K => by kernel_rfl, by kernel_rfl⟩, ⟨fun K => by kernel_rfl, by kernel_rfl⟩, ⟨fun K => by kernel_rfl, by kernel_rfl⟩, ⟨fun K => by kernel_rfl, by kernel_rfl⟩, ⟨fun K => by kernel_rfl, by kernel_rfl⟩, ⟨fun K => by kernel_rfl, by kernel_rfl⟩, ⟨fun K => by kernel_rfl, by kernel_rfl⟩, ⟨fun K => by kernel_rfl, by kernel_rfl⟩, ⟨fun K => by kernel_rfl, by kernel_rfl⟩, ⟨fun K => by kernel_rfl, by kernel_rfl⟩, ⟨fun K => by kernel_rfl, by kernel_rfl⟩, ⟨fun K => by kernel_rfl, by kernel_rfl⟩, ⟨fun K => by kernel_rfl, by kernel_rfl⟩, ⟨fun K => by kernel_rfl, by kernel_rfl⟩, by kernel_rfl, by kernel_rfl⟩
theorem of40n : ∀ (k a b c x y : Int) (t : Nat), P16 40 k a b c x y .nils .nils t := by
  intro k a b c x y t
  unfold P16 Both Seg Fin None
  exact ⟨⟨fun K => by kernel_rfl, by kernel_rfl⟩, ⟨fun K => by kernel_rfl, by kernel_rfl⟩, ⟨fun K => by kernel_rfl, by kernel_rfl⟩, ⟨fun K => by kernel_rfl, by kernel_rfl⟩, ⟨fun K => by kernel_rfl, by kernel_rfl⟩, ⟨fun K => by kernel_rfl, by kernel_rfl⟩, ⟨fun K => by kernel_rfl, by kernel_rfl⟩, ⟨fun K => by kernel_rfl, by kernel_rfl⟩, ⟨fun K => by kernel_rfl, by kernel_rfl⟩, ⟨fun K => by kernel_rfl, by kernel_rfl⟩, ⟨fun K => by kernel_rfl, by kernel_rfl⟩, ⟨fun K => by kernel_rfl, by kernel_rfl⟩, ⟨fun K => by kernel_rfl, by kernel_rfl⟩, ⟨fun K => by kernel_rfl, by kernel_rfl⟩, ⟨fun K => by kernel_rfl, by kernel_rfl⟩, ⟨fun K => by kernel_rfl, by kernel_rfl⟩, by kernel_rfl, by kernel_rfl⟩
theorem of57 : ∀ (k a b c x y : Int) (l o n m o' n' m' t : Nat), P16 57 k a b c x y (raw l o n m) (raw l o' n' m') t := by
  intro k a b c x y l o n m o' n' m' t
  unfold P16 Both Seg Fin None
  exact ⟨⟨fun K => by kernel_rfl, by kernel_rfl⟩, ⟨fun K => by kernel_rfl, by kernel_rfl⟩, ⟨fun K => by kernel_rfl, by kernel_rfl⟩, ⟨fun K => by kernel_rfl, by kernel_rfl⟩, ⟨fun K => by kernel_rfl, by kernel_rfl⟩, ⟨fun K => by kernel_rfl, by kernel_rfl⟩, ⟨fun K => by kernel_rfl, by kernel_rfl⟩, ⟨fun K => by kernel_rfl, by kernel_rfl⟩, ⟨fun K => by kernel_rfl, by kernel_rfl⟩, ⟨fun K => by kernel_rfl, by kernel_rfl⟩, ⟨fun K => by kernel_rfl, by kernel_rfl⟩, ⟨fun K => by kernel_rfl, by kernel_rfl⟩, ⟨fun K => by kernel_rfl, by kernel_rfl⟩, ⟨fun K => by kernel_rfl, by kernel_rfl⟩, ⟨fun K => by kernel_rfl, by kernel_rfl⟩, ⟨fun K => by kernel_rfl, by kernel_rfl⟩, by kernel_rfl, by kernel_rfl⟩
theorem of57n : ∀ (k a b c x y : Int) (t : Nat), P16 57 k a b c x y .nils .nils t := by
  intro k a b c x y t
  unfold P16 Both Seg Fin None
  exact ⟨⟨fun K => by kernel_rfl, by kernel_rfl⟩, ⟨fun K => by kernel_rfl, by kernel_rfl⟩, ⟨fun K => by kernel_rfl, by kernel_rfl⟩, ⟨fun K => by kernel_rfl, by kernel_rfl⟩, ⟨fun K => by kernel_rfl, by kernel_rfl⟩, ⟨fun K => by kernel_rfl, by kernel_rfl⟩, ⟨fun K => by kernel_rfl, by kernel_rfl⟩, ⟨fun K => by kernel_rfl, by kernel_rfl⟩, ⟨fun K => by kernel_rfl, by kernel_rfl⟩, ⟨fun K => by kernel_rfl, by kernel_rfl⟩, ⟨fun K => by kernel_rfl, by kernel_rfl⟩, ⟨fun K => by kernel_rfl, by kernel_rfl⟩, ⟨fun K => by kernel_rfl, by kernel_rfl⟩, ⟨fun K => by kernel_rfl, by kernel_rfl⟩, ⟨fun K => by kernel_rfl, by kernel_rfl⟩, ⟨fun K => by kernel_rfl, by kernel_rfl⟩, by kernel_rfl, by kernel_rfl⟩
end Go.Ai
