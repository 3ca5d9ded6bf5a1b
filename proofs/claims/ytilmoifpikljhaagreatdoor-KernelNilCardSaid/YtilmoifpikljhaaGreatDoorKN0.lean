/-
  KERNEL NIL, by the evaluator, for some numbers of CPUs.
-/
import Derived.Test.YtilmoifpikljhaaGreatDoorKN
set_option linter.unusedVariables false
set_option linter.unusedSimpArgs false
namespace Go.Ai
set_option maxRecDepth 100000
theorem of7 : ∀ (k a b c x y : Int) (l o n m o' n' m' t : Nat), P16 7 k a b c x y (raw l o n m) (raw l o' n' m') t := by
  intro k a b c x y l o n m o' n' m' t
  unfold P16 Both Seg Fin None
  exact ⟨⟨fun K => by kernel_rfl, by kernel_rfl⟩, ⟨fun K => by kernel_rfl, by kernel_rfl⟩, ⟨fun K => by kernel_rfl, by kernel_rfl⟩, ⟨fun K => by kernel_rfl, by kernel_rfl⟩, ⟨fun K => by kernel_rfl, by kernel_rfl⟩, ⟨fun K => by kernel_rfl, by kernel_rfl⟩, ⟨fun K => by kernel_rfl, by kernel_rfl⟩, ⟨fun K => by kernel_rfl, by kernel_rfl⟩, ⟨fun K => by kernel_rfl, by kernel_rfl⟩, ⟨fun K => by kernel_rfl, by kernel_rfl⟩, ⟨fun K => by kernel_rfl, by kernel_rfl⟩, ⟨fun K => by kernel_rfl, by kernel_rfl⟩, ⟨fun K => by kernel_rfl, by kernel_rfl⟩, ⟨fun K => by kernel_rfl, by kernel_rfl⟩, ⟨fun K => by kernel_rfl, by kernel_rfl⟩, ⟨fun K => by kernel_rfl, by kernel_rfl⟩, by kernel_rfl, by kernel_rfl⟩
theorem of7n : ∀ (k a b c x y : Int) (t : Nat), P16 7 k a b c x y .nils .nils t := by
  intro k a b c x y t
  unfold P16 Both Seg Fin None
  exact ⟨⟨fun K => by kernel_rfl, by kernel_rfl⟩, ⟨fun K => by kernel_rfl, by kernel_rfl⟩, ⟨fun K => by kernel_rfl, by kernel_rfl⟩, ⟨fun K => by kernel_rfl, by kernel_rfl⟩, ⟨fun K => by kernel_rfl, by kernel_rfl⟩, ⟨fun K => by kernel_rfl, by kernel_rfl⟩, ⟨fun K => by kernel_rfl, by kernel_rfl⟩, ⟨fun K => by kernel_rfl, by kernel_rfl⟩, ⟨fun K => by kernel_rfl, by kernel_rfl⟩, ⟨fun K => by kernel_rfl, by kernel_rfl⟩, ⟨fun K => by kernel_rfl, by kernel_rfl⟩, ⟨fun K => by kernel_rfl, by kernel_rfl⟩, ⟨fun K => by kernel_rfl, by kernel_rfl⟩, ⟨fun K => by kernel_rfl, by kernel_rfl⟩, ⟨fun K => by kernel_rfl, by kernel_rfl⟩, ⟨fun K => by kernel_rfl, by kernel_rfl⟩, by kernel_rfl, by kernel_rfl⟩
theorem of17 : ∀ (k a b c x y : Int) (l o n m o' n' m' t : Nat), P16 17 k a b c x y (raw l o n m) (raw l o' n' m') t := by
  intro k a b c x y l o n m o' n' m' t
  unfold P16 Both Seg Fin None
  exact ⟨⟨fun K => by kernel_rfl, by kernel_rfl⟩, ⟨fun K => by kernel_rfl, by kernel_rfl⟩, ⟨fun K => by kernel_rfl, by kernel_rfl⟩, ⟨fun K => by kernel_rfl, by kernel_rfl⟩, ⟨fun K => by kernel_rfl, by kernel_rfl⟩, ⟨fun K => by kernel_rfl, by kernel_rfl⟩, ⟨fun K => by kernel_rfl, by kernel_rfl⟩, ⟨fun K => by kernel_rfl, by kernel_rfl⟩, ⟨fun K => by kernel_rfl, by kernel_rfl⟩, ⟨fun K => by kernel_rfl, by kernel_rfl⟩, ⟨fun K => by kernel_rfl, by kernel_rfl⟩, ⟨fun K => by kernel_rfl, by kernel_rfl⟩, ⟨fun K => by kernel_rfl, by kernel_rfl⟩, ⟨fun K => by kernel_rfl, by kernel_rfl⟩, ⟨fun K => by kernel_rfl, by kernel_rfl⟩, ⟨fun K => by kernel_rfl, by kernel_rfl⟩, by kernel_rfl, by kernel_rfl⟩
theorem of17n : ∀ (k a b c x y : Int) (t : Nat), P16 17 k a b c x y .nils .nils t := by
  intro k a b c x y t
  unfold P16 Both Seg Fin None
  exact ⟨⟨fun K => by kernel_rfl, by kernel_rfl⟩, ⟨fun K => by kernel_rfl, by kernel_rfl⟩, ⟨fun K => by kernel_rfl, by kernel_rfl⟩, ⟨fun K => by kernel_rfl, by kernel_rfl⟩, ⟨fun K => by kernel_rfl, by kernel_rfl⟩, ⟨fun K => by kernel_rfl, by kernel_rfl⟩, ⟨fun K => by kernel_rfl, by kernel_rfl⟩, ⟨fun K => by kernel_rfl, by kernel_rfl⟩, ⟨fun K => by kernel_rfl, by kernel_rfl⟩, ⟨fun K => by kernel_rfl, by kernel_rfl⟩, ⟨fun K => by kernel_rfl, by kernel_rfl⟩, ⟨fun K => by kernel_rfl, by kernel_rfl⟩, ⟨fun K => by kernel_rfl, by kernel_rfl⟩, ⟨fun K => by kernel_rfl, by kernel_rfl⟩, ⟨fun K => by kernel_rfl, by kernel_rfl⟩, ⟨fun K => by kernel_rfl, by kernel_rfl⟩, by kernel_rfl, by kernel_rfl⟩
theorem of33 : ∀ (k a b c x y : Int) (l o n m o' n' m' t : Nat), P16 33 k a b c x y (raw l o n m) (raw l o' n' m') t := by
  intro k a b c x y l o n m o' n' m' t
  unfold P16 Both Seg Fin None
  exact ⟨⟨fun K => by kernel_rfl, by kernel_rfl⟩, ⟨fun K => by kernel_rfl, by kernel_rfl⟩, ⟨fun K => by kernel_rfl, by kernel_rfl⟩, ⟨fun K => by kernel_rfl, by kernel_rfl⟩, ⟨fun K => by kernel_rfl, by kernel_rfl⟩, ⟨fun K => by kernel_rfl, by kernel_rfl⟩, ⟨fun K => by kernel_rfl, by kernel_rfl⟩, ⟨fun K => by kernel_rfl, by kernel_rfl⟩, ⟨fun K => by kernel_rfl, by kernel_rfl⟩, ⟨fun K => by kernel_rfl, by kernel_rfl⟩, ⟨fun K => by kernel_rfl, by kernel_rfl⟩, ⟨fun K => by kernel_rfl, by kernel_rfl⟩, ⟨fun K => by kernel_rfl, by kernel_rfl⟩, ⟨fun K => by kernel_rfl, by kernel_rfl⟩, ⟨fun K => by kernel_rfl, by kernel_rfl⟩, ⟨fun K => by kernel_rfl, by kernel_rfl⟩, by kernel_rfl, by kernel_rfl⟩
theorem of33n : ∀ (k a b c x y : Int) (t : Nat), P16 33 k a b c x y .nils .nils t := by
  intro k a b c x y t
  unfold P16 Both Seg Fin None
  exact ⟨⟨fun K => by kernel_rfl, by kernel_rfl⟩, ⟨fun K => by kernel_rfl, by kernel_rfl⟩, ⟨fun K => by kernel_rfl, by kernel_rfl⟩, ⟨fun K => by kernel_rfl, by kernel_rfl⟩, ⟨fun K => by kernel_rfl, by kernel_rfl⟩, ⟨fun K => by kernel_rfl, by kernel_rfl⟩, ⟨fun K => by kernel_rfl, by kernel_rfl⟩, ⟨fun K => by kernel_rfl, by kernel_rfl⟩, ⟨fun K => by kernel_rfl, by kernel_rfl⟩, ⟨fun K => by kernel_rfl, by kernel_rfl⟩, ⟨fun K => by kernel_rfl, by kernel_rfl⟩, ⟨fun K => by kernel_rfl, by kernel_rfl⟩, ⟨fun K => by kernel_rfl, by kernel_rfl⟩, ⟨fun K => by kernel_rfl, by kernel_rfl⟩, ⟨fun K => by kernel_rfl, by kernel_rfl⟩, ⟨fun K => by kernel_rfl, by kernel_rfl⟩, by kernel_rfl, by kernel_rfl⟩
theorem of64 : ∀ (k a b c x y : Int) (l o n m o' n' m' t : Nat), P16 64 k a b c x y (raw l o n m) (raw l o' n' m') t := by
  intro k a b c x y l o n m o' n' m' t
  unfold P16 Both Seg Fin None
  exact ⟨⟨fun K => by kernel_rfl, by kernel_rfl⟩, ⟨fun K => by kernel_rfl, by kernel_rfl⟩, ⟨fun K => by kernel_rfl, by kernel_rfl⟩, ⟨fun K => by kernel_rfl, by kernel_rfl⟩, ⟨fun K => by kernel_rfl, by kernel_rfl⟩, ⟨fun K => by kernel_rfl, by kernel_rfl⟩, ⟨fun K => by kernel_rfl, by kernel_rfl⟩, ⟨fun K => by kernel_rfl, by kernel_rfl⟩, ⟨fun K => by kernel_rfl, by kernel_rfl⟩, ⟨fun K => by kernel_rfl, by kernel_rfl⟩, ⟨fun K => by kernel_rfl, by kernel_rfl⟩, ⟨fun K => by kernel_rfl, by kernel_rfl⟩, ⟨fun K => by kernel_rfl, by kernel_rfl⟩, ⟨fun K => by kernel_rfl, by kernel_rfl⟩, ⟨fun K => by kernel_rfl, by kernel_rfl⟩, ⟨fun K => by kernel_rfl, by kernel_rfl⟩, by kernel_rfl, by kernel_rfl⟩
theorem of64n : ∀ (k a b c x y : Int) (t : Nat), P16 64 k a b c x y .nils .nils t := by
  intro k a b c x y t
  unfold P16 Both Seg Fin None
  exact ⟨⟨fun K => by kernel_rfl, by kernel_rfl⟩, ⟨fun K => by kernel_rfl, by kernel_rfl⟩, ⟨fun K => by kernel_rfl, by kernel_rfl⟩, ⟨fun K => by kernel_rfl, by kernel_rfl⟩, ⟨fun K => by kernel_rfl, by kernel_rfl⟩, ⟨fun K => by kernel_rfl, by kernel_rfl⟩, ⟨fun K => by kernel_rfl, by kernel_rfl⟩, ⟨fun K => by kernel_rfl, by kernel_rfl⟩, ⟨fun K => by kernel_rfl, by kernel_rfl⟩, ⟨fun K => by kernel_rfl, by kernel_rfl⟩, ⟨fun K => by kernel_rfl, by kernel_rfl⟩, ⟨fun K => by kernel_rfl, by kernel_rfl⟩, ⟨fun K => by kernel_rfl, by kernel_rfl⟩, ⟨fun K => by kernel_rfl, by kernel_rfl⟩, ⟨fun K => by kernel_rfl, by kernel_rfl⟩, ⟨fun K => by kernel_rfl, by kernel_rfl⟩, by kernel_rfl, by kernel_rfl⟩
end Go.Ai
/-
  KERNEL NIL, by the evaluator, for some numbers of CPUs.
-/
namespace Go.Ai
set_option maxRecDepth 100000
theorem of9 : ∀ (k a b c x y : Int) (l o n m o' n' m' t : Nat), P16 9 k a b c x y (raw l o n m) (raw l o' n' m') t := by
  intro k a b c x y l o n m o' n' m' t
  unfold P16 Both Seg Fin None
  exact ⟨⟨fun K => by kernel_rfl, by kernel_rfl⟩, ⟨fun K => by kernel_rfl, by kernel_rfl⟩, ⟨fun K => by kernel_rfl, by kernel_rfl⟩, ⟨fun K => by kernel_rfl, by kernel_rfl⟩, ⟨fun K => by kernel_rfl, by kernel_rfl⟩, ⟨fun K => by kernel_rfl, by kernel_rfl⟩, ⟨fun K => by kernel_rfl, by kernel_rfl⟩, ⟨fun K => by kernel_rfl, by kernel_rfl⟩, ⟨fun K => by kernel_rfl, by kernel_rfl⟩, ⟨fun K => by kernel_rfl, by kernel_rfl⟩, ⟨fun K => by kernel_rfl, by kernel_rfl⟩, ⟨fun K => by kernel_rfl, by kernel_rfl⟩, ⟨fun K => by kernel_rfl, by kernel_rfl⟩, ⟨fun K => by kernel_rfl, by kernel_rfl⟩, ⟨fun K => by kernel_rfl, by kernel_rfl⟩, ⟨fun K => by kernel_rfl, by kernel_rfl⟩, by kernel_rfl, by kernel_rfl⟩
theorem of9n : ∀ (k a b c x y : Int) (t : Nat), P16 9 k a b c x y .nils .nils t := by
  intro k a b c x y t
  unfold P16 Both Seg Fin None
  exact ⟨⟨fun K => by kernel_rfl, by kernel_rfl⟩, ⟨fun K => by kernel_rfl, by kernel_rfl⟩, ⟨fun K => by kernel_rfl, by kernel_rfl⟩, ⟨fun K => by kernel_rfl, by kernel_rfl⟩, ⟨fun K => by kernel_rfl, by kernel_rfl⟩, ⟨fun K => by kernel_rfl, by kernel_rfl⟩, ⟨fun K => by kernel_rfl, by kernel_rfl⟩, ⟨fun K => by kernel_rfl, by kernel_rfl⟩, ⟨fun K => by kernel_rfl, by kernel_rfl⟩, ⟨fun K => by kernel_rfl, by kernel_rfl⟩, ⟨fun K => by kernel_rfl, by kernel_rfl⟩, ⟨fun K => by kernel_rfl, by kernel_rfl⟩, ⟨fun K => by kernel_rfl, by kernel_rfl⟩, ⟨fun K => by kernel_rfl, by kernel_rfl⟩, ⟨fun K => by kernel_rfl, by kernel_rfl⟩, ⟨fun K => by kernel_rfl, by kernel_rfl⟩, by kernel_rfl, by kernel_rfl⟩
theorem of18 : ∀ (k a b c x y : Int) (l o n m o' n' m' t : Nat), P16 18 k a b c x y (raw l o n m) (raw l o' n' m') t := by
  intro k a b c x y l o n m o' n' m' t
  unfold P16 Both Seg Fin None
  exact ⟨⟨fun K => by kernel_rfl, by kernel_rfl⟩, ⟨fun K => by kernel_rfl, by kernel_rfl⟩, ⟨fun K => by kernel_rfl, by kernel_rfl⟩, ⟨fun K => by kernel_rfl, by kernel_rfl⟩, ⟨fun K => by kernel_rfl, by kernel_rfl⟩, ⟨fun K => by kernel_rfl, by kernel_rfl⟩, ⟨fun K => by kernel_rfl, by kernel_rfl⟩, ⟨fun K => by kernel_rfl, by kernel_rfl⟩, ⟨fun K => by kernel_rfl, by kernel_rfl⟩, ⟨fun K => by kernel_rfl, by kernel_rfl⟩, ⟨fun K => by kernel_rfl, by kernel_rfl⟩, ⟨fun K => by kernel_rfl, by kernel_rfl⟩, ⟨fun K => by kernel_rfl, by kernel_rfl⟩, ⟨fun K => by kernel_rfl, by kernel_rfl⟩, ⟨fun K => by kernel_rfl, by kernel_rfl⟩, ⟨fun K => by kernel_rfl, by kernel_rfl⟩, by kernel_rfl, by kernel_rfl⟩
theorem of18n : ∀ (k a b c x y : Int) (t : Nat), P16 18 k a b c x y .nils .nils t := by
  intro k a b c x y t
  unfold P16 Both Seg Fin None
  exact ⟨⟨fun K => by kernel_rfl, by kernel_rfl⟩, ⟨fun K => by kernel_rfl, by kernel_rfl⟩, ⟨fun K => by kernel_rfl, by kernel_rfl⟩, ⟨fun K => by kernel_rfl, by kernel_rfl⟩, ⟨fun K => by kernel_rfl, by kernel_rfl⟩, ⟨fun K => by kernel_rfl, by kernel_rfl⟩, ⟨fun K => by kernel_rfl, by kernel_rfl⟩, ⟨fun K => by kernel_rfl, by kernel_rfl⟩, ⟨fun K => by kernel_rfl, by kernel_rfl⟩, ⟨fun K => by kernel_rfl, by kernel_rfl⟩, ⟨fun K => by kernel_rfl, by kernel_rfl⟩, ⟨fun K => by kernel_rfl, by kernel_rfl⟩, ⟨fun K => by kernel_rfl, by kernel_rfl⟩, ⟨fun K => by kernel_rfl, by kernel_rfl⟩, ⟨fun K => by kernel_rfl, by kernel_rfl⟩, ⟨fun K => by kernel_rfl, by kernel_rfl⟩, by kernel_rfl, by kernel_rfl⟩
theorem of34 : ∀ (k a b c x y : Int) (l o n m o' n' m' t : Nat), P16 34 k a b c x y (raw l o n m) (raw l o' n' m') t := by
  intro k a b c x y l o n m o' n' m' t
  unfold P16 Both Seg Fin None
  exact ⟨⟨fun K => by kernel_rfl, by kernel_rfl⟩, ⟨fun K => by kernel_rfl, by kernel_rfl⟩, ⟨fun K => by kernel_rfl, by kernel_rfl⟩, ⟨fun K => by kernel_rfl, by kernel_rfl⟩, ⟨fun K => by kernel_rfl, by kernel_rfl⟩, ⟨fun K => by kernel_rfl, by kernel_rfl⟩, ⟨fun K => by kernel_rfl, by kernel_rfl⟩, ⟨fun K => by kernel_rfl, by kernel_rfl⟩, ⟨fun K => by kernel_rfl, by kernel_rfl⟩, ⟨fun K => by kernel_rfl, by kernel_rfl⟩, ⟨fun K => by kernel_rfl, by kernel_rfl⟩, ⟨fun K => by kernel_rfl, by kernel_rfl⟩, ⟨fun K => by kernel_rfl, by kernel_rfl⟩, ⟨fun K => by kernel_rfl, by kernel_rfl⟩, ⟨fun K => by kernel_rfl, by kernel_rfl⟩, ⟨fun K => by kernel_rfl, by kernel_rfl⟩, by kernel_rfl, by kernel_rfl⟩
theorem of34n : ∀ (k a b c x y : Int) (t : Nat), P16 34 k a b c x y .nils .nils t := by
  intro k a b c x y t
  unfold P16 Both Seg Fin None
  exact ⟨⟨fun K => by kernel_rfl, by kernel_rfl⟩, ⟨fun K => by kernel_rfl, by kernel_rfl⟩, ⟨fun K => by kernel_rfl, by kernel_rfl⟩, ⟨fun K => by kernel_rfl, by kernel_rfl⟩, ⟨fun K => by kernel_rfl, by kernel_rfl⟩, ⟨fun K => by kernel_rfl, by kernel_rfl⟩, ⟨fun K => by kernel_rfl, by kernel_rfl⟩, ⟨fun K => by kernel_rfl, by kernel_rfl⟩, ⟨fun K => by kernel_rfl, by kernel_rfl⟩, ⟨fun K => by kernel_rfl, by kernel_rfl⟩, ⟨fun K => by kernel_rfl, by kernel_rfl⟩, ⟨fun K => by kernel_rfl, by kernel_rfl⟩, ⟨fun K => by kernel_rfl, by kernel_rfl⟩, ⟨fun K => by kernel_rfl, by kernel_rfl⟩, ⟨fun K => by kernel_rfl, by kernel_rfl⟩, ⟨fun K => by kernel_rfl, by kernel_rfl⟩, by kernel_rfl, by kernel_rfl⟩
theorem of63 : ∀ (k a b c x y : Int) (l o n m o' n' m' t : Nat), P16 63 k a b c x y (raw l o n m) (raw l o' n' m') t := by
  intro k a b c x y l o n m o' n' m' t
  unfold P16 Both Seg Fin None
  exact ⟨⟨fun K => by kernel_rfl, by kernel_rfl⟩, ⟨fun K => by kernel_rfl, by kernel_rfl⟩, ⟨fun K => by kernel_rfl, by kernel_rfl⟩, ⟨fun K => by kernel_rfl, by kernel_rfl⟩, ⟨fun K => by kernel_rfl, by kernel_rfl⟩, ⟨fun K => by kernel_rfl, by kernel_rfl⟩, ⟨fun K => by kernel_rfl, by kernel_rfl⟩, ⟨fun K => by kernel_rfl, by kernel_rfl⟩, ⟨fun K => by kernel_rfl, by kernel_rfl⟩, ⟨fun K => by kernel_rfl, by kernel_rfl⟩, ⟨fun K => by kernel_rfl, by kernel_rfl⟩, ⟨fun K => by kernel_rfl, by kernel_rfl⟩, ⟨fun K => by kernel_rfl, by kernel_rfl⟩, ⟨fun K => by kernel_rfl, by kernel_rfl⟩, ⟨fun K => by kernel_rfl, by kernel_rfl⟩, ⟨fun K => by kernel_rfl, by kernel_rfl⟩, by kernel_rfl, by kernel_rfl⟩
theorem of63n : ∀ (k a b c x y : Int) (t : Nat), P16 63 k a b c x y .nils .nils t := by
  intro k a b c x y t
  unfold P16 Both Seg Fin None
  exact ⟨⟨fun K => by kernel_rfl, by kernel_rfl⟩, ⟨fun K => by kernel_rfl, by kernel_rfl⟩, ⟨fun K => by kernel_rfl, by kernel_rfl⟩, ⟨fun K => by kernel_rfl, by kernel_rfl⟩, ⟨fun K => by kernel_rfl, by kernel_rfl⟩, ⟨fun K => by kernel_rfl, by kernel_rfl⟩, ⟨fun K => by kernel_rfl, by kernel_rfl⟩, ⟨fun K => by kernel_rfl, by kernel_rfl⟩, ⟨fun K => by kernel_rfl, by kernel_rfl⟩, ⟨fun K => by kernel_rfl, by kernel_rfl⟩, ⟨fun K => by kernel_rfl, by kernel_rfl⟩, ⟨fun K => by kernel_rfl, by kernel_rfl⟩, ⟨fun K => by kernel_rfl, by kernel_rfl⟩, ⟨fun K => by kernel_rfl, by kernel_rfl⟩, ⟨fun K => by kernel_rfl, by kernel_rfl⟩, ⟨fun K => by kernel_rfl, by kernel_rfl⟩, by kernel_rfl, by kernel_rfl⟩
end Go.Ai
