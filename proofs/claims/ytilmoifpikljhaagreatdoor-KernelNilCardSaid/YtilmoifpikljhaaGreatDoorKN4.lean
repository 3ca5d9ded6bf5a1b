/-
  KERNEL NIL, by the evaluator, for some numbers of CPUs.
-/
import Derived.Test.YtilmoifpikljhaaGreatDoorKN
set_option linter.unusedVariables false
set_option linter.unusedSimpArgs false
namespace Go.Ai
set_option maxRecDepth 100000
theorem of10 : ∀ (k a b c x y : Int) (l o n m o' n' m' t : Nat), P16 10 k a b c x y (raw l o n m) (raw l o' n' m') t := by
  intro k a b c x y l o n m o' n' m' t
  unfold P16 Both Seg Fin None
  exact ⟨⟨fun K => by kernel_rfl, by kernel_rfl⟩, ⟨fun K => by kernel_rfl, by kernel_rfl⟩, ⟨fun K => by kernel_rfl, by kernel_rfl⟩, ⟨fun K => by kernel_rfl, by kernel_rfl⟩, ⟨fun K => by kernel_rfl, by kernel_rfl⟩, ⟨fun K => by kernel_rfl, by kernel_rfl⟩, ⟨fun K => by kernel_rfl, by kernel_rfl⟩, ⟨fun K => by kernel_rfl, by kernel_rfl⟩, ⟨fun K => by kernel_rfl, by kernel_rfl⟩, ⟨fun K => by kernel_rfl, by kernel_rfl⟩, ⟨fun K => by kernel_rfl, by kernel_rfl⟩, ⟨fun K => by kernel_rfl, by kernel_rfl⟩, ⟨fun K => by kernel_rfl, by kernel_rfl⟩, ⟨fun K => by kernel_rfl, by kernel_rfl⟩, ⟨fun K => by kernel_rfl, by kernel_rfl⟩, ⟨fun K => by kernel_rfl, by kernel_rfl⟩, by kernel_rfl, by kernel_rfl⟩
theorem of10n : ∀ (k a b c x y : Int) (t : Nat), P16 10 k a b c x y .nils .nils t := by
  intro k a b c x y t
  unfold P16 Both Seg Fin None
  exact ⟨⟨fun K => by kernel_rfl, by kernel_rfl⟩, ⟨fun K => by kernel_rfl, by kernel_rfl⟩, ⟨fun K => by kernel_rfl, by kernel_rfl⟩, ⟨fun K => by kernel_rfl, by kernel_rfl⟩, ⟨fun K => by kernel_rfl, by kernel_rfl⟩, ⟨fun K => by kernel_rfl, by kernel_rfl⟩, ⟨fun K => by kernel_rfl, by kernel_rfl⟩, ⟨fun K => by kernel_rfl, by kernel_rfl⟩, ⟨fun K => by kernel_rfl, by kernel_rfl⟩, ⟨fun K => by kernel_rfl, by kernel_rfl⟩, ⟨fun K => by kernel_rfl, by kernel_rfl⟩, ⟨fun K => by kernel_rfl, by kernel_rfl⟩, ⟨fun K => by kernel_rfl, by kernel_rfl⟩, ⟨fun K => by kernel_rfl, by kernel_rfl⟩, ⟨fun K => by kernel_rfl, by kernel_rfl⟩, ⟨fun K => by kernel_rfl, by kernel_rfl⟩, by kernel_rfl, by kernel_rfl⟩
theorem of25 : ∀ (k a b c x y : Int) (l o n m o' n' m' t : Nat), P16 25 k a b c x y (raw l o n m) (raw l o' n' m') t := by
  intro k a b c x y l o n m o' n' m' t
  unfold P16 Both Seg Fin None
  exact ⟨⟨fun K => by kernel_rfl, by kernel_rfl⟩, ⟨fun K => by kernel_rfl, by kernel_rfl⟩, ⟨fun K => by kernel_rfl, by kernel_rfl⟩, ⟨fun K => by kernel_rfl, by kernel_rfl⟩, ⟨fun K => by kernel_rfl, by kernel_rfl⟩, ⟨fun K => by kernel_rfl, by kernel_rfl⟩, ⟨fun K => by kernel_rfl, by kernel_rfl⟩, ⟨fun K => by kernel_rfl, by kernel_rfl⟩, ⟨fun K => by kernel_rfl, by kernel_rfl⟩, ⟨fun K => by kernel_rfl, by kernel_rfl⟩, ⟨fun K => by kernel_rfl, by kernel_rfl⟩, ⟨fun K => by kernel_rfl, by kernel_rfl⟩, ⟨fun K => by kernel_rfl, by kernel_rfl⟩, ⟨fun K => by kernel_rfl, by kernel_rfl⟩, ⟨fun K => by kernel_rfl, by kernel_rfl⟩, ⟨fun K => by kernel_rfl, by kernel_rfl⟩, by kernel_rfl, by kernel_rfl⟩
theorem of25n : ∀ (k a b c x y : Int) (t : Nat), P16 25 k a b c x y .nils .nils t := by
  intro k a b c x y t
  unfold P16 Both Seg Fin None
  exact ⟨⟨fun K => by kernel_rfl, by kernel_rfl⟩, ⟨fun K => by kernel_rfl, by kernel_rfl⟩, ⟨fun K => by kernel_rfl, by kernel_rfl⟩, ⟨fun K => by kernel_rfl, by kernel_rfl⟩, ⟨fun K => by kernel_rfl, by kernel_rfl⟩, ⟨fun K => by kernel_rfl, by kernel_rfl⟩, ⟨fun K => by kernel_rfl, by kernel_rfl⟩, ⟨fun K => by kernel_rfl, by kernel_rfl⟩, ⟨fun K => by kernel_rfl, by kernel_rfl⟩, ⟨fun K => by kernel_rfl, by kernel_rfl⟩, ⟨fun K => by kernel_rfl, by kernel_rfl⟩, ⟨fun K => by kernel_rfl, by kernel_rfl⟩, ⟨fun K => by kernel_rfl, by kernel_rfl⟩, ⟨fun K => by kernel_rfl, by kernel_rfl⟩, ⟨fun K => by kernel_rfl, by kernel_rfl⟩, ⟨fun K => by kernel_rfl, by kernel_rfl⟩, by kernel_rfl, by kernel_rfl⟩
theorem of41 : ∀ (k a b c x y : Int) (l o n m o' n' m' t : Nat), P16 41 k a b c x y (raw l o n m) (raw l o' n' m') t := by
  intro k a b c x y l o n m o' n' m' t
  unfold P16 Both Seg Fin None
  exact ⟨⟨fun K => by kernel_rfl, by kernel_rfl⟩, ⟨fun K => by kernel_rfl, by kernel_rfl⟩, ⟨fun K => by kernel_rfl, by kernel_rfl⟩, ⟨fun K => by kernel_rfl, by kernel_rfl⟩, ⟨fun K => by kernel_rfl, by kernel_rfl⟩, ⟨fun K => by kernel_rfl, by kernel_rfl⟩, ⟨fun K => by kernel_rfl, by kernel_rfl⟩, ⟨fun K => by kernel_rfl, by kernel_rfl⟩, ⟨fun K => by kernel_rfl, by kernel_rfl⟩, ⟨fun K => by kernel_rfl, by kernel_rfl⟩, ⟨fun K => by kernel_rfl, by kernel_rfl⟩, ⟨fun K => by kernel_rfl, by kernel_rfl⟩, ⟨fun K => by kernel_rfl, by kernel_rfl⟩, ⟨fun K => by kernel_rfl, by kernel_rfl⟩, ⟨fun K => by kernel_rfl, by kernel_rfl⟩, ⟨fun K => by kernel_rfl, by kernel_rfl⟩, by kernel_rfl, by kernel_rfl⟩
theorem of41n : ∀ (k a b c x y : Int) (t : Nat), P16 41 k a b c x y .nils .nils t := by
  intro k a b c x y t
  unfold P16 Both Seg Fin None
  exact ⟨⟨fun K => by kernel_rfl, by kernel_rfl⟩, ⟨fun K => by kernel_rfl, by kernel_rfl⟩, ⟨fun K => by kernel_rfl, by kernel_rfl⟩, ⟨fun K => by kernel_rfl, by kernel_rfl⟩, ⟨fun K => by kernel_rfl, by kernel_rfl⟩, ⟨fun K => by kernel_rfl, by kernel_rfl⟩, ⟨fun K => by kernel_rfl, by kernel_rfl⟩, ⟨fun K => by kernel_rfl, by kernel_rfl⟩, ⟨fun K => by kernel_rfl, by kernel_rfl⟩, ⟨fun K => by kernel_rfl, by kernel_rfl⟩, ⟨fun K => by kernel_rfl, by kernel_rfl⟩, ⟨fun K => by kernel_rfl, by kernel_rfl⟩, ⟨fun K => by kernel_rfl, by kernel_rfl⟩, ⟨fun K => by kernel_rfl, by kernel_rfl⟩, ⟨fun K => by kernel_rfl, by kernel_rfl⟩, ⟨fun K => by kernel_rfl, by kernel_rfl⟩, by kernel_rfl, by kernel_rfl⟩
theorem of56 : ∀ (k a b c x y : Int) (l o n m o' n' m' t : Nat), P16 56 k a b c x y (raw l o n m) (raw l o' n' m') t := by
  intro k a b c x y l o n m o' n' m' t
  unfold P16 Both Seg Fin None
  exact ⟨⟨fun K => by kernel_rfl, by kernel_rfl⟩, ⟨fun K => by kernel_rfl, by kernel_rfl⟩, ⟨fun K => by kernel_rfl, by kernel_rfl⟩, ⟨fun K => by kernel_rfl, by kernel_rfl⟩, ⟨fun K => by kernel_rfl, by kernel_rfl⟩, ⟨fun K => by kernel_rfl, by kernel_rfl⟩, ⟨fun K => by kernel_rfl, by kernel_rfl⟩, ⟨fun K => by kernel_rfl, by kernel_rfl⟩, ⟨fun K => by kernel_rfl, by kernel_rfl⟩, ⟨fun K => by kernel_rfl, by kernel_rfl⟩, ⟨fun K => by kernel_rfl, by kernel_rfl⟩, ⟨fun K => by kernel_rfl, by kernel_rfl⟩, ⟨fun K => by kernel_rfl, by kernel_rfl⟩, ⟨fun K => by kernel_rfl, by kernel_rfl⟩, ⟨fun K => by kernel_rfl, by kernel_rfl⟩, ⟨fun K => by kernel_rfl, by kernel_rfl⟩, by kernel_rfl, by kernel_rfl⟩
theorem of56n : ∀ (k a b c x y : Int) (t : Nat), P16 56 k a b c x y .nils .nils t := by
  intro k a b c x y t
  unfold P16 Both Seg Fin None
  exact ⟨⟨fun K => by kernel_rfl, by kernel_rfl⟩, ⟨fun K => by kernel_rfl, by kernel_rfl⟩, ⟨fun K => by kernel_rfl, by kernel_rfl⟩, ⟨fun K => by kernel_rfl, by kernel_rfl⟩, ⟨fun K => by kernel_rfl, by kernel_rfl⟩, ⟨fun K => by kernel_rfl, by kernel_rfl⟩, ⟨fun K => by kernel_rfl, by kernel_rfl⟩, ⟨fun K => by kernel_rfl, by kernel_rfl⟩, ⟨fun K => by kernel_rfl, by kernel_rfl⟩, ⟨fun K => by kernel_rfl, by kernel_rfl⟩, ⟨fun K => by kernel_rfl, by kernel_rfl⟩, ⟨fun K => by kernel_rfl, by kernel_rfl⟩, ⟨fun K => by kernel_rfl, by kernel_rfl⟩, ⟨fun K => by kernel_rfl, by kernel_rfl⟩, ⟨fun K => by kernel_rfl, by kernel_rfl⟩, ⟨fun K => by kernel_rfl, by kernel_rfl⟩, by kernel_rfl, by kernel_rfl⟩
end Go.Ai
/-
  KERNEL NIL, by the evaluator, for some numbers of CPUs.
-/
namespace Go.Ai
set_option maxRecDepth 100000
theorem of8 : ∀ (k a b c x y : Int) (l o n m o' n' m' t : Nat), P16 8 k a b c x y (raw l o n m) (raw l o' n' m') t := by
  intro k a b c x y l o n m o' n' m' t
  unfold P16 Both Seg Fin None
  exact ⟨⟨fun K => by kernel_rfl, by kernel_rfl⟩, ⟨fun K => by kernel_rfl, by kernel_rfl⟩, ⟨fun K => by kernel_rfl, by kernel_rfl⟩, ⟨fun K => by kernel_rfl, by kernel_rfl⟩, ⟨fun K => by kernel_rfl, by kernel_rfl⟩, ⟨fun K => by kernel_rfl, by kernel_rfl⟩, ⟨fun K => by kernel_rfl, by kernel_rfl⟩, ⟨fun K => by kernel_rfl, by kernel_rfl⟩, ⟨fun K => by kernel_rfl, by kernel_rfl⟩, ⟨fun K => by kernel_rfl, by kernel_rfl⟩, ⟨fun K => by kernel_rfl, by kernel_rfl⟩, ⟨fun K => by kernel_rfl, by kernel_rfl⟩, ⟨fun K => by kernel_rfl, by kernel_rfl⟩, ⟨fun K => by kernel_rfl, by kernel_rfl⟩, ⟨fun K => by kernel_rfl, by kernel_rfl⟩, ⟨fun K => by kernel_rfl, by kernel_rfl⟩, by kernel_rfl, by kernel_rfl⟩
theorem of8n : ∀ (k a b c x y : Int) (t : Nat), P16 8 k a b c x y .nils .nils t := by
  intro k a b c x y t
  unfold P16 Both Seg Fin None
  exact ⟨⟨fun K => by kernel_rfl, by kernel_rfl⟩, ⟨fun K => by kernel_rfl, by kernel_rfl⟩, ⟨fun K => by kernel_rfl, by kernel_rfl⟩, ⟨fun K => by kernel_rfl, by kernel_rfl⟩, ⟨fun K => by kernel_rfl, by kernel_rfl⟩, ⟨fun K => by kernel_rfl, by kernel_rfl⟩, ⟨fun K => by kernel_rfl, by kernel_rfl⟩, ⟨fun K => by kernel_rfl, by kernel_rfl⟩, ⟨fun K => by kernel_rfl, by kernel_rfl⟩, ⟨fun K => by kernel_rfl, by kernel_rfl⟩, ⟨fun K => by kernel_rfl, by kernel_rfl⟩, ⟨fun K => by kernel_rfl, by kernel_rfl⟩, ⟨fun K => by kernel_rfl, by kernel_rfl⟩, ⟨fun K => by kernel_rfl, by kernel_rfl⟩, ⟨fun K => by kernel_rfl, by kernel_rfl⟩, ⟨fun K => by kernel_rfl, by kernel_rfl⟩, by kernel_rfl, by kernel_rfl⟩
theorem of26 : ∀ (k a b c x y : Int) (l o n m o' n' m' t : Nat), P16 26 k a b c x y (raw l o n m) (raw l o' n' m') t := by
  intro k a b c x y l o n m o' n' m' t
  unfold P16 Both Seg Fin None
  exact ⟨⟨fun K => by kernel_rfl, by kernel_rfl⟩, ⟨fun K => by kernel_rfl, by kernel_rfl⟩, ⟨fun K => by kernel_rfl, by kernel_rfl⟩, ⟨fun K => by kernel_rfl, by kernel_rfl⟩, ⟨fun K => by kernel_rfl, by kernel_rfl⟩, ⟨fun K => by kernel_rfl, by kernel_rfl⟩, ⟨fun K => by kernel_rfl, by kernel_rfl⟩, ⟨fun K => by kernel_rfl, by kernel_rfl⟩, ⟨fun K => by kernel_rfl, by kernel_rfl⟩, ⟨fun K => by kernel_rfl, by kernel_rfl⟩, ⟨fun K => by kernel_rfl, by kernel_rfl⟩, ⟨fun K => by kernel_rfl, by kernel_rfl⟩, ⟨fun K => by kernel_rfl, by kernel_rfl⟩, ⟨fun K => by kernel_rfl, by kernel_rfl⟩, ⟨fun K => by kernel_rfl, by kernel_rfl⟩, ⟨fun K => by kernel_rfl, by kernel_rfl⟩, by kernel_rfl, by kernel_rfl⟩
theorem of26n : ∀ (k a b c x y : Int) (t : Nat), P16 26 k a b c x y .nils .nils t := by
  intro k a b c x y t
  unfold P16 Both Seg Fin None
  exact ⟨⟨fun K => by kernel_rfl, by kernel_rfl⟩, ⟨fun K => by kernel_rfl, by kernel_rfl⟩, ⟨fun K => by kernel_rfl, by kernel_rfl⟩, ⟨fun K => by kernel_rfl, by kernel_rfl⟩, ⟨fun K => by kernel_rfl, by kernel_rfl⟩, ⟨fun K => by kernel_rfl, by kernel_rfl⟩, ⟨fun K => by kernel_rfl, by kernel_rfl⟩, ⟨fun K => by kernel_rfl, by kernel_rfl⟩, ⟨fun K => by kernel_rfl, by kernel_rfl⟩, ⟨fun K => by kernel_rfl, by kernel_rfl⟩, ⟨fun K => by kernel_rfl, by kernel_rfl⟩, ⟨fun K => by kernel_rfl, by kernel_rfl⟩, ⟨fun K => by kernel_rfl, by kernel_rfl⟩, ⟨fun K => by kernel_rfl, by kernel_rfl⟩, ⟨fun K => by kernel_rfl, by kernel_rfl⟩, ⟨fun K => by kernel_rfl, by kernel_rfl⟩, by kernel_rfl, by kernel_rfl⟩
theorem of42 : ∀ (k a b c x y : Int) (l o n m o' n' m' t : Nat), P16 42 k a b c x y (raw l o n m) (raw l o' n' m') t := by
  intro k a b c x y l o n m o' n' m' t
  unfold P16 Both Seg Fin None
  exact ⟨⟨fun K => by kernel_rfl, by kernel_rfl⟩, ⟨fun K => by kernel_rfl, by kernel_rfl⟩, ⟨fun K => by kernel_rfl, by kernel_rfl⟩, ⟨fun K => by kernel_rfl, by kernel_rfl⟩, ⟨fun K => by kernel_rfl, by kernel_rfl⟩, ⟨fun K => by kernel_rfl, by kernel_rfl⟩, ⟨fun K => by kernel_rfl, by kernel_rfl⟩, ⟨fun K => by kernel_rfl, by kernel_rfl⟩, ⟨fun K => by kernel_rfl, by kernel_rfl⟩, ⟨fun K => by kernel_rfl, by kernel_rfl⟩, ⟨fun K => by kernel_rfl, by kernel_rfl⟩, ⟨fun K => by kernel_rfl, by kernel_rfl⟩, ⟨fun K => by kernel_rfl, by kernel_rfl⟩, ⟨fun K => by kernel_rfl, by kernel_rfl⟩, ⟨fun K => by kernel_rfl, by kernel_rfl⟩, ⟨fun K => by kernel_rfl, by kernel_rfl⟩, by kernel_rfl, by kernel_rfl⟩
theorem of42n : ∀ (k a b c x y : Int) (t : Nat), P16 42 k a b c x y .nils .nils t := by
  intro k a b c x y t
  unfold P16 Both Seg Fin None
  exact ⟨⟨fun K => by kernel_rfl, by kernel_rfl⟩, ⟨fun K => by kernel_rfl, by kernel_rfl⟩, ⟨fun K => by kernel_rfl, by kernel_rfl⟩, ⟨fun K => by kernel_rfl, by kernel_rfl⟩, ⟨fun K => by kernel_rfl, by kernel_rfl⟩, ⟨fun K => by kernel_rfl, by kernel_rfl⟩, ⟨fun K => by kernel_rfl, by kernel_rfl⟩, ⟨fun K => by kernel_rfl, by kernel_rfl⟩, ⟨fun K => by kernel_rfl, by kernel_rfl⟩, ⟨fun K => by kernel_rfl, by kernel_rfl⟩, ⟨fun K => by kernel_rfl, by kernel_rfl⟩, ⟨fun K => by kernel_rfl, by kernel_rfl⟩, ⟨fun K => by kernel_rfl, by kernel_rfl⟩, ⟨fun K => by kernel_rfl, by kernel_rfl⟩, ⟨fun K => by kernel_rfl, by kernel_rfl⟩, ⟨fun K => by kernel_rfl, by kernel_rfl⟩, by kernel_rfl, by kernel_rfl⟩
theorem of55 : ∀ (k a b c x y : Int) (l o n m o' n' m' t : Nat), P16 55 k a b c x y (raw l o n m) (raw l o' n' m') t := by
  intro k a b c x y l o n m o' n' m' t
  unfold P16 Both Seg Fin None
  exact ⟨⟨fun K => by kernel_rfl, by kernel_rfl⟩, ⟨fun K => by kernel_rfl, by kernel_rfl⟩, ⟨fun K => by kernel_rfl, by kernel_rfl⟩, ⟨fun K => by kernel_rfl, by kernel_rfl⟩, ⟨fun K => by kernel_rfl, by kernel_rfl⟩, ⟨fun K => by kernel_rfl, by kernel_rfl⟩, ⟨fun K => by kernel_rfl, by kernel_rfl⟩, ⟨fun K => by kernel_rfl, by kernel_rfl⟩, ⟨fun K => by kernel_rfl, by kernel_rfl⟩, ⟨fun K => by kernel_rfl, by kernel_rfl⟩, ⟨fun K => by kernel_rfl, by kernel_rfl⟩, ⟨fun K => by kernel_rfl, by kernel_rfl⟩, ⟨fun K => by kernel_rfl, by kernel_rfl⟩, ⟨fun K => by kernel_rfl, by kernel_rfl⟩, ⟨fun K => by kernel_rfl, by kernel_rfl⟩, ⟨fun K => by kernel_rfl, by kernel_rfl⟩, by kernel_rfl, by kernel_rfl⟩
theorem of55n : ∀ (k a b c x y : Int) (t : Nat), P16 55 k a b c x y .nils .nils t := by
  intro k a b c x y t
  unfold P16 Both Seg Fin None
  exact ⟨⟨fun K => by kernel_rfl, by kernel_rfl⟩, ⟨fun K => by kernel_rfl, by kernel_rfl⟩, ⟨fun K => by kernel_rfl, by kernel_rfl⟩, ⟨fun K => by kernel_rfl, by kernel_rfl⟩, ⟨fun K => by kernel_rfl, by kernel_rfl⟩, ⟨fun K => by kernel_rfl, by kernel_rfl⟩, ⟨fun K => by kernel_rfl, by kernel_rfl⟩, ⟨fun K => by kernel_rfl, by kernel_rfl⟩, ⟨fun K => by kernel_rfl, by kernel_rfl⟩, ⟨fun K => by kernel_rfl, by kernel_rfl⟩, ⟨fun K => by kernel_rfl, by kernel_rfl⟩, ⟨fun K => by kernel_rfl, by kernel_rfl⟩, ⟨fun K => by kernel_rfl, by kernel_rfl⟩, ⟨fun K => by kernel_rfl, by kernel_rfl⟩, ⟨fun K => by kernel_rfl, by kernel_rfl⟩, ⟨fun K => by kernel_rfl, by kernel_rfl⟩, by kernel_rfl, by kernel_rfl⟩
end Go.Ai
