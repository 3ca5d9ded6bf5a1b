/-
  KERNEL NIL, by the evaluator: how it goes on from a step to the next, for given CPUs and pages.
-/
import Derived.Test.YtilmoifpikljhaaGreatDoorKKnown
import Derived.Test.YtilmoifpikljhaaGreatDoorKCut
import Derived.KernelRfl
set_option linter.unusedVariables false
set_option linter.unusedSimpArgs false
namespace Go.Ai
set_option maxRecDepth 100000
def h1 : Heap := h0.push (.tab [])
def raw (l o n c : Nat) : AV := .slice l o n (some c) 1
def cells (k a b c x y : Int) (r : AV) : List AV := [.int .i64 k, .int .i64 a, .int .i64 b, .int .i64 c, .int .u64 x, .int .u64 y, r]
/-- where the step is laid: its block, its cells -/
def h2 (k a b c x y : Int) (r : AV) : Heap := (mk h1 (cells k a b c x y r) fun v h => some (v, h)).elim h1 (·.2)
def K0 : AV → AV → AV → AV → AV → AV → AV → AV → AV → AV → AV → Heap → Out := fun _ _ v18 v19 v23 v29 v30 v49 v71 v77 v79 h80 => some (.tup [v18, v19, v23, v29, v30, v49, v71, v77, v79], h80)
def nthA : List AV → Nat → AV
  | [], _ => .bot
  | a :: _, 0 => a
  | _ :: l, n + 1 => nthA l n
def gi (i : Nat) : Out → AV
  | some (.tup l, _) => nthA l i
  | _ => .bot
def gh : Out → Heap
  | some (_, h) => h
  | none => h0
theorem aeqI_self (k : IntKind) (x : Int) : aeqI (.int k x) (.int k x) = some true := by
  simp only [aeqI, keq, Nat.beq_eq_true_eq, cond_eq_ite]
  simp [ieq_eq]
def s3_2t (a0 : AV) (a1 : AV) (v18 : AV) (v19 : AV) (v23 : AV) (v29 : AV) (v30 : AV) (v49 : AV) (v71 : AV) (h80 : Heap) (K : AV → AV → AV → AV → AV → AV → AV → AV → AV → AV → Heap → Out) : Out :=
 bnd (wantV v71 false (yes true (some true) fun v81 =>
 some (v81, h80)) (some (.tup [], h80))) fun v82 h83 =>
 K a0 a1 v18 v19 v23 v29 v30 v49 v71 v82 h83
theorem seg2 {n : Nat} {rec : Rec} {a0 a1 v18 v19 v23 v29 v30 v49 v71 : AV} {k : IntKind} {x : Int} {h80 : Heap} {K} : s3_2 n rec a0 a1 v18 v19 v23 v29 v30 v49 v71 (.int k x) (.int k x) h80 K = s3_2t a0 a1 v18 v19 v23 v29 v30 v49 v71 h80 K := by
  unfold s3_2 s3_2t
  rw [aeqI_self]
abbrev RR : Rec := resR dtab ytab xK 1000000 99
def R1 (cp pg : AV) (k a b c x y : Int) (r r' : AV) (t : Nat) : Out := s3_1 1000000 RR cp pg (.int .u64 (.ofNat t)) (.ptr 8 0) r' (.ptr 8 6) (h2 k a b c x y r) K0
def kR (cp pg : AV) (t : Nat) (K : AV → AV → AV → AV → AV → AV → AV → AV → AV → AV → AV → Heap → Out) (R : Out) : Out := K cp pg (gi 0 R) (gi 1 R) (gi 2 R) (gi 3 R) (gi 4 R) (gi 5 R) (gi 6 R) (.int .u64 (.ofNat t)) (.int .u64 (.ofNat t)) (gh R)
def fR (cp pg : AV) (R : Out) : Out := s3_2t cp pg (gi 0 R) (gi 1 R) (gi 2 R) (gi 3 R) (gi 4 R) (gi 5 R) (gi 6 R) (gh R) fun a0 a1 v18 v19 v23 v29 v30 v49 v71 v82 h83 => s3_3 1000000 RR a0 a1 v18 v19 v23 v29 v30 v49 v71 v82 h83
def Seg (cp pg : Nat) (k a b c x y : Int) (r r' : AV) (t : Nat) : Prop := ∀ K, s3_1 1000000 RR (i64 cp) (i64 pg) (.int .u64 (.ofNat t)) (.ptr 8 0) r' (.ptr 8 6) (h2 k a b c x y r) K = kR (i64 cp) (i64 pg) t K (R1 (i64 cp) (i64 pg) k a b c x y r r' t)
def Fin (cp pg : Nat) (k a b c x y : Int) (r r' : AV) (t : Nat) : Prop := val (fR (i64 cp) (i64 pg) (R1 (i64 cp) (i64 pg) k a b c x y r r' t)) = .bool true
/-- there is such a kernel -/
def Both (cp pg : Nat) (k a b c x y : Int) (r r' : AV) (t : Nat) : Prop := Seg cp pg k a b c x y r r' t ∧ Fin cp pg k a b c x y r r' t
/-- the law from its eighth step on -/
def tail8 (cp pg : AV) (k a b c x y : Int) (r r' : AV) (t : Nat) : Out := s3_1 1000000 RR cp pg (.int .u64 (.ofNat t)) (.ptr 8 0) r' (.ptr 8 6) (h2 k a b c x y r) fun a0 a1 v18 v19 v23 v29 v30 v49 v71 v77 v79 h80 => s3_2 1000000 RR a0 a1 v18 v19 v23 v29 v30 v49 v71 v77 v79 h80 fun a0 a1 v18 v19 v23 v29 v30 v49 v71 v82 h83 => s3_3 1000000 RR a0 a1 v18 v19 v23 v29 v30 v49 v71 v82 h83
theorem Both.tail {cp pg : Nat} {k a b c x y : Int} {r r' : AV} {t : Nat} (h : Both cp pg k a b c x y r r' t) : val (tail8 (i64 cp) (i64 pg) k a b c x y r r' t) = .bool true := by
  unfold tail8
  rw [h.1]
  unfold kR
  show val (s3_2 _ _ _ _ _ _ _ _ _ _ _ (.int .u64 (.ofNat t)) (.int .u64 (.ofNat t)) _ _) = _
  rw [seg2]
  exact h.2
def pgLo : AV := .rng .i64 (-9223372036854775808) 0
def pgHi : AV := .rng .i64 17 9223372036854775807
def cpLo : AV := .rng .i64 (-9223372036854775808) 0
def cpHi : AV := .rng .i64 65 9223372036854775807
def anyI : AV := .rng .i64 (-9223372036854775808) 9223372036854775807
/-- there is no such kernel -/
def None (cp pg : AV) (k a b c x y : Int) (r r' : AV) (t : Nat) : Prop := val (tail8 cp pg k a b c x y r r' t) = .bool true
theorem lo (k a b c x y : Int) (l o n m o' n' m' t : Nat) : None cpLo anyI k a b c x y (raw l o n m) (raw l o' n' m') t := by unfold None; kernel_rfl
theorem hi (k a b c x y : Int) (l o n m o' n' m' t : Nat) : None cpHi anyI k a b c x y (raw l o n m) (raw l o' n' m') t := by unfold None; kernel_rfl
theorem lo0 (k a b c x y : Int) (t : Nat) : None cpLo anyI k a b c x y .nils .nils t := by unfold None; kernel_rfl
theorem hi0 (k a b c x y : Int) (t : Nat) : None cpHi anyI k a b c x y .nils .nils t := by unfold None; kernel_rfl
/-- all kinds of pages -/
def P16 (cp : Nat) (k a b c x y : Int) (r r' : AV) (t : Nat) : Prop := Both cp 1 k a b c x y r r' t ∧ Both cp 2 k a b c x y r r' t ∧ Both cp 3 k a b c x y r r' t ∧ Both cp 4 k a b c x y r r' t ∧ Both cp 5 k a b c x y r r' t ∧ Both cp 6 k a b c x y r r' t ∧ Both cp 7 k a b c x y r r' t ∧ Both cp 8 k a b c x y r r' t ∧ Both cp 9 k a b c x y r r' t ∧ Both cp 10 k a b c x y r r' t ∧ Both cp 11 k a b c x y r r' t ∧ Both cp 12 k a b c x y r r' t ∧ Both cp 13 k a b c x y r r' t ∧ Both cp 14 k a b c x y r r' t ∧ Both cp 15 k a b c x y r r' t ∧ Both cp 16 k a b c x y r r' t ∧ None (i64 cp) pgLo k a b c x y r r' t ∧ None (i64 cp) pgHi k a b c x y r r' t
end Go.Ai
