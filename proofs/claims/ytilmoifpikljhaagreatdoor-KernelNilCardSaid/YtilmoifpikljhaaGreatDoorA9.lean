/-
  LAID TABLES: the closed facts of a tie, at less cost: whether places are all different is asked by a mask of bits.
-/
import Derived.LaidByTextLater
import Derived.LaidMore
set_option linter.unusedVariables false
set_option linter.unusedSimpArgs false
namespace Go.Ai
open Go
def codeP : MemPlace → Nat
  | .cell b o => 2 * (b * 4096 + o)
  | .map b => 2 * b + 1
def smallP : MemPlace → Bool
  | .cell _ o => Nat.blt o 4096
  | .map _ => true
theorem codeP_inj {p q : MemPlace} (hp : smallP p = true) (hq : smallP q = true) (h : codeP p = codeP q) : p = q := by
  cases p <;> cases q <;> simp only [codeP, smallP] at *
  · rename_i b o b' o'
    have h1 : o < 4096 := Nat.lt_of_succ_le (Nat.le_of_ble_eq_true hp)
    have h2 : o' < 4096 := Nat.lt_of_succ_le (Nat.le_of_ble_eq_true hq)
    have : b = b' := by omega
    subst this
    have : o = o' := by omega
    subst this
    rfl
  · omega
  · omega
  · rename_i b b'
    have : b = b' := by omega
    subst this
    rfl
def ndB : Nat → List MemPlace → Bool
  | _, [] => true
  | m, p :: l => bif smallP p then bif Nat.testBit m (codeP p) then false else ndB (Nat.lor m (Nat.pow 2 (codeP p))) l else false
theorem ndB_ok : ∀ {l : List MemPlace} {m : Nat}, ndB m l = true → l.Nodup ∧ ∀ p ∈ l, smallP p = true ∧ m.testBit (codeP p) = false
  | [], _, _ => ⟨List.nodup_nil, by simp⟩
  | p :: l, m, h => by
    simp only [ndB] at h
    cases hs : smallP p with
    | false => rw [hs] at h; cases h
    | true =>
      rw [hs] at h
      cases ht : m.testBit (codeP p) with
      | true => rw [ht] at h; cases h
      | false =>
        rw [ht] at h
        simp only [cond_true, cond_false] at h
        obtain ⟨h1, h2⟩ := ndB_ok h
        have hor : ∀ i, (Nat.lor m (Nat.pow 2 (codeP p))).testBit i = (m.testBit i || decide (codeP p = i)) := fun i => by
          show (m ||| 2 ^ codeP p).testBit i = _
          rw [Nat.testBit_or, Nat.testBit_two_pow]
        refine ⟨List.nodup_cons.2 ⟨fun hm => ?_, h1⟩, fun q hq => ?_⟩
        · have := (h2 p hm).2
          rw [hor] at this
          simp at this
        · rcases List.mem_cons.1 hq with rfl | hq
          · exact ⟨hs, ht⟩
          · have := h2 q hq
            rw [hor] at this
            refine ⟨this.1, ?_⟩
            have h3 := this.2
            simp only [Bool.or_eq_false_iff] at h3
            exact h3.1
theorem laid_nd {P : Program} {w : World} {n : Option (List (String × DataW Unit) × List MemPlace)} (h : n.map (fun x => ndB 0 x.2 && laidRowsB P w x.2) = some true) : n.map (fun x => decide x.2.Nodup && laidRowsB P w x.2) = some true := by
  cases n with
  | none => cases h
  | some x =>
    simp only [Option.map_some, Option.some.injEq, Bool.and_eq_true] at h ⊢
    exact ⟨by simpa using (ndB_ok h.1).1, h.2⟩
end Go.Ai
