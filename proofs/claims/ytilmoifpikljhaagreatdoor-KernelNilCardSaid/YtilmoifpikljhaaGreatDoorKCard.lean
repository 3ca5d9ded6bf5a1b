/-
  'detentlaw31.KernelNil': THE TIED CARD: for every input the call returns true, and each argument reads behind it as it read before. CONDITIONS: calls that begin behind the run of the program's initialisers: the package-level variables that the row lists hold what the program's text lays in them (that is the tie, proved here fact by fact).
-/
import Derived.Test.YtilmoifpikljhaaGreatDoorRows
import Derived.Test.YtilmoifpikljhaaGreatDoorCards
import Derived.Test.YtilmoifpikljhaaGreatDoorKRow
import Derived.Test.YtilmoifpikljhaaGreatDoorKTie
import Derived.Test.YtilmoifpikljhaaGreatDoorKFact1
import Derived.Test.YtilmoifpikljhaaGreatDoorKFact2
import Derived.Test.YtilmoifpikljhaaGreatDoorKFact3
import Derived.Test.YtilmoifpikljhaaGreatDoorKFact4
import Derived.Test.YtilmoifpikljhaaGreatDoorKFact5
import Derived.Test.YtilmoifpikljhaaGreatDoorKFact6
import Derived.Test.YtilmoifpikljhaaGreatDoorKFact7
import Derived.Test.YtilmoifpikljhaaGreatDoorKFact8
import Derived.SevenTiedAt
set_option linter.unusedVariables false
set_option linter.unusedSimpArgs false
namespace Go.Proofs.YtilmoifpikljhaaGreatDoor
open Go
set_option maxRecDepth 100000
theorem and_mk {a b : Bool} (h : a = true) (k : b = true) : (a && b) = true := by rw [h, k]; rfl
theorem j2 : laidOutB Tryz.prog = true := by
  unfold laidOutB
  exact and_mk (and_mk j2a j2b) j2c
theorem joined : joinedFacts Tryz.prog 3 Tryz.f3 Rows.kernelNilSpec Rows.kernelNilRow = true := by
  unfold joinedFacts
  exact (and_mk (and_mk (and_mk (and_mk (and_mk (and_mk (and_mk (and_mk (and_mk (and_mk (and_mk (and_mk (and_mk (and_mk (and_mk (and_mk (and_mk (and_mk (and_mk (and_mk (and_mk (and_mk (and_mk (and_mk (and_mk (and_mk (and_mk (and_mk (and_mk (and_mk (and_mk j1 j2) j3) j4) j5) j6) j7) j8) j9) j10) j11) j12) j13) j14) j15) j16) j17) j18) j19) j20) j21) j22) j23) j24) j25) j26) j27) j28) j29) j30) j31) j32)
theorem row_holds : Rows.KernelNilSaid :=
  OpenClaim.holds_of_wide 3 Tryz.f3 rfl rfl rfl rfl rfl rfl rfl ⟨rfl, rfl, rfl, rfl, rfl⟩ rfl rfl rfl rfl rfl law_named Tryz.func3 joined instance_fact wrapper_fact (fun os started H enc _ => lifted os started H enc)
theorem goes_of {P : Program} (h : P.funcs.any Func.goes = false) (f : FuncId) : P.goes f = false := by
  unfold Program.goes
  rw [h, Bool.and_false, Bool.or_false, List.any_eq_false]
  intro g _
  cases hg : P.funcs[g]? with
  | none => simp
  | some fn =>
    obtain ⟨hlt, he⟩ := Array.getElem?_eq_some_iff.1 hg
    intro hb
    have ht : P.funcs.any Func.goes = true := Array.any_eq_true.2 ⟨g, hlt, by rw [he]; simpa using hb⟩
    rw [h] at ht
    cases ht
theorem card_goes : false = Rows.kernelNilRow.goesBy Tryz.pinned.checked.prog := by
  show false = ((Tryz.prog.funcNamed "detent/detentlaw31.KernelNil").any Tryz.prog.goes || false)
  rw [law_named, Option.any_some, goes_of goes_none]
  rfl
theorem card_fn (f : FuncId) (fn : Func) (hf : Tryz.pinned.checked.prog.funcNamed Rows.kernelNilRow.func = some f) (hfn : Tryz.pinned.checked.prog.funcs[f]? = some fn) :
    false = Tryz.pinned.checked.prog.looks [] ∧ ∀ (j : Nat) t, fn.params[j]? = some t → Tryz.pinned.checked.prog.wantsStandIn t = false := by
  have e1 : f = 3 := Option.some.inj (hf.symm.trans law_named)
  subst e1
  have e2 : fn = Tryz.f3 := Option.some.inj (hfn.symm.trans Tryz.func3)
  subst e2
  refine ⟨card_looks, fun j t ht => ?_⟩
  rw [param_types] at ht
  have hm : t ∈ [3, 3, 22, 25] := by simpa using Array.mem_of_getElem? ht
  have := List.all_eq_true.1 card_plain t hm
  show Tryz.prog.wantsStandIn t = false
  simpa using this
theorem card_holds : Rows.KernelNilCardSaid := by
  unfold Rows.KernelNilCardSaid Rows.kernelNilCard
  refine Claim7.holds_tied_plain_at (p := Tryz.pinned) (s := OpenSpec.ofChange Rows.kernelNilSpec) (c := Rows.kernelNilRow) .later [] [.data, .data, .listed] true (true, "71c825833e2fedfaa7f407630c9328f82b3ae8e84ff5dca87fd78efa73869bb1") false
    row_holds (fun _ h => by cases h) ?_ (fun _ h => by cases h) ?_ ?_ ?_ ?_ ?_ ?_ ?_
  · exact card_wf
  · exact my_row_tie
  · rfl
  · exact ⟨rfl, rfl⟩
  · exact card_main
  · rfl
  · exact card_fn
  · exact card_goes
end Go.Proofs.YtilmoifpikljhaaGreatDoor
