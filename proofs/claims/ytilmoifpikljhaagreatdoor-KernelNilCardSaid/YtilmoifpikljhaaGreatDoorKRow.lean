/-
  'detentlaw31.KernelNil': the row: for every input the call returns true, and each argument reads behind it as it read before. CONDITIONS: the package-level variables that the row lists read as it says.
-/
import Derived.Test.YtilmoifpikljhaaGreatDoorRows
import Derived.Test.YtilmoifpikljhaaGreatDoorKCalls
import Derived.Test.YtilmoifpikljhaaGreatDoorKDoor
import Derived.LaidMore
import Derived.Stop.Joined
set_option linter.unusedVariables false
set_option linter.unusedSimpArgs false
namespace Go.Proofs.YtilmoifpikljhaaGreatDoor
open Go Go.ChangeShapes Go.WideShapes Go.ChangeAt Go.RowKit Go.Ai
set_option maxRecDepth 100000
theorem own : ownKnob Tryz.prog.godebug = none := by kernel_rfl
theorem gAscii : Tryz.prog.globalNamed "strings.asciiSpace" = some 0 := by kernel_rfl
theorem gDeb : Tryz.prog.globalNamed "math/bits.deBruijn64tab" = some 1 := by kernel_rfl
theorem tAscii : (Tryz.prog.globals[0]?).map (·.type) = some 402 := by kernel_rfl
theorem tDeb : (Tryz.prog.globals[1]?).map (·.type) = some 470 := by kernel_rfl
theorem uAscii : Tryz.prog.underlying 402 = some (.array 256 5) := by kernel_rfl
theorem uDeb : Tryz.prog.underlying 470 = some (.array 64 5) := by kernel_rfl
theorem uByte : Tryz.prog.underlying 5 = some (.int .u8) := by kernel_rfl
theorem cAscii : Tryz.prog.cellsOf 402 = 256 := by kernel_rfl
theorem cDeb : Tryz.prog.cellsOf 470 = 64 := by kernel_rfl
theorem dAscii : (Rows.laid_strings_asciiSpace : DataW Unit) = .agg ((asciiL.map Int.ofNat).map fun z => .lit (.int .u8 z)) := by kernel_rfl
theorem dDeb : (Rows.laid_math_bits_deBruijn64tab : DataW Unit) = .agg ((debL.map Int.ofNat).map fun z => .lit (.int .u8 z)) := by kernel_rfl
theorem of_laid {W : World} (h : laidMetH Tryz.prog laidL W) :
    (∃ c elem fr, W.heap[0]? = some (.cells c elem fr) ∧ c.toList = asciiL.map fun n => Value.int .u8 (.ofNat n)) ∧ (∃ c elem fr, W.heap[1]? = some (.cells c elem fr) ∧ c.toList = debL.map fun n => Value.int .u8 (.ofNat n)) := by
  rw [MakeChecks.laidMetH_plain _ _ _ laid_plain] at h
  obtain ⟨ps, hl, _, _⟩ := h
  exact ⟨laid_bytes hl (name := "strings.asciiSpace") (d := Rows.laid_strings_asciiSpace) (List.mem_cons_of_mem _ (List.mem_cons_self)) gAscii tAscii uAscii uByte c_byte cAscii dAscii,
    laid_bytes hl (name := "math/bits.deBruijn64tab") (d := Rows.laid_math_bits_deBruijn64tab) (List.mem_cons_self) gDeb tDeb uDeb uByte c_byte cDeb dDeb⟩
theorem plain_params : Tryz.f3.params.toList.all (plainT Tryz.prog 9) = true := by kernel_rfl
theorem bool_type : Tryz.prog.underlying 4 = some .bool := by kernel_rfl
theorem result_type : Tryz.f3.resultTypes = #[4] := by kernel_rfl
theorem param_types : Tryz.f3.params = #[3, 3, 22, 25] := by kernel_rfl
theorem no_init : Tryz.checked.prog.inits.idxOf? 3 = none := by kernel_rfl
theorem lifted (os : Os) (started : os.Started) (H : Type) (enc : TypeId × Value → H) :
    ReturnsInHanded {} Tryz.checked os 3 .any (fun w args => (Rows.kernelNilSpec.pre enc Tryz.prog Tryz.f3 [] false w args ∧ laidMetH Tryz.prog laidL w) ∧ sizedMet enc Tryz.prog Tryz.f3 (OpenSpec.ofChange Rows.kernelNilSpec) false w args)
      (Rows.kernelNilSpec.post enc Tryz.prog Tryz.f3 false true false false) := by
  refine returnsInHanded_of_change_and (C := Tryz.checked) (X := fun w _ => laidMetH Tryz.prog laidL w) (fun _ _ _ hh h => h.of_heap hh) own started no_init Tryz.func3
    (ChangeSpec.witness_shaped (enc := enc) (C := Tryz.checked) (os := os) (X := fun w _ => laidMetH Tryz.prog laidL w) false (doorW os) doorArgs 8 rfl (World.shaped_of_RefB (door_ref os) (door_heap os)) (door_args os) (door_pre os H enc) (door_sized os H enc) (door_met os)) ?_
  intro W base args ds gs before hval hW _ _ hL _
  obtain ⟨⟨ca, ta, fa, ga, ea⟩, ⟨cd, td, fd, gd, ed⟩⟩ := of_laid hL
  have hW' := hW
  obtain ⟨p, q, hA0, hV, rfl, hz, hn⟩ := hW
  have hA : DataW.TrodAll enc Tryz.prog W 0 (fun _ => true) true Tryz.f3.params.toList args.toList ds p := hA0
  have hp : Tryz.f3.params.toList = [3, 3, 22, 25] := by rw [param_types]
  rw [hp] at hA
  obtain ⟨v0, vs0, d0, ds0, a0, b0, e0, rfl, _, h0, hA⟩ := trodAll_cons hA
  obtain ⟨v1, vs1, d1, ds1, a1, b1, rfl, rfl, _, h1, hA⟩ := trodAll_cons hA
  obtain ⟨v2, vs2, d2, ds2, a2, b2, rfl, rfl, _, h2, hA⟩ := trodAll_cons hA
  obtain ⟨v3, vs3, d3, ds3, a3, b3, rfl, rfl, _, h3, hA⟩ := trodAll_cons hA
  obtain ⟨rfl, rfl, _⟩ := trodAll_nil hA
  obtain rfl : args = #[v0, v1, v2, v3] := Array.toList_inj.1 e0
  obtain ⟨rfl, _⟩ := trodVars_none hV
  have hv : ∀ (j : Nat) t v, (#[3, 3, 22, 25] : Array TypeId)[j]? = some t → (#[v0, v1, v2, v3] : Array Value)[j]? = some v → Value.okWide Tryz.prog W .any base t v := by
    rw [← param_types]
    exact hval
  refine (kernelNil_calls ga ea gd ed (hv 0 _ _ rfl rfl) (hv 1 _ _ rfl rfl) (hv 2 _ _ rfl rfl) (hv 3 _ _ rfl rfl) h0 h1 h2 h3).mono fun e W' ⟨he, hk⟩ => ⟨_, he, ?_⟩
  exact post_of_kept (k := 9) hW' rfl rfl result_type bool_type plain_params hk
end Go.Proofs.YtilmoifpikljhaaGreatDoor
