/-
  A WITNESS: one start that fits the row: the heap that the run of the initialisers leaves; fact by fact.
-/
import Derived.Test.YtilmoifpikljhaaGreatDoorRows
import Derived.Test.YtilmoifpikljhaaGreatDoorKTie
import Derived.Test.YtilmoifpikljhaaGreatDoorA9
import Derived.Test.YtilmoifpikljhaaGreatDoorA8
set_option linter.unusedVariables false
set_option linter.unusedSimpArgs false
namespace Go.Proofs.YtilmoifpikljhaaGreatDoor
open Go
set_option maxRecDepth 100000
noncomputable def doorW (os : Os) : World := { World.holding Tryz.prog os ⟨#[], #[], []⟩ with heap := (varsWorld Tryz.prog 400 620 os (fun _ _ => 0)).heap }
abbrev doorArgs : Array Value := #[.int .i64 0, .int .i64 0, .int .u64 0, .agg #[.int .i64 0, .int .i64 0, .int .i64 0, .int .i64 0, .int .u64 0, .int .u64 0, .slice none 0 0]]
theorem door_ref (os : Os) : ((doorW os).forCall (fun _ _ => 0) ⟨#[], doorArgs, []⟩).variablesRefB Tryz.prog = true := by kernel_rfl
theorem door_heap (os : Os) : (((doorW os).forCall (fun _ _ => 0) ⟨#[], doorArgs, []⟩).heap.toList.drop Tryz.prog.globals.size).take ((begin Tryz.prog (fun _ _ => 0) default).world.heap.size - Tryz.prog.globals.size) =
    (begin Tryz.prog (fun _ _ => 0) default).world.heap.toList.drop Tryz.prog.globals.size := by kernel_rfl
theorem door_args (os : Os) : Input.okWideB Tryz.prog ((doorW os).forCall (fun _ _ => 0) ⟨#[], doorArgs, []⟩) 3 ⟨#[], doorArgs, []⟩ = true := by kernel_rfl
theorem door_pre (os : Os) (H : Type) (enc : TypeId × Value → H) : Rows.kernelNilSpec.preB enc Tryz.prog Tryz.f3 [] false ((doorW os).forCall (fun _ _ => 0) ⟨#[], doorArgs, []⟩).memory doorArgs 8 = true := by kernel_rfl
theorem door_sized (os : Os) (H : Type) (enc : TypeId × Value → H) : Rows.kernelNilSpec.sizedB enc Tryz.prog Tryz.f3 false ((doorW os).forCall (fun _ _ => 0) ⟨#[], doorArgs, []⟩).memory doorArgs 8 = true := by kernel_rfl
theorem door_run (os : Os) : (DataW.laidRun Tryz.prog ((doorW os).forCall (fun _ _ => 0) ⟨#[], doorArgs, []⟩).memory 8 (laidL.map (·.1))).map (·.1) = some laidL := by kernel_rfl
theorem door_places (os : Os) : (DataW.laidRun Tryz.prog ((doorW os).forCall (fun _ _ => 0) ⟨#[], doorArgs, []⟩).memory 8 (laidL.map (·.1))).map (fun x => Ai.ndB 0 x.2 && laidRowsB Tryz.prog ((doorW os).forCall (fun _ _ => 0) ⟨#[], doorArgs, []⟩).memory x.2) = some true := by kernel_rfl
theorem laid_plain : (laidL.all fun x => x.2.handleName?.isNone) = true := by kernel_rfl
theorem door_met (os : Os) : laidMetH Tryz.prog laidL ((doorW os).forCall (fun _ _ => 0) ⟨#[], doorArgs, []⟩).memory := by
  rw [MakeChecks.laidMetH_plain _ _ _ laid_plain]
  exact laidMet_of_run' 8 (door_run os) (Ai.laid_nd (door_places os))
end Go.Proofs.YtilmoifpikljhaaGreatDoor
