/-
  THE ROW's TIE, fact by fact (the given tie asks all of them in one breath, which takes more memory than a process may have).
-/
import Derived.Test.YtilmoifpikljhaaGreatDoorRows
import Derived.Test.YtilmoifpikljhaaGreatDoorA9
import Derived.SevenTiedAt
set_option linter.unusedVariables false
set_option linter.unusedSimpArgs false
namespace Go.Proofs.YtilmoifpikljhaaGreatDoor
open Go
abbrev laidL : List (String × DataW Unit) := [("math/bits.deBruijn64tab", Rows.laid_math_bits_deBruijn64tab), ("strings.asciiSpace", Rows.laid_strings_asciiSpace), ("unicode.White_Space", Rows.laid_unicode_White_Space)]
theorem tie_w : Tryz.prog.worded (varsWordLater true) = true := by kernel_rfl
theorem tie_w2 : Tryz.prog.worded (varsWordLater !true) = false := by kernel_rfl
theorem tie_root : Tryz.prog.worded rootWordLater = true := by kernel_rfl
theorem tie_kinds : laidL.map (fun x => Tryz.prog.kindOfLater x.1) = [.data, .data, .listed].map some := by kernel_rfl
theorem tie_vars : Tryz.prog.funcNamed "gosem.cut.vars" = some 620 := by kernel_rfl
theorem tie_named : varsNamedLaterB Tryz.prog 620 laidL = true := by kernel_rfl
theorem tie_done (os : Os) (tape : Tape) : varsDone Tryz.prog 400 620 os tape = true := by kernel_rfl
theorem tie_run (os : Os) (tape : Tape) : (DataW.laidRun Tryz.prog (varsWorld Tryz.prog 400 620 os tape).memory 8 (laidL.map (·.1))).map (·.1) = some laidL := by kernel_rfl
theorem tie_places (os : Os) (tape : Tape) : (DataW.laidRun Tryz.prog (varsWorld Tryz.prog 400 620 os tape).memory 8 (laidL.map (·.1))).map (fun x => Ai.ndB 0 x.2 && laidRowsB Tryz.prog (varsWorld Tryz.prog 400 620 os tape).memory x.2) = some true := by kernel_rfl
theorem my_tie : Tryz.prog.laidByTextLater laidL [.data, .data, .listed] true :=
  Program.laidByTextLater_of_run 620 400 8 tie_w tie_w2 tie_root tie_kinds tie_vars tie_named tie_done tie_run (fun os tape => Ai.laid_nd (tie_places os tape))
theorem no_unsafe : Tryz.pinned.checked.prog.headLifts.contains "ownunsafe" = false := by kernel_rfl
theorem my_row_tie : Rows.kernelNilRow.laidByTextAt .later Tryz.pinned [.data, .data, .listed] true :=
  OpenClaim.laidByTextAt_later rfl rfl my_tie no_unsafe
end Go.Proofs.YtilmoifpikljhaaGreatDoor
