/-
  DERIVED. GIVEN WITH THE SEED: THE CARDS: each row of YtilmoifpikljhaaGreatDoorRows.lean that lists a variable, with what it lists TIED to the program's text (the seventh form; the later family's looks); each row that meets fmt, with fmt's text TOLD by the authors' own Lean function (tested against real Go, not proved from fmt's source: count such statements apart). THE CARD IS WHAT COUNTS. Prove the row's statement (the work); the ties are given (YtilmoifpikljhaaGreatDoorTie.lean); close each card by the builder's one call (the guide's Derived/Test/ToyasCard.lean, 'card_holds'). Laid BY PROGRAM, IN A SANDBOX (cutbox-door.mjs). By AI agents, Wed Nov 11 2026. No macro, syntax, notation, axiom, sorry.
-/
import Derived.Test.YtilmoifpikljhaaGreatDoorRows
import GoSem.ClaimSeven
namespace Go.Proofs.YtilmoifpikljhaaGreatDoor
namespace Rows

/-- THE TIED CARD OF 'detentlaw31.KernelNil'. -/
def kernelNilCard : Claim7 := { stood := { row := kernelNilRow, standIns := [], harness := (true, "71c825833e2fedfaa7f407630c9328f82b3ae8e84ff5dca87fd78efa73869bb1"), looks := false }, kinds := [], alts := [], laidByText := true, laidKinds := [.data, .data, .listed], laidTests := true, laidLooks := .later }
def KernelNilCardSaid : Prop := Claim7.holds Tryz.pinned (.plain (OpenSpec.ofChange kernelNilSpec)) kernelNilCard

/-- THE TIED CARD OF 'detentlaw32.WorldNil'. -/
def worldNilCard : Claim7 := { stood := { row := worldNilRow, standIns := [], harness := (true, "71c825833e2fedfaa7f407630c9328f82b3ae8e84ff5dca87fd78efa73869bb1"), looks := false }, kinds := [], alts := [], laidByText := true, laidKinds := [.data, .data, .listed, .data, .data], laidTests := true, laidLooks := .later }
def WorldNilCardSaid : Prop := Claim7.holds Tryz.pinned (.plain (OpenSpec.ofChange worldNilSpec)) worldNilCard

/-- THE SECOND FORM's CARD OF 'detentlaw31.KernelNil'. -/
def kernelNilUptoCard : Claim7 := { stood := { row := kernelNilUptoRow, standIns := [], harness := (true, "71c825833e2fedfaa7f407630c9328f82b3ae8e84ff5dca87fd78efa73869bb1"), looks := false }, kinds := [], alts := [], laidByText := true, laidKinds := [.data, .data, .listed], laidTests := true, laidLooks := .later }
def KernelNilUptoCardSaid : Prop := Claim7.holds Tryz.pinned (.plain (OpenSpec.upto kernelNilSpec)) kernelNilUptoCard

/-- THE SECOND FORM's CARD OF 'detentlaw32.WorldNil'. -/
def worldNilUptoCard : Claim7 := { stood := { row := worldNilUptoRow, standIns := [], harness := (true, "71c825833e2fedfaa7f407630c9328f82b3ae8e84ff5dca87fd78efa73869bb1"), looks := false }, kinds := [], alts := [], laidByText := true, laidKinds := [.data, .data, .listed, .data, .data], laidTests := true, laidLooks := .later }
def WorldNilUptoCardSaid : Prop := Claim7.holds Tryz.pinned (.plain (OpenSpec.upto worldNilSpec)) worldNilUptoCard
end Rows
end Go.Proofs.YtilmoifpikljhaaGreatDoor
