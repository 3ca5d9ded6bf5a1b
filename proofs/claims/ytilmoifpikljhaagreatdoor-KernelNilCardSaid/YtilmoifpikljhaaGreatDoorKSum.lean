/-
  WHAT known() OF THE LAW'S PACKAGE COMES TO: computed once, known everywhere.
-/
import Derived.Test.YtilmoifpikljhaaGreatDoorKAll
import Derived.Test.YtilmoifpikljhaaGreatDoorA7
import Derived.KernelRfl
set_option linter.unusedVariables false
set_option linter.unusedSimpArgs false
namespace Go.Ai
open Go
set_option maxRecDepth 100000
def i64 (n : Nat) : AV := .int .i64 (.ofNat n)
def u64 (n : Nat) : AV := .int .u64 (.ofNat n)
def u8 (n : Nat) : AV := .int .u8 (.ofNat n)
def bytes (l : List Nat) : List AV := l.map u8
def asciiL : List Nat := [0, 0, 0, 0, 0, 0, 0, 0, 0, 1, 1, 1, 1, 1] ++ rep 18 [0] ++ [1] ++ rep 223 [0]
def debL : List Nat := [0, 1, 56, 2, 57, 49, 28, 3, 61, 58, 42, 50, 38, 29, 17, 4, 62, 47, 59, 36, 45, 43, 51, 22, 53, 39, 33, 30, 24, 18, 12, 5, 63, 55, 48, 27, 60, 41, 37, 16, 46, 35, 44, 21, 52, 32, 23, 11, 54, 26, 40, 15, 34, 20, 31, 10, 25, 14, 19, 9, 13, 8, 7, 6]
def asciiSp : List AV := bytes asciiL
def deb64 : List AV := bytes debL
def val : Option (AV × Heap) → AV
  | some (v, _) => v
  | none => .bot
def rows : List (Nat × List AV) := [(0, asciiSp), (1, deb64)]
def h0 : Heap := baseHeap 7 rows
theorem tabs_all : ∀ g, kg Go.Proofs.Tryz.prog g = true → ∃ cs, (g, cs) ∈ rows := by
  intro g h
  have hlt : g < Go.Proofs.Tryz.prog.globals.size := by
    unfold kg at h
    split at h
    · rename_i v hv; exact (Array.getElem?_eq_some_iff.1 hv).1
    · cases h
  have hs : Nat.blt 7 Go.Proofs.Tryz.prog.globals.size = false := by kernel_rfl
  have h2 : kg Go.Proofs.Tryz.prog 2 = false := by kernel_rfl
  have h3 : kg Go.Proofs.Tryz.prog 3 = false := by kernel_rfl
  have h4 : kg Go.Proofs.Tryz.prog 4 = false := by kernel_rfl
  have h5 : kg Go.Proofs.Tryz.prog 5 = false := by kernel_rfl
  have h6 : kg Go.Proofs.Tryz.prog 6 = false := by kernel_rfl
  have hs' : ¬ 7 < Go.Proofs.Tryz.prog.globals.size := by
    intro hh
    have : Nat.blt 7 Go.Proofs.Tryz.prog.globals.size = true := by
      simp only [Nat.blt]; exact Nat.ble_eq_true_of_le hh
    rw [this] at hs; cases hs
  match g, h, hlt with
  | 0, _, _ => exact ⟨_, by simp [rows]; rfl⟩
  | 1, _, _ => exact ⟨_, by simp [rows]; rfl⟩
  | 2, h, _ => rw [h2] at h; cases h
  | 3, h, _ => rw [h3] at h; cases h
  | 4, h, _ => rw [h4] at h; cases h
  | 5, h, _ => rw [h5] at h; cases h
  | 6, h, _ => rw [h6] at h; cases h
  | n + 7, _, hlt => omega
theorem rows_ok : ∀ g cs, (g, cs) ∈ rows → kg Go.Proofs.Tryz.prog g = true ∧ g < 8 ∧ flats cs = true := by
  intro g cs h
  have h0 : kg Go.Proofs.Tryz.prog 0 = true := by kernel_rfl
  have h2 : kg Go.Proofs.Tryz.prog 1 = true := by kernel_rfl
  have f0 : flats asciiSp = true := by kernel_rfl
  have f2 : flats deb64 = true := by kernel_rfl
  simp only [rows, List.mem_cons, List.not_mem_nil, or_false, Prod.mk.injEq] at h
  rcases h with ⟨rfl, rfl⟩ | ⟨rfl, rfl⟩
  · exact ⟨h0, by omega, f0⟩
  · exact ⟨h2, by omega, f2⟩
theorem of_val {o : Out} {v : AV} (hv : v ≠ .bot) (h : val o = v) : ∃ h', o = some (v, h') := by
  cases o with
  | none => exact absurd h.symm hv
  | some p => obtain ⟨a, b⟩ := p; cases h; exact ⟨b, rfl⟩
end Go.Ai
