/-
  KERNEL NIL: every call answers true and leaves all as it was.
-/
import Derived.Test.YtilmoifpikljhaaGreatDoorKFin
import Derived.Test.YtilmoifpikljhaaGreatDoorA8
set_option linter.unusedVariables false
set_option linter.unusedSimpArgs false
namespace Go.Ai
open Go Go.ChangeShapes Go.WideShapes
set_option maxRecDepth 100000
theorem int_bounds {k : IntKind} {n : Int} (h : (Lit.int k n).wf = true) : k.min ≤ n ∧ n ≤ k.max := by simpa [Lit.wf] using h
theorem i64_bounds {n : Int} (h : (Lit.int .i64 n).wf = true) : -9223372036854775808 ≤ n ∧ n ≤ 9223372036854775807 := by
  have := int_bounds h
  simpa [IntKind.min, IntKind.max, IntKind.signed, IntKind.bits] using this
theorem u64_bounds {n : Int} (h : (Lit.int .u64 n).wf = true) : 0 ≤ n := by
  have := (int_bounds h).1
  simpa [IntKind.min, IntKind.max, IntKind.signed, IntKind.bits] using this
/-- the tables, as rows -/
def tabRows : List Row := [⟨0, ⟨0, 0, asciiL.length⟩, asciiSp⟩, ⟨1, ⟨1, 0, debL.length⟩, deb64⟩]
theorem tab_apart : Apart tabRows := by simp [tabRows, Apart]
theorem tab_ok {W : World} {c0 c1 : Array Value} {t0 t1 : TypeId} {f0 f1 : Nat × Nat} (g0 : W.heap[0]? = some (.cells c0 t0 f0)) (e0 : c0.toList = asciiL.map fun n => Value.int .u8 (.ofNat n))
    (g1 : W.heap[1]? = some (.cells c1 t1 f1)) (e1 : c1.toList = debL.map fun n => Value.int .u8 (.ofNat n)) : ∀ β, ∀ r ∈ tabRows, RowOk β W r := by
  intro β r hr
  simp only [tabRows, List.mem_cons, List.not_mem_nil, or_false] at hr
  rcases hr with rfl | rfl
  · exact rowOk_bytes g0 e0
  · exact rowOk_bytes g1 e1
theorem h1_tab : h1.get 7 = some (.tab []) := by kernel_rfl
theorem h1_get (l : Nat) (o : Obj) (h : h1.get l = some o) : (∃ r ∈ tabRows, r.l = l ∧ o = .tab r.cs) ∨ (l = 7 ∧ o = .tab []) := by
  unfold h1 at h
  rw [Heap.get_push] at h
  split at h
  · rename_i e
    cases h
    exact .inr ⟨e.symm, rfl⟩
  · obtain ⟨cs, hm, rfl⟩ := baseHeap_get h
    left
    simp only [rows, List.mem_cons, List.not_mem_nil, or_false, Prod.mk.injEq] at hm
    rcases hm with ⟨rfl, rfl⟩ | ⟨rfl, rfl⟩
    · exact ⟨_, List.mem_cons_self, rfl, rfl⟩
    · exact ⟨_, List.mem_cons_of_mem _ List.mem_cons_self, rfl, rfl⟩
theorem h1_all : ∀ r ∈ tabRows, h1.get r.l = some (.tab r.cs) := by
  intro r hr
  have e0 : h1.get 0 = some (.tab asciiSp) := by kernel_rfl
  have e1 : h1.get 1 = some (.tab deb64) := by kernel_rfl
  simp only [tabRows, List.mem_cons, List.not_mem_nil, or_false] at hr
  rcases hr with rfl | rfl
  · exact e0
  · exact e1
theorem tab_full : ∀ g, kg Go.Proofs.Tryz.prog g = true → ∃ r ∈ tabRows, r.l = g ∧ r.p.b = g ∧ r.p.o = 0 := by
  intro g hg
  obtain ⟨cs, hm⟩ := tabs_all g hg
  simp only [rows, List.mem_cons, List.not_mem_nil, or_false, Prod.mk.injEq] at hm
  rcases hm with ⟨rfl, rfl⟩ | ⟨rfl, rfl⟩
  · exact ⟨_, List.mem_cons_self, rfl, rfl, rfl⟩
  · exact ⟨_, List.mem_cons_of_mem _ List.mem_cons_self, rfl, rfl, rfl⟩
def stepFields : Array Field := #[Field.mk "Kind" 3 0 false "" "" 0, Field.mk "A" 3 1 false "" "" 8, Field.mk "B" 3 2 false "" "" 16, Field.mk "C" 3 3 false "" "" 24, Field.mk "X" 22 4 false "" "" 32, Field.mk "Y" 22 5 false "" "" 40, Field.mk "Raw" 23 6 false "" "" 48]
theorem step_struct : Go.Proofs.Tryz.prog.underlying 25 = some (.struct stepFields) := by kernel_rfl
theorem step_one : oneCells Go.Proofs.Tryz.prog stepFields = true := by kernel_rfl
theorem step_cells : Go.Proofs.Tryz.prog.cellsOf 25 = stepFields.size := by kernel_rfl
theorem step_types : Go.Proofs.Tryz.prog.cellTypes Go.Proofs.Tryz.prog.depth 25 = some (stepFields.toList.map (·.type)) := by kernel_rfl
theorem u_int : Go.Proofs.Tryz.prog.underlying 3 = some (.int .i64) := by kernel_rfl
theorem u_u64 : Go.Proofs.Tryz.prog.underlying 22 = some (.int .u64) := by kernel_rfl
theorem u_raw : Go.Proofs.Tryz.prog.underlying 23 = some (.slice 5) := by kernel_rfl
theorem c_byte : Go.Proofs.Tryz.prog.cellsOf 5 = 1 := by kernel_rfl
section
variable {H : Type} {enc : TypeId × Value → H} {W : World} {base : Nat}
/-- a step among the arguments -/
theorem open_step {v : Value} {d : DataW H} {p : List MemPlace} (hok : Value.okWide Go.Proofs.Tryz.prog W .any base 25 v) (hd : DataW.Trod enc Go.Proofs.Tryz.prog W 0 (fun _ => true) true 25 v d p) :
    ∃ (k a b c x y : Int) (q : Value), v = .agg #[.int .i64 k, .int .i64 a, .int .i64 b, .int .i64 c, .int .u64 x, .int .u64 y, q] ∧
      (q = .slice none 0 0 ∨ ∃ (a : Addr) (len cap : Nat) (cs : Array Value) (elem : TypeId) (fr : Nat × Nat), q = .slice (some a) len cap ∧ len ≤ cap ∧ a.spot = none ∧ W.heap[a.block]? = some (.cells cs elem fr) ∧ (cap ≠ 0 → a.off + cap ≤ cs.size)) := by
  obtain ⟨cs, rfl, hlen, hf⟩ := open_struct step_struct step_one step_cells step_types hok hd
  obtain ⟨c0, n0, x0, e0, _, t0⟩ := hf 0 _ rfl
  obtain ⟨c1, n1, x1, e1, _, t1⟩ := hf 1 _ rfl
  obtain ⟨c2, n2, x2, e2, _, t2⟩ := hf 2 _ rfl
  obtain ⟨c3, n3, x3, e3, _, t3⟩ := hf 3 _ rfl
  obtain ⟨c4, n4, x4, e4, _, t4⟩ := hf 4 _ rfl
  obtain ⟨c5, n5, x5, e5, _, t5⟩ := hf 5 _ rfl
  obtain ⟨c6, n6, x6, e6, k6, t6⟩ := hf 6 _ rfl
  obtain ⟨z0, a0, _, _⟩ := DataW.trod_int u_int t0
  obtain ⟨z1, a1, _, _⟩ := DataW.trod_int u_int t1
  obtain ⟨z2, a2, _, _⟩ := DataW.trod_int u_int t2
  obtain ⟨z3, a3, _, _⟩ := DataW.trod_int u_int t3
  obtain ⟨z4, a4, _, _⟩ := DataW.trod_int u_u64 t4
  obtain ⟨z5, a5, _, _⟩ := DataW.trod_int u_u64 t5
  simp only [List.cons.injEq, and_true] at a0 a1 a2 a3 a4 a5
  subst a0 a1 a2 a3 a4 a5
  have hl7 : cs.length = 7 := hlen
  refine ⟨z0, z1, z2, z3, z4, z5, c6, ?_, open_row u_raw c_byte k6 t6⟩
  match cs, hl7 with
  | [q0, q1, q2, q3, q4, q5, q6], _ =>
    simp at e0 e1 e2 e3 e4 e5 e6
    subst e0 e1 e2 e3 e4 e5 e6
    rfl
end
end Go.Ai
