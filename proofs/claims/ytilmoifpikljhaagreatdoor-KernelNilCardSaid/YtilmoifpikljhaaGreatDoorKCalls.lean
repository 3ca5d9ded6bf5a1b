/-
  KERNEL NIL: every call answers true and leaves all as it was.
-/
import Derived.Test.YtilmoifpikljhaaGreatDoorKCalls0
set_option linter.unusedVariables false
set_option linter.unusedSimpArgs false
namespace Go.Ai
open Go Go.ChangeShapes Go.WideShapes
set_option maxRecDepth 100000
theorem kernelNil_calls {H : Type} {enc : TypeId × Value → H} {W : World} {base : Nat} {v0 v1 v2 v3 : Value} {d0 d1 d2 d3 : DataW H} {p0 p1 p2 p3 : List MemPlace} {c0 c1 : Array Value} {t0 t1 : TypeId} {f0 f1 : Nat × Nat}
    (g0 : W.heap[0]? = some (.cells c0 t0 f0)) (e0 : c0.toList = asciiL.map fun n => Value.int .u8 (.ofNat n)) (g1 : W.heap[1]? = some (.cells c1 t1 f1)) (e1 : c1.toList = debL.map fun n => Value.int .u8 (.ofNat n))
    (o0 : Value.okWide Go.Proofs.Tryz.prog W .any base 3 v0) (o1 : Value.okWide Go.Proofs.Tryz.prog W .any base 3 v1) (o2 : Value.okWide Go.Proofs.Tryz.prog W .any base 22 v2) (o3 : Value.okWide Go.Proofs.Tryz.prog W .any base 25 v3)
    (r0 : DataW.Trod enc Go.Proofs.Tryz.prog W 0 (fun _ => true) true 3 v0 d0 p0) (r1 : DataW.Trod enc Go.Proofs.Tryz.prog W 0 (fun _ => true) true 3 v1 d1 p1) (r2 : DataW.Trod enc Go.Proofs.Tryz.prog W 0 (fun _ => true) true 22 v2 d2 p2) (r3 : DataW.Trod enc Go.Proofs.Tryz.prog W 0 (fun _ => true) true 25 v3 d3 p3) :
    Calls Go.Proofs.Tryz.prog 3 #[v0, v1, v2, v3] W fun e W' => e = .returned (.bool true) ∧ Kept W W' := by
  obtain ⟨zc, rfl, _, _, wc⟩ := open_int u_int o0 r0
  obtain ⟨zp, rfl, _, _, wp⟩ := open_int u_int o1 r1
  obtain ⟨zt, rfl, _, _, wt⟩ := open_int u_u64 o2 r2
  obtain ⟨k, a, b, c, x, y, q, rfl, hq⟩ := open_step o3 r3
  obtain ⟨t, rfl⟩ := Int.eq_ofNat_of_zero_le (u64_bounds wt)
  obtain ⟨β, r, hrel, hr, hro, hrr⟩ := raw_row (C := ctxOf Go.Proofs.Tryz.prog ((tabs 1000000).withX xK)) (N := 7) (h := h1) tab_apart h1_get h1_tab (by show 7 < 8; omega) (by intro r hr; simp only [tabRows, List.mem_cons, List.not_mem_nil, or_false] at hr; rcases hr with rfl | rfl <;> simp) h1_all
    (by intro r hr; simp only [tabRows, List.mem_cons, List.not_mem_nil, or_false] at hr; rcases hr with rfl | rfl <;> (show _ < 8; decide)) (tab_ok g0 e0 g1 e1) (by intro r hr; simp only [tabRows, List.mem_cons, List.not_mem_nil, or_false] at hr; rcases hr with rfl | rfl <;> rfl) tab_full hq
  obtain ⟨cp, pg, h', hcp, hpg, e⟩ := nil_true (t := t) (k := k) (a := a) (b := b) (c := c) (x := x) (y := y) (i64_bounds wc).1 (i64_bounds wc).2 (i64_bounds wp).1 (i64_bounds wp).2 hrr
  refine run_true (tabs_ok 1000000 (x := xK) xK_ok) (dtab_ok _) (ytab_ok _) e hrel ?_ hro
  refine VRels.cons (hcp β) (VRels.cons (hpg β) (VRels.cons (by simp [VRel]) (VRels.cons ?_ VRels.nil)))
  simp only [VRel, cells]
  refine ⟨_, rfl, ?_⟩
  refine VRels.cons ?_ (VRels.cons ?_ (VRels.cons ?_ (VRels.cons ?_ (VRels.cons ?_ (VRels.cons ?_ (VRels.cons hr VRels.nil)))))) <;> simp [VRel]
end Go.Ai
