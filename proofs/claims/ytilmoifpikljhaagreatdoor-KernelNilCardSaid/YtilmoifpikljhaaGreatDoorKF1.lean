/-
  WHAT FUNCTIONS COME TO, part 2: each one's body, types, slots and orders reckoned out, and that it is so.
-/
import Derived.Test.YtilmoifpikljhaaGreatDoorKTabs
import Derived.KernelRfl
set_option linter.unusedVariables false
set_option linter.unusedSimpArgs false
namespace Go.Ai
open Go
set_option maxRecDepth 100000
-- (*detent·kernel.Kernel).run
def c78 (_n : Nat) (rec : Rec) (a0 : AV) (a1 : AV) (a2 : AV) (a3 : AV) (a4 : AV) (h : Heap) : Out :=
 callv rec (.func 139 [] []) [a0] h fun v1 h2 =>
 nil? a0 fun v3 =>
 fa 2 v3 fun v4 =>
 ixA 16 1 v4 a1 fun v5 =>
 ld h2 v5 fun v6 =>
 yes false (aeqP v6 .nilp) fun v7 =>
 tst v7
 (some (.tup [(.int .u64 (.ofNat 0)), (.int .i64 (.ofNat 4))], h2))
 (callv rec (.func 9 [] []) [a0] h2 fun v8 h9 =>
 get1 (bin .geq a2 v8) fun v10 =>
 tst v10
 (some (.tup [(.int .u64 (.ofNat 0)), (.int .i64 (.ofNat 2))], h9))
 (get1 (bin .lss v1 (.int .i64 (.ofNat 0))) fun v11 =>
 tst v11
 (some (.tup [(.int .u64 (.ofNat 0)), (.int .i64 (.ofNat 3))], h9))
 (bnd (nil? a0 fun v12 =>
 some (v12, h9)) fun v13 h14 =>
 bnd (fa 2 v13 fun v15 =>
 some (v15, h14)) fun v16 h17 =>
 bnd (ixA 16 1 v16 a1 fun v18 =>
 some (v18, h17)) fun v19 h20 =>
 bnd (ld h20 v19 fun v21 =>
 some (v21, h20)) fun v22 h23 =>
 bnd (nil? v22 fun v24 =>
 some (v24, h23)) fun v25 h26 =>
 bnd (ldn 2 h26 v25 fun v27 =>
 some (v27, h26)) fun v28 h29 =>
 bnd (callv rec (.func 141 [] []) [a4] h29 fun v30 h31 =>
 some (v30, h31)) fun v32 h33 =>
 bif chkS true 2 h33 v25 v28 then bif chkS false 1 h33 v19 v22 then bnd (getL (cellsOf v32) fun u34 => bif Nat.beq u34.length 5 then getL (over [(.bool false), (.int .i64 (.ofNat 0)), (.int .i64 (.ofNat 0)), (.int .i64 (.ofNat 0)), (.int .u64 (.ofNat 0))] 0 u34) fun u35 => mkSlice h33 u35 1 5 (some 1) fun v36 h37 =>
 some (v36, h37) else none) fun v38 h39 =>
 bnd (callv rec (.func 140 [] []) [v28, a3, v38] h39 fun v40 h41 =>
 some (v40, h41)) fun v42 h43 =>
 bnd (ext v42 0 fun v44 =>
 some (v44, h43)) fun v45 h46 =>
 bnd (ext v42 1 fun v47 =>
 some (v47, h46)) fun v48 h49 =>
 yes true (aeqI v48 (.int .i64 (.ofNat 0))) fun v50 =>
 tst v50
 (some (.tup [(.int .u64 (.ofNat 0)), v48], h49))
 (getL (cellsOf a2) fun u51 => bif Nat.beq u51.length 1 then getL (over [(.int .i64 (.ofNat 1)), (.int .i64 (.ofNat 0)), (.int .i64 (.ofNat 0)), (.int .i64 (.ofNat 0)), (.int .i64 (.ofNat 0)), (.int .i64 (.ofNat 0))] 1 u51) fun u52 => getL (cellsOf a1) fun u53 => bif Nat.beq u53.length 1 then getL (over u52 2 u53) fun u54 => getL (cellsOf v45) fun u55 => bif Nat.beq u55.length 1 then getL (over [.nilp, (.int .i64 (.ofNat 0)), (.int .i64 (.ofNat 0)), (.int .i64 (.ofNat 0)), (.int .i64 (.ofNat 0)), (.int .i64 (.ofNat 0)), (.int .i64 (.ofNat 0)), (.bool false), (.bool false), (.int .i64 (.ofNat 0)), .nilp] 0 u55) fun u56 => getL (cellsOf (.agg u54)) fun u57 => bif Nat.beq u57.length 6 then getL (over u56 1 u57) fun u58 => getL (cellsOf (.agg u58)) fun u59 => mk h49 u59 fun v60 h61 =>
 nil? a0 fun v62 =>
 fa 23 v62 fun v63 =>
 ixA 32 1 v63 v1 fun v64 =>
 st h61 v64 v60 fun h65 =>
 cvI .u64 v1 fun v66 =>
 some (.tup [v66, (.int .i64 (.ofNat 0))], h65) else none else none else none else none) else none else none)))
theorem b78 (n : Nat) (rec : Rec) (a0 : AV) (a1 : AV) (a2 : AV) (a3 : AV) (a4 : AV) (h : Heap) : bodyR Go.Proofs.Tryz.prog (tabs n) rec 78 [a0, a1, a2, a3, a4] h = c78 n rec a0 a1 a2 a3 a4 h := by kernel_rfl
-- (*detent·grace.Grace).Enter
def c79 (_n : Nat) (rec : Rec) (a0 : AV) (a1 : AV) (h : Heap) : Out :=
 callv rec (.func 142 [] []) [a0] h fun v1 h2 =>
 callv rec (.func 143 [] []) [v1, a1] h2 fun v3 h4 =>
 some (v3, h4)
theorem b79 (n : Nat) (rec : Rec) (a0 : AV) (a1 : AV) (h : Heap) : bodyR Go.Proofs.Tryz.prog (tabs n) rec 79 [a0, a1] h = c79 n rec a0 a1 h := by kernel_rfl
-- (*detent·grace.Grace).Exit
def c80 (_n : Nat) (rec : Rec) (a0 : AV) (a1 : AV) (h : Heap) : Out :=
 callv rec (.func 142 [] []) [a0] h fun v1 h2 =>
 callv rec (.func 144 [] []) [v1, a1] h2 fun v3 h4 =>
 ext v3 0 fun v5 =>
 ext v3 1 fun v6 =>
 some (.tup [v5, v6], h4)
theorem b80 (n : Nat) (rec : Rec) (a0 : AV) (a1 : AV) (h : Heap) : bodyR Go.Proofs.Tryz.prog (tabs n) rec 80 [a0, a1] h = c80 n rec a0 a1 h := by kernel_rfl
-- (*detent·event.Log).Put
def c85 (n : Nat) (rec : Rec) (a0 : AV) (a1 : AV) (h : Heap) : Out :=
 yes false (aeqP a0 .nilp) fun v1 =>
 tst v1
 (some ((.int .i64 (.ofNat 0)), h))
 (nil? a0 fun v2 =>
 fa 0 v2 fun v3 =>
 ld h v3 fun v4 =>
 lenS v4 fun v5 =>
 lenS a1 fun v6 =>
 iter n (fun nx7 w8 h9 => un w8 fun v10 l11 => un l11 fun v12 l13 => un l13 fun v14 l15 => un l15 fun v16 l17 => un l17 fun v18 l19 => get1 (bin .lss v18 v16) fun v20 =>
 tst v20
 (joinPt (fun w22 h23 => un w22 fun v24 l25 => un l25 fun v26 l27 => un l27 fun v28 l29 => un l29 fun v30 l31 => un l31 fun v32 l33 => get1 (bin .add v32 (.int .i64 (.ofNat 1))) fun v34 =>
 nx7 [v24, v26, v28, v30, v34] h23) fun J21 =>
 ixS 5 v14 v18 fun v35 =>
 ldn 5 h9 v35 fun v36 =>
 mk h9 [(.int .u64 (.ofNat 0)), (.int .i64 (.ofNat 0)), (.int .i64 (.ofNat 0)), (.int .i64 (.ofNat 0)), (.int .u64 (.ofNat 0))] fun v37 h38 =>
 stn 5 h38 v37 v36 fun h39 =>
 ldn 5 h39 v37 fun v40 =>
 callv rec (.func 114 [] []) [v40] h39 fun v41 h42 =>
 get1 (una .not v41) fun v43 =>
 tst v43
 (J21 [v10, v12, v14, v16, v18] h42)
 (nil? v10 fun v44 =>
 fa 0 v44 fun v45 =>
 ld h42 v45 fun v46 =>
 lenS v46 fun v47 =>
 yes false (aeqI v47 (.int .i64 (.ofNat 4096))) fun v48 =>
 tst v48
 (nil? v10 fun v49 =>
 fa 1 v49 fun v50 =>
 ld h42 v50 fun v51 =>
 get1 (bin .add v51 (.int .i64 (.ofNat 1))) fun v52 =>
 nil? v10 fun v53 =>
 fa 1 v53 fun v54 =>
 st h42 v54 v52 fun h55 =>
 J21 [v10, v12, v14, v16, v18] h55)
 (bnd (nil? v10 fun v56 =>
 some (v56, h42)) fun v57 h58 =>
 bnd (fa 0 v57 fun v59 =>
 some (v59, h58)) fun v60 h61 =>
 bnd (ld h61 v60 fun v62 =>
 some (v62, h61)) fun v63 h64 =>
 bnd (ldn 5 h64 v37 fun v65 =>
 some (v65, h64)) fun v66 h67 =>
 bnd (getL (cellsOf v66) fun u68 => bif Nat.beq u68.length 5 then getL (over [(.int .u64 (.ofNat 0)), (.int .i64 (.ofNat 0)), (.int .i64 (.ofNat 0)), (.int .i64 (.ofNat 0)), (.int .u64 (.ofNat 0))] 0 u68) fun u69 => mkSlice h67 u69 1 5 (some 1) fun v70 h71 =>
 some (v70, h71) else none) fun v72 h73 =>
 bnd (app 5 40 h73 v63 v72 fun v74 h75 =>
 some (v74, h75)) fun v76 h77 =>
 bnd (nil? v10 fun v78 =>
 some (v78, h77)) fun v79 h80 =>
 bnd (fa 0 v79 fun v81 =>
 some (v81, h80)) fun v82 h83 =>
 bnd (st h83 v82 v76 fun h84 =>
 some ((.tup []), h84)) fun v85 h86 =>
 J21 [v10, v12, v14, v16, v18] h86)))
 (nil? v10 fun v87 =>
 fa 0 v87 fun v88 =>
 ld h9 v88 fun v89 =>
 lenS v89 fun v90 =>
 get1 (bin .sub v90 v12) fun v91 =>
 some (v91, h9))) [a0, v5, a1, v6, (.int .i64 (.ofNat 0))] h)
theorem b85 (n : Nat) (rec : Rec) (a0 : AV) (a1 : AV) (h : Heap) : bodyR Go.Proofs.Tryz.prog (tabs n) rec 85 [a0, a1] h = c85 n rec a0 a1 h := by kernel_rfl
-- detent·timer.New
def c86 (_n : Nat) (rec : Rec) (a0 : AV) (a1 : AV) (h : Heap) : Out :=
 callv rec (.func 152 [] []) [a0] h fun v1 h2 =>
 ext v1 0 fun v3 =>
 ext v1 1 fun v4 =>
 yes true (aeqI v4 (.int .i64 (.ofNat 0))) fun v5 =>
 tst v5
 (some (.tup [.nilp, v4], h2))
 (callv rec (.func 153 [] []) [a0, a1] h2 fun v6 h7 =>
 ext v6 0 fun v8 =>
 ext v6 1 fun v9 =>
 yes true (aeqI v9 (.int .i64 (.ofNat 0))) fun v10 =>
 tst v10
 (some (.tup [.nilp, v9], h7))
 (getL (cellsOf v3) fun u11 => bif Nat.beq u11.length 1 then getL (over [.nilp, .nilp, (.bool false), (.bool false), (.int .i64 (.ofNat 0)), (.int .i64 (.ofNat 0)), (.bool false), (.bool false), (.int .i64 (.ofNat 0)), (.int .i64 (.ofNat 0)), (.bool false), (.bool false), (.int .i64 (.ofNat 0)), (.int .i64 (.ofNat 0)), (.bool false), (.bool false), (.int .i64 (.ofNat 0)), (.int .i64 (.ofNat 0)), (.bool false), (.bool false), (.int .i64 (.ofNat 0)), (.int .i64 (.ofNat 0)), (.bool false), (.bool false), (.int .i64 (.ofNat 0)), (.int .i64 (.ofNat 0)), (.bool false), (.bool false), (.int .i64 (.ofNat 0)), (.int .i64 (.ofNat 0)), (.bool false), (.bool false), (.int .i64 (.ofNat 0)), (.int .i64 (.ofNat 0)), (.bool false), (.bool false), (.int .i64 (.ofNat 0)), (.int .i64 (.ofNat 0)), (.bool false), (.bool false), (.int .i64 (.ofNat 0)), (.int .i64 (.ofNat 0)), (.bool false), (.bool false), (.int .i64 (.ofNat 0)), (.int .i64 (.ofNat 0)), (.bool false), (.bool false), (.int .i64 (.ofNat 0)), (.int .i64 (.ofNat 0)), (.bool false), (.bool false), (.int .i64 (.ofNat 0)), (.int .i64 (.ofNat 0)), (.bool false), (.bool false), (.int .i64 (.ofNat 0)), (.int .i64 (.ofNat 0)), (.bool false), (.bool false), (.int .i64 (.ofNat 0)), (.int .i64 (.ofNat 0)), (.bool false), (.bool false), (.int .i64 (.ofNat 0)), (.int .i64 (.ofNat 0)), (.bool false), (.bool false), (.int .i64 (.ofNat 0)), (.int .i64 (.ofNat 0)), (.bool false), (.bool false), (.int .i64 (.ofNat 0)), (.int .i64 (.ofNat 0)), (.bool false), (.bool false), (.int .i64 (.ofNat 0)), (.int .i64 (.ofNat 0)), (.bool false), (.bool false), (.int .i64 (.ofNat 0)), (.int .i64 (.ofNat 0)), (.bool false), (.bool false), (.int .i64 (.ofNat 0)), (.int .i64 (.ofNat 0)), (.bool false), (.bool false), (.int .i64 (.ofNat 0)), (.int .i64 (.ofNat 0)), (.bool false), (.bool false), (.int .i64 (.ofNat 0)), (.int .i64 (.ofNat 0)), (.bool false), (.bool false), (.int .i64 (.ofNat 0)), (.int .i64 (.ofNat 0)), (.bool false), (.bool false), (.int .i64 (.ofNat 0)), (.int .i64 (.ofNat 0)), (.bool false), (.bool false), (.int .i64 (.ofNat 0)), (.int .i64 (.ofNat 0)), (.bool false), (.bool false), (.int .i64 (.ofNat 0)), (.int .i64 (.ofNat 0)), (.bool false), (.bool false), (.int .i64 (.ofNat 0)), (.int .i64 (.ofNat 0)), (.bool false), (.bool false), (.int .i64 (.ofNat 0)), (.int .i64 (.ofNat 0)), (.bool false), (.bool false), (.int .i64 (.ofNat 0)), (.int .i64 (.ofNat 0)), (.bool false), (.bool false), (.int .i64 (.ofNat 0)), (.int .i64 (.ofNat 0)), (.bool false), (.bool false), (.int .i64 (.ofNat 0)), (.int .i64 (.ofNat 0)), (.bool false), (.bool false), (.int .i64 (.ofNat 0)), (.int .i64 (.ofNat 0)), (.bool false), (.bool false), (.int .i64 (.ofNat 0)), (.int .i64 (.ofNat 0)), (.bool false), (.bool false), (.int .i64 (.ofNat 0)), (.int .i64 (.ofNat 0)), (.bool false), (.bool false), (.int .i64 (.ofNat 0)), (.int .i64 (.ofNat 0)), (.bool false), (.bool false), (.int .i64 (.ofNat 0)), (.int .i64 (.ofNat 0)), (.bool false), (.bool false), (.int .i64 (.ofNat 0)), (.int .i64 (.ofNat 0)), (.bool false), (.bool false), (.int .i64 (.ofNat 0)), (.int .i64 (.ofNat 0)), (.bool false), (.bool false), (.int .i64 (.ofNat 0)), (.int .i64 (.ofNat 0)), (.bool false), (.bool false), (.int .i64 (.ofNat 0)), (.int .i64 (.ofNat 0)), (.bool false), (.bool false), (.int .i64 (.ofNat 0)), (.int .i64 (.ofNat 0)), (.bool false), (.bool false), (.int .i64 (.ofNat 0)), (.int .i64 (.ofNat 0)), (.bool false), (.bool false), (.int .i64 (.ofNat 0)), (.int .i64 (.ofNat 0)), (.bool false), (.bool false), (.int .i64 (.ofNat 0)), (.int .i64 (.ofNat 0)), (.bool false), (.bool false), (.int .i64 (.ofNat 0)), (.int .i64 (.ofNat 0)), (.bool false), (.bool false), (.int .i64 (.ofNat 0)), (.int .i64 (.ofNat 0)), (.bool false), (.bool false), (.int .i64 (.ofNat 0)), (.int .i64 (.ofNat 0)), (.bool false), (.bool false), (.int .i64 (.ofNat 0)), (.int .i64 (.ofNat 0)), (.bool false), (.bool false), (.int .i64 (.ofNat 0)), (.int .i64 (.ofNat 0)), (.bool false), (.bool false), (.int .i64 (.ofNat 0)), (.int .i64 (.ofNat 0)), (.bool false), (.bool false), (.int .i64 (.ofNat 0)), (.int .i64 (.ofNat 0)), (.bool false), (.bool false), (.int .i64 (.ofNat 0)), (.int .i64 (.ofNat 0)), (.bool false), (.bool false), (.int .i64 (.ofNat 0)), (.int .i64 (.ofNat 0)), (.bool false), (.bool false), (.int .i64 (.ofNat 0)), (.int .i64 (.ofNat 0)), (.bool false), (.bool false), (.int .i64 (.ofNat 0)), (.int .i64 (.ofNat 0)), (.bool false), (.bool false), (.int .i64 (.ofNat 0)), (.int .i64 (.ofNat 0)), (.bool false), (.bool false), (.int .i64 (.ofNat 0)), (.int .i64 (.ofNat 0)), (.bool false), (.bool false), (.int .i64 (.ofNat 0)), (.int .i64 (.ofNat 0)), (.bool false), (.bool false), (.int .i64 (.ofNat 0)), (.int .i64 (.ofNat 0)), (.bool false), (.bool false), (.int .i64 (.ofNat 0)), (.int .i64 (.ofNat 0)), (.bool false), (.bool false), (.int .i64 (.ofNat 0)), (.int .i64 (.ofNat 0)), (.bool false), (.bool false), (.int .i64 (.ofNat 0)), (.int .i64 (.ofNat 0)), (.bool false), (.bool false), (.int .i64 (.ofNat 0)), (.int .i64 (.ofNat 0)), (.bool false), (.bool false), (.int .i64 (.ofNat 0)), (.int .i64 (.ofNat 0)), (.bool false), (.bool false), (.int .i64 (.ofNat 0)), (.int .i64 (.ofNat 0)), (.bool false), (.bool false), (.int .i64 (.ofNat 0)), (.int .i64 (.ofNat 0)), (.bool false), (.bool false), (.int .i64 (.ofNat 0)), (.int .i64 (.ofNat 0)), (.bool false), (.bool false), (.int .i64 (.ofNat 0)), (.int .i64 (.ofNat 0)), (.bool false), (.bool false), (.int .i64 (.ofNat 0)), (.int .i64 (.ofNat 0)), (.bool false), (.bool false), (.int .i64 (.ofNat 0)), (.int .i64 (.ofNat 0)), (.bool false), (.bool false), (.int .i64 (.ofNat 0)), (.int .i64 (.ofNat 0)), (.bool false), (.bool false), (.int .i64 (.ofNat 0)), (.int .i64 (.ofNat 0)), (.bool false), (.bool false), (.int .i64 (.ofNat 0)), (.int .i64 (.ofNat 0)), (.bool false), (.bool false), (.int .i64 (.ofNat 0)), (.int .i64 (.ofNat 0)), (.bool false), (.bool false), (.int .i64 (.ofNat 0)), (.int .i64 (.ofNat 0)), (.bool false), (.bool false), (.int .i64 (.ofNat 0)), (.int .i64 (.ofNat 0)), (.bool false), (.bool false), (.int .i64 (.ofNat 0)), (.int .i64 (.ofNat 0)), (.bool false), (.bool false), (.int .i64 (.ofNat 0)), (.int .i64 (.ofNat 0)), (.bool false), (.bool false), (.int .i64 (.ofNat 0)), (.int .i64 (.ofNat 0)), (.bool false), (.bool false), (.int .i64 (.ofNat 0)), (.int .i64 (.ofNat 0)), (.bool false), (.bool false), (.int .i64 (.ofNat 0)), (.int .i64 (.ofNat 0)), (.bool false), (.bool false), (.int .i64 (.ofNat 0)), (.int .i64 (.ofNat 0)), (.bool false), (.bool false), (.int .i64 (.ofNat 0)), (.int .i64 (.ofNat 0)), (.bool false), (.bool false), (.int .i64 (.ofNat 0)), (.int .i64 (.ofNat 0)), (.bool false), (.bool false), (.int .i64 (.ofNat 0)), (.int .i64 (.ofNat 0)), (.bool false), (.bool false), (.int .i64 (.ofNat 0)), (.int .i64 (.ofNat 0)), (.bool false), (.bool false), (.int .i64 (.ofNat 0)), (.int .i64 (.ofNat 0)), (.bool false), (.bool false), (.int .i64 (.ofNat 0)), (.int .i64 (.ofNat 0)), (.bool false), (.bool false), (.int .i64 (.ofNat 0)), (.int .i64 (.ofNat 0)), (.bool false), (.bool false), (.int .i64 (.ofNat 0)), (.int .i64 (.ofNat 0)), (.bool false), (.bool false), (.int .i64 (.ofNat 0)), (.int .i64 (.ofNat 0)), (.bool false), (.bool false), (.int .i64 (.ofNat 0)), (.int .i64 (.ofNat 0)), (.bool false), (.bool false), (.int .i64 (.ofNat 0)), (.int .i64 (.ofNat 0)), (.bool false), (.bool false), (.int .i64 (.ofNat 0)), (.int .i64 (.ofNat 0)), (.bool false), (.bool false), (.int .i64 (.ofNat 0)), (.int .i64 (.ofNat 0)), (.bool false), (.bool false), (.int .i64 (.ofNat 0)), (.int .i64 (.ofNat 0)), (.bool false), (.bool false), (.int .i64 (.ofNat 0)), (.int .i64 (.ofNat 0)), (.bool false), (.bool false), (.int .i64 (.ofNat 0)), (.int .i64 (.ofNat 0)), (.bool false), (.bool false), (.int .i64 (.ofNat 0)), (.int .i64 (.ofNat 0)), (.bool false), (.bool false), (.int .i64 (.ofNat 0)), (.int .i64 (.ofNat 0)), (.bool false), (.bool false), (.int .i64 (.ofNat 0)), (.int .i64 (.ofNat 0)), (.bool false), (.bool false), (.int .i64 (.ofNat 0)), (.int .i64 (.ofNat 0)), (.bool false), (.bool false), (.int .i64 (.ofNat 0)), (.int .i64 (.ofNat 0)), (.bool false), (.bool false), (.int .i64 (.ofNat 0)), (.int .i64 (.ofNat 0)), (.bool false), (.bool false), (.int .i64 (.ofNat 0)), (.int .i64 (.ofNat 0)), (.bool false), (.bool false), (.int .i64 (.ofNat 0)), (.int .i64 (.ofNat 0)), (.bool false), (.bool false), (.int .i64 (.ofNat 0)), (.int .i64 (.ofNat 0)), (.bool false), (.bool false), (.int .i64 (.ofNat 0)), (.int .i64 (.ofNat 0)), (.bool false), (.bool false), (.int .i64 (.ofNat 0)), (.int .i64 (.ofNat 0)), (.bool false), (.bool false), (.int .i64 (.ofNat 0)), (.int .i64 (.ofNat 0)), (.bool false), (.bool false), (.int .i64 (.ofNat 0)), (.int .i64 (.ofNat 0)), (.bool false), (.bool false), (.int .i64 (.ofNat 0)), (.int .i64 (.ofNat 0)), (.bool false), (.bool false), (.int .i64 (.ofNat 0)), (.int .i64 (.ofNat 0)), (.bool false), (.bool false), (.int .i64 (.ofNat 0)), (.int .i64 (.ofNat 0)), (.bool false), (.bool false), (.int .i64 (.ofNat 0)), (.int .i64 (.ofNat 0)), (.bool false), (.bool false), (.int .i64 (.ofNat 0)), (.int .i64 (.ofNat 0)), (.bool false), (.bool false), (.int .i64 (.ofNat 0)), (.int .i64 (.ofNat 0)), (.bool false), (.bool false), (.int .i64 (.ofNat 0)), (.int .i64 (.ofNat 0)), (.bool false), (.bool false), (.int .i64 (.ofNat 0)), (.int .i64 (.ofNat 0)), (.bool false), (.bool false), (.int .i64 (.ofNat 0)), (.int .i64 (.ofNat 0)), (.bool false), (.bool false), (.int .i64 (.ofNat 0)), (.int .i64 (.ofNat 0)), (.bool false), (.bool false), (.int .i64 (.ofNat 0)), (.int .i64 (.ofNat 0)), (.bool false), (.bool false), (.int .i64 (.ofNat 0)), (.int .i64 (.ofNat 0)), (.bool false), (.bool false), (.int .i64 (.ofNat 0)), (.int .i64 (.ofNat 0)), (.bool false), (.bool false), (.int .i64 (.ofNat 0)), (.int .i64 (.ofNat 0)), (.bool false), (.bool false), (.int .i64 (.ofNat 0)), (.int .i64 (.ofNat 0)), (.bool false), (.bool false), (.int .i64 (.ofNat 0)), (.int .i64 (.ofNat 0)), (.bool false), (.bool false), (.int .i64 (.ofNat 0)), (.int .i64 (.ofNat 0)), (.bool false), (.bool false), (.int .i64 (.ofNat 0)), (.int .i64 (.ofNat 0)), (.bool false), (.bool false), (.int .i64 (.ofNat 0)), (.int .i64 (.ofNat 0)), (.bool false), (.bool false), (.int .i64 (.ofNat 0)), (.int .i64 (.ofNat 0)), (.bool false), (.bool false), (.int .i64 (.ofNat 0)), (.int .i64 (.ofNat 0)), (.bool false), (.bool false), (.int .i64 (.ofNat 0)), (.int .i64 (.ofNat 0)), (.bool false), (.bool false), (.int .i64 (.ofNat 0)), (.int .i64 (.ofNat 0)), (.bool false), (.bool false), (.int .i64 (.ofNat 0)), (.int .i64 (.ofNat 0)), (.bool false), (.bool false), (.int .i64 (.ofNat 0)), (.int .i64 (.ofNat 0)), (.bool false), (.bool false), (.int .i64 (.ofNat 0)), (.int .i64 (.ofNat 0)), (.bool false), (.bool false), (.int .i64 (.ofNat 0)), (.int .i64 (.ofNat 0)), (.bool false), (.bool false), (.int .i64 (.ofNat 0)), (.int .i64 (.ofNat 0)), (.bool false), (.bool false), (.int .i64 (.ofNat 0)), (.int .i64 (.ofNat 0)), (.bool false), (.bool false), (.int .i64 (.ofNat 0)), (.int .i64 (.ofNat 0)), (.bool false), (.bool false), (.int .i64 (.ofNat 0)), (.int .i64 (.ofNat 0)), (.bool false), (.bool false), (.int .i64 (.ofNat 0)), (.int .i64 (.ofNat 0)), (.bool false), (.bool false), (.int .i64 (.ofNat 0)), (.int .i64 (.ofNat 0)), (.bool false), (.bool false), (.int .i64 (.ofNat 0)), (.int .i64 (.ofNat 0)), (.bool false), (.bool false), (.int .i64 (.ofNat 0)), (.int .i64 (.ofNat 0)), (.bool false), (.bool false), (.int .i64 (.ofNat 0)), (.int .i64 (.ofNat 0)), (.bool false), (.bool false), (.int .i64 (.ofNat 0)), (.int .i64 (.ofNat 0)), (.bool false), (.bool false), (.int .i64 (.ofNat 0)), (.int .i64 (.ofNat 0)), (.bool false), (.bool false), (.int .i64 (.ofNat 0)), (.int .i64 (.ofNat 0)), (.bool false), (.bool false), (.int .i64 (.ofNat 0)), (.int .i64 (.ofNat 0)), (.bool false), (.bool false), (.int .i64 (.ofNat 0)), (.int .i64 (.ofNat 0)), (.bool false), (.bool false), (.int .i64 (.ofNat 0)), (.int .i64 (.ofNat 0)), (.bool false), (.bool false), (.int .i64 (.ofNat 0)), (.int .i64 (.ofNat 0)), (.bool false), (.bool false), (.int .i64 (.ofNat 0)), (.int .i64 (.ofNat 0)), (.bool false), (.bool false), (.int .i64 (.ofNat 0)), (.int .i64 (.ofNat 0)), (.bool false), (.bool false), (.int .i64 (.ofNat 0)), (.int .i64 (.ofNat 0)), (.bool false), (.bool false), (.int .i64 (.ofNat 0)), (.int .i64 (.ofNat 0)), (.bool false), (.bool false), (.int .i64 (.ofNat 0)), (.int .i64 (.ofNat 0)), (.bool false), (.bool false), (.int .i64 (.ofNat 0)), (.int .i64 (.ofNat 0)), (.bool false), (.bool false), (.int .i64 (.ofNat 0)), (.int .i64 (.ofNat 0)), (.bool false), (.bool false), (.int .i64 (.ofNat 0)), (.int .i64 (.ofNat 0)), (.bool false), (.bool false), (.int .i64 (.ofNat 0)), (.int .i64 (.ofNat 0)), (.bool false), (.bool false), (.int .i64 (.ofNat 0)), (.int .i64 (.ofNat 0)), (.bool false), (.bool false), (.int .i64 (.ofNat 0)), (.int .i64 (.ofNat 0)), (.bool false), (.bool false), (.int .i64 (.ofNat 0)), (.int .i64 (.ofNat 0)), (.bool false), (.bool false), (.int .i64 (.ofNat 0)), (.int .i64 (.ofNat 0)), (.bool false), (.bool false), (.int .i64 (.ofNat 0)), (.int .i64 (.ofNat 0)), (.bool false), (.bool false), (.int .i64 (.ofNat 0)), (.int .i64 (.ofNat 0)), (.bool false), (.bool false), (.int .i64 (.ofNat 0)), (.int .i64 (.ofNat 0)), (.bool false), (.bool false), (.int .i64 (.ofNat 0)), (.int .i64 (.ofNat 0)), (.bool false), (.bool false), (.int .i64 (.ofNat 0)), (.int .i64 (.ofNat 0)), (.bool false), (.bool false), (.int .i64 (.ofNat 0)), (.int .i64 (.ofNat 0)), (.bool false), (.bool false), (.int .i64 (.ofNat 0)), (.int .i64 (.ofNat 0)), (.bool false), (.bool false), (.int .i64 (.ofNat 0)), (.int .i64 (.ofNat 0)), (.bool false), (.bool false), (.int .i64 (.ofNat 0)), (.int .i64 (.ofNat 0)), (.bool false), (.bool false), (.int .i64 (.ofNat 0)), (.int .i64 (.ofNat 0)), (.bool false), (.bool false), (.int .i64 (.ofNat 0)), (.int .i64 (.ofNat 0)), (.bool false), (.bool false), (.int .i64 (.ofNat 0)), (.int .i64 (.ofNat 0)), (.bool false), (.bool false), (.int .i64 (.ofNat 0)), (.int .i64 (.ofNat 0)), (.bool false), (.bool false), (.int .i64 (.ofNat 0)), (.int .i64 (.ofNat 0)), (.bool false), (.bool false), (.int .i64 (.ofNat 0)), (.int .i64 (.ofNat 0)), (.bool false), (.bool false), (.int .i64 (.ofNat 0)), (.int .i64 (.ofNat 0)), (.bool false), (.bool false), (.int .i64 (.ofNat 0)), (.int .i64 (.ofNat 0)), (.bool false), (.bool false), (.int .i64 (.ofNat 0)), (.int .i64 (.ofNat 0)), (.bool false), (.bool false), (.int .i64 (.ofNat 0)), (.int .i64 (.ofNat 0)), (.bool false), (.bool false), (.int .i64 (.ofNat 0)), (.int .i64 (.ofNat 0)), (.bool false), (.bool false), (.int .i64 (.ofNat 0)), (.int .i64 (.ofNat 0)), (.bool false), (.bool false), (.int .i64 (.ofNat 0)), (.int .i64 (.ofNat 0)), (.bool false), (.bool false), (.int .i64 (.ofNat 0)), (.int .i64 (.ofNat 0)), (.bool false), (.bool false), (.int .i64 (.ofNat 0)), (.int .i64 (.ofNat 0)), (.bool false), (.bool false), (.int .i64 (.ofNat 0)), (.int .i64 (.ofNat 0)), (.bool false), (.bool false), (.int .i64 (.ofNat 0)), (.int .i64 (.ofNat 0)), (.bool false), (.bool false), (.int .i64 (.ofNat 0)), (.int .i64 (.ofNat 0)), (.bool false), (.bool false), (.int .i64 (.ofNat 0)), (.int .i64 (.ofNat 0)), (.bool false), (.bool false), (.int .i64 (.ofNat 0)), (.int .i64 (.ofNat 0)), (.bool false), (.bool false), (.int .i64 (.ofNat 0)), (.int .i64 (.ofNat 0)), (.bool false), (.bool false), (.int .i64 (.ofNat 0)), (.int .i64 (.ofNat 0)), (.bool false), (.bool false), (.int .i64 (.ofNat 0)), (.int .i64 (.ofNat 0)), (.bool false), (.bool false), (.int .i64 (.ofNat 0)), (.int .i64 (.ofNat 0)), (.bool false), (.bool false), (.int .i64 (.ofNat 0)), (.int .i64 (.ofNat 0)), (.bool false), (.bool false), (.int .i64 (.ofNat 0)), (.int .i64 (.ofNat 0)), (.bool false), (.bool false), (.int .i64 (.ofNat 0)), (.int .i64 (.ofNat 0)), (.bool false), (.bool false), (.int .i64 (.ofNat 0)), (.int .i64 (.ofNat 0)), (.bool false), (.bool false), (.int .i64 (.ofNat 0)), (.int .i64 (.ofNat 0)), (.bool false), (.bool false), (.int .i64 (.ofNat 0)), (.int .i64 (.ofNat 0)), (.bool false), (.bool false), (.int .i64 (.ofNat 0)), (.int .i64 (.ofNat 0)), (.bool false), (.bool false), (.int .i64 (.ofNat 0)), (.int .i64 (.ofNat 0)), (.bool false), (.bool false), (.int .i64 (.ofNat 0)), (.int .i64 (.ofNat 0)), (.bool false), (.bool false), (.int .i64 (.ofNat 0)), (.int .i64 (.ofNat 0)), (.bool false), (.bool false), (.int .i64 (.ofNat 0)), (.int .i64 (.ofNat 0)), (.bool false), (.bool false), (.int .i64 (.ofNat 0)), (.int .i64 (.ofNat 0)), (.bool false), (.bool false), (.int .i64 (.ofNat 0)), (.int .i64 (.ofNat 0)), (.bool false), (.bool false), (.int .i64 (.ofNat 0)), (.int .i64 (.ofNat 0)), (.bool false), (.bool false), (.int .i64 (.ofNat 0)), (.int .i64 (.ofNat 0)), (.bool false), (.bool false), (.int .i64 (.ofNat 0)), (.int .i64 (.ofNat 0)), (.bool false), (.bool false), (.int .i64 (.ofNat 0)), (.int .i64 (.ofNat 0)), (.bool false), (.bool false), (.int .i64 (.ofNat 0)), (.int .i64 (.ofNat 0)), (.bool false), (.bool false), (.int .i64 (.ofNat 0)), (.int .i64 (.ofNat 0)), (.bool false), (.bool false), (.int .i64 (.ofNat 0)), (.int .i64 (.ofNat 0)), (.bool false), (.bool false), (.int .i64 (.ofNat 0)), (.int .i64 (.ofNat 0)), (.bool false), (.bool false), (.int .i64 (.ofNat 0)), (.int .i64 (.ofNat 0)), (.bool false), (.bool false), (.int .i64 (.ofNat 0)), (.int .i64 (.ofNat 0)), (.bool false), (.bool false), (.int .i64 (.ofNat 0)), (.int .i64 (.ofNat 0)), (.bool false), (.bool false), (.int .i64 (.ofNat 0)), (.int .i64 (.ofNat 0)), (.bool false), (.bool false), (.int .i64 (.ofNat 0)), (.int .i64 (.ofNat 0)), (.bool false), (.bool false), (.int .i64 (.ofNat 0)), (.int .i64 (.ofNat 0)), (.bool false), (.bool false), (.int .i64 (.ofNat 0)), (.int .i64 (.ofNat 0)), (.bool false), (.bool false), (.int .i64 (.ofNat 0)), (.int .i64 (.ofNat 0)), (.bool false), (.bool false), (.int .i64 (.ofNat 0)), (.int .i64 (.ofNat 0)), (.bool false), (.bool false), (.int .i64 (.ofNat 0)), (.int .i64 (.ofNat 0)), (.bool false), (.bool false), (.int .i64 (.ofNat 0)), (.int .i64 (.ofNat 0)), (.bool false), (.bool false), (.int .i64 (.ofNat 0)), (.int .i64 (.ofNat 0)), (.bool false), (.bool false), (.int .i64 (.ofNat 0)), (.int .i64 (.ofNat 0)), (.bool false), (.bool false), (.int .i64 (.ofNat 0)), (.int .i64 (.ofNat 0)), (.bool false), (.bool false), (.int .i64 (.ofNat 0)), (.int .i64 (.ofNat 0)), (.bool false), (.bool false), (.int .i64 (.ofNat 0)), (.int .i64 (.ofNat 0)), (.bool false), (.bool false), (.int .i64 (.ofNat 0)), (.int .i64 (.ofNat 0)), (.bool false), (.bool false), (.int .i64 (.ofNat 0)), (.int .i64 (.ofNat 0)), (.bool false), (.bool false), (.int .i64 (.ofNat 0)), (.int .i64 (.ofNat 0)), (.bool false), (.bool false), (.int .i64 (.ofNat 0)), (.int .i64 (.ofNat 0)), (.bool false), (.bool false), (.int .i64 (.ofNat 0)), (.int .i64 (.ofNat 0)), (.bool false), (.bool false), (.int .i64 (.ofNat 0)), (.int .i64 (.ofNat 0)), (.bool false), (.bool false), (.int .i64 (.ofNat 0)), (.int .i64 (.ofNat 0)), (.bool false), (.bool false), (.int .i64 (.ofNat 0)), (.int .i64 (.ofNat 0)), (.bool false), (.bool false), (.int .i64 (.ofNat 0)), (.int .i64 (.ofNat 0)), (.bool false), (.bool false), (.int .i64 (.ofNat 0)), (.int .i64 (.ofNat 0)), (.bool false), (.bool false), (.int .i64 (.ofNat 0)), (.int .i64 (.ofNat 0)), (.bool false), (.bool false), (.int .i64 (.ofNat 0)), (.int .i64 (.ofNat 0)), (.bool false), (.bool false), (.int .i64 (.ofNat 0)), (.int .i64 (.ofNat 0)), (.bool false), (.bool false), (.int .i64 (.ofNat 0)), (.int .i64 (.ofNat 0)), (.bool false), (.bool false), (.int .i64 (.ofNat 0)), (.int .i64 (.ofNat 0)), (.bool false), (.bool false), (.int .i64 (.ofNat 0)), (.int .i64 (.ofNat 0)), (.bool false), (.bool false), (.int .i64 (.ofNat 0)), (.int .i64 (.ofNat 0)), (.bool false), (.bool false), (.int .i64 (.ofNat 0)), (.int .i64 (.ofNat 0))] 0 u11) fun u12 => getL (cellsOf v8) fun u13 => bif Nat.beq u13.length 1 then getL (over u12 1 u13) fun u14 => getL (cellsOf (.agg u14)) fun u15 => mk h7 u15 fun v16 h17 =>
 some (.tup [v16, (.int .i64 (.ofNat 0))], h17) else none else none))
theorem b86 (n : Nat) (rec : Rec) (a0 : AV) (a1 : AV) (h : Heap) : bodyR Go.Proofs.Tryz.prog (tabs n) rec 86 [a0, a1] h = c86 n rec a0 a1 h := by kernel_rfl
-- detent·work.New
def c87 (_n : Nat) (rec : Rec) (a0 : AV) (h : Heap) : Out :=
 callv rec (.func 152 [] []) [a0] h fun v1 h2 =>
 ext v1 0 fun v3 =>
 ext v1 1 fun v4 =>
 yes true (aeqI v4 (.int .i64 (.ofNat 0))) fun v5 =>
 tst v5
 (some (.tup [.nilp, v4], h2))
 (getL (cellsOf v3) fun u6 => bif Nat.beq u6.length 1 then getL (over [.nilp, (.int .i64 (.ofNat 0)), (.bool false), (.int .i64 (.ofNat 0)), (.bool false), (.int .i64 (.ofNat 0)), (.bool false), (.int .i64 (.ofNat 0)), (.bool false), (.int .i64 (.ofNat 0)), (.bool false), (.int .i64 (.ofNat 0)), (.bool false), (.int .i64 (.ofNat 0)), (.bool false), (.int .i64 (.ofNat 0)), (.bool false), (.int .i64 (.ofNat 0)), (.bool false), (.int .i64 (.ofNat 0)), (.bool false), (.int .i64 (.ofNat 0)), (.bool false), (.int .i64 (.ofNat 0)), (.bool false), (.int .i64 (.ofNat 0)), (.bool false), (.int .i64 (.ofNat 0)), (.bool false), (.int .i64 (.ofNat 0)), (.bool false), (.int .i64 (.ofNat 0)), (.bool false), (.int .i64 (.ofNat 0)), (.bool false), (.int .i64 (.ofNat 0)), (.bool false), (.int .i64 (.ofNat 0)), (.bool false), (.int .i64 (.ofNat 0)), (.bool false), (.int .i64 (.ofNat 0)), (.bool false), (.int .i64 (.ofNat 0)), (.bool false), (.int .i64 (.ofNat 0)), (.bool false), (.int .i64 (.ofNat 0)), (.bool false), (.int .i64 (.ofNat 0)), (.bool false), (.int .i64 (.ofNat 0)), (.bool false), (.int .i64 (.ofNat 0)), (.bool false), (.int .i64 (.ofNat 0)), (.bool false), (.int .i64 (.ofNat 0)), (.bool false), (.int .i64 (.ofNat 0)), (.bool false), (.int .i64 (.ofNat 0)), (.bool false), (.int .i64 (.ofNat 0)), (.bool false), (.int .i64 (.ofNat 0)), (.bool false), (.int .i64 (.ofNat 0)), (.bool false), (.int .i64 (.ofNat 0)), (.bool false), (.int .i64 (.ofNat 0)), (.bool false), (.int .i64 (.ofNat 0)), (.bool false), (.int .i64 (.ofNat 0)), (.bool false), (.int .i64 (.ofNat 0)), (.bool false), (.int .i64 (.ofNat 0)), (.bool false), (.int .i64 (.ofNat 0)), (.bool false), (.int .i64 (.ofNat 0)), (.bool false), (.int .i64 (.ofNat 0)), (.bool false), (.int .i64 (.ofNat 0)), (.bool false), (.int .i64 (.ofNat 0)), (.bool false), (.int .i64 (.ofNat 0)), (.bool false), (.int .i64 (.ofNat 0)), (.bool false), (.int .i64 (.ofNat 0)), (.bool false), (.int .i64 (.ofNat 0)), (.bool false), (.int .i64 (.ofNat 0)), (.bool false), (.int .i64 (.ofNat 0)), (.bool false), (.int .i64 (.ofNat 0)), (.bool false), (.int .i64 (.ofNat 0)), (.bool false), (.int .i64 (.ofNat 0)), (.bool false), (.int .i64 (.ofNat 0)), (.bool false), (.int .i64 (.ofNat 0)), (.bool false), (.int .i64 (.ofNat 0)), (.bool false), (.int .i64 (.ofNat 0)), (.bool false), (.int .i64 (.ofNat 0)), (.bool false), (.int .i64 (.ofNat 0)), (.bool false), (.int .i64 (.ofNat 0)), (.bool false), (.int .i64 (.ofNat 0)), (.bool false), (.int .i64 (.ofNat 0)), (.bool false), (.int .i64 (.ofNat 0)), (.bool false), (.int .i64 (.ofNat 0)), (.bool false), (.int .i64 (.ofNat 0)), (.bool false), (.int .i64 (.ofNat 0)), (.bool false), (.int .i64 (.ofNat 0)), (.bool false), (.int .i64 (.ofNat 0)), (.bool false), (.int .i64 (.ofNat 0)), (.bool false), (.int .i64 (.ofNat 0)), (.bool false), (.int .i64 (.ofNat 0)), (.bool false), (.int .i64 (.ofNat 0)), (.bool false), (.int .i64 (.ofNat 0)), (.bool false), (.int .i64 (.ofNat 0)), (.bool false), (.int .i64 (.ofNat 0)), (.bool false), (.int .i64 (.ofNat 0)), (.bool false), (.int .i64 (.ofNat 0)), (.bool false), (.int .i64 (.ofNat 0)), (.bool false), (.int .i64 (.ofNat 0)), (.bool false), (.int .i64 (.ofNat 0)), (.bool false), (.int .i64 (.ofNat 0)), (.bool false), (.int .i64 (.ofNat 0)), (.bool false), (.int .i64 (.ofNat 0)), (.bool false), (.int .i64 (.ofNat 0)), (.bool false), (.int .i64 (.ofNat 0)), (.bool false), (.int .i64 (.ofNat 0)), (.bool false), (.int .i64 (.ofNat 0)), (.bool false), (.int .i64 (.ofNat 0)), (.bool false), (.int .i64 (.ofNat 0)), (.bool false), (.int .i64 (.ofNat 0)), (.bool false), (.int .i64 (.ofNat 0)), (.bool false), (.int .i64 (.ofNat 0)), (.bool false), (.int .i64 (.ofNat 0)), (.bool false), (.int .i64 (.ofNat 0)), (.bool false), (.int .i64 (.ofNat 0)), (.bool false), (.int .i64 (.ofNat 0)), (.bool false), (.int .i64 (.ofNat 0)), (.bool false), (.int .i64 (.ofNat 0)), (.bool false), (.int .i64 (.ofNat 0)), (.bool false), (.int .i64 (.ofNat 0)), (.bool false), (.int .i64 (.ofNat 0)), (.bool false), (.int .i64 (.ofNat 0)), (.bool false), (.int .i64 (.ofNat 0)), (.bool false), (.int .i64 (.ofNat 0)), (.bool false), (.int .i64 (.ofNat 0)), (.bool false), (.int .i64 (.ofNat 0)), (.bool false), (.int .i64 (.ofNat 0)), (.bool false), (.int .i64 (.ofNat 0)), (.bool false), (.int .i64 (.ofNat 0)), (.bool false), (.int .i64 (.ofNat 0)), (.bool false), (.int .i64 (.ofNat 0)), (.bool false), (.int .i64 (.ofNat 0)), (.bool false), (.int .i64 (.ofNat 0)), (.bool false), (.int .i64 (.ofNat 0)), (.bool false), (.int .i64 (.ofNat 0)), (.bool false), (.int .i64 (.ofNat 0)), (.bool false), (.int .i64 (.ofNat 0)), (.bool false), (.int .i64 (.ofNat 0)), (.bool false), (.int .i64 (.ofNat 0)), (.bool false), (.int .i64 (.ofNat 0)), (.bool false), (.int .i64 (.ofNat 0)), (.bool false), (.int .i64 (.ofNat 0)), (.bool false), (.int .i64 (.ofNat 0)), (.bool false), (.int .i64 (.ofNat 0)), (.bool false), (.int .i64 (.ofNat 0)), (.bool false), (.int .i64 (.ofNat 0)), (.bool false), (.int .i64 (.ofNat 0)), (.bool false), (.int .i64 (.ofNat 0)), (.bool false), (.int .i64 (.ofNat 0)), (.bool false), (.int .i64 (.ofNat 0)), (.bool false), (.int .i64 (.ofNat 0)), (.bool false), (.int .i64 (.ofNat 0)), (.bool false), (.int .i64 (.ofNat 0)), (.bool false), (.int .i64 (.ofNat 0)), (.bool false), (.int .i64 (.ofNat 0)), (.bool false), (.int .i64 (.ofNat 0)), (.bool false), (.int .i64 (.ofNat 0)), (.bool false), (.int .i64 (.ofNat 0)), (.bool false), (.int .i64 (.ofNat 0)), (.bool false), (.int .i64 (.ofNat 0)), (.bool false), (.int .i64 (.ofNat 0)), (.bool false), (.int .i64 (.ofNat 0)), (.bool false), (.int .i64 (.ofNat 0)), (.bool false), (.int .i64 (.ofNat 0)), (.bool false), (.int .i64 (.ofNat 0)), (.bool false), (.int .i64 (.ofNat 0)), (.bool false), (.int .i64 (.ofNat 0)), (.bool false), (.int .i64 (.ofNat 0)), (.bool false), (.int .i64 (.ofNat 0)), (.bool false), (.int .i64 (.ofNat 0)), (.bool false), (.int .i64 (.ofNat 0)), (.bool false), (.int .i64 (.ofNat 0)), (.bool false), (.int .i64 (.ofNat 0)), (.bool false), (.int .i64 (.ofNat 0)), (.bool false), (.int .i64 (.ofNat 0)), (.bool false), (.int .i64 (.ofNat 0)), (.bool false), (.int .i64 (.ofNat 0)), (.bool false), (.int .i64 (.ofNat 0)), (.bool false), (.int .i64 (.ofNat 0)), (.bool false), (.int .i64 (.ofNat 0)), (.bool false), (.int .i64 (.ofNat 0)), (.bool false), (.int .i64 (.ofNat 0)), (.bool false), (.int .i64 (.ofNat 0)), (.bool false), (.int .i64 (.ofNat 0)), (.bool false), (.int .i64 (.ofNat 0)), (.bool false), (.int .i64 (.ofNat 0)), (.bool false), (.int .i64 (.ofNat 0)), (.bool false), (.int .i64 (.ofNat 0)), (.bool false), (.int .i64 (.ofNat 0)), (.bool false), (.int .i64 (.ofNat 0)), (.bool false), (.int .i64 (.ofNat 0)), (.bool false), (.int .i64 (.ofNat 0)), (.bool false), (.int .i64 (.ofNat 0)), (.bool false), (.int .i64 (.ofNat 0)), (.bool false), (.int .i64 (.ofNat 0)), (.bool false), (.int .i64 (.ofNat 0)), (.bool false), (.int .i64 (.ofNat 0)), (.bool false), (.int .i64 (.ofNat 0)), (.bool false), (.int .i64 (.ofNat 0)), (.bool false), (.int .i64 (.ofNat 0)), (.bool false), (.int .i64 (.ofNat 0)), (.bool false), (.int .i64 (.ofNat 0)), (.bool false), (.int .i64 (.ofNat 0)), (.bool false), (.int .i64 (.ofNat 0)), (.bool false), (.int .i64 (.ofNat 0)), (.bool false), (.int .i64 (.ofNat 0)), (.bool false), (.int .i64 (.ofNat 0)), (.bool false), (.int .i64 (.ofNat 0)), (.bool false), (.int .i64 (.ofNat 0)), (.bool false), (.int .i64 (.ofNat 0)), (.bool false), (.int .i64 (.ofNat 0)), (.bool false), (.int .i64 (.ofNat 0)), (.bool false), (.int .i64 (.ofNat 0)), (.bool false), (.int .i64 (.ofNat 0)), (.bool false), (.int .i64 (.ofNat 0)), (.bool false), (.int .i64 (.ofNat 0)), (.bool false), (.int .i64 (.ofNat 0)), (.bool false), (.int .i64 (.ofNat 0)), (.bool false), (.int .i64 (.ofNat 0)), (.bool false), (.int .i64 (.ofNat 0)), (.bool false), (.int .i64 (.ofNat 0)), (.bool false), (.int .i64 (.ofNat 0)), (.bool false), (.int .i64 (.ofNat 0)), (.bool false), (.int .i64 (.ofNat 0)), (.bool false), (.int .i64 (.ofNat 0)), (.bool false), (.int .i64 (.ofNat 0)), (.bool false), (.int .i64 (.ofNat 0)), (.bool false), (.int .i64 (.ofNat 0)), (.bool false), (.int .i64 (.ofNat 0)), (.bool false), (.int .i64 (.ofNat 0)), (.bool false), (.int .i64 (.ofNat 0)), (.bool false), (.int .i64 (.ofNat 0)), (.bool false), (.int .i64 (.ofNat 0)), (.bool false), (.int .i64 (.ofNat 0)), (.bool false), (.int .i64 (.ofNat 0)), (.bool false), (.int .i64 (.ofNat 0)), (.bool false), (.int .i64 (.ofNat 0)), (.bool false), (.int .i64 (.ofNat 0)), (.bool false), (.int .i64 (.ofNat 0)), (.bool false), (.int .i64 (.ofNat 0)), (.bool false), (.int .i64 (.ofNat 0)), (.bool false), (.int .i64 (.ofNat 0)), (.bool false), (.int .i64 (.ofNat 0)), (.bool false), (.int .i64 (.ofNat 0)), (.bool false), (.int .i64 (.ofNat 0)), (.bool false), (.int .i64 (.ofNat 0)), (.bool false), (.int .i64 (.ofNat 0)), (.bool false), (.int .i64 (.ofNat 0)), (.bool false), (.int .i64 (.ofNat 0)), (.bool false), (.int .i64 (.ofNat 0)), (.bool false), (.int .i64 (.ofNat 0)), (.bool false), (.int .i64 (.ofNat 0)), (.bool false), (.int .i64 (.ofNat 0)), (.bool false), (.int .i64 (.ofNat 0)), (.bool false), (.int .i64 (.ofNat 0)), (.bool false), (.int .i64 (.ofNat 0)), (.bool false), (.int .i64 (.ofNat 0)), (.bool false), (.int .i64 (.ofNat 0)), (.bool false), (.int .i64 (.ofNat 0)), (.bool false), (.int .i64 (.ofNat 0)), (.bool false), (.int .i64 (.ofNat 0)), (.bool false), (.int .i64 (.ofNat 0)), (.bool false), (.int .i64 (.ofNat 0)), (.bool false), (.int .i64 (.ofNat 0)), (.bool false), (.int .i64 (.ofNat 0)), (.bool false), (.int .i64 (.ofNat 0)), (.bool false), (.int .i64 (.ofNat 0)), (.bool false), (.int .i64 (.ofNat 0)), (.bool false), (.int .i64 (.ofNat 0)), (.bool false), (.int .i64 (.ofNat 0)), (.bool false), (.int .i64 (.ofNat 0)), (.bool false), (.int .i64 (.ofNat 0)), (.bool false), (.int .i64 (.ofNat 0)), (.bool false), (.int .i64 (.ofNat 0)), (.bool false), (.int .i64 (.ofNat 0)), (.bool false), (.int .i64 (.ofNat 0)), (.int .i64 (.ofNat 0)), (.int .i64 (.ofNat 0)), (.int .i64 (.ofNat 0)), (.int .i64 (.ofNat 0)), (.int .i64 (.ofNat 0)), (.int .i64 (.ofNat 0)), (.int .i64 (.ofNat 0)), (.int .i64 (.ofNat 0)), (.int .i64 (.ofNat 0)), (.int .i64 (.ofNat 0)), (.int .i64 (.ofNat 0)), (.int .i64 (.ofNat 0)), (.int .i64 (.ofNat 0)), (.int .i64 (.ofNat 0)), (.int .i64 (.ofNat 0)), (.int .i64 (.ofNat 0)), (.int .i64 (.ofNat 0)), (.int .i64 (.ofNat 0)), (.int .i64 (.ofNat 0)), (.int .i64 (.ofNat 0)), (.int .i64 (.ofNat 0)), (.int .i64 (.ofNat 0)), (.int .i64 (.ofNat 0)), (.int .i64 (.ofNat 0)), (.int .i64 (.ofNat 0)), (.int .i64 (.ofNat 0)), (.int .i64 (.ofNat 0)), (.int .i64 (.ofNat 0)), (.int .i64 (.ofNat 0)), (.int .i64 (.ofNat 0)), (.int .i64 (.ofNat 0)), (.int .i64 (.ofNat 0))] 0 u6) fun u7 => getL (cellsOf a0) fun u8 => bif Nat.beq u8.length 1 then getL (over u7 1 u8) fun u9 => getL (cellsOf (.agg u9)) fun u10 => mk h2 u10 fun v11 h12 =>
 some (.tup [v11, (.int .i64 (.ofNat 0))], h12) else none else none)
theorem b87 (n : Nat) (rec : Rec) (a0 : AV) (h : Heap) : bodyR Go.Proofs.Tryz.prog (tabs n) rec 87 [a0] h = c87 n rec a0 h := by kernel_rfl
end Go.Ai
/-
  WHAT FUNCTIONS COME TO, part 3: each one's body, types, slots and orders reckoned out, and that it is so.
-/
namespace Go.Ai
open Go
set_option maxRecDepth 100000
-- detent·grace.New
def c88 (_n : Nat) (rec : Rec) (a0 : AV) (h : Heap) : Out :=
 callv rec (.func 154 [] []) [a0] h fun v1 h2 =>
 ext v1 0 fun v3 =>
 ext v1 1 fun v4 =>
 yes true (aeqI v4 (.int .i64 (.ofNat 0))) fun v5 =>
 tst v5
 (some (.tup [.nilp, v4], h2))
 (mk h2 [(.int .i64 (.ofNat 0)), (.int .i64 (.ofNat 0)), (.int .i64 (.ofNat 0)), (.int .i64 (.ofNat 0)), (.int .i64 (.ofNat 0)), (.int .i64 (.ofNat 0)), (.int .i64 (.ofNat 0)), (.int .i64 (.ofNat 0)), (.int .i64 (.ofNat 0)), (.int .i64 (.ofNat 0)), (.int .i64 (.ofNat 0)), (.int .i64 (.ofNat 0)), (.int .i64 (.ofNat 0)), (.int .i64 (.ofNat 0)), (.int .i64 (.ofNat 0)), (.int .i64 (.ofNat 0)), (.int .i64 (.ofNat 0)), (.int .i64 (.ofNat 0)), (.int .i64 (.ofNat 0)), (.int .i64 (.ofNat 0)), (.int .i64 (.ofNat 0)), (.int .i64 (.ofNat 0)), (.int .i64 (.ofNat 0)), (.int .i64 (.ofNat 0)), (.int .i64 (.ofNat 0)), (.int .i64 (.ofNat 0)), (.int .i64 (.ofNat 0)), (.int .i64 (.ofNat 0)), (.int .i64 (.ofNat 0)), (.int .i64 (.ofNat 0)), (.int .i64 (.ofNat 0)), (.int .i64 (.ofNat 0)), (.int .i64 (.ofNat 0)), (.int .i64 (.ofNat 0)), (.int .i64 (.ofNat 0)), (.int .i64 (.ofNat 0)), (.int .i64 (.ofNat 0)), (.int .i64 (.ofNat 0)), (.int .i64 (.ofNat 0)), (.int .i64 (.ofNat 0)), (.int .i64 (.ofNat 0)), (.int .i64 (.ofNat 0)), (.int .i64 (.ofNat 0)), (.int .i64 (.ofNat 0)), (.int .i64 (.ofNat 0)), (.int .i64 (.ofNat 0)), (.int .i64 (.ofNat 0)), (.int .i64 (.ofNat 0)), (.int .i64 (.ofNat 0)), (.int .i64 (.ofNat 0)), (.int .i64 (.ofNat 0)), (.int .i64 (.ofNat 0)), (.int .i64 (.ofNat 0)), (.int .i64 (.ofNat 0)), (.int .i64 (.ofNat 0)), (.int .i64 (.ofNat 0)), (.int .i64 (.ofNat 0)), (.int .i64 (.ofNat 0)), (.int .i64 (.ofNat 0)), (.int .i64 (.ofNat 0)), (.int .i64 (.ofNat 0)), (.int .i64 (.ofNat 0)), (.int .i64 (.ofNat 0)), (.int .i64 (.ofNat 0)), (.int .i64 (.ofNat 0)), (.int .i64 (.ofNat 0)), (.int .i64 (.ofNat 0)), (.int .i64 (.ofNat 0)), (.int .i64 (.ofNat 0)), (.int .i64 (.ofNat 0)), (.int .i64 (.ofNat 0)), (.int .i64 (.ofNat 0)), (.int .i64 (.ofNat 0)), (.int .i64 (.ofNat 0)), (.int .i64 (.ofNat 0)), (.int .i64 (.ofNat 0)), (.int .i64 (.ofNat 0)), (.int .i64 (.ofNat 0)), (.int .i64 (.ofNat 0)), (.int .i64 (.ofNat 0)), (.int .i64 (.ofNat 0)), (.int .i64 (.ofNat 0)), (.int .i64 (.ofNat 0)), (.int .i64 (.ofNat 0)), (.int .i64 (.ofNat 0)), (.int .i64 (.ofNat 0)), (.int .i64 (.ofNat 0)), (.int .i64 (.ofNat 0)), (.int .i64 (.ofNat 0)), (.int .i64 (.ofNat 0)), (.int .i64 (.ofNat 0)), (.int .i64 (.ofNat 0)), (.int .i64 (.ofNat 0)), (.int .i64 (.ofNat 0)), (.int .i64 (.ofNat 0)), (.int .i64 (.ofNat 0)), (.int .i64 (.ofNat 0)), (.int .i64 (.ofNat 0)), (.int .i64 (.ofNat 0)), (.int .i64 (.ofNat 0)), (.int .i64 (.ofNat 0)), (.int .i64 (.ofNat 0)), (.int .i64 (.ofNat 0)), (.int .i64 (.ofNat 0)), (.int .i64 (.ofNat 0)), (.int .i64 (.ofNat 0)), (.int .i64 (.ofNat 0)), (.int .i64 (.ofNat 0)), (.int .i64 (.ofNat 0)), (.int .i64 (.ofNat 0)), (.int .i64 (.ofNat 0)), (.int .i64 (.ofNat 0)), (.int .i64 (.ofNat 0)), (.int .i64 (.ofNat 0)), (.int .i64 (.ofNat 0)), (.int .i64 (.ofNat 0)), (.int .i64 (.ofNat 0)), (.int .i64 (.ofNat 0)), (.int .i64 (.ofNat 0)), (.int .i64 (.ofNat 0)), (.int .i64 (.ofNat 0)), (.int .i64 (.ofNat 0)), (.int .i64 (.ofNat 0)), (.int .i64 (.ofNat 0)), (.int .i64 (.ofNat 0)), (.int .i64 (.ofNat 0)), (.int .i64 (.ofNat 0)), (.int .i64 (.ofNat 0)), (.int .u64 (.ofNat 0)), (.int .i64 (.ofNat 0))] fun v6 h7 =>
 getL (cellsOf v6) fun u8 => bif Nat.beq u8.length 1 then getL (over [.nilp, .nilp, .nilp, (.int .i64 (.ofNat 0)), (.int .i64 (.ofNat 0)), (.int .i64 (.ofNat 0))] 0 u8) fun u9 => getL (cellsOf v3) fun u10 => bif Nat.beq u10.length 1 then getL (over u9 1 u10) fun u11 => getL (cellsOf (.agg u11)) fun u12 => mk h7 u12 fun v13 h14 =>
 some (.tup [v13, (.int .i64 (.ofNat 0))], h14) else none else none)
theorem b88 (n : Nat) (rec : Rec) (a0 : AV) (h : Heap) : bodyR Go.Proofs.Tryz.prog (tabs n) rec 88 [a0] h = c88 n rec a0 h := by kernel_rfl
-- detent·count.NewRefs[int]
def c89 (_n : Nat) (_rec : Rec) (a0 : AV) (h : Heap) : Out :=
 get1 (bin .lss a0 (.int .i64 (.ofNat 1))) fun v1 =>
 bnd (wantV v1 false (some (a0, h)) (some (.tup [], h))) fun v2 h3 =>
 bnd (wantV v1 false (get1 (bin .gtr v2 (.int .i64 (.ofNat 65535))) fun v4 =>
 some (v4, h3)) (some (.tup [], h3))) fun v5 h6 =>
 pickB v1 (.bool true) v5 fun v7 =>
 tst v7
 (some (.tup [.nilp, (.int .i64 (.ofNat 2))], h6))
 (newMap h6 fun v8 h9 =>
 getL (cellsOf a0) fun u10 => bif Nat.beq u10.length 1 then getL (over [(.int .i64 (.ofNat 0)), .nilm] 0 u10) fun u11 => getL (cellsOf v8) fun u12 => bif Nat.beq u12.length 1 then getL (over u11 1 u12) fun u13 => getL (cellsOf (.agg u13)) fun u14 => mk h9 u14 fun v15 h16 =>
 some (.tup [v15, (.int .i64 (.ofNat 0))], h16) else none else none)
theorem b89 (n : Nat) (rec : Rec) (a0 : AV) (h : Heap) : bodyR Go.Proofs.Tryz.prog (tabs n) rec 89 [a0] h = c89 n rec a0 h := by kernel_rfl
-- (detent·mask.Mask).With
def c90 (n : Nat) (rec : Rec) (a0 : AV) (a1 : AV) (h : Heap) : Out :=
 lenS a1 fun v1 =>
 iter n (fun nx2 w3 h4 => un w3 fun v5 l6 => un l6 fun v7 l8 => un l8 fun v9 l10 => un l10 fun v11 l12 => get1 (bin .lss v11 v9) fun v13 =>
 tst v13
 (ixS 1 v7 v11 fun v14 =>
 ld h4 v14 fun v15 =>
 callv rec (.func 155 [] []) [v15] h4 fun v16 h17 =>
 get1 (bin .or v5 v16) fun v18 =>
 get1 (bin .add v11 (.int .i64 (.ofNat 1))) fun v19 =>
 nx2 [v18, v7, v9, v19] h17)
 (some (v5, h4))) [a0, a1, v1, (.int .i64 (.ofNat 0))] h
theorem b90 (n : Nat) (rec : Rec) (a0 : AV) (a1 : AV) (h : Heap) : bodyR Go.Proofs.Tryz.prog (tabs n) rec 90 [a0, a1] h = c90 n rec a0 a1 h := by kernel_rfl
-- (*detent·kernel.Kernel).such
def c91 (_n : Nat) (_rec : Rec) (a0 : AV) (a1 : AV) (h : Heap) : Out :=
 getL (cellsOf a0) fun u1 => mk h u1 fun v2 h3 =>
 getL (cellsOf a1) fun u4 => mk h3 u4 fun v5 h6 =>
 some ((.func 156 [] [v2, v5]), h6)
theorem b91 (n : Nat) (rec : Rec) (a0 : AV) (a1 : AV) (h : Heap) : bodyR Go.Proofs.Tryz.prog (tabs n) rec 91 [a0, a1] h = c91 n rec a0 a1 h := by kernel_rfl
-- detent·isa.Check
def c92 (_n : Nat) (rec : Rec) (a0 : AV) (h : Heap) : Out :=
 getL (cellsOf a0) fun u1 => mk h u1 fun v2 h3 =>
 ldn 5 h3 v2 fun v4 =>
 callv rec (.func 158 [] []) [v4] h3 fun v5 h6 =>
 mk h6 [(.bool false), (.bool false), (.bool false), (.bool false)] fun v7 h8 =>
 stn 4 h8 v7 v5 fun h9 =>
 fa 0 v2 fun v10 =>
 ld h9 v10 fun v11 =>
 callv rec (.func 159 [] []) [v11] h9 fun v12 h13 =>
 yes false (aeqI v12 (.int .i64 (.ofNat 0))) fun v14 =>
 tst v14
 (some ((.int .i64 (.ofNat 11)), h13))
 (fa 1 v2 fun v15 =>
 ld h13 v15 fun v16 =>
 callv rec (.func 157 [] []) [v16, (.int .i64 (.ofNat 0)), (.int .i64 (.ofNat 10))] h13 fun v17 h18 =>
 bnd (wantV v17 false (some ((.func 157 [] []), h18)) (some (.tup [], h18))) fun v19 h20 =>
 bnd (wantV v17 false (fa 2 v2 fun v21 =>
 some (v21, h20)) (some (.tup [], h20))) fun v22 h23 =>
 bnd (wantV v17 false (ld h23 v22 fun v24 =>
 some (v24, h23)) (some (.tup [], h23))) fun v25 h26 =>
 bnd (wantV v17 false (callv rec v19 [v25, (.int .i64 (.ofNat 0)), (.int .i64 (.ofNat 10))] h26 fun v27 h28 =>
 some (v27, h28)) (some (.tup [], h26))) fun v29 h30 =>
 pickB v17 (.bool true) v29 fun v31 =>
 bnd (wantV v31 false (some ((.func 157 [] []), h30)) (some (.tup [], h30))) fun v32 h33 =>
 bnd (wantV v31 false (fa 3 v2 fun v34 =>
 some (v34, h33)) (some (.tup [], h33))) fun v35 h36 =>
 bnd (wantV v31 false (ld h36 v35 fun v37 =>
 some (v37, h36)) (some (.tup [], h36))) fun v38 h39 =>
 bnd (wantV v31 false (callv rec v32 [v38, (.int .i64 (.negSucc 32767)), (.int .i64 (.ofNat 32768))] h39 fun v40 h41 =>
 some (v40, h41)) (some (.tup [], h39))) fun v42 h43 =>
 pickB v31 (.bool true) v42 fun v44 =>
 bnd (wantV v44 false (some ((.func 157 [] []), h43)) (some (.tup [], h43))) fun v45 h46 =>
 bnd (wantV v44 false (fa 4 v2 fun v47 =>
 some (v47, h46)) (some (.tup [], h46))) fun v48 h49 =>
 bnd (wantV v44 false (ld h49 v48 fun v50 =>
 some (v50, h49)) (some (.tup [], h49))) fun v51 h52 =>
 bnd (wantV v44 false (callv rec v45 [v51, (.int .i64 (.negSucc 2147483647)), (.int .i64 (.ofNat 2147483648))] h52 fun v53 h54 =>
 some (v53, h54)) (some (.tup [], h52))) fun v55 h56 =>
 pickB v44 (.bool true) v55 fun v57 =>
 tst v57
 (some ((.int .i64 (.ofNat 2)), h56))
 (bnd (ldn 4 h56 v7 fun v58 =>
 some (v58, h56)) fun v59 h60 =>
 bnd (ldn 4 h60 v7 fun v61 =>
 some (v61, h60)) fun v62 h63 =>
 bnd (fa 0 v2 fun v64 =>
 some (v64, h63)) fun v65 h66 =>
 bnd (ld h66 v65 fun v67 =>
 some (v67, h66)) fun v68 h69 =>
 bnd (callv rec (.func 161 [] []) [v68] h69 fun v70 h71 =>
 some (v70, h71)) fun v72 h73 =>
 bif chkS true 4 h73 v7 v62 then bif chkS true 4 h73 v7 v59 then bnd (callv rec (.func 160 [] []) [v62, v72] h73 fun v74 h75 =>
 some (v74, h75)) fun v76 h77 =>
 bif chkS true 4 h77 v7 v59 then bnd (yes true (aeqG [true, true, true, true] v59 v76) fun v78 =>
 some (v78, h77)) fun v79 h80 =>
 tst v79
 (some ((.int .i64 (.ofNat 9)), h80))
 (some ((.int .i64 (.ofNat 0)), h80)) else none else none else none))
theorem b92 (n : Nat) (rec : Rec) (a0 : AV) (h : Heap) : bodyR Go.Proofs.Tryz.prog (tabs n) rec 92 [a0] h = c92 n rec a0 h := by kernel_rfl
-- detent·isa.low
def c93 (n : Nat) (_rec : Rec) (a0 : AV) (a1 : AV) (h : Heap) : Out :=
 iter n (fun nx1 w2 h3 => un w2 fun v4 l5 => un l5 fun v6 l7 => un l7 fun v8 l9 => un l9 fun v10 l11 => get1 (bin .lss v10 v8) fun v12 =>
 tst v12
 (cvI .u8 v4 fun v13 =>
 getL (cellsOf v13) fun u14 => bif Nat.beq u14.length 1 then getL (over [(.int .u8 (.ofNat 0))] 0 u14) fun u15 => mkSlice h3 u15 1 1 (some 1) fun v16 h17 =>
 app 1 1 h17 v6 v16 fun v18 h19 =>
 get1 (bin .shr v4 (.int .u64 (.ofNat 8))) fun v20 =>
 get1 (bin .add v10 (.int .i64 (.ofNat 1))) fun v21 =>
 nx1 [v20, v18, v8, v21] h19 else none)
 (some (v6, h3))) [a0, .nils, a1, (.int .i64 (.ofNat 0))] h
theorem b93 (n : Nat) (rec : Rec) (a0 : AV) (a1 : AV) (h : Heap) : bodyR Go.Proofs.Tryz.prog (tabs n) rec 93 [a0, a1] h = c93 n rec a0 a1 h := by kernel_rfl
-- (*detent·timer.Timers).inner
def c94 (_n : Nat) (_rec : Rec) (a0 : AV) (h : Heap) : Out :=
 yes false (aeqP a0 .nilp) fun v1 =>
 tst v1
 (some (.nilp, h))
 (nil? a0 fun v2 =>
 fa 0 v2 fun v3 =>
 ld h v3 fun v4 =>
 some (v4, h))
theorem b94 (n : Nat) (rec : Rec) (a0 : AV) (h : Heap) : bodyR Go.Proofs.Tryz.prog (tabs n) rec 94 [a0] h = c94 n rec a0 h := by kernel_rfl
-- (*detent·pend.Pend).Ready
def c95 (_n : Nat) (rec : Rec) (a0 : AV) (a1 : AV) (h : Heap) : Out :=
 callv rec (.func 162 [] []) [a0, a1] h fun v1 h2 =>
 callv rec (.func 163 [] []) [v1, (.int .i64 (.ofNat 0))] h2 fun v3 h4 =>
 ext v3 0 fun v5 =>
 ext v3 1 fun v6 =>
 callv rec (.func 164 [] []) [a0, v5] h4 fun v7 h8 =>
 ext v7 0 fun v9 =>
 ext v7 1 fun v10 =>
 bnd (wantV v6 true (some (v10, h8)) (some (.tup [], h8))) fun v11 h12 =>
 bnd (wantV v6 true (get1 (una .not v11) fun v13 =>
 some (v13, h12)) (some (.tup [], h12))) fun v14 h15 =>
 pickB v6 v14 (.bool false) fun v16 =>
 some (.tup [v5, v16], h15)
theorem b95 (n : Nat) (rec : Rec) (a0 : AV) (a1 : AV) (h : Heap) : bodyR Go.Proofs.Tryz.prog (tabs n) rec 95 [a0, a1] h = c95 n rec a0 a1 h := by kernel_rfl
-- (*detent·work.Works).inner
def c96 (_n : Nat) (_rec : Rec) (a0 : AV) (h : Heap) : Out :=
 yes false (aeqP a0 .nilp) fun v1 =>
 tst v1
 (some (.nilp, h))
 (nil? a0 fun v2 =>
 fa 0 v2 fun v3 =>
 ld h v3 fun v4 =>
 some (v4, h))
theorem b96 (n : Nat) (rec : Rec) (a0 : AV) (h : Heap) : bodyR Go.Proofs.Tryz.prog (tabs n) rec 96 [a0] h = c96 n rec a0 h := by kernel_rfl
-- (*detent·event.Log).such
def c98 (_n : Nat) (_rec : Rec) (a0 : AV) (a1 : AV) (h : Heap) : Out :=
 getL (cellsOf a0) fun u1 => mk h u1 fun v2 h3 =>
 getL (cellsOf a1) fun u4 => mk h3 u4 fun v5 h6 =>
 some ((.func 165 [] [v2, v5]), h6)
theorem b98 (n : Nat) (rec : Rec) (a0 : AV) (a1 : AV) (h : Heap) : bodyR Go.Proofs.Tryz.prog (tabs n) rec 98 [a0, a1] h = c98 n rec a0 a1 h := by kernel_rfl
-- (*detent·event.Log).After$1
def c99 (_n : Nat) (_rec : Rec) (a0 : AV) (a1 : AV) (a2 : AV) (h : Heap) : Out :=
 getL (cellsOf a1) fun u1 => mk h u1 fun v2 h3 =>
 ld h3 a2 fun v4 =>
 get1 (bin .geq a0 v4) fun v5 =>
 some (v5, h3)
theorem b99 (n : Nat) (rec : Rec) (a0 : AV) (a1 : AV) (a2 : AV) (h : Heap) : bodyR Go.Proofs.Tryz.prog (tabs n) rec 99 [a0, a1, a2] h = c99 n rec a0 a1 a2 h := by kernel_rfl
-- detent·guard.prog
def c103 (_n : Nat) (_rec : Rec) (a0 : AV) (h : Heap) : Out :=
 get1 (bin .geq a0 (.int .i64 (.ofNat 0))) fun v1 =>
 bnd (wantV v1 true (some (a0, h)) (some (.tup [], h))) fun v2 h3 =>
 bnd (wantV v1 true (get1 (bin .lss v2 (.int .i64 (.ofNat 16))) fun v4 =>
 some (v4, h3)) (some (.tup [], h3))) fun v5 h6 =>
 pickB v1 v5 (.bool false) fun v7 =>
 some (v7, h6)
theorem b103 (n : Nat) (rec : Rec) (a0 : AV) (h : Heap) : bodyR Go.Proofs.Tryz.prog (tabs n) rec 103 [a0] h = c103 n rec a0 h := by kernel_rfl
-- (detent·mask.Mask).List
def c111 (_n : Nat) (rec : Rec) (a0 : AV) (h : Heap) : Out :=
 mk h [.nils] fun v1 h2 =>
 callv rec (.func 177 [] []) [a0] h2 fun v3 h4 =>
 callf rec v3 [.yield h4.next] (h4.push (.loop 111004 [v1] 0 .normal)) fun v6 h5 => loopAt h5 h4.next 111004 fun w7 v8 p9 => bif Nat.beq v8 1 then none else leaveP p9 (ld (h5.set h4.next (.loop 111004 w7 3 p9)) v1 fun v11 =>
 some (v11, (h5.set h4.next (.loop 111004 w7 3 p9)))) none fun i10 => none
theorem b111 (n : Nat) (rec : Rec) (a0 : AV) (h : Heap) : bodyR Go.Proofs.Tryz.prog (tabs n) rec 111 [a0] h = c111 n rec a0 h := by kernel_rfl
def y111004 (_n : Nat) (_rec : Rec) (l : Nat) (vs args : List AV) (h : Heap) : Out :=
 un vs fun v1 l2 => bif Nat.beq args.length 1 then un args fun v3 l4 => loopAt h l 111004 fun w5 v6 p7 => bif Nat.beq v6 0 then ld (h.set l (.loop 111004 w5 1 p7)) v1 fun v8 =>
 getL (cellsOf v3) fun u9 => bif Nat.beq u9.length 1 then getL (over [(.int .i64 (.ofNat 0))] 0 u9) fun u10 => mkSlice (h.set l (.loop 111004 w5 1 p7)) u10 1 1 (some 1) fun v11 h12 =>
 app 1 8 h12 v8 v11 fun v13 h14 =>
 st h14 v1 v13 fun h15 =>
 loopAt h15 l 111004 fun w16 v17 p18 => some (.bool true, h15.set l (.loop 111004 w16 0 .normal)) else none else none else none
theorem r111004 (n : Nat) (rec : Rec) (l : Nat) (vs args : List AV) (h : Heap) : roundS Go.Proofs.Tryz.prog (tabs n) rec l 111004 vs args h = y111004 n rec l vs args h := by kernel_rfl
-- (detent·event.Event).right
def c114 (_n : Nat) (_rec : Rec) (a0 : AV) (h : Heap) : Out :=
 getL (cellsOf a0) fun u1 => mk h u1 fun v2 h3 =>
 fa 1 v2 fun v4 =>
 ld h3 v4 fun v5 =>
 get1 (bin .geq v5 (.int .i64 (.ofNat 0))) fun v6 =>
 bnd (wantV v6 true (fa 1 v2 fun v7 =>
 some (v7, h3)) (some (.tup [], h3))) fun v8 h9 =>
 bnd (wantV v6 true (ld h9 v8 fun v10 =>
 some (v10, h9)) (some (.tup [], h9))) fun v11 h12 =>
 bnd (wantV v6 true (get1 (bin .leq v11 (.int .i64 (.ofNat 11))) fun v13 =>
 some (v13, h12)) (some (.tup [], h12))) fun v14 h15 =>
 pickB v6 v14 (.bool false) fun v16 =>
 some (v16, h15)
theorem b114 (n : Nat) (rec : Rec) (a0 : AV) (h : Heap) : bodyR Go.Proofs.Tryz.prog (tabs n) rec 114 [a0] h = c114 n rec a0 h := by kernel_rfl
-- (*detent·timer.Timers).Catch
def c127 (_n : Nat) (rec : Rec) (a0 : AV) (a1 : AV) (a2 : AV) (h : Heap) : Out :=
 yes false (aeqP a0 .nilp) fun v1 =>
 tst v1
 (some (.nils, h))
 (nil? a0 fun v2 =>
 fa 1 v2 fun v3 =>
 ld h v3 fun v4 =>
 callv rec (.func 191 [] []) [v4, a1, a2] h fun v5 h6 =>
 nil? a0 fun v7 =>
 fa 0 v7 fun v8 =>
 ld h6 v8 fun v9 =>
 callv rec (.func 192 [] []) [v9, a1, v5] h6 fun v10 h11 =>
 some (v5, h11))
theorem b127 (n : Nat) (rec : Rec) (a0 : AV) (a1 : AV) (a2 : AV) (h : Heap) : bodyR Go.Proofs.Tryz.prog (tabs n) rec 127 [a0, a1, a2] h = c127 n rec a0 a1 a2 h := by kernel_rfl
-- (*detent·kernel.Kernel).first
def c129 (_n : Nat) (rec : Rec) (a0 : AV) (a1 : AV) (h : Heap) : Out :=
 nil? a0 fun v1 =>
 fa 23 v1 fun v2 =>
 ixA 32 1 v2 a1 fun v3 =>
 ld h v3 fun v4 =>
 nil? v4 fun v5 =>
 fa 7 v5 fun v6 =>
 ld h v6 fun v7 =>
 tst v7
 (some ((.int .i64 (.ofNat 0)), h))
 (bnd (nil? a0 fun v8 =>
 some (v8, h)) fun v9 h10 =>
 bnd (fa 18 v9 fun v11 =>
 some (v11, h10)) fun v12 h13 =>
 bnd (ld h13 v12 fun v14 =>
 some (v14, h13)) fun v15 h16 =>
 bnd (nil? v4 fun v17 =>
 some (v17, h16)) fun v18 h19 =>
 bnd (fa 1 v18 fun v20 =>
 some (v20, h19)) fun v21 h22 =>
 bnd (fa 1 v21 fun v23 =>
 some (v23, h22)) fun v24 h25 =>
 bnd (ld h25 v24 fun v26 =>
 some (v26, h25)) fun v27 h28 =>
 bnd (nil? v4 fun v29 =>
 some (v29, h28)) fun v30 h31 =>
 bnd (fa 1 v30 fun v32 =>
 some (v32, h31)) fun v33 h34 =>
 bnd (fa 2 v33 fun v35 =>
 some (v35, h34)) fun v36 h37 =>
 bnd (ld h37 v36 fun v38 =>
 some (v38, h37)) fun v39 h40 =>
 bnd (callv rec (.func 200 [] []) [v15, v27, v39] h40 fun v41 h42 =>
 some (v41, h42)) fun v43 h44 =>
 yes true (aeqI v43 (.int .i64 (.ofNat 0))) fun v45 =>
 tst v45
 (nil? v4 fun v46 =>
 fa 1 v46 fun v47 =>
 fa 2 v47 fun v48 =>
 ld h44 v48 fun v49 =>
 getL (cellsOf a1) fun u50 => bif Nat.beq u50.length 1 then getL (over [(.int .u64 (.ofNat 0)), (.int .i64 (.ofNat 8)), (.int .i64 (.ofNat 0)), (.int .i64 (.ofNat 0)), (.int .u64 (.ofNat 0))] 2 u50) fun u51 => getL (cellsOf v49) fun u52 => bif Nat.beq u52.length 1 then getL (over u51 3 u52) fun u53 => getL (cellsOf (.agg u53)) fun u54 => bif Nat.beq u54.length 5 then getL (over [(.int .u64 (.ofNat 0)), (.int .i64 (.ofNat 0)), (.int .i64 (.ofNat 0)), (.int .i64 (.ofNat 0)), (.int .u64 (.ofNat 0))] 0 u54) fun u55 => mkSlice h44 u55 1 5 (some 1) fun v56 h57 =>
 callv rec (.func 32 [] []) [a0, v56] h57 fun v58 h59 =>
 nil? a0 fun v60 =>
 fa 23 v60 fun v61 =>
 ixA 32 1 v61 a1 fun v62 =>
 st h59 v62 .nilp fun h63 =>
 some (v43, h63) else none else none else none)
 (nil? v4 fun v64 =>
 fa 7 v64 fun v65 =>
 st h44 v65 (.bool true) fun h66 =>
 nil? v4 fun v67 =>
 fa 1 v67 fun v68 =>
 fa 2 v68 fun v69 =>
 ld h66 v69 fun v70 =>
 callv rec (.func 199 [] []) [a0, a1, v70] h66 fun v71 h72 =>
 bnd (nil? v4 fun v73 =>
 some (v73, h72)) fun v74 h75 =>
 bnd (fa 1 v74 fun v76 =>
 some (v76, h75)) fun v77 h78 =>
 bnd (fa 2 v77 fun v79 =>
 some (v79, h78)) fun v80 h81 =>
 bnd (ld h81 v80 fun v82 =>
 some (v82, h81)) fun v83 h84 =>
 bnd (nil? v4 fun v85 =>
 some (v85, h84)) fun v86 h87 =>
 bnd (fa 1 v86 fun v88 =>
 some (v88, h87)) fun v89 h90 =>
 bnd (fa 1 v89 fun v91 =>
 some (v91, h90)) fun v92 h93 =>
 bnd (ld h93 v92 fun v94 =>
 some (v94, h93)) fun v95 h96 =>
 bnd (cvI .u64 v95 fun v97 =>
 some (v97, h96)) fun v98 h99 =>
 bnd (getL (cellsOf a1) fun u100 => bif Nat.beq u100.length 1 then getL (over [(.int .u64 (.ofNat 0)), (.int .i64 (.ofNat 3)), (.int .i64 (.ofNat 0)), (.int .i64 (.ofNat 0)), (.int .u64 (.ofNat 0))] 2 u100) fun u101 => getL (cellsOf v83) fun u102 => bif Nat.beq u102.length 1 then getL (over u101 3 u102) fun u103 => getL (cellsOf v98) fun u104 => bif Nat.beq u104.length 1 then getL (over u103 4 u104) fun u105 => some ((.agg u105), h99) else none else none else none) fun v106 h107 =>
 bnd (getL (cellsOf v106) fun u108 => bif Nat.beq u108.length 5 then getL (over [(.int .u64 (.ofNat 0)), (.int .i64 (.ofNat 0)), (.int .i64 (.ofNat 0)), (.int .i64 (.ofNat 0)), (.int .u64 (.ofNat 0))] 0 u108) fun u109 => mkSlice h107 u109 1 5 (some 1) fun v110 h111 =>
 some (v110, h111) else none) fun v112 h113 =>
 bnd (callv rec (.func 32 [] []) [a0, v112] h113 fun v114 h115 =>
 some (v114, h115)) fun v116 h117 =>
 some ((.int .i64 (.ofNat 0)), h117)))
theorem b129 (n : Nat) (rec : Rec) (a0 : AV) (a1 : AV) (h : Heap) : bodyR Go.Proofs.Tryz.prog (tabs n) rec 129 [a0, a1] h = c129 n rec a0 a1 h := by kernel_rfl
-- (*detent·kernel.Kernel).turn
def c130 (n : Nat) (rec : Rec) (a0 : AV) (a1 : AV) (h : Heap) : Out :=
 nil? a0 fun v1 =>
 fa 23 v1 fun v2 =>
 ixA 32 1 v2 a1 fun v3 =>
 ld h v3 fun v4 =>
 joinPt (fun w6 h7 => un w6 fun v8 l9 => un l9 fun v10 l11 => un l11 fun v12 l13 => nil? v12 fun v14 =>
 fa 0 v14 fun v15 =>
 ld h7 v15 fun v16 =>
 callv rec (.func 203 [] []) [v16] h7 fun v17 h18 =>
 tst v17
 (callv rec (.func 204 [] []) [v8, v10, v12] h18 fun v19 h20 =>
 some (.tup [], h20))
 (some (.tup [], h18))) fun J5 =>
 iter n (fun nx21 w22 h23 => un w22 fun v24 l25 => un l25 fun v26 l27 => un l27 fun v28 l29 => un l29 fun v30 l31 => un l31 fun v32 l33 => un l33 fun v34 l35 => un l35 fun v36 l37 => un l37 fun v38 l39 => un l39 fun v40 l41 => un l41 fun v42 l43 => get1 (bin .lss v30 (.int .i64 (.ofNat 8))) fun v44 =>
 tst v44
 (nil? v28 fun v45 =>
 fa 0 v45 fun v46 =>
 ld h23 v46 fun v47 =>
 callv rec (.func 201 [] []) [v47, (.int .i64 (.ofNat 1))] h23 fun v48 h49 =>
 mk h49 [(.int .i64 (.ofNat 0)), (.int .i64 (.ofNat 0)), (.int .i64 (.ofNat 0)), (.bool false), (.int .i64 (.ofNat 0)), (.int .i64 (.ofNat 0)), (.int .i64 (.ofNat 0)), (.int .u64 (.ofNat 0)), (.bool false), (.int .i64 (.ofNat 0)), (.int .i64 (.ofNat 0)), (.int .i64 (.ofNat 0)), (.int .u64 (.ofNat 0)), (.bool false), (.int .i64 (.ofNat 0)), (.int .i64 (.ofNat 0)), (.int .i64 (.ofNat 0)), (.int .u64 (.ofNat 0)), (.bool false), (.int .i64 (.ofNat 0)), (.int .i64 (.ofNat 0)), (.int .i64 (.ofNat 0)), (.int .u64 (.ofNat 0)), (.bool false), (.int .i64 (.ofNat 0)), (.int .i64 (.ofNat 0)), (.int .i64 (.ofNat 0)), (.int .u64 (.ofNat 0)), (.bool false), (.int .i64 (.ofNat 0)), (.int .i64 (.ofNat 0)), (.int .i64 (.ofNat 0)), (.int .u64 (.ofNat 0)), (.int .u64 (.ofNat 0))] fun v50 h51 =>
 stn 34 h51 v50 v48 fun h52 =>
 fa 0 v50 fun v53 =>
 ld h52 v53 fun v54 =>
 get1 (bin .geq v54 (.int .i64 (.ofNat 2))) fun v55 =>
 bnd (wantV v55 true (some (v24, h52)) (some (.tup [], h52))) fun v56 h57 =>
 bnd (wantV v55 true (some (v26, h57)) (some (.tup [], h57))) fun v58 h59 =>
 bnd (wantV v55 true (some (v28, h59)) (some (.tup [], h59))) fun v60 h61 =>
 bnd (wantV v55 true (ldn 34 h61 v50 fun v62 =>
 some (v62, h61)) (some (.tup [], h61))) fun v63 h64 =>
 bnd (wantV v55 true (callv rec (.func 202 [] []) [v56, v58, v60, v63] h64 fun v65 h66 =>
 some (v65, h66)) (some (.tup [], h64))) fun v67 h68 =>
 bnd (wantV v55 true (get1 (una .not v67) fun v69 =>
 some (v69, h68)) (some (.tup [], h68))) fun v70 h71 =>
 pickB v55 v70 (.bool false) fun v72 =>
 tst v72
 (J5 [v24, v26, v28] h71)
 (nil? v28 fun v73 =>
 fa 0 v73 fun v74 =>
 ld h71 v74 fun v75 =>
 callv rec (.func 203 [] []) [v75] h71 fun v76 h77 =>
 tst v76
 (J5 [v24, v26, v28] h77)
 (get1 (bin .add v30 (.int .i64 (.ofNat 1))) fun v78 =>
 nx21 [v24, v26, v28, v78, v56, v58, v60, v63, v67, v70] h77)))
 (J5 [v24, v26, v28] h23)) [a0, a1, v4, (.int .i64 (.ofNat 0)), .bot, .bot, .bot, .bot, .bot, .bot] h
theorem b130 (n : Nat) (rec : Rec) (a0 : AV) (a1 : AV) (h : Heap) : bodyR Go.Proofs.Tryz.prog (tabs n) rec 130 [a0, a1] h = c130 n rec a0 a1 h := by kernel_rfl
-- (*detent·kernel.Kernel).wake
def c131 (_n : Nat) (rec : Rec) (a0 : AV) (a1 : AV) (h : Heap) : Out :=
 callv rec (.func 91 [] []) [a0, a1] h fun v1 h2 =>
 callf rec v1 [.yield h2.next] (h2.push (.loop 131002 [] 0 .normal)) fun v4 h3 => loopAt h3 h2.next 131002 fun w5 v6 p7 => bif Nat.beq v6 1 then none else leaveP p7 (some (.tup [], (h3.set h2.next (.loop 131002 w5 3 p7)))) none fun i8 => none
theorem b131 (n : Nat) (rec : Rec) (a0 : AV) (a1 : AV) (h : Heap) : bodyR Go.Proofs.Tryz.prog (tabs n) rec 131 [a0, a1] h = c131 n rec a0 a1 h := by kernel_rfl
def y131002 (_n : Nat) (_rec : Rec) (l : Nat) (_vs args : List AV) (h : Heap) : Out :=
 bif Nat.beq args.length 2 then un args fun v1 l2 => un l2 fun v3 l4 => loopAt h l 131002 fun w5 v6 p7 => bif Nat.beq v6 0 then nil? v3 fun v8 =>
 fa 1 v8 fun v9 =>
 fa 3 v9 fun v10 =>
 st (h.set l (.loop 131002 w5 1 p7)) v10 (.int .i64 (.ofNat 0)) fun h11 =>
 nil? v3 fun v12 =>
 fa 1 v12 fun v13 =>
 fa 4 v13 fun v14 =>
 st h11 v14 (.int .i64 (.ofNat 0)) fun h15 =>
 loopAt h15 l 131002 fun w16 v17 p18 => some (.bool true, h15.set l (.loop 131002 w16 0 .normal)) else none else none
theorem r131002 (n : Nat) (rec : Rec) (l : Nat) (vs args : List AV) (h : Heap) : roundS Go.Proofs.Tryz.prog (tabs n) rec l 131002 vs args h = y131002 n rec l vs args h := by kernel_rfl
-- detent·isa.Parse
def c134 (n : Nat) (rec : Rec) (a0 : AV) (h : Heap) : Out :=
 iter n (fun nx1 w2 h3 => un w2 fun v4 l5 => un l5 fun v6 l7 => lenS v4 fun v8 =>
 get1 (bin .geq v8 (.int .i64 (.ofNat 8))) fun v9 =>
 tst v9
 (slS 1 v4 none (some (.int .i64 (.ofNat 8))) (some (.int .i64 (.ofNat 8))) fun v10 =>
 callv rec (.func 205 [] []) [v10] h3 fun v11 h12 =>
 mk h12 [(.int .i64 (.ofNat 0)), (.int .i64 (.ofNat 0)), (.int .i64 (.ofNat 0)), (.int .i64 (.ofNat 0)), (.int .i64 (.ofNat 0))] fun v13 h14 =>
 stn 5 h14 v13 v11 fun h15 =>
 ldn 5 h15 v13 fun v16 =>
 callv rec (.func 92 [] []) [v16] h15 fun v17 h18 =>
 yes true (aeqI v17 (.int .i64 (.ofNat 0))) fun v19 =>
 tst v19
 (lenS v6 fun v20 =>
 some (.tup [.nils, v20, v17], h18))
 (ldn 5 h18 v13 fun v21 =>
 getL (cellsOf v21) fun u22 => bif Nat.beq u22.length 5 then getL (over [(.int .i64 (.ofNat 0)), (.int .i64 (.ofNat 0)), (.int .i64 (.ofNat 0)), (.int .i64 (.ofNat 0)), (.int .i64 (.ofNat 0))] 0 u22) fun u23 => mkSlice h18 u23 1 5 (some 1) fun v24 h25 =>
 app 5 40 h25 v6 v24 fun v26 h27 =>
 slS 1 v4 (some (.int .i64 (.ofNat 8))) none none fun v28 =>
 nx1 [v28, v26] h27 else none))
 (lenS v4 fun v29 =>
 get1 (bin .gtr v29 (.int .i64 (.ofNat 0))) fun v30 =>
 tst v30
 (lenS v6 fun v31 =>
 some (.tup [.nils, v31, (.int .i64 (.ofNat 10))], h3))
 (some (.tup [v6, (.int .i64 (.ofNat 0)), (.int .i64 (.ofNat 0))], h3)))) [a0, .nils] h
theorem b134 (n : Nat) (rec : Rec) (a0 : AV) (h : Heap) : bodyR Go.Proofs.Tryz.prog (tabs n) rec 134 [a0] h = c134 n rec a0 h := by kernel_rfl
-- detent·check.Check
def c135 (n : Nat) (rec : Rec) (a0 : AV) (h : Heap) : Out :=
 getL (cellsOf a0) fun u1 => mk h u1 fun v2 h3 =>
 fa 0 v2 fun v4 =>
 ld h3 v4 fun v5 =>
 lenS v5 fun v6 =>
 yes false (aeqI v6 (.int .i64 (.ofNat 0))) fun v7 =>
 bnd (wantV v7 false (fa 0 v2 fun v8 =>
 some (v8, h3)) (some (.tup [], h3))) fun v9 h10 =>
 bnd (wantV v7 false (ld h10 v9 fun v11 =>
 some (v11, h10)) (some (.tup [], h10))) fun v12 h13 =>
 bnd (wantV v7 false (lenS v12 fun v14 =>
 some (v14, h13)) (some (.tup [], h13))) fun v15 h16 =>
 bnd (wantV v7 false (get1 (bin .gtr v15 (.int .i64 (.ofNat 64))) fun v17 =>
 some (v17, h16)) (some (.tup [], h16))) fun v18 h19 =>
 pickB v7 (.bool true) v18 fun v20 =>
 tst v20
 (some (.tup [(.int .i64 (.ofNat 0)), (.int .i64 (.ofNat 8))], h19))
 (mk h19 [(.int .u64 (.ofNat 0))] fun v21 h22 =>
 st h22 v21 (.int .u64 (.ofNat 0)) fun h23 =>
 mkSlice h23 [(.func 206 [] [v2]), (.func 207 [] [v2]), (.func 209 [] [v21])] 3 1 (some 3) fun v24 h25 =>
 joinPt (fun w27 h28 => un w27 fun v29 l30 => un l30 fun v31 l32 => some (.tup [v29, v31], h28)) fun J26 =>
 lenS v24 fun v33 =>
 iter n (fun nx34 w35 h36 => un w35 fun v37 l38 => un l38 fun v39 l40 => un l40 fun v41 l42 => un l42 fun v43 l44 => un l44 fun v45 l46 => un l46 fun v47 l48 => un l48 fun v49 l50 => un l50 fun v51 l52 => get1 (bin .lss v51 v49) fun v53 =>
 tst v53
 (ixS 1 v47 v51 fun v54 =>
 ld h36 v54 fun v55 =>
 joinPt (fun w57 h58 => un w57 fun v59 l60 => un l60 fun v61 l62 => un l62 fun v63 l64 => un l64 fun v65 l66 => un l66 fun v67 l68 => un l68 fun v69 l70 => un l70 fun v71 l72 => un l72 fun v73 l74 => un l74 fun v75 l76 => fa 0 v59 fun v77 =>
 ld h58 v77 fun v78 =>
 lenS v78 fun v79 =>
 iter n (fun nx80 w81 h82 => un w81 fun v83 l84 => un l84 fun v85 l86 => un l86 fun v87 l88 => un l88 fun v89 l90 => un l90 fun v91 l92 => un l92 fun v93 l94 => un l94 fun v95 l96 => un l96 fun v97 l98 => un l98 fun v99 l100 => un l100 fun v101 l102 => un l102 fun v103 l104 => get1 (bin .lss v103 v101) fun v105 =>
 tst v105
 (callv rec v93 [v103] h82 fun v106 h107 =>
 yes true (aeqI v106 (.int .i64 (.ofNat 0))) fun v108 =>
 tst v108
 (J26 [v103, v106] h107)
 (get1 (bin .add v103 (.int .i64 (.ofNat 1))) fun v109 =>
 nx80 [v83, v85, v87, v89, v91, v93, v95, v97, v99, v101, v109] h107))
 (get1 (bin .add v99 (.int .i64 (.ofNat 1))) fun v110 =>
 nx34 [v83, v85, v87, v89, v91, v95, v97, v110] h82)) [v59, v61, v63, v65, v67, v69, v71, v73, v75, v79, (.int .i64 (.ofNat 0))] h58) fun J56 =>
 lenS v41 fun v111 =>
 get1 (bin .sub v111 (.int .i64 (.ofNat 1))) fun v112 =>
 yes false (aeqI v51 v112) fun v113 =>
 tst v113
 (fa 0 v37 fun v114 =>
 ld h36 v114 fun v115 =>
 callv rec (.func 211 [] []) [v115] h36 fun v116 h117 =>
 st h117 v39 v116 fun h118 =>
 J56 [v37, v39, v41, v43, v45, v55, v47, v49, v51] h118)
 (J56 [v37, v39, v41, v43, v45, v55, v47, v49, v51] h36))
 (J26 [v43, v45] h36)) [v2, v21, v24, (.int .i64 (.ofNat 0)), (.int .i64 (.ofNat 0)), v24, v33, (.int .i64 (.ofNat 0))] h25)
theorem b135 (n : Nat) (rec : Rec) (a0 : AV) (h : Heap) : bodyR Go.Proofs.Tryz.prog (tabs n) rec 135 [a0] h = c135 n rec a0 h := by kernel_rfl
-- slices.Index[[]*detent·check.Prog,*detent·check.Prog]
def c136 (n : Nat) (_rec : Rec) (a0 : AV) (a1 : AV) (h : Heap) : Out :=
 lenS a0 fun v1 =>
 iter n (fun nx2 w3 h4 => un w3 fun v5 l6 => un l6 fun v7 l8 => un l8 fun v9 l10 => un l10 fun v11 l12 => get1 (bin .lss v11 v9) fun v13 =>
 tst v13
 (ixS 1 v5 v11 fun v14 =>
 ld h4 v14 fun v15 =>
 yes false (aeqP v7 v15) fun v16 =>
 tst v16
 (some (v11, h4))
 (get1 (bin .add v11 (.int .i64 (.ofNat 1))) fun v17 =>
 nx2 [v5, v7, v9, v17] h4))
 (some ((.int .i64 (.negSucc 0)), h4))) [a0, a1, v1, (.int .i64 (.ofNat 0))] h
theorem b136 (n : Nat) (rec : Rec) (a0 : AV) (a1 : AV) (h : Heap) : bodyR Go.Proofs.Tryz.prog (tabs n) rec 136 [a0, a1] h = c136 n rec a0 a1 h := by kernel_rfl
-- (*detent·kernel.Kernel).empty
def c139 (_n : Nat) (rec : Rec) (a0 : AV) (h : Heap) : Out :=
 nil? a0 fun v1 =>
 fa 23 v1 fun v2 =>
 slA 32 1 h v2 none none none fun v3 =>
 callv rec (.func 213 [] []) [v3, .nilp] h fun v4 h5 =>
 some (v4, h5)
theorem b139 (n : Nat) (rec : Rec) (a0 : AV) (h : Heap) : bodyR Go.Proofs.Tryz.prog (tabs n) rec 139 [a0] h = c139 n rec a0 h := by kernel_rfl
-- detent·vm.New
def c140 (_n : Nat) (rec : Rec) (a0 : AV) (a1 : AV) (a2 : AV) (h : Heap) : Out :=
 getL (cellsOf a0) fun u1 => mk h u1 fun v2 h3 =>
 ldn 2 h3 v2 fun v4 =>
 callv rec (.func 135 [] []) [v4] h3 fun v5 h6 =>
 ext v5 0 fun v7 =>
 ext v5 1 fun v8 =>
 yes true (aeqI v8 (.int .i64 (.ofNat 0))) fun v9 =>
 tst v9
 (some (.tup [.nilp, v8], h6))
 (get1 (bin .lss a1 (.int .i64 (.ofNat 1))) fun v10 =>
 bnd (wantV v10 false (some (a1, h6)) (some (.tup [], h6))) fun v11 h12 =>
 bnd (wantV v10 false (get1 (bin .gtr v11 (.int .i64 (.ofNat 256))) fun v13 =>
 some (v13, h12)) (some (.tup [], h12))) fun v14 h15 =>
 pickB v10 (.bool true) v14 fun v16 =>
 tst v16
 (some (.tup [.nilp, (.int .i64 (.ofNat 2))], h15))
 (callv rec (.func 214 [] []) [a2] h15 fun v17 h18 =>
 ext v17 0 fun v19 =>
 ext v17 1 fun v20 =>
 yes true (aeqI v20 (.int .i64 (.ofNat 0))) fun v21 =>
 tst v21
 (some (.tup [.nilp, v20], h18))
 (fa 0 v2 fun v22 =>
 ld h18 v22 fun v23 =>
 callv rec (.func 33 [] []) [v23] h18 fun v24 h25 =>
 getL (cellsOf v19) fun u26 => bif Nat.beq u26.length 1 then getL (over [.nilp, .nils, (.int .i64 (.ofNat 0)), (.int .i64 (.ofNat 0)), (.bool false), (.bool false), (.int .i64 (.ofNat 0)), (.int .i64 (.ofNat 0)), (.int .i64 (.ofNat 0)), (.bool false), (.int .i64 (.ofNat 0)), (.int .i64 (.ofNat 0)), (.int .i64 (.ofNat 0)), (.int .u64 (.ofNat 0)), (.bool false), (.int .i64 (.ofNat 0)), (.int .i64 (.ofNat 0)), (.int .i64 (.ofNat 0)), (.int .u64 (.ofNat 0)), (.bool false), (.int .i64 (.ofNat 0)), (.int .i64 (.ofNat 0)), (.int .i64 (.ofNat 0)), (.int .u64 (.ofNat 0)), (.bool false), (.int .i64 (.ofNat 0)), (.int .i64 (.ofNat 0)), (.int .i64 (.ofNat 0)), (.int .u64 (.ofNat 0)), (.bool false), (.int .i64 (.ofNat 0)), (.int .i64 (.ofNat 0)), (.int .i64 (.ofNat 0)), (.int .u64 (.ofNat 0)), (.bool false), (.int .i64 (.ofNat 0)), (.int .i64 (.ofNat 0)), (.int .i64 (.ofNat 0)), (.int .u64 (.ofNat 0)), (.int .u64 (.ofNat 0)), (.int .i64 (.ofNat 0)), (.int .u64 (.ofNat 0))] 0 u26) fun u27 => getL (cellsOf v24) fun u28 => bif Nat.beq u28.length 1 then getL (over u27 1 u28) fun u29 => getL (cellsOf a1) fun u30 => bif Nat.beq u30.length 1 then getL (over u29 3 u30) fun u31 => getL (cellsOf (.agg u31)) fun u32 => mk h25 u32 fun v33 h34 =>
 some (.tup [v33, (.int .i64 (.ofNat 0))], h34) else none else none else none)))
theorem b140 (n : Nat) (rec : Rec) (a0 : AV) (a1 : AV) (a2 : AV) (h : Heap) : bodyR Go.Proofs.Tryz.prog (tabs n) rec 140 [a0, a1, a2] h = c140 n rec a0 a1 a2 h := by kernel_rfl
-- detent·frame.Num
def c141 (_n : Nat) (_rec : Rec) (a0 : AV) (h : Heap) : Out :=
 mk h [(.bool false), (.int .i64 (.ofNat 0)), (.int .i64 (.ofNat 0)), (.int .i64 (.ofNat 0)), (.int .u64 (.ofNat 0))] fun v1 h2 =>
 getL (cellsOf a0) fun u3 => bif Nat.beq u3.length 1 then getL (over [(.bool false), (.int .i64 (.ofNat 0)), (.int .i64 (.ofNat 0)), (.int .i64 (.ofNat 0)), (.int .u64 (.ofNat 0))] 4 u3) fun u4 => stn 5 h2 v1 (.agg u4) fun h5 =>
 ldn 5 h5 v1 fun v6 => some (v6, h5) else none
theorem b141 (n : Nat) (rec : Rec) (a0 : AV) (h : Heap) : bodyR Go.Proofs.Tryz.prog (tabs n) rec 141 [a0] h = c141 n rec a0 h := by kernel_rfl
-- (*detent·grace.Grace).inner
def c142 (_n : Nat) (_rec : Rec) (a0 : AV) (h : Heap) : Out :=
 yes false (aeqP a0 .nilp) fun v1 =>
 tst v1
 (some (.nilp, h))
 (nil? a0 fun v2 =>
 fa 0 v2 fun v3 =>
 ld h v3 fun v4 =>
 some (v4, h))
theorem b142 (n : Nat) (rec : Rec) (a0 : AV) (h : Heap) : bodyR Go.Proofs.Tryz.prog (tabs n) rec 142 [a0] h = c142 n rec a0 h := by kernel_rfl
-- (*detent·sect.Sections).Enter
def c143 (n : Nat) (rec : Rec) (a0 : AV) (a1 : AV) (h : Heap) : Out :=
 yes false (aeqP a0 .nilp) fun v1 =>
 tst v1
 (some ((.int .i64 (.ofNat 6)), h))
 (lenS a1 fun v2 =>
 iter n (fun nx3 w4 h5 => un w4 fun v6 l7 => un l7 fun v8 l9 => un l9 fun v10 l11 => un l11 fun v12 l13 => get1 (bin .lss v12 v10) fun v14 =>
 tst v14
 (ixS 1 v8 v12 fun v15 =>
 ld h5 v15 fun v16 =>
 callv rec (.func 215 [] []) [v6, v16] h5 fun v17 h18 =>
 yes true (aeqI v17 (.int .i64 (.ofNat 0))) fun v19 =>
 tst v19
 (some (v17, h18))
 (get1 (bin .add v12 (.int .i64 (.ofNat 1))) fun v20 =>
 nx3 [v6, v8, v10, v20] h18))
 (some ((.int .i64 (.ofNat 0)), h5))) [a0, a1, v2, (.int .i64 (.ofNat 0))] h)
theorem b143 (n : Nat) (rec : Rec) (a0 : AV) (a1 : AV) (h : Heap) : bodyR Go.Proofs.Tryz.prog (tabs n) rec 143 [a0, a1] h = c143 n rec a0 a1 h := by kernel_rfl
-- (*detent·sect.Sections).Exit
def c144 (_n : Nat) (rec : Rec) (a0 : AV) (a1 : AV) (h : Heap) : Out :=
 callv rec (.func 216 [] []) [a0, a1] h fun v1 h2 =>
 ext v1 0 fun v3 =>
 ext v1 1 fun v4 =>
 yes true (aeqI v4 (.int .i64 (.ofNat 0))) fun v5 =>
 tst v5
 (some (.tup [(.bool false), v4], h2))
 (nil? v3 fun v6 =>
 fa 0 v6 fun v7 =>
 ld h2 v7 fun v8 =>
 yes false (aeqI v8 (.int .i64 (.ofNat 0))) fun v9 =>
 tst v9
 (some (.tup [(.bool false), (.int .i64 (.ofNat 6))], h2))
 (nil? v3 fun v10 =>
 fa 0 v10 fun v11 =>
 ld h2 v11 fun v12 =>
 get1 (bin .sub v12 (.int .i64 (.ofNat 1))) fun v13 =>
 nil? v3 fun v14 =>
 fa 0 v14 fun v15 =>
 st h2 v15 v13 fun h16 =>
 nil? v3 fun v17 =>
 fa 0 v17 fun v18 =>
 ld h16 v18 fun v19 =>
 get1 (bin .gtr v19 (.int .i64 (.ofNat 0))) fun v20 =>
 tst v20
 (some (.tup [(.bool false), (.int .i64 (.ofNat 0))], h16))
 (nil? v3 fun v21 =>
 fa 1 v21 fun v22 =>
 st h16 v22 (.int .i64 (.ofNat 0)) fun h23 =>
 nil? a0 fun v24 =>
 fa 128 v24 fun v25 =>
 ld h23 v25 fun v26 =>
 getL (cellsOf a1) fun u27 => bif Nat.beq u27.length 1 then getL (over [(.int .i64 (.ofNat 0))] 0 u27) fun u28 => mkSlice h23 u28 1 1 (some 1) fun v29 h30 =>
 callv rec (.func 217 [] []) [v26, v29] h30 fun v31 h32 =>
 nil? a0 fun v33 =>
 fa 128 v33 fun v34 =>
 st h32 v34 v31 fun h35 =>
 some (.tup [(.bool true), (.int .i64 (.ofNat 0))], h35) else none)))
theorem b144 (n : Nat) (rec : Rec) (a0 : AV) (a1 : AV) (h : Heap) : bodyR Go.Proofs.Tryz.prog (tabs n) rec 144 [a0, a1] h = c144 n rec a0 a1 h := by kernel_rfl
end Go.Ai
