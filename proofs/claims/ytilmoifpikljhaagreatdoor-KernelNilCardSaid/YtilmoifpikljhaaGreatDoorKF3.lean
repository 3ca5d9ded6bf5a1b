/-
  WHAT FUNCTIONS COME TO, part 6: each one's body, types, slots and orders reckoned out, and that it is so.
-/
import Derived.Test.YtilmoifpikljhaaGreatDoorKTabs
import Derived.KernelRfl
set_option linter.unusedVariables false
set_option linter.unusedSimpArgs false
namespace Go.Ai
open Go
set_option maxRecDepth 100000
-- detent·isa.by
def c236 (_n : Nat) (rec : Rec) (a0 : AV) (h : Heap) : Out :=
 callv rec (.func 159 [] []) [a0] h fun v1 h2 =>
 yes false (aeqI v1 (.int .i64 (.ofNat 1))) fun v3 =>
 bnd (wantV v3 true (some (a0, h2)) (some (.tup [], h2))) fun v4 h5 =>
 bnd (wantV v3 true (get1 (bin .geq v4 (.int .i64 (.ofNat 16))) fun v6 =>
 some (v6, h5)) (some (.tup [], h5))) fun v7 h8 =>
 pickB v3 v7 (.bool false) fun v9 =>
 bnd (wantV v9 false (some (a0, h8)) (some (.tup [], h8))) fun v10 h11 =>
 bnd (wantV v9 false (callv rec (.func 159 [] []) [v10] h11 fun v12 h13 =>
 some (v12, h13)) (some (.tup [], h11))) fun v14 h15 =>
 bnd (wantV v9 false (yes false (aeqI v14 (.int .i64 (.ofNat 2))) fun v16 =>
 some (v16, h15)) (some (.tup [], h15))) fun v17 h18 =>
 bnd (wantV v9 false (some (v17, h18)) (some (.tup [], h18))) fun v19 h20 =>
 bnd (wantV v19 true (some (a0, h20)) (some (.tup [], h20))) fun v21 h22 =>
 bnd (wantV v19 true (get1 (bin .geq v21 (.int .i64 (.ofNat 48))) fun v23 =>
 some (v23, h22)) (some (.tup [], h22))) fun v24 h25 =>
 bnd (wantV v9 false (pickB v19 v24 (.bool false) fun v26 =>
 some (v26, h25)) (some (.tup [], h25))) fun v27 h28 =>
 pickB v9 (.bool true) v27 fun v29 =>
 some (v29, h28)
theorem b236 (n : Nat) (rec : Rec) (a0 : AV) (h : Heap) : bodyR Go.Proofs.Tryz.prog (tabs n) rec 236 [a0] h = c236 n rec a0 h := by kernel_rfl
-- detent·pend.thing
def c238 (_n : Nat) (_rec : Rec) (a0 : AV) (h : Heap) : Out :=
 get1 (bin .geq a0 (.int .i64 (.ofNat 0))) fun v1 =>
 bnd (wantV v1 true (some (a0, h)) (some (.tup [], h))) fun v2 h3 =>
 bnd (wantV v1 true (get1 (bin .lss v2 (.int .i64 (.ofNat 256))) fun v4 =>
 some (v4, h3)) (some (.tup [], h3))) fun v5 h6 =>
 pickB v1 v5 (.bool false) fun v7 =>
 some (v7, h6)
theorem b238 (n : Nat) (rec : Rec) (a0 : AV) (h : Heap) : bodyR Go.Proofs.Tryz.prog (tabs n) rec 238 [a0] h = c238 n rec a0 h := by kernel_rfl
-- (detent·mask.Mask).all$1
def c244 (n : Nat) (rec : Rec) (a0 : AV) (a1 : AV) (h : Heap) : Out :=
 ld h a1 fun v1 =>
 iter n (fun nx2 w3 h4 => un w3 fun v5 l6 => un l6 fun v7 l8 => yes true (aeqI v7 (.int .u64 (.ofNat 0))) fun v9 =>
 tst v9
 (callv rec (.func 245 [] []) [v7] h4 fun v10 h11 =>
 callv rec v5 [v10] h11 fun v12 h13 =>
 get1 (una .not v12) fun v14 =>
 tst v14
 (some (.tup [], h13))
 (get1 (bin .sub v7 (.int .u64 (.ofNat 1))) fun v15 =>
 get1 (bin .and v7 v15) fun v16 =>
 nx2 [v5, v16] h13))
 (some (.tup [], h4))) [a0, v1] h
theorem b244 (n : Nat) (rec : Rec) (a0 : AV) (a1 : AV) (h : Heap) : bodyR Go.Proofs.Tryz.prog (tabs n) rec 244 [a0, a1] h = c244 n rec a0 a1 h := by kernel_rfl
-- (*detent·bank.Bank).of
def c267 (_n : Nat) (_rec : Rec) (a0 : AV) (a1 : AV) (h : Heap) : Out :=
 yes false (aeqP a0 .nilp) fun v1 =>
 bnd (wantV v1 false (some (a1, h)) (some (.tup [], h))) fun v2 h3 =>
 bnd (wantV v1 false (get1 (bin .lss v2 (.int .i64 (.ofNat 0))) fun v4 =>
 some (v4, h3)) (some (.tup [], h3))) fun v5 h6 =>
 pickB v1 (.bool true) v5 fun v7 =>
 bnd (wantV v7 false (some (a1, h6)) (some (.tup [], h6))) fun v8 h9 =>
 bnd (wantV v7 false (some (a0, h9)) (some (.tup [], h9))) fun v10 h11 =>
 bnd (wantV v7 false (nil? v10 fun v12 =>
 some (v12, h11)) (some (.tup [], h11))) fun v13 h14 =>
 bnd (wantV v7 false (fa 0 v13 fun v15 =>
 some (v15, h14)) (some (.tup [], h14))) fun v16 h17 =>
 bnd (wantV v7 false (ld h17 v16 fun v18 =>
 some (v18, h17)) (some (.tup [], h17))) fun v19 h20 =>
 bnd (wantV v7 false (lenS v19 fun v21 =>
 some (v21, h20)) (some (.tup [], h20))) fun v22 h23 =>
 bnd (wantV v7 false (get1 (bin .geq v8 v22) fun v24 =>
 some (v24, h23)) (some (.tup [], h23))) fun v25 h26 =>
 pickB v7 (.bool true) v25 fun v27 =>
 tst v27
 (some (.nilp, h26))
 (nil? a0 fun v28 =>
 fa 0 v28 fun v29 =>
 ld h26 v29 fun v30 =>
 ixS 1 v30 a1 fun v31 =>
 ld h26 v31 fun v32 =>
 some (v32, h26))
theorem b267 (n : Nat) (rec : Rec) (a0 : AV) (a1 : AV) (h : Heap) : bodyR Go.Proofs.Tryz.prog (tabs n) rec 267 [a0, a1] h = c267 n rec a0 a1 h := by kernel_rfl
-- (*detent·wheel.Wheel).To
def c268 (n : Nat) (rec : Rec) (a0 : AV) (a1 : AV) (h : Heap) : Out :=
 yes false (aeqP a0 .nilp) fun v1 =>
 bnd (wantV v1 false (some (a1, h)) (some (.tup [], h))) fun v2 h3 =>
 bnd (wantV v1 false (some (a0, h3)) (some (.tup [], h3))) fun v4 h5 =>
 bnd (wantV v1 false (nil? v4 fun v6 =>
 some (v6, h5)) (some (.tup [], h5))) fun v7 h8 =>
 bnd (wantV v1 false (fa 0 v7 fun v9 =>
 some (v9, h8)) (some (.tup [], h8))) fun v10 h11 =>
 bnd (wantV v1 false (ld h11 v10 fun v12 =>
 some (v12, h11)) (some (.tup [], h11))) fun v13 h14 =>
 bnd (wantV v1 false (get1 (bin .leq v2 v13) fun v15 =>
 some (v15, h14)) (some (.tup [], h14))) fun v16 h17 =>
 pickB v1 (.bool true) v16 fun v18 =>
 tst v18
 (some (.nils, h17))
 (iter n (fun nx19 w20 h21 => un w20 fun v22 l23 => un l23 fun v24 l25 => un l25 fun v26 l27 => un l27 fun v28 l29 => un l29 fun v30 l31 => un l31 fun v32 l33 => callv rec (.func 349 [] []) [v22] h21 fun v34 h35 =>
 ext v34 0 fun v36 =>
 ext v34 1 fun v37 =>
 get1 (una .not v37) fun v38 =>
 bnd (wantV v38 false (some (v36, h35)) (some (.tup [], h35))) fun v39 h40 =>
 bnd (wantV v38 false (some (v24, h40)) (some (.tup [], h40))) fun v41 h42 =>
 bnd (wantV v38 false (get1 (bin .gtr v39 v41) fun v43 =>
 some (v43, h42)) (some (.tup [], h42))) fun v44 h45 =>
 pickB v38 (.bool true) v44 fun v46 =>
 tst v46
 (nil? v22 fun v47 =>
 fa 0 v47 fun v48 =>
 st h45 v48 v24 fun h49 =>
 some (v26, h49))
 (callv rec (.func 350 [] []) [v22, v36] h45 fun v50 h51 =>
 callv rec (.func 351 [] []) [v22, v50] h51 fun v52 h53 =>
 nil? v22 fun v54 =>
 fa 0 v54 fun v55 =>
 st h53 v55 v36 fun h56 =>
 app 1 8 h56 v26 v50 fun v57 h58 =>
 nx19 [v22, v24, v57, v39, v41, v44] h58)) [a0, a1, .nils, .bot, .bot, .bot] h17)
theorem b268 (n : Nat) (rec : Rec) (a0 : AV) (a1 : AV) (h : Heap) : bodyR Go.Proofs.Tryz.prog (tabs n) rec 268 [a0, a1] h = c268 n rec a0 a1 h := by kernel_rfl
-- (*detent·pend.Pend).Of
def c270 (_n : Nat) (_rec : Rec) (a0 : AV) (a1 : AV) (h : Heap) : Out :=
 yes false (aeqP a0 .nilp) fun v1 =>
 bnd (wantV v1 false (some (a1, h)) (some (.tup [], h))) fun v2 h3 =>
 bnd (wantV v1 false (get1 (bin .lss v2 (.int .i64 (.ofNat 0))) fun v4 =>
 some (v4, h3)) (some (.tup [], h3))) fun v5 h6 =>
 pickB v1 (.bool true) v5 fun v7 =>
 bnd (wantV v7 false (some (a1, h6)) (some (.tup [], h6))) fun v8 h9 =>
 bnd (wantV v7 false (get1 (bin .geq v8 (.int .i64 (.ofNat 32))) fun v10 =>
 some (v10, h9)) (some (.tup [], h9))) fun v11 h12 =>
 pickB v7 (.bool true) v11 fun v13 =>
 bnd (wantV v13 false (some (a0, h12)) (some (.tup [], h12))) fun v14 h15 =>
 bnd (wantV v13 false (some (a1, h15)) (some (.tup [], h15))) fun v16 h17 =>
 bnd (wantV v13 false (nil? v14 fun v18 =>
 some (v18, h17)) (some (.tup [], h17))) fun v19 h20 =>
 bnd (wantV v13 false (fa 257 v19 fun v21 =>
 some (v21, h20)) (some (.tup [], h20))) fun v22 h23 =>
 bnd (wantV v13 false (ixA 32 1 v22 v16 fun v24 =>
 some (v24, h23)) (some (.tup [], h23))) fun v25 h26 =>
 bnd (wantV v13 false (ld h26 v25 fun v27 =>
 some (v27, h26)) (some (.tup [], h26))) fun v28 h29 =>
 bnd (wantV v13 false (yes false (aeqI v28 (.int .i64 (.ofNat 0))) fun v30 =>
 some (v30, h29)) (some (.tup [], h29))) fun v31 h32 =>
 pickB v13 (.bool true) v31 fun v33 =>
 tst v33
 (some (.tup [(.int .i64 (.ofNat 0)), (.bool false)], h32))
 (nil? a0 fun v34 =>
 fa 257 v34 fun v35 =>
 ixA 32 1 v35 a1 fun v36 =>
 ld h32 v36 fun v37 =>
 get1 (bin .sub v37 (.int .i64 (.ofNat 1))) fun v38 =>
 some (.tup [v38, (.bool true)], h32))
theorem b270 (n : Nat) (rec : Rec) (a0 : AV) (a1 : AV) (h : Heap) : bodyR Go.Proofs.Tryz.prog (tabs n) rec 270 [a0, a1] h = c270 n rec a0 a1 h := by kernel_rfl
-- (*detent·life.Life).Classic
def c274 (_n : Nat) (_rec : Rec) (a0 : AV) (h : Heap) : Out :=
 yes false (aeqP a0 .nilp) fun v1 =>
 tst v1
 (some (.nilp, h))
 (nil? a0 fun v2 =>
 fa 12 v2 fun v3 =>
 ld h v3 fun v4 =>
 some (v4, h))
theorem b274 (n : Nat) (rec : Rec) (a0 : AV) (h : Heap) : bodyR Go.Proofs.Tryz.prog (tabs n) rec 274 [a0] h = c274 n rec a0 h := by kernel_rfl
-- (*detent·guard.Guard).is
def c275 (_n : Nat) (_rec : Rec) (a0 : AV) (a1 : AV) (h : Heap) : Out :=
 yes true (aeqP a0 .nilp) fun v1 =>
 bnd (wantV v1 true (some (a1, h)) (some (.tup [], h))) fun v2 h3 =>
 bnd (wantV v1 true (get1 (bin .geq v2 (.int .i64 (.ofNat 0))) fun v4 =>
 some (v4, h3)) (some (.tup [], h3))) fun v5 h6 =>
 pickB v1 v5 (.bool false) fun v7 =>
 bnd (wantV v7 true (some (a1, h6)) (some (.tup [], h6))) fun v8 h9 =>
 bnd (wantV v7 true (some (a0, h9)) (some (.tup [], h9))) fun v10 h11 =>
 bnd (wantV v7 true (nil? v10 fun v12 =>
 some (v12, h11)) (some (.tup [], h11))) fun v13 h14 =>
 bnd (wantV v7 true (fa 0 v13 fun v15 =>
 some (v15, h14)) (some (.tup [], h14))) fun v16 h17 =>
 bnd (wantV v7 true (ld h17 v16 fun v18 =>
 some (v18, h17)) (some (.tup [], h17))) fun v19 h20 =>
 bnd (wantV v7 true (lenS v19 fun v21 =>
 some (v21, h20)) (some (.tup [], h20))) fun v22 h23 =>
 bnd (wantV v7 true (get1 (bin .lss v8 v22) fun v24 =>
 some (v24, h23)) (some (.tup [], h23))) fun v25 h26 =>
 pickB v7 v25 (.bool false) fun v27 =>
 some (v27, h26)
theorem b275 (n : Nat) (rec : Rec) (a0 : AV) (a1 : AV) (h : Heap) : bodyR Go.Proofs.Tryz.prog (tabs n) rec 275 [a0, a1] h = c275 n rec a0 a1 h := by kernel_rfl
-- (*detent·vm.Run).one
def c276 (_n : Nat) (rec : Rec) (a0 : AV) (h : Heap) : Out :=
 nil? a0 fun v1 =>
 fa 3 v1 fun v2 =>
 ld h v2 fun v3 =>
 yes false (aeqI v3 (.int .i64 (.ofNat 0))) fun v4 =>
 tst v4
 (callv rec (.func 355 [] []) [a0, (.int .i64 (.ofNat 16))] h fun v5 h6 =>
 some (.tup [], h6))
 (nil? a0 fun v7 =>
 fa 3 v7 fun v8 =>
 ld h v8 fun v9 =>
 get1 (bin .sub v9 (.int .i64 (.ofNat 1))) fun v10 =>
 nil? a0 fun v11 =>
 fa 3 v11 fun v12 =>
 st h v12 v10 fun h13 =>
 bnd (nil? a0 fun v14 =>
 some (v14, h13)) fun v15 h16 =>
 bnd (fa 1 v15 fun v17 =>
 some (v17, h16)) fun v18 h19 =>
 bnd (ld h19 v18 fun v20 =>
 some (v20, h19)) fun v21 h22 =>
 bnd (nil? a0 fun v23 =>
 some (v23, h22)) fun v24 h25 =>
 bnd (fa 2 v24 fun v26 =>
 some (v26, h25)) fun v27 h28 =>
 bnd (ld h28 v27 fun v29 =>
 some (v29, h28)) fun v30 h31 =>
 bnd (ixS 5 v21 v30 fun v32 =>
 some (v32, h31)) fun v33 h34 =>
 bnd (ldn 5 h34 v33 fun v35 =>
 some (v35, h34)) fun v36 h37 =>
 bnd (mk h37 [(.int .i64 (.ofNat 0)), (.int .i64 (.ofNat 0)), (.int .i64 (.ofNat 0)), (.int .i64 (.ofNat 0)), (.int .i64 (.ofNat 0))] fun v38 h39 =>
 some (v38, h39)) fun v40 h41 =>
 bnd (stn 5 h41 v40 v36 fun h42 =>
 some ((.tup []), h42)) fun v43 h44 =>
 fa 0 v40 fun v45 =>
 ld h44 v45 fun v46 =>
 yes false (aeqI v46 (.int .i64 (.ofNat 73))) fun v47 =>
 tst v47
 (callv rec (.func 356 [] []) [a0, (.int .i64 (.ofNat 0))] h44 fun v48 h49 =>
 ext v48 0 fun v50 =>
 ext v48 1 fun v51 =>
 mk h49 [(.bool false), (.int .i64 (.ofNat 0)), (.int .i64 (.ofNat 0)), (.int .i64 (.ofNat 0)), (.int .u64 (.ofNat 0))] fun v52 h53 =>
 stn 5 h53 v52 v50 fun h54 =>
 callv rec (.func 355 [] []) [a0, (.int .i64 (.ofNat 0))] h54 fun v55 h56 =>
 fa 4 v52 fun v57 =>
 ld h56 v57 fun v58 =>
 nil? a0 fun v59 =>
 fa 41 v59 fun v60 =>
 st h56 v60 v58 fun h61 =>
 some (.tup [], h61))
 (fa 0 v40 fun v62 =>
 ld h44 v62 fun v63 =>
 yes false (aeqI v63 (.int .i64 (.ofNat 72))) fun v64 =>
 tst v64
 (bnd (fa 4 v40 fun v65 =>
 some (v65, h44)) fun v66 h67 =>
 bnd (ld h67 v66 fun v68 =>
 some (v68, h67)) fun v69 h70 =>
 bnd (nil? a0 fun v71 =>
 some (v71, h70)) fun v72 h73 =>
 bnd (fa 0 v72 fun v74 =>
 some (v74, h73)) fun v75 h76 =>
 bnd (ld h76 v75 fun v77 =>
 some (v77, h76)) fun v78 h79 =>
 bnd (callv rec (.func 358 [] []) [v78] h79 fun v80 h81 =>
 some (v80, h81)) fun v82 h83 =>
 bif chkS false 1 h83 v66 v69 then bnd (getL (cellsOf v69) fun u84 => bif Nat.beq u84.length 1 then getL (over [(.int .i64 (.ofNat 2)), (.int .i64 (.ofNat 0)), (.int .i64 (.ofNat 0)), (.bool false), (.int .i64 (.ofNat 0)), (.int .i64 (.ofNat 0)), (.int .i64 (.ofNat 0)), (.int .u64 (.ofNat 0)), (.bool false), (.int .i64 (.ofNat 0)), (.int .i64 (.ofNat 0)), (.int .i64 (.ofNat 0)), (.int .u64 (.ofNat 0)), (.bool false), (.int .i64 (.ofNat 0)), (.int .i64 (.ofNat 0)), (.int .i64 (.ofNat 0)), (.int .u64 (.ofNat 0)), (.bool false), (.int .i64 (.ofNat 0)), (.int .i64 (.ofNat 0)), (.int .i64 (.ofNat 0)), (.int .u64 (.ofNat 0)), (.bool false), (.int .i64 (.ofNat 0)), (.int .i64 (.ofNat 0)), (.int .i64 (.ofNat 0)), (.int .u64 (.ofNat 0)), (.bool false), (.int .i64 (.ofNat 0)), (.int .i64 (.ofNat 0)), (.int .i64 (.ofNat 0)), (.int .u64 (.ofNat 0)), (.int .u64 (.ofNat 0))] 1 u84) fun u85 => getL (cellsOf v82) fun u86 => bif Nat.beq u86.length 25 then getL (over u85 3 u86) fun u87 => some ((.agg u87), h83) else none else none) fun v88 h89 =>
 bnd (callv rec (.func 357 [] []) [a0, v88] h89 fun v90 h91 =>
 some (v90, h91)) fun v92 h93 =>
 some (.tup [], h93) else none)
 (fa 0 v40 fun v94 =>
 ld h44 v94 fun v95 =>
 yes false (aeqI v95 (.int .i64 (.ofNat 66))) fun v96 =>
 bnd (wantV v96 false (fa 0 v40 fun v97 =>
 some (v97, h44)) (some (.tup [], h44))) fun v98 h99 =>
 bnd (wantV v96 false (ld h99 v98 fun v100 =>
 some (v100, h99)) (some (.tup [], h99))) fun v101 h102 =>
 bnd (wantV v96 false (yes false (aeqI v101 (.int .i64 (.ofNat 67))) fun v103 =>
 some (v103, h102)) (some (.tup [], h102))) fun v104 h105 =>
 pickB v96 (.bool true) v104 fun v106 =>
 tst v106
 (ldn 5 h105 v40 fun v107 =>
 callv rec (.func 359 [] []) [a0, v107] h105 fun v108 h109 =>
 some (.tup [], h109))
 (fa 0 v40 fun v110 =>
 ld h105 v110 fun v111 =>
 callv rec (.func 159 [] []) [v111] h105 fun v112 h113 =>
 yes false (aeqI v112 (.int .i64 (.ofNat 2))) fun v114 =>
 tst v114
 (ldn 5 h113 v40 fun v115 =>
 callv rec (.func 360 [] []) [a0, v115] h113 fun v116 h117 =>
 some (.tup [], h117))
 (bnd (nil? a0 fun v118 =>
 some (v118, h113)) fun v119 h120 =>
 bnd (fa 0 v119 fun v121 =>
 some (v121, h120)) fun v122 h123 =>
 bnd (ld h123 v122 fun v124 =>
 some (v124, h123)) fun v125 h126 =>
 bnd (ldn 5 h126 v40 fun v127 =>
 some (v127, h126)) fun v128 h129 =>
 bnd (callv rec (.func 362 [] []) [v125, v128] h129 fun v130 h131 =>
 some (v130, h131)) fun v132 h133 =>
 bnd (callv rec (.func 361 [] []) [a0, v132] h133 fun v134 h135 =>
 some (v134, h135)) fun v136 h137 =>
 some (.tup [], h137))))))
theorem b276 (n : Nat) (rec : Rec) (a0 : AV) (h : Heap) : bodyR Go.Proofs.Tryz.prog (tabs n) rec 276 [a0] h = c276 n rec a0 h := by kernel_rfl
-- (*detent·vm.Run).Code
def c281 (_n : Nat) (_rec : Rec) (a0 : AV) (h : Heap) : Out :=
 yes false (aeqP a0 .nilp) fun v1 =>
 tst v1
 (some ((.int .i64 (.ofNat 0)), h))
 (nil? a0 fun v2 =>
 fa 40 v2 fun v3 =>
 ld h v3 fun v4 =>
 some (v4, h))
theorem b281 (n : Nat) (rec : Rec) (a0 : AV) (h : Heap) : bodyR Go.Proofs.Tryz.prog (tabs n) rec 281 [a0] h = c281 n rec a0 h := by kernel_rfl
-- (*detent·vm.Run).Result
def c282 (_n : Nat) (_rec : Rec) (a0 : AV) (h : Heap) : Out :=
 yes false (aeqP a0 .nilp) fun v1 =>
 tst v1
 (some ((.int .u64 (.ofNat 0)), h))
 (nil? a0 fun v2 =>
 fa 41 v2 fun v3 =>
 ld h v3 fun v4 =>
 some (v4, h))
theorem b282 (n : Nat) (rec : Rec) (a0 : AV) (h : Heap) : bodyR Go.Proofs.Tryz.prog (tabs n) rec 282 [a0] h = c282 n rec a0 h := by kernel_rfl
-- (*detent·guard.Guard).Exit
def c283 (_n : Nat) (rec : Rec) (a0 : AV) (a1 : AV) (a2 : AV) (h : Heap) : Out :=
 callv rec (.func 275 [] []) [a0, a1] h fun v1 h2 =>
 get1 (una .not v1) fun v3 =>
 tst v3
 (some ((.int .i64 (.ofNat 0)), h2))
 (nil? a0 fun v4 =>
 fa 0 v4 fun v5 =>
 ld h2 v5 fun v6 =>
 ixS 1 v6 a1 fun v7 =>
 ld h2 v7 fun v8 =>
 bnd (nil? a0 fun v9 =>
 some (v9, h2)) fun v10 h11 =>
 bnd (fa 0 v10 fun v12 =>
 some (v12, h11)) fun v13 h14 =>
 bnd (ld h14 v13 fun v15 =>
 some (v15, h14)) fun v16 h17 =>
 bnd (callv rec (.func 217 [] []) [v8, a2] h17 fun v18 h19 =>
 some (v18, h19)) fun v20 h21 =>
 bif chkS false 1 h21 v13 v16 then bnd (ixS 1 v16 a1 fun v22 =>
 some (v22, h21)) fun v23 h24 =>
 bnd (st h24 v23 v20 fun h25 =>
 some ((.tup []), h25)) fun v26 h27 =>
 bnd (nil? a0 fun v28 =>
 some (v28, h27)) fun v29 h30 =>
 bnd (fa 0 v29 fun v31 =>
 some (v31, h30)) fun v32 h33 =>
 bnd (ld h33 v32 fun v34 =>
 some (v34, h33)) fun v35 h36 =>
 bnd (ixS 1 v35 a1 fun v37 =>
 some (v37, h36)) fun v38 h39 =>
 bnd (ld h39 v38 fun v40 =>
 some (v40, h39)) fun v41 h42 =>
 bnd (callv rec (.func 348 [] []) [v8] h42 fun v43 h44 =>
 some (v43, h44)) fun v45 h46 =>
 bif chkS false 1 h46 v38 v41 then bif chkS false 1 h46 v32 v35 then bnd (callv rec (.func 348 [] []) [v41] h46 fun v47 h48 =>
 some (v47, h48)) fun v49 h50 =>
 bnd (get1 (bin .sub v45 v49) fun v51 =>
 some (v51, h50)) fun v52 h53 =>
 some (v52, h53) else none else none else none)
theorem b283 (n : Nat) (rec : Rec) (a0 : AV) (a1 : AV) (a2 : AV) (h : Heap) : bodyR Go.Proofs.Tryz.prog (tabs n) rec 283 [a0, a1, a2] h = c283 n rec a0 a1 a2 h := by kernel_rfl
-- (*detent·timer.Timers).End
def c284 (_n : Nat) (rec : Rec) (a0 : AV) (a1 : AV) (h : Heap) : Out :=
 callv rec (.func 94 [] []) [a0] h fun v1 h2 =>
 callv rec (.func 373 [] []) [v1, a1] h2 fun v3 h4 =>
 ext v3 0 fun v5 =>
 ext v3 1 fun v6 =>
 some (.tup [v5, v6], h4)
theorem b284 (n : Nat) (rec : Rec) (a0 : AV) (a1 : AV) (h : Heap) : bodyR Go.Proofs.Tryz.prog (tabs n) rec 284 [a0, a1] h = c284 n rec a0 a1 h := by kernel_rfl
-- (*detent·work.Works).End
def c285 (_n : Nat) (rec : Rec) (a0 : AV) (a1 : AV) (h : Heap) : Out :=
 callv rec (.func 96 [] []) [a0] h fun v1 h2 =>
 callv rec (.func 373 [] []) [v1, a1] h2 fun v3 h4 =>
 ext v3 0 fun v5 =>
 ext v3 1 fun v6 =>
 joinPt (fun w8 h9 => un w8 fun v10 l11 => un l11 fun v12 l13 => some (.tup [v10, v12], h9)) fun J7 =>
 yes false (aeqI v6 (.int .i64 (.ofNat 0))) fun v14 =>
 tst v14
 (nil? a0 fun v15 =>
 fa 514 v15 fun v16 =>
 ixA 32 1 v16 a1 fun v17 =>
 st h4 v17 (.int .i64 (.ofNat 0)) fun h18 =>
 J7 [v5, v6] h18)
 (J7 [v5, v6] h4)
theorem b285 (n : Nat) (rec : Rec) (a0 : AV) (a1 : AV) (h : Heap) : bodyR Go.Proofs.Tryz.prog (tabs n) rec 285 [a0, a1] h = c285 n rec a0 a1 h := by kernel_rfl
-- (*detent·waits.Waits).Wake
def c286 (n : Nat) (rec : Rec) (a0 : AV) (a1 : AV) (h : Heap) : Out :=
 getL (cellsOf a1) fun u1 => mk h u1 fun v2 h3 =>
 callv rec (.func 374 [] []) [a0, (.func 375 [] [v2])] h3 fun v4 h5 =>
 callv rec (.func 111 [] []) [v4] h5 fun v6 h7 =>
 lenS v6 fun v8 =>
 iter n (fun nx9 w10 h11 => un w10 fun v12 l13 => un l13 fun v14 l15 => un l15 fun v16 l17 => un l17 fun v18 l19 => un l19 fun v20 l21 => get1 (bin .lss v20 v18) fun v22 =>
 tst v22
 (ixS 1 v16 v20 fun v23 =>
 ld h11 v23 fun v24 =>
 callv rec (.func 377 [] []) [v12, v24] h11 fun v25 h26 =>
 get1 (bin .add v20 (.int .i64 (.ofNat 1))) fun v27 =>
 nx9 [v12, v14, v16, v18, v27] h26)
 (some (v14, h11))) [a0, v6, v6, v8, (.int .i64 (.ofNat 0))] h7
theorem b286 (n : Nat) (rec : Rec) (a0 : AV) (a1 : AV) (h : Heap) : bodyR Go.Proofs.Tryz.prog (tabs n) rec 286 [a0, a1] h = c286 n rec a0 a1 h := by kernel_rfl
-- (*detent·kernel.Kernel).finish$1
def c287 (_n : Nat) (_rec : Rec) (a0 : AV) (a1 : AV) (h : Heap) : Out :=
 bnd (nil? a0 fun v1 =>
 some (v1, h)) fun v2 h3 =>
 bnd (fa 1 v2 fun v4 =>
 some (v4, h3)) fun v5 h6 =>
 bnd (fa 3 v5 fun v7 =>
 some (v7, h6)) fun v8 h9 =>
 bnd (ld h9 v8 fun v10 =>
 some (v10, h9)) fun v11 h12 =>
 bnd (yes false (aeqI v11 (.int .i64 (.ofNat 2))) fun v13 =>
 some (v13, h12)) fun v14 h15 =>
 bnd (wantV v14 true (some (a0, h15)) (some (.tup [], h15))) fun v16 h17 =>
 bnd (wantV v14 true (nil? v16 fun v18 =>
 some (v18, h17)) (some (.tup [], h17))) fun v19 h20 =>
 bnd (wantV v14 true (fa 1 v19 fun v21 =>
 some (v21, h20)) (some (.tup [], h20))) fun v22 h23 =>
 bnd (wantV v14 true (fa 4 v22 fun v24 =>
 some (v24, h23)) (some (.tup [], h23))) fun v25 h26 =>
 bnd (wantV v14 true (ld h26 v25 fun v27 =>
 some (v27, h26)) (some (.tup [], h26))) fun v28 h29 =>
 bnd (wantV v14 true (ld h29 a1 fun v30 =>
 some (v30, h29)) (some (.tup [], h29))) fun v31 h32 =>
 bnd (wantV v14 true (yes false (aeqI v28 v31) fun v33 =>
 some (v33, h32)) (some (.tup [], h32))) fun v34 h35 =>
 bnd (pickB v14 v34 (.bool false) fun v36 =>
 some (v36, h35)) fun v37 h38 =>
 some (v37, h38)
theorem b287 (n : Nat) (rec : Rec) (a0 : AV) (a1 : AV) (h : Heap) : bodyR Go.Proofs.Tryz.prog (tabs n) rec 287 [a0, a1] h = c287 n rec a0 a1 h := by kernel_rfl
-- detent·check.Helper
def c288 (_n : Nat) (rec : Rec) (a0 : AV) (h : Heap) : Out :=
 get1 (bin .lss a0 (.int .i64 (.ofNat 1))) fun v1 =>
 bnd (wantV v1 false (some (a0, h)) (some (.tup [], h))) fun v2 h3 =>
 bnd (wantV v1 false (get1 (bin .gtr v2 (.int .i64 (.ofNat 16))) fun v4 =>
 some (v4, h3)) (some (.tup [], h3))) fun v5 h6 =>
 pickB v1 (.bool true) v5 fun v7 =>
 tst v7
 (some (.tup [(.str []), (.int .i64 (.ofNat 0)), (.bool false)], h6))
 (bnd (get1 (bin .sub a0 (.int .i64 (.ofNat 1))) fun v8 =>
 some (v8, h6)) fun v9 h10 =>
 bnd (get1 (bin .sub a0 (.int .i64 (.ofNat 1))) fun v11 =>
 some (v11, h10)) fun v12 h13 =>
 bnd (ixT (.str [48, 48, 50, 52, 50, 49, 50, 52, 49, 49, 50, 49, 51, 51, 49, 48]) v12 fun v14 =>
 some (v14, h13)) fun v15 h16 =>
 bnd (get1 (bin .sub v15 (.int .u8 (.ofNat 48))) fun v17 =>
 some (v17, h16)) fun v18 h19 =>
 bnd (cvI .i64 v18 fun v20 =>
 some (v20, h19)) fun v21 h22 =>
 bnd (callv rec (.func 179 [] []) [(.str [110, 111, 119, 32, 99, 112, 117, 32, 102, 105, 110, 100, 32, 112, 117, 116, 32, 100, 114, 111, 112, 32, 105, 110, 105, 116, 32, 99, 97, 108, 108, 98, 97, 99, 107, 32, 115, 116, 97, 114, 116, 32, 99, 97, 110, 99, 101, 108, 32, 115, 116, 111, 112, 32, 119, 111, 114, 107, 32, 113, 117, 101, 117, 101, 32, 99, 111, 112, 121, 105, 110, 32, 99, 111, 112, 121, 111, 117, 116, 32, 101, 109, 105, 116, 32, 112, 97, 117, 115, 101])] h22 fun v23 h24 =>
 some (v23, h24)) fun v25 h26 =>
 bnd (ixS 1 v25 v9 fun v27 =>
 some (v27, h26)) fun v28 h29 =>
 bnd (ld h29 v28 fun v30 =>
 some (v30, h29)) fun v31 h32 =>
 some (.tup [v31, v21, (.bool true)], h32))
theorem b288 (n : Nat) (rec : Rec) (a0 : AV) (h : Heap) : bodyR Go.Proofs.Tryz.prog (tabs n) rec 288 [a0] h = c288 n rec a0 h := by kernel_rfl
-- detent·check.within
def c289 (_n : Nat) (rec : Rec) (a0 : AV) (a1 : AV) (h : Heap) : Out :=
 ixS 5 a0 a1 fun v1 =>
 ldn 5 h v1 fun v2 =>
 mk h [(.int .i64 (.ofNat 0)), (.int .i64 (.ofNat 0)), (.int .i64 (.ofNat 0)), (.int .i64 (.ofNat 0)), (.int .i64 (.ofNat 0))] fun v3 h4 =>
 stn 5 h4 v3 v2 fun h5 =>
 fa 0 v3 fun v6 =>
 ld h5 v6 fun v7 =>
 joinPt (fun w9 h10 => un w9 fun v11 l12 => un l12 fun v13 l14 => un l14 fun v15 l16 => un l16 fun v17 l18 => un l18 fun v19 l20 => un l20 fun v21 l22 => un l22 fun v23 l24 => un l24 fun v25 l26 => un l26 fun v27 l28 => un l28 fun v29 l30 => un l30 fun v31 l32 => un l32 fun v33 l34 => un l34 fun v35 l36 => un l36 fun v37 l38 => un l38 fun v39 l40 => un l40 fun v41 l42 => un l42 fun v43 l44 => un l44 fun v45 l46 => un l46 fun v47 l48 => tst v19
 (fa 3 v15 fun v49 =>
 ld h10 v49 fun v50 =>
 get1 (bin .geq v50 (.int .i64 (.ofNat 0))) fun v51 =>
 bnd (wantV v51 true (fa 3 v15 fun v52 =>
 some (v52, h10)) (some (.tup [], h10))) fun v53 h54 =>
 bnd (wantV v51 true (ld h54 v53 fun v55 =>
 some (v55, h54)) (some (.tup [], h54))) fun v56 h57 =>
 bnd (wantV v51 true (get1 (bin .lss v56 (.int .i64 (.ofNat 8))) fun v58 =>
 some (v58, h57)) (some (.tup [], h57))) fun v59 h60 =>
 pickB v51 v59 (.bool false) fun v61 =>
 some (v61, h60))
 (joinPt (fun w63 h64 => un w63 fun v65 l66 => un l66 fun v67 l68 => un l68 fun v69 l70 => un l70 fun v71 l72 => un l72 fun v73 l74 => un l74 fun v75 l76 => un l76 fun v77 l78 => un l78 fun v79 l80 => un l80 fun v81 l82 => un l82 fun v83 l84 => un l84 fun v85 l86 => un l86 fun v87 l88 => un l88 fun v89 l90 => un l90 fun v91 l92 => un l92 fun v93 l94 => tst v71
 (fa 3 v69 fun v95 =>
 ld h64 v95 fun v96 =>
 get1 (bin .geq v96 (.int .i64 (.ofNat 0))) fun v97 =>
 bnd (wantV v97 true (fa 3 v69 fun v98 =>
 some (v98, h64)) (some (.tup [], h64))) fun v99 h100 =>
 bnd (wantV v97 true (ld h100 v99 fun v101 =>
 some (v101, h100)) (some (.tup [], h100))) fun v102 h103 =>
 bnd (wantV v97 true (get1 (bin .lss v102 (.int .i64 (.ofNat 4))) fun v104 =>
 some (v104, h103)) (some (.tup [], h103))) fun v105 h106 =>
 pickB v97 v105 (.bool false) fun v107 =>
 some (v107, h106))
 (ldn 5 h64 v69 fun v108 =>
 callv rec (.func 378 [] []) [v108, v67] h64 fun v109 h110 =>
 fa 0 v69 fun v111 =>
 ld h110 v111 fun v112 =>
 callv rec (.func 159 [] []) [v112] h110 fun v113 h114 =>
 yes true (aeqI v113 (.int .i64 (.ofNat 2))) fun v115 =>
 bnd (wantV v115 false (some (v109, h114)) (some (.tup [], h114))) fun v116 h117 =>
 bnd (wantV v115 false (get1 (bin .geq v116 (.int .i64 (.ofNat 0))) fun v118 =>
 some (v118, h117)) (some (.tup [], h117))) fun v119 h120 =>
 bnd (wantV v115 false (some (v119, h120)) (some (.tup [], h120))) fun v121 h122 =>
 bnd (wantV v121 true (some (v109, h122)) (some (.tup [], h122))) fun v123 h124 =>
 bnd (wantV v121 true (some (v65, h124)) (some (.tup [], h124))) fun v125 h126 =>
 bnd (wantV v121 true (lenS v125 fun v127 =>
 some (v127, h126)) (some (.tup [], h126))) fun v128 h129 =>
 bnd (wantV v121 true (get1 (bin .lss v123 v128) fun v130 =>
 some (v130, h129)) (some (.tup [], h129))) fun v131 h132 =>
 bnd (wantV v115 false (pickB v121 v131 (.bool false) fun v133 =>
 some (v133, h132)) (some (.tup [], h132))) fun v134 h135 =>
 pickB v115 (.bool true) v134 fun v136 =>
 some (v136, h135))) fun J62 =>
 yes false (aeqI v17 (.int .i64 (.ofNat 66))) fun v137 =>
 tst v137
 (J62 [v11, v13, v15, v137, v27, v29, v31, v33, v35, v37, v39, v41, v43, v45, v47] h10)
 (yes false (aeqI v17 (.int .i64 (.ofNat 67))) fun v138 =>
 J62 [v11, v13, v15, v138, v27, v29, v31, v33, v35, v37, v39, v41, v43, v45, v47] h10))) fun J8 =>
 yes false (aeqI v7 (.int .i64 (.ofNat 64))) fun v139 =>
 tst v139
 (J8 [a0, a1, v3, v7, v139, .bot, .bot, .bot, .bot, .bot, .bot, .bot, .bot, .bot, .bot, .bot, .bot, .bot, .bot] h5)
 (yes false (aeqI v7 (.int .i64 (.ofNat 65))) fun v140 =>
 J8 [a0, a1, v3, v7, v140, .bot, .bot, .bot, .bot, .bot, .bot, .bot, .bot, .bot, .bot, .bot, .bot, .bot, .bot] h5)
theorem b289 (n : Nat) (rec : Rec) (a0 : AV) (a1 : AV) (h : Heap) : bodyR Go.Proofs.Tryz.prog (tabs n) rec 289 [a0, a1] h = c289 n rec a0 a1 h := by kernel_rfl
-- detent·mask.Full
def c290 (_n : Nat) (rec : Rec) (a0 : AV) (h : Heap) : Out :=
 get1 (bin .lss a0 (.int .i64 (.ofNat 1))) fun v1 =>
 tst v1
 (some ((.int .u64 (.ofNat 0)), h))
 (get1 (bin .geq a0 (.int .i64 (.ofNat 64))) fun v2 =>
 tst v2
 (some ((.int .u64 (.ofNat 18446744073709551615)), h))
 (callv rec (.func 155 [] []) [a0] h fun v3 h4 =>
 get1 (bin .sub v3 (.int .u64 (.ofNat 1))) fun v5 =>
 some (v5, h4)))
theorem b290 (n : Nat) (rec : Rec) (a0 : AV) (h : Heap) : bodyR Go.Proofs.Tryz.prog (tabs n) rec 290 [a0] h = c290 n rec a0 h := by kernel_rfl
-- detent·check.Next
def c291 (_n : Nat) (rec : Rec) (a0 : AV) (a1 : AV) (h : Heap) : Out :=
 getL (cellsOf a0) fun u1 => mk h u1 fun v2 h3 =>
 get1 (bin .lss a1 (.int .i64 (.ofNat 0))) fun v4 =>
 bnd (wantV v4 false (some (a1, h3)) (some (.tup [], h3))) fun v5 h6 =>
 bnd (wantV v4 false (ld h6 v2 fun v7 =>
 some (v7, h6)) (some (.tup [], h6))) fun v8 h9 =>
 bnd (wantV v4 false (lenS v8 fun v10 =>
 some (v10, h9)) (some (.tup [], h9))) fun v11 h12 =>
 bnd (wantV v4 false (get1 (bin .geq v5 v11) fun v13 =>
 some (v13, h12)) (some (.tup [], h12))) fun v14 h15 =>
 pickB v4 (.bool true) v14 fun v16 =>
 tst v16
 (some (.nils, h15))
 (mk h15 [.nils] fun v17 h18 =>
 ld h18 v2 fun v19 =>
 ixS 5 v19 a1 fun v20 =>
 ldn 5 h18 v20 fun v21 =>
 callv rec (.func 379 [] []) [v21, a1] h18 fun v22 h23 =>
 callf rec v22 [.yield h23.next] (h23.push (.loop 291006 [v2, v17, .bot, .bot, .bot, .bot] 0 .normal)) fun v25 h24 => loopAt h24 h23.next 291006 fun w26 v27 p28 => bif Nat.beq v27 1 then none else leaveP p28 (ld (h24.set h23.next (.loop 291006 w26 3 p28)) v17 fun v30 =>
 some (v30, (h24.set h23.next (.loop 291006 w26 3 p28)))) none fun i29 => none)
theorem b291 (n : Nat) (rec : Rec) (a0 : AV) (a1 : AV) (h : Heap) : bodyR Go.Proofs.Tryz.prog (tabs n) rec 291 [a0, a1] h = c291 n rec a0 a1 h := by kernel_rfl
def y291006 (_n : Nat) (_rec : Rec) (l : Nat) (vs args : List AV) (h : Heap) : Out :=
 un vs fun v1 l2 => un l2 fun v3 l4 => un l4 fun v5 l6 => un l6 fun v7 l8 => un l8 fun v9 l10 => un l10 fun v11 l12 => bif Nat.beq args.length 1 then un args fun v13 l14 => loopAt h l 291006 fun w15 v16 p17 => bif Nat.beq v16 0 then get1 (bin .geq v13 (.int .i64 (.ofNat 0))) fun v18 =>
 bnd (wantV v18 true (some (v13, (h.set l (.loop 291006 w15 1 p17)))) (some (.tup [], (h.set l (.loop 291006 w15 1 p17))))) fun v19 h20 =>
 bnd (wantV v18 true (ld h20 v1 fun v21 =>
 some (v21, h20)) (some (.tup [], h20))) fun v22 h23 =>
 bnd (wantV v18 true (lenS v22 fun v24 =>
 some (v24, h23)) (some (.tup [], h23))) fun v25 h26 =>
 bnd (wantV v18 true (get1 (bin .lss v19 v25) fun v27 =>
 some (v27, h26)) (some (.tup [], h26))) fun v28 h29 =>
 pickB v18 v28 (.bool false) fun v30 =>
 tst v30
 (ld h29 v3 fun v31 =>
 getL (cellsOf v13) fun u32 => bif Nat.beq u32.length 1 then getL (over [(.int .i64 (.ofNat 0))] 0 u32) fun u33 => mkSlice h29 u33 1 1 (some 1) fun v34 h35 =>
 app 1 8 h35 v31 v34 fun v36 h37 =>
 st h37 v3 v36 fun h38 =>
 loopAt h38 l 291006 fun w39 v40 p41 => some (.bool true, h38.set l (.loop 291006 w39 0 .normal)) else none)
 (loopAt h29 l 291006 fun w42 v43 p44 => some (.bool true, h29.set l (.loop 291006 w42 0 .normal))) else none else none
theorem r291006 (n : Nat) (rec : Rec) (l : Nat) (vs args : List AV) (h : Heap) : roundS Go.Proofs.Tryz.prog (tabs n) rec l 291006 vs args h = y291006 n rec l vs args h := by kernel_rfl
-- (detent·mask.Mask).Len
def c348 (_n : Nat) (rec : Rec) (a0 : AV) (h : Heap) : Out :=
 callv rec (.func 424 [] []) [a0] h fun v1 h2 =>
 some (v1, h2)
theorem b348 (n : Nat) (rec : Rec) (a0 : AV) (h : Heap) : bodyR Go.Proofs.Tryz.prog (tabs n) rec 348 [a0] h = c348 n rec a0 h := by kernel_rfl
-- (*detent·vm.Run).end
def c355 (_n : Nat) (_rec : Rec) (a0 : AV) (a1 : AV) (h : Heap) : Out :=
 nil? a0 fun v1 =>
 fa 5 v1 fun v2 =>
 st h v2 (.bool true) fun h3 =>
 nil? a0 fun v4 =>
 fa 4 v4 fun v5 =>
 st h3 v5 (.bool false) fun h6 =>
 nil? a0 fun v7 =>
 fa 40 v7 fun v8 =>
 st h6 v8 a1 fun h9 =>
 nil? a0 fun v10 =>
 fa 6 v10 fun v11 =>
 stn 34 h9 v11 (.agg [(.int .i64 (.ofNat 0)), (.int .i64 (.ofNat 0)), (.int .i64 (.ofNat 0)), (.bool false), (.int .i64 (.ofNat 0)), (.int .i64 (.ofNat 0)), (.int .i64 (.ofNat 0)), (.int .u64 (.ofNat 0)), (.bool false), (.int .i64 (.ofNat 0)), (.int .i64 (.ofNat 0)), (.int .i64 (.ofNat 0)), (.int .u64 (.ofNat 0)), (.bool false), (.int .i64 (.ofNat 0)), (.int .i64 (.ofNat 0)), (.int .i64 (.ofNat 0)), (.int .u64 (.ofNat 0)), (.bool false), (.int .i64 (.ofNat 0)), (.int .i64 (.ofNat 0)), (.int .i64 (.ofNat 0)), (.int .u64 (.ofNat 0)), (.bool false), (.int .i64 (.ofNat 0)), (.int .i64 (.ofNat 0)), (.int .i64 (.ofNat 0)), (.int .u64 (.ofNat 0)), (.bool false), (.int .i64 (.ofNat 0)), (.int .i64 (.ofNat 0)), (.int .i64 (.ofNat 0)), (.int .u64 (.ofNat 0)), (.int .u64 (.ofNat 0))]) fun h12 =>
 some (.tup [], h12)
theorem b355 (n : Nat) (rec : Rec) (a0 : AV) (a1 : AV) (h : Heap) : bodyR Go.Proofs.Tryz.prog (tabs n) rec 355 [a0, a1] h = c355 n rec a0 a1 h := by kernel_rfl
-- (*detent·vm.Run).Reg
def c356 (_n : Nat) (rec : Rec) (a0 : AV) (a1 : AV) (h : Heap) : Out :=
 mk h [(.bool false), (.int .i64 (.ofNat 0)), (.int .i64 (.ofNat 0)), (.int .i64 (.ofNat 0)), (.int .u64 (.ofNat 0))] fun v1 h2 =>
 callv rec (.func 430 [] []) [a0] h2 fun v3 h4 =>
 callv rec (.func 431 [] []) [v3, a1] h4 fun v5 h6 =>
 ext v5 0 fun v7 =>
 ext v5 1 fun v8 =>
 stn 5 h6 v1 v7 fun h9 =>
 ldn 5 h9 v1 fun v10 => some (.tup [v10, v8], h9)
theorem b356 (n : Nat) (rec : Rec) (a0 : AV) (a1 : AV) (h : Heap) : bodyR Go.Proofs.Tryz.prog (tabs n) rec 356 [a0, a1] h = c356 n rec a0 a1 h := by kernel_rfl
-- (*detent·vm.Run).next
def c361 (_n : Nat) (rec : Rec) (a0 : AV) (a1 : AV) (h : Heap) : Out :=
 yes true (aeqI a1 (.int .i64 (.ofNat 0))) fun v1 =>
 tst v1
 (callv rec (.func 355 [] []) [a0, a1] h fun v2 h3 =>
 some (.tup [], h3))
 (nil? a0 fun v4 =>
 fa 2 v4 fun v5 =>
 ld h v5 fun v6 =>
 get1 (bin .add v6 (.int .i64 (.ofNat 1))) fun v7 =>
 nil? a0 fun v8 =>
 fa 2 v8 fun v9 =>
 st h v9 v7 fun h10 =>
 some (.tup [], h10))
theorem b361 (n : Nat) (rec : Rec) (a0 : AV) (a1 : AV) (h : Heap) : bodyR Go.Proofs.Tryz.prog (tabs n) rec 361 [a0, a1] h = c361 n rec a0 a1 h := by kernel_rfl
-- (*detent·frame.Frame).Do
def c362 (_n : Nat) (rec : Rec) (a0 : AV) (a1 : AV) (h : Heap) : Out :=
 getL (cellsOf a1) fun u1 => mk h u1 fun v2 h3 =>
 yes false (aeqP a0 .nilp) fun v4 =>
 tst v4
 (some ((.int .i64 (.ofNat 6)), h3))
 (ldn 5 h3 v2 fun v5 =>
 callv rec (.func 92 [] []) [v5] h3 fun v6 h7 =>
 yes true (aeqI v6 (.int .i64 (.ofNat 0))) fun v8 =>
 tst v8
 (some (v6, h7))
 (fa 0 v2 fun v9 =>
 ld h7 v9 fun v10 =>
 callv rec (.func 159 [] []) [v10] h7 fun v11 h12 =>
 yes false (aeqI v11 (.int .i64 (.ofNat 1))) fun v13 =>
 tst v13
 (ldn 5 h12 v2 fun v14 =>
 callv rec (.func 433 [] []) [a0, v14] h12 fun v15 h16 =>
 some (v15, h16))
 (fa 0 v2 fun v17 =>
 ld h12 v17 fun v18 =>
 yes false (aeqI v18 (.int .i64 (.ofNat 64))) fun v19 =>
 tst v19
 (fa 3 v2 fun v20 =>
 ld h12 v20 fun v21 =>
 callv rec (.func 434 [] []) [a0, v21] h12 fun v22 h23 =>
 ext v22 0 fun v24 =>
 ext v22 1 fun v25 =>
 mk h23 [(.bool false), (.int .i64 (.ofNat 0)), (.int .i64 (.ofNat 0)), (.int .i64 (.ofNat 0)), (.int .u64 (.ofNat 0))] fun v26 h27 =>
 stn 5 h27 v26 v24 fun h28 =>
 joinPt (fun w30 h31 => un w30 fun v32 l33 => some (v32, h31)) fun J29 =>
 yes false (aeqI v25 (.int .i64 (.ofNat 0))) fun v34 =>
 tst v34
 (bnd (fa 1 v2 fun v35 =>
 some (v35, h28)) fun v36 h37 =>
 bnd (ld h37 v36 fun v38 =>
 some (v38, h37)) fun v39 h40 =>
 bnd (ldn 5 h40 v26 fun v41 =>
 some (v41, h40)) fun v42 h43 =>
 bnd (nil? a0 fun v44 =>
 some (v44, h43)) fun v45 h46 =>
 bnd (fa 0 v45 fun v47 =>
 some (v47, h46)) fun v48 h49 =>
 bnd (ixA 10 5 v48 v39 fun v50 =>
 some (v50, h49)) fun v51 h52 =>
 bnd (stn 5 h52 v51 v42 fun h53 =>
 some ((.tup []), h53)) fun v54 h55 =>
 J29 [v25] h55)
 (J29 [v25] h28))
 (fa 0 v2 fun v56 =>
 ld h12 v56 fun v57 =>
 yes false (aeqI v57 (.int .i64 (.ofNat 65))) fun v58 =>
 tst v58
 (bnd (fa 3 v2 fun v59 =>
 some (v59, h12)) fun v60 h61 =>
 bnd (ld h61 v60 fun v62 =>
 some (v62, h61)) fun v63 h64 =>
 bnd (fa 2 v2 fun v65 =>
 some (v65, h64)) fun v66 h67 =>
 bnd (ld h67 v66 fun v68 =>
 some (v68, h67)) fun v69 h70 =>
 bnd (nil? a0 fun v71 =>
 some (v71, h70)) fun v72 h73 =>
 bnd (fa 0 v72 fun v74 =>
 some (v74, h73)) fun v75 h76 =>
 bnd (ixA 10 5 v75 v69 fun v77 =>
 some (v77, h76)) fun v78 h79 =>
 bnd (ldn 5 h79 v78 fun v80 =>
 some (v80, h79)) fun v81 h82 =>
 bnd (callv rec (.func 435 [] []) [a0, v63, v81] h82 fun v83 h84 =>
 some (v83, h84)) fun v85 h86 =>
 some (v85, h86))
 (some ((.int .i64 (.ofNat 11)), h12))))))
theorem b362 (n : Nat) (rec : Rec) (a0 : AV) (a1 : AV) (h : Heap) : bodyR Go.Proofs.Tryz.prog (tabs n) rec 362 [a0, a1] h = c362 n rec a0 a1 h := by kernel_rfl
-- (*detent·pend.Pend).End
def c373 (_n : Nat) (rec : Rec) (a0 : AV) (a1 : AV) (h : Heap) : Out :=
 yes false (aeqP a0 .nilp) fun v1 =>
 tst v1
 (some (.tup [(.int .i64 (.ofNat 0)), (.int .i64 (.ofNat 6))], h))
 (callv rec (.func 270 [] []) [a0, a1] h fun v2 h3 =>
 ext v2 0 fun v4 =>
 ext v2 1 fun v5 =>
 get1 (una .not v5) fun v6 =>
 tst v6
 (some (.tup [(.int .i64 (.ofNat 0)), (.int .i64 (.ofNat 4))], h3))
 (bnd (nil? a0 fun v7 =>
 some (v7, h3)) fun v8 h9 =>
 bnd (fa 1 v8 fun v10 =>
 some (v10, h9)) fun v11 h12 =>
 bnd (ixA 256 1 v11 v4 fun v13 =>
 some (v13, h12)) fun v14 h15 =>
 bnd (nil? a0 fun v16 =>
 some (v16, h15)) fun v17 h18 =>
 bnd (fa 257 v17 fun v19 =>
 some (v19, h18)) fun v20 h21 =>
 bnd (st h21 v14 (.int .i64 (.ofNat 0)) fun h22 =>
 some ((.tup []), h22)) fun v23 h24 =>
 bnd (ixA 32 1 v20 a1 fun v25 =>
 some (v25, h24)) fun v26 h27 =>
 bnd (st h27 v26 (.int .i64 (.ofNat 0)) fun h28 =>
 some ((.tup []), h28)) fun v29 h30 =>
 some (.tup [v4, (.int .i64 (.ofNat 0))], h30)))
theorem b373 (n : Nat) (rec : Rec) (a0 : AV) (a1 : AV) (h : Heap) : bodyR Go.Proofs.Tryz.prog (tabs n) rec 373 [a0, a1] h = c373 n rec a0 a1 h := by kernel_rfl
-- (*detent·waits.Waits).such
def c374 (n : Nat) (rec : Rec) (a0 : AV) (a1 : AV) (h : Heap) : Out :=
 iter n (fun nx1 w2 h3 => un w2 fun v4 l5 => un l5 fun v6 l7 => un l7 fun v8 l9 => un l9 fun v10 l11 => un l11 fun v12 l13 => un l13 fun v14 l15 => un l15 fun v16 l17 => get1 (bin .lss v10 (.int .i64 (.ofNat 32))) fun v18 =>
 tst v18
 (joinPt (fun w20 h21 => un w20 fun v22 l23 => un l23 fun v24 l25 => un l25 fun v26 l27 => un l27 fun v28 l29 => un l29 fun v30 l31 => un l31 fun v32 l33 => un l33 fun v34 l35 => get1 (bin .add v28 (.int .i64 (.ofNat 1))) fun v36 =>
 nx1 [v22, v24, v26, v36, v30, v32, v34] h21) fun J19 =>
 callv rec (.func 167 [] []) [v4, v10] h3 fun v37 h38 =>
 ext v37 0 fun v39 =>
 ext v37 1 fun v40 =>
 bnd (wantV v40 true (some (v6, h38)) (some (.tup [], h38))) fun v41 h42 =>
 bnd (wantV v40 true (some (v39, h42)) (some (.tup [], h42))) fun v43 h44 =>
 bnd (wantV v40 true (callv rec v41 [v43] h44 fun v45 h46 =>
 some (v45, h46)) (some (.tup [], h44))) fun v47 h48 =>
 pickB v40 v47 (.bool false) fun v49 =>
 tst v49
 (getL (cellsOf v10) fun u50 => bif Nat.beq u50.length 1 then getL (over [(.int .i64 (.ofNat 0))] 0 u50) fun u51 => mkSlice h48 u51 1 1 (some 1) fun v52 h53 =>
 callv rec (.func 90 [] []) [v8, v52] h53 fun v54 h55 =>
 J19 [v4, v6, v54, v10, v41, v43, v47] h55 else none)
 (J19 [v4, v6, v8, v10, v41, v43, v47] h48))
 (some (v8, h3))) [a0, a1, (.int .u64 (.ofNat 0)), (.int .i64 (.ofNat 0)), .bot, .bot, .bot] h
theorem b374 (n : Nat) (rec : Rec) (a0 : AV) (a1 : AV) (h : Heap) : bodyR Go.Proofs.Tryz.prog (tabs n) rec 374 [a0, a1] h = c374 n rec a0 a1 h := by kernel_rfl
-- detent·check.target
def c378 (_n : Nat) (_rec : Rec) (a0 : AV) (a1 : AV) (h : Heap) : Out :=
 getL (cellsOf a0) fun u1 => mk h u1 fun v2 h3 =>
 get1 (bin .add a1 (.int .i64 (.ofNat 1))) fun v4 =>
 fa 3 v2 fun v5 =>
 ld h3 v5 fun v6 =>
 get1 (bin .add v4 v6) fun v7 =>
 some (v7, h3)
theorem b378 (n : Nat) (rec : Rec) (a0 : AV) (a1 : AV) (h : Heap) : bodyR Go.Proofs.Tryz.prog (tabs n) rec 378 [a0, a1] h = c378 n rec a0 a1 h := by kernel_rfl
-- detent·check.behind
def c379 (_n : Nat) (rec : Rec) (a0 : AV) (a1 : AV) (h : Heap) : Out :=
 getL (cellsOf a0) fun u1 => mk h u1 fun v2 h3 =>
 getL (cellsOf a1) fun u4 => mk h3 u4 fun v5 h6 =>
 fa 0 v2 fun v7 =>
 ld h6 v7 fun v8 =>
 callv rec (.func 159 [] []) [v8] h6 fun v9 h10 =>
 yes false (aeqI v9 (.int .i64 (.ofNat 2))) fun v11 =>
 mk h10 [(.bool false)] fun v12 h13 =>
 st h13 v12 v11 fun h14 =>
 fa 0 v2 fun v15 =>
 ld h14 v15 fun v16 =>
 yes true (aeqI v16 (.int .i64 (.ofNat 73))) fun v17 =>
 bnd (wantV v17 true (fa 0 v2 fun v18 =>
 some (v18, h14)) (some (.tup [], h14))) fun v19 h20 =>
 bnd (wantV v17 true (ld h20 v19 fun v21 =>
 some (v21, h20)) (some (.tup [], h20))) fun v22 h23 =>
 bnd (wantV v17 true (yes true (aeqI v22 (.int .i64 (.ofNat 32))) fun v24 =>
 some (v24, h23)) (some (.tup [], h23))) fun v25 h26 =>
 pickB v17 v25 (.bool false) fun v27 =>
 mk h26 [(.bool false)] fun v28 h29 =>
 st h29 v28 v27 fun h30 =>
 ldn 5 h30 v2 fun v31 =>
 ld h30 v5 fun v32 =>
 callv rec (.func 378 [] []) [v31, v32] h30 fun v33 h34 =>
 mk h34 [(.int .i64 (.ofNat 0))] fun v35 h36 =>
 st h36 v35 v33 fun h37 =>
 some ((.func 452 [] [v12, v35, v5, v28]), h37)
theorem b379 (n : Nat) (rec : Rec) (a0 : AV) (a1 : AV) (h : Heap) : bodyR Go.Proofs.Tryz.prog (tabs n) rec 379 [a0, a1] h = c379 n rec a0 a1 h := by kernel_rfl
end Go.Ai
/-
  WHAT FUNCTIONS COME TO, part 7: each one's body, types, slots and orders reckoned out, and that it is so.
-/
namespace Go.Ai
open Go
set_option maxRecDepth 100000
-- math·bits.OnesCount64
def c424 (_n : Nat) (_rec : Rec) (a0 : AV) (h : Heap) : Out :=
 get1 (bin .shr a0 (.int .u64 (.ofNat 1))) fun v1 =>
 get1 (bin .and v1 (.int .u64 (.ofNat 6148914691236517205))) fun v2 =>
 get1 (bin .and a0 (.int .u64 (.ofNat 6148914691236517205))) fun v3 =>
 get1 (bin .add v2 v3) fun v4 =>
 get1 (bin .shr v4 (.int .u64 (.ofNat 2))) fun v5 =>
 get1 (bin .and v5 (.int .u64 (.ofNat 3689348814741910323))) fun v6 =>
 get1 (bin .and v4 (.int .u64 (.ofNat 3689348814741910323))) fun v7 =>
 get1 (bin .add v6 v7) fun v8 =>
 get1 (bin .shr v8 (.int .u64 (.ofNat 4))) fun v9 =>
 get1 (bin .add v9 v8) fun v10 =>
 get1 (bin .and v10 (.int .u64 (.ofNat 1085102592571150095))) fun v11 =>
 get1 (bin .shr v11 (.int .u64 (.ofNat 8))) fun v12 =>
 get1 (bin .add v11 v12) fun v13 =>
 get1 (bin .shr v13 (.int .u64 (.ofNat 16))) fun v14 =>
 get1 (bin .add v13 v14) fun v15 =>
 get1 (bin .shr v15 (.int .u64 (.ofNat 32))) fun v16 =>
 get1 (bin .add v15 v16) fun v17 =>
 cvI .i64 v17 fun v18 =>
 get1 (bin .and v18 (.int .i64 (.ofNat 127))) fun v19 =>
 some (v19, h)
theorem b424 (n : Nat) (rec : Rec) (a0 : AV) (h : Heap) : bodyR Go.Proofs.Tryz.prog (tabs n) rec 424 [a0] h = c424 n rec a0 h := by kernel_rfl
-- (*detent·vm.Run).inner
def c430 (_n : Nat) (_rec : Rec) (a0 : AV) (h : Heap) : Out :=
 yes false (aeqP a0 .nilp) fun v1 =>
 tst v1
 (some (.nilp, h))
 (nil? a0 fun v2 =>
 fa 0 v2 fun v3 =>
 ld h v3 fun v4 =>
 some (v4, h))
theorem b430 (n : Nat) (rec : Rec) (a0 : AV) (h : Heap) : bodyR Go.Proofs.Tryz.prog (tabs n) rec 430 [a0] h = c430 n rec a0 h := by kernel_rfl
-- (*detent·frame.Frame).Reg
def c431 (_n : Nat) (rec : Rec) (a0 : AV) (a1 : AV) (h : Heap) : Out :=
 mk h [(.bool false), (.int .i64 (.ofNat 0)), (.int .i64 (.ofNat 0)), (.int .i64 (.ofNat 0)), (.int .u64 (.ofNat 0))] fun v1 h2 =>
 callv rec (.func 479 [] []) [a0, (.bool false), a1] h2 fun v3 h4 =>
 ext v3 0 fun v5 =>
 ext v3 1 fun v6 =>
 stn 5 h4 v1 v5 fun h7 =>
 ldn 5 h7 v1 fun v8 => some (.tup [v8, v6], h7)
theorem b431 (n : Nat) (rec : Rec) (a0 : AV) (a1 : AV) (h : Heap) : bodyR Go.Proofs.Tryz.prog (tabs n) rec 431 [a0, a1] h = c431 n rec a0 a1 h := by kernel_rfl
-- (*detent·frame.Frame).sum
def c433 (_n : Nat) (rec : Rec) (a0 : AV) (a1 : AV) (h : Heap) : Out :=
 getL (cellsOf a1) fun u1 => mk h u1 fun v2 h3 =>
 ldn 5 h3 v2 fun v4 =>
 callv rec (.func 480 [] []) [a0, v4] h3 fun v5 h6 =>
 ext v5 0 fun v7 =>
 ext v5 1 fun v8 =>
 mk h6 [(.bool false), (.int .i64 (.ofNat 0)), (.int .i64 (.ofNat 0)), (.int .i64 (.ofNat 0)), (.int .u64 (.ofNat 0))] fun v9 h10 =>
 mk h10 [(.bool false), (.int .i64 (.ofNat 0)), (.int .i64 (.ofNat 0)), (.int .i64 (.ofNat 0)), (.int .u64 (.ofNat 0))] fun v11 h12 =>
 stn 5 h12 v9 v7 fun h13 =>
 stn 5 h13 v11 v8 fun h14 =>
 fa 0 v2 fun v15 =>
 ld h14 v15 fun v16 =>
 yes false (aeqI v16 (.int .i64 (.ofNat 11))) fun v17 =>
 bnd (wantV v17 false (fa 0 v2 fun v18 =>
 some (v18, h14)) (some (.tup [], h14))) fun v19 h20 =>
 bnd (wantV v17 false (ld h20 v19 fun v21 =>
 some (v21, h20)) (some (.tup [], h20))) fun v22 h23 =>
 bnd (wantV v17 false (yes false (aeqI v22 (.int .i64 (.ofNat 27))) fun v24 =>
 some (v24, h23)) (some (.tup [], h23))) fun v25 h26 =>
 pickB v17 (.bool true) v25 fun v27 =>
 tst v27
 (bnd (fa 1 v2 fun v28 =>
 some (v28, h26)) fun v29 h30 =>
 bnd (ld h30 v29 fun v31 =>
 some (v31, h30)) fun v32 h33 =>
 bnd (ldn 5 h33 v11 fun v34 =>
 some (v34, h33)) fun v35 h36 =>
 bnd (nil? a0 fun v37 =>
 some (v37, h36)) fun v38 h39 =>
 bnd (fa 0 v38 fun v40 =>
 some (v40, h39)) fun v41 h42 =>
 bnd (ixA 10 5 v41 v32 fun v43 =>
 some (v43, h42)) fun v44 h45 =>
 bnd (stn 5 h45 v44 v35 fun h46 =>
 some ((.tup []), h46)) fun v47 h48 =>
 some ((.int .i64 (.ofNat 0)), h48))
 (fa 0 v9 fun v49 =>
 ld h26 v49 fun v50 =>
 bnd (wantV v50 false (fa 0 v11 fun v51 =>
 some (v51, h26)) (some (.tup [], h26))) fun v52 h53 =>
 bnd (wantV v50 false (ld h53 v52 fun v54 =>
 some (v54, h53)) (some (.tup [], h53))) fun v55 h56 =>
 pickB v50 (.bool true) v55 fun v57 =>
 tst v57
 (some ((.int .i64 (.ofNat 17)), h56))
 (fa 0 v2 fun v58 =>
 ld h56 v58 fun v59 =>
 fa 4 v9 fun v60 =>
 ld h56 v60 fun v61 =>
 fa 4 v11 fun v62 =>
 ld h56 v62 fun v63 =>
 callv rec (.func 482 [] []) [v59, v61, v63] h56 fun v64 h65 =>
 ext v64 0 fun v66 =>
 ext v64 1 fun v67 =>
 joinPt (fun w69 h70 => un w69 fun v71 l72 => some (v71, h70)) fun J68 =>
 yes false (aeqI v67 (.int .i64 (.ofNat 0))) fun v73 =>
 tst v73
 (bnd (fa 1 v2 fun v74 =>
 some (v74, h65)) fun v75 h76 =>
 bnd (ld h76 v75 fun v77 =>
 some (v77, h76)) fun v78 h79 =>
 bnd (nil? a0 fun v80 =>
 some (v80, h79)) fun v81 h82 =>
 bnd (fa 0 v81 fun v83 =>
 some (v83, h82)) fun v84 h85 =>
 bnd (callv rec (.func 141 [] []) [v66] h85 fun v86 h87 =>
 some (v86, h87)) fun v88 h89 =>
 bif chkS false 1 h89 v75 v78 then bnd (ixA 10 5 v84 v78 fun v90 =>
 some (v90, h89)) fun v91 h92 =>
 bnd (stn 5 h92 v91 v88 fun h93 =>
 some ((.tup []), h93)) fun v94 h95 =>
 J68 [v67] h95 else none)
 (J68 [v67] h65)))
theorem b433 (n : Nat) (rec : Rec) (a0 : AV) (a1 : AV) (h : Heap) : bodyR Go.Proofs.Tryz.prog (tabs n) rec 433 [a0, a1] h = c433 n rec a0 a1 h := by kernel_rfl
-- detent·check.behind$1
def c452 (_n : Nat) (rec : Rec) (a0 : AV) (a1 : AV) (a2 : AV) (a3 : AV) (a4 : AV) (h : Heap) : Out :=
 ld h a1 fun v1 =>
 bnd (wantV v1 true (ld h a2 fun v2 =>
 some (v2, h)) (some (.tup [], h))) fun v3 h4 =>
 bnd (wantV v1 true (ld h4 a3 fun v5 =>
 some (v5, h4)) (some (.tup [], h4))) fun v6 h7 =>
 bnd (wantV v1 true (get1 (bin .leq v3 v6) fun v8 =>
 some (v8, h7)) (some (.tup [], h7))) fun v9 h10 =>
 bnd (wantV v1 true (some (v9, h10)) (some (.tup [], h10))) fun v11 h12 =>
 bnd (wantV v11 false (ld h12 a4 fun v13 =>
 some (v13, h12)) (some (.tup [], h12))) fun v14 h15 =>
 bnd (wantV v11 false (get1 (una .not v14) fun v16 =>
 some (v16, h15)) (some (.tup [], h15))) fun v17 h18 =>
 bnd (wantV v1 true (pickB v11 (.bool true) v17 fun v19 =>
 some (v19, h18)) (some (.tup [], h18))) fun v20 h21 =>
 pickB v1 v20 (.bool false) fun v22 =>
 bnd (wantV v22 true (some (a0, h21)) (some (.tup [], h21))) fun v23 h24 =>
 bnd (wantV v22 true (ld h24 a2 fun v25 =>
 some (v25, h24)) (some (.tup [], h24))) fun v26 h27 =>
 bnd (wantV v22 true (callv rec v23 [v26] h27 fun v28 h29 =>
 some (v28, h29)) (some (.tup [], h27))) fun v30 h31 =>
 bnd (wantV v22 true (get1 (una .not v30) fun v32 =>
 some (v32, h31)) (some (.tup [], h31))) fun v33 h34 =>
 pickB v22 v33 (.bool false) fun v35 =>
 tst v35
 (some (.tup [], h34))
 (ld h34 a4 fun v36 =>
 bnd (wantV v36 true (some (a0, h34)) (some (.tup [], h34))) fun v37 h38 =>
 bnd (wantV v36 true (ld h38 a3 fun v39 =>
 some (v39, h38)) (some (.tup [], h38))) fun v40 h41 =>
 bnd (wantV v36 true (get1 (bin .add v40 (.int .i64 (.ofNat 1))) fun v42 =>
 some (v42, h41)) (some (.tup [], h41))) fun v43 h44 =>
 bnd (wantV v36 true (callv rec v37 [v43] h44 fun v45 h46 =>
 some (v45, h46)) (some (.tup [], h44))) fun v47 h48 =>
 bnd (wantV v36 true (get1 (una .not v47) fun v49 =>
 some (v49, h48)) (some (.tup [], h48))) fun v50 h51 =>
 pickB v36 v50 (.bool false) fun v52 =>
 tst v52
 (some (.tup [], h51))
 (ld h51 a1 fun v53 =>
 bnd (wantV v53 true (ld h51 a4 fun v54 =>
 some (v54, h51)) (some (.tup [], h51))) fun v55 h56 =>
 pickB v53 v55 (.bool false) fun v57 =>
 bnd (wantV v57 true (ld h56 a2 fun v58 =>
 some (v58, h56)) (some (.tup [], h56))) fun v59 h60 =>
 bnd (wantV v57 true (ld h60 a3 fun v61 =>
 some (v61, h60)) (some (.tup [], h60))) fun v62 h63 =>
 bnd (wantV v57 true (get1 (bin .add v62 (.int .i64 (.ofNat 1))) fun v64 =>
 some (v64, h63)) (some (.tup [], h63))) fun v65 h66 =>
 bnd (wantV v57 true (get1 (bin .gtr v59 v65) fun v67 =>
 some (v67, h66)) (some (.tup [], h66))) fun v68 h69 =>
 pickB v57 v68 (.bool false) fun v70 =>
 tst v70
 (ld h69 a2 fun v71 =>
 callv rec a0 [v71] h69 fun v72 h73 =>
 some (.tup [], h73))
 (some (.tup [], h69))))
theorem b452 (n : Nat) (rec : Rec) (a0 : AV) (a1 : AV) (a2 : AV) (a3 : AV) (a4 : AV) (h : Heap) : bodyR Go.Proofs.Tryz.prog (tabs n) rec 452 [a0, a1, a2, a3, a4] h = c452 n rec a0 a1 a2 a3 a4 h := by kernel_rfl
-- (*detent·frame.Frame).get
def c479 (_n : Nat) (rec : Rec) (a0 : AV) (a1 : AV) (a2 : AV) (h : Heap) : Out :=
 mk h [(.bool false), (.int .i64 (.ofNat 0)), (.int .i64 (.ofNat 0)), (.int .i64 (.ofNat 0)), (.int .u64 (.ofNat 0))] fun v1 h2 =>
 callv rec (.func 483 [] []) [a0, a1] h2 fun v3 h4 =>
 ext v3 0 fun v5 =>
 ext v3 1 fun v6 =>
 yes true (aeqI v6 (.int .i64 (.ofNat 0))) fun v7 =>
 tst v7
 (stn 5 h4 v1 (.agg [(.bool false), (.int .i64 (.ofNat 0)), (.int .i64 (.ofNat 0)), (.int .i64 (.ofNat 0)), (.int .u64 (.ofNat 0))]) fun h8 =>
 ldn 5 h8 v1 fun v9 => some (.tup [v9, v6], h8))
 (mk h4 [(.bool false), (.int .i64 (.ofNat 0)), (.int .i64 (.ofNat 0)), (.int .i64 (.ofNat 0)), (.int .u64 (.ofNat 0))] fun v10 h11 =>
 callv rec (.func 484 [] []) [v5, a2, (.func 530 [] [v10])] h11 fun v12 h13 =>
 ldn 5 h13 v10 fun v14 =>
 stn 5 h13 v1 v14 fun h15 =>
 ldn 5 h15 v1 fun v16 => some (.tup [v16, v12], h15))
theorem b479 (n : Nat) (rec : Rec) (a0 : AV) (a1 : AV) (a2 : AV) (h : Heap) : bodyR Go.Proofs.Tryz.prog (tabs n) rec 479 [a0, a1, a2] h = c479 n rec a0 a1 a2 h := by kernel_rfl
-- (*detent·frame.Frame).operands
def c480 (_n : Nat) (rec : Rec) (a0 : AV) (a1 : AV) (h : Heap) : Out :=
 getL (cellsOf a1) fun u1 => mk h u1 fun v2 h3 =>
 mk h3 [(.bool false), (.int .i64 (.ofNat 0)), (.int .i64 (.ofNat 0)), (.int .i64 (.ofNat 0)), (.int .u64 (.ofNat 0))] fun v4 h5 =>
 mk h5 [(.bool false), (.int .i64 (.ofNat 0)), (.int .i64 (.ofNat 0)), (.int .i64 (.ofNat 0)), (.int .u64 (.ofNat 0))] fun v6 h7 =>
 fa 0 v2 fun v8 =>
 ld h7 v8 fun v9 =>
 get1 (bin .geq v9 (.int .i64 (.ofNat 16))) fun v10 =>
 bnd (wantV v10 true (fa 0 v2 fun v11 =>
 some (v11, h7)) (some (.tup [], h7))) fun v12 h13 =>
 bnd (wantV v10 true (ld h13 v12 fun v14 =>
 some (v14, h13)) (some (.tup [], h13))) fun v15 h16 =>
 bnd (wantV v10 true (callv rec (.func 159 [] []) [v15] h16 fun v17 h18 =>
 some (v17, h18)) (some (.tup [], h16))) fun v19 h20 =>
 bnd (wantV v10 true (yes false (aeqI v19 (.int .i64 (.ofNat 1))) fun v21 =>
 some (v21, h20)) (some (.tup [], h20))) fun v22 h23 =>
 pickB v10 v22 (.bool false) fun v24 =>
 bnd (wantV v24 false (fa 0 v2 fun v25 =>
 some (v25, h23)) (some (.tup [], h23))) fun v26 h27 =>
 bnd (wantV v24 false (ld h27 v26 fun v28 =>
 some (v28, h27)) (some (.tup [], h27))) fun v29 h30 =>
 bnd (wantV v24 false (get1 (bin .geq v29 (.int .i64 (.ofNat 49))) fun v31 =>
 some (v31, h30)) (some (.tup [], h30))) fun v32 h33 =>
 bnd (wantV v24 false (some (v32, h33)) (some (.tup [], h33))) fun v34 h35 =>
 bnd (wantV v34 true (fa 0 v2 fun v36 =>
 some (v36, h35)) (some (.tup [], h35))) fun v37 h38 =>
 bnd (wantV v34 true (ld h38 v37 fun v39 =>
 some (v39, h38)) (some (.tup [], h38))) fun v40 h41 =>
 bnd (wantV v34 true (callv rec (.func 159 [] []) [v40] h41 fun v42 h43 =>
 some (v42, h43)) (some (.tup [], h41))) fun v44 h45 =>
 bnd (wantV v34 true (yes false (aeqI v44 (.int .i64 (.ofNat 2))) fun v46 =>
 some (v46, h45)) (some (.tup [], h45))) fun v47 h48 =>
 bnd (wantV v24 false (pickB v34 v47 (.bool false) fun v49 =>
 some (v49, h48)) (some (.tup [], h48))) fun v50 h51 =>
 pickB v24 (.bool true) v50 fun v52 =>
 tst v52
 (bnd (fa 1 v2 fun v53 =>
 some (v53, h51)) fun v54 h55 =>
 bnd (ld h55 v54 fun v56 =>
 some (v56, h55)) fun v57 h58 =>
 bnd (nil? a0 fun v59 =>
 some (v59, h58)) fun v60 h61 =>
 bnd (fa 0 v60 fun v62 =>
 some (v62, h61)) fun v63 h64 =>
 bnd (ixA 10 5 v63 v57 fun v65 =>
 some (v65, h64)) fun v66 h67 =>
 bnd (ldn 5 h67 v66 fun v68 =>
 some (v68, h67)) fun v69 h70 =>
 bnd (fa 2 v2 fun v71 =>
 some (v71, h70)) fun v72 h73 =>
 bnd (ld h73 v72 fun v74 =>
 some (v74, h73)) fun v75 h76 =>
 bnd (nil? a0 fun v77 =>
 some (v77, h76)) fun v78 h79 =>
 bnd (fa 0 v78 fun v80 =>
 some (v80, h79)) fun v81 h82 =>
 bnd (ixA 10 5 v81 v75 fun v83 =>
 some (v83, h82)) fun v84 h85 =>
 bnd (ldn 5 h85 v84 fun v86 =>
 some (v86, h85)) fun v87 h88 =>
 bnd (stn 5 h88 v4 v69 fun h89 =>
 some ((.tup []), h89)) fun v90 h91 =>
 bif chkS true 5 h91 v84 v87 then bif chkS false 1 h91 v72 v75 then bnd (stn 5 h91 v6 v87 fun h92 =>
 some ((.tup []), h92)) fun v93 h94 =>
 ldn 5 h94 v4 fun v95 => ldn 5 h94 v6 fun v96 => some (.tup [v95, v96], h94) else none else none)
 (bnd (fa 1 v2 fun v97 =>
 some (v97, h51)) fun v98 h99 =>
 bnd (ld h99 v98 fun v100 =>
 some (v100, h99)) fun v101 h102 =>
 bnd (nil? a0 fun v103 =>
 some (v103, h102)) fun v104 h105 =>
 bnd (fa 0 v104 fun v106 =>
 some (v106, h105)) fun v107 h108 =>
 bnd (ixA 10 5 v107 v101 fun v109 =>
 some (v109, h108)) fun v110 h111 =>
 bnd (ldn 5 h111 v110 fun v112 =>
 some (v112, h111)) fun v113 h114 =>
 bnd (fa 4 v2 fun v115 =>
 some (v115, h114)) fun v116 h117 =>
 bnd (ld h117 v116 fun v118 =>
 some (v118, h117)) fun v119 h120 =>
 bnd (callv rec (.func 531 [] []) [v119] h120 fun v121 h122 =>
 some (v121, h122)) fun v123 h124 =>
 bif chkS true 5 h124 v110 v113 then bif chkS false 1 h124 v98 v101 then bnd (callv rec (.func 141 [] []) [v123] h124 fun v125 h126 =>
 some (v125, h126)) fun v127 h128 =>
 bif chkS true 5 h128 v110 v113 then bif chkS false 1 h128 v98 v101 then bnd (stn 5 h128 v4 v113 fun h129 =>
 some ((.tup []), h129)) fun v130 h131 =>
 bnd (stn 5 h131 v6 v127 fun h132 =>
 some ((.tup []), h132)) fun v133 h134 =>
 ldn 5 h134 v4 fun v135 => ldn 5 h134 v6 fun v136 => some (.tup [v135, v136], h134) else none else none else none else none)
theorem b480 (n : Nat) (rec : Rec) (a0 : AV) (a1 : AV) (h : Heap) : bodyR Go.Proofs.Tryz.prog (tabs n) rec 480 [a0, a1] h = c480 n rec a0 a1 h := by kernel_rfl
-- (*detent·frame.Frame).all
def c483 (_n : Nat) (_rec : Rec) (a0 : AV) (a1 : AV) (h : Heap) : Out :=
 yes false (aeqP a0 .nilp) fun v1 =>
 tst v1
 (some (.tup [.nils, (.int .i64 (.ofNat 6))], h))
 (tst a1
 (nil? a0 fun v2 =>
 fa 50 v2 fun v3 =>
 slA 8 5 h v3 none none none fun v4 =>
 some (.tup [v4, (.int .i64 (.ofNat 0))], h))
 (nil? a0 fun v5 =>
 fa 0 v5 fun v6 =>
 slA 10 5 h v6 none none none fun v7 =>
 some (.tup [v7, (.int .i64 (.ofNat 0))], h)))
theorem b483 (n : Nat) (rec : Rec) (a0 : AV) (a1 : AV) (h : Heap) : bodyR Go.Proofs.Tryz.prog (tabs n) rec 483 [a0, a1] h = c483 n rec a0 a1 h := by kernel_rfl
-- detent·frame.in
def c484 (_n : Nat) (rec : Rec) (a0 : AV) (a1 : AV) (a2 : AV) (h : Heap) : Out :=
 get1 (bin .lss a1 (.int .i64 (.ofNat 0))) fun v1 =>
 bnd (wantV v1 false (some (a1, h)) (some (.tup [], h))) fun v2 h3 =>
 bnd (wantV v1 false (some (a0, h3)) (some (.tup [], h3))) fun v4 h5 =>
 bnd (wantV v1 false (lenS v4 fun v6 =>
 some (v6, h5)) (some (.tup [], h5))) fun v7 h8 =>
 bnd (wantV v1 false (get1 (bin .geq v2 v7) fun v9 =>
 some (v9, h8)) (some (.tup [], h8))) fun v10 h11 =>
 pickB v1 (.bool true) v10 fun v12 =>
 tst v12
 (some ((.int .i64 (.ofNat 2)), h11))
 (ixS 5 a0 a1 fun v13 =>
 callv rec a2 [v13] h11 fun v14 h15 =>
 some ((.int .i64 (.ofNat 0)), h15))
theorem b484 (n : Nat) (rec : Rec) (a0 : AV) (a1 : AV) (a2 : AV) (h : Heap) : bodyR Go.Proofs.Tryz.prog (tabs n) rec 484 [a0, a1, a2] h = c484 n rec a0 a1 a2 h := by kernel_rfl
-- (*detent·frame.Frame).get$1
def c530 (_n : Nat) (_rec : Rec) (a0 : AV) (a1 : AV) (h : Heap) : Out :=
 nil? a0 fun v1 =>
 ldn 5 h v1 fun v2 =>
 stn 5 h a1 v2 fun h3 =>
 some (.tup [], h3)
theorem b530 (n : Nat) (rec : Rec) (a0 : AV) (a1 : AV) (h : Heap) : bodyR Go.Proofs.Tryz.prog (tabs n) rec 530 [a0, a1] h = c530 n rec a0 a1 h := by kernel_rfl
-- detent·alu.Word
def c531 (_n : Nat) (_rec : Rec) (a0 : AV) (h : Heap) : Out :=
 cvI .u64 a0 fun v1 =>
 some (v1, h)
theorem b531 (n : Nat) (rec : Rec) (a0 : AV) (h : Heap) : bodyR Go.Proofs.Tryz.prog (tabs n) rec 531 [a0] h = c531 n rec a0 h := by kernel_rfl
end Go.Ai
