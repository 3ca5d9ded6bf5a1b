/-
  WHAT FUNCTIONS COME TO, part 4: each one's body, types, slots and orders reckoned out, and that it is so.
-/
import Derived.Test.YtilmoifpikljhaaGreatDoorKTabs
import Derived.KernelRfl
set_option linter.unusedVariables false
set_option linter.unusedSimpArgs false
namespace Go.Ai
open Go
set_option maxRecDepth 100000
-- detent·pend.New
def c152 (n : Nat) (rec : Rec) (a0 : AV) (h : Heap) : Out :=
 get1 (bin .lss a0 (.int .i64 (.ofNat 1))) fun v1 =>
 bnd (wantV v1 false (some (a0, h)) (some (.tup [], h))) fun v2 h3 =>
 bnd (wantV v1 false (get1 (bin .gtr v2 (.int .i64 (.ofNat 64))) fun v4 =>
 some (v4, h3)) (some (.tup [], h3))) fun v5 h6 =>
 pickB v1 (.bool true) v5 fun v7 =>
 tst v7
 (some (.tup [.nilp, (.int .i64 (.ofNat 2))], h6))
 (mk h6 [.nils, (.int .i64 (.ofNat 0)), (.int .i64 (.ofNat 0)), (.int .i64 (.ofNat 0)), (.int .i64 (.ofNat 0)), (.int .i64 (.ofNat 0)), (.int .i64 (.ofNat 0)), (.int .i64 (.ofNat 0)), (.int .i64 (.ofNat 0)), (.int .i64 (.ofNat 0)), (.int .i64 (.ofNat 0)), (.int .i64 (.ofNat 0)), (.int .i64 (.ofNat 0)), (.int .i64 (.ofNat 0)), (.int .i64 (.ofNat 0)), (.int .i64 (.ofNat 0)), (.int .i64 (.ofNat 0)), (.int .i64 (.ofNat 0)), (.int .i64 (.ofNat 0)), (.int .i64 (.ofNat 0)), (.int .i64 (.ofNat 0)), (.int .i64 (.ofNat 0)), (.int .i64 (.ofNat 0)), (.int .i64 (.ofNat 0)), (.int .i64 (.ofNat 0)), (.int .i64 (.ofNat 0)), (.int .i64 (.ofNat 0)), (.int .i64 (.ofNat 0)), (.int .i64 (.ofNat 0)), (.int .i64 (.ofNat 0)), (.int .i64 (.ofNat 0)), (.int .i64 (.ofNat 0)), (.int .i64 (.ofNat 0)), (.int .i64 (.ofNat 0)), (.int .i64 (.ofNat 0)), (.int .i64 (.ofNat 0)), (.int .i64 (.ofNat 0)), (.int .i64 (.ofNat 0)), (.int .i64 (.ofNat 0)), (.int .i64 (.ofNat 0)), (.int .i64 (.ofNat 0)), (.int .i64 (.ofNat 0)), (.int .i64 (.ofNat 0)), (.int .i64 (.ofNat 0)), (.int .i64 (.ofNat 0)), (.int .i64 (.ofNat 0)), (.int .i64 (.ofNat 0)), (.int .i64 (.ofNat 0)), (.int .i64 (.ofNat 0)), (.int .i64 (.ofNat 0)), (.int .i64 (.ofNat 0)), (.int .i64 (.ofNat 0)), (.int .i64 (.ofNat 0)), (.int .i64 (.ofNat 0)), (.int .i64 (.ofNat 0)), (.int .i64 (.ofNat 0)), (.int .i64 (.ofNat 0)), (.int .i64 (.ofNat 0)), (.int .i64 (.ofNat 0)), (.int .i64 (.ofNat 0)), (.int .i64 (.ofNat 0)), (.int .i64 (.ofNat 0)), (.int .i64 (.ofNat 0)), (.int .i64 (.ofNat 0)), (.int .i64 (.ofNat 0)), (.int .i64 (.ofNat 0)), (.int .i64 (.ofNat 0)), (.int .i64 (.ofNat 0)), (.int .i64 (.ofNat 0)), (.int .i64 (.ofNat 0)), (.int .i64 (.ofNat 0)), (.int .i64 (.ofNat 0)), (.int .i64 (.ofNat 0)), (.int .i64 (.ofNat 0)), (.int .i64 (.ofNat 0)), (.int .i64 (.ofNat 0)), (.int .i64 (.ofNat 0)), (.int .i64 (.ofNat 0)), (.int .i64 (.ofNat 0)), (.int .i64 (.ofNat 0)), (.int .i64 (.ofNat 0)), (.int .i64 (.ofNat 0)), (.int .i64 (.ofNat 0)), (.int .i64 (.ofNat 0)), (.int .i64 (.ofNat 0)), (.int .i64 (.ofNat 0)), (.int .i64 (.ofNat 0)), (.int .i64 (.ofNat 0)), (.int .i64 (.ofNat 0)), (.int .i64 (.ofNat 0)), (.int .i64 (.ofNat 0)), (.int .i64 (.ofNat 0)), (.int .i64 (.ofNat 0)), (.int .i64 (.ofNat 0)), (.int .i64 (.ofNat 0)), (.int .i64 (.ofNat 0)), (.int .i64 (.ofNat 0)), (.int .i64 (.ofNat 0)), (.int .i64 (.ofNat 0)), (.int .i64 (.ofNat 0)), (.int .i64 (.ofNat 0)), (.int .i64 (.ofNat 0)), (.int .i64 (.ofNat 0)), (.int .i64 (.ofNat 0)), (.int .i64 (.ofNat 0)), (.int .i64 (.ofNat 0)), (.int .i64 (.ofNat 0)), (.int .i64 (.ofNat 0)), (.int .i64 (.ofNat 0)), (.int .i64 (.ofNat 0)), (.int .i64 (.ofNat 0)), (.int .i64 (.ofNat 0)), (.int .i64 (.ofNat 0)), (.int .i64 (.ofNat 0)), (.int .i64 (.ofNat 0)), (.int .i64 (.ofNat 0)), (.int .i64 (.ofNat 0)), (.int .i64 (.ofNat 0)), (.int .i64 (.ofNat 0)), (.int .i64 (.ofNat 0)), (.int .i64 (.ofNat 0)), (.int .i64 (.ofNat 0)), (.int .i64 (.ofNat 0)), (.int .i64 (.ofNat 0)), (.int .i64 (.ofNat 0)), (.int .i64 (.ofNat 0)), (.int .i64 (.ofNat 0)), (.int .i64 (.ofNat 0)), (.int .i64 (.ofNat 0)), (.int .i64 (.ofNat 0)), (.int .i64 (.ofNat 0)), (.int .i64 (.ofNat 0)), (.int .i64 (.ofNat 0)), (.int .i64 (.ofNat 0)), (.int .i64 (.ofNat 0)), (.int .i64 (.ofNat 0)), (.int .i64 (.ofNat 0)), (.int .i64 (.ofNat 0)), (.int .i64 (.ofNat 0)), (.int .i64 (.ofNat 0)), (.int .i64 (.ofNat 0)), (.int .i64 (.ofNat 0)), (.int .i64 (.ofNat 0)), (.int .i64 (.ofNat 0)), (.int .i64 (.ofNat 0)), (.int .i64 (.ofNat 0)), (.int .i64 (.ofNat 0)), (.int .i64 (.ofNat 0)), (.int .i64 (.ofNat 0)), (.int .i64 (.ofNat 0)), (.int .i64 (.ofNat 0)), (.int .i64 (.ofNat 0)), (.int .i64 (.ofNat 0)), (.int .i64 (.ofNat 0)), (.int .i64 (.ofNat 0)), (.int .i64 (.ofNat 0)), (.int .i64 (.ofNat 0)), (.int .i64 (.ofNat 0)), (.int .i64 (.ofNat 0)), (.int .i64 (.ofNat 0)), (.int .i64 (.ofNat 0)), (.int .i64 (.ofNat 0)), (.int .i64 (.ofNat 0)), (.int .i64 (.ofNat 0)), (.int .i64 (.ofNat 0)), (.int .i64 (.ofNat 0)), (.int .i64 (.ofNat 0)), (.int .i64 (.ofNat 0)), (.int .i64 (.ofNat 0)), (.int .i64 (.ofNat 0)), (.int .i64 (.ofNat 0)), (.int .i64 (.ofNat 0)), (.int .i64 (.ofNat 0)), (.int .i64 (.ofNat 0)), (.int .i64 (.ofNat 0)), (.int .i64 (.ofNat 0)), (.int .i64 (.ofNat 0)), (.int .i64 (.ofNat 0)), (.int .i64 (.ofNat 0)), (.int .i64 (.ofNat 0)), (.int .i64 (.ofNat 0)), (.int .i64 (.ofNat 0)), (.int .i64 (.ofNat 0)), (.int .i64 (.ofNat 0)), (.int .i64 (.ofNat 0)), (.int .i64 (.ofNat 0)), (.int .i64 (.ofNat 0)), (.int .i64 (.ofNat 0)), (.int .i64 (.ofNat 0)), (.int .i64 (.ofNat 0)), (.int .i64 (.ofNat 0)), (.int .i64 (.ofNat 0)), (.int .i64 (.ofNat 0)), (.int .i64 (.ofNat 0)), (.int .i64 (.ofNat 0)), (.int .i64 (.ofNat 0)), (.int .i64 (.ofNat 0)), (.int .i64 (.ofNat 0)), (.int .i64 (.ofNat 0)), (.int .i64 (.ofNat 0)), (.int .i64 (.ofNat 0)), (.int .i64 (.ofNat 0)), (.int .i64 (.ofNat 0)), (.int .i64 (.ofNat 0)), (.int .i64 (.ofNat 0)), (.int .i64 (.ofNat 0)), (.int .i64 (.ofNat 0)), (.int .i64 (.ofNat 0)), (.int .i64 (.ofNat 0)), (.int .i64 (.ofNat 0)), (.int .i64 (.ofNat 0)), (.int .i64 (.ofNat 0)), (.int .i64 (.ofNat 0)), (.int .i64 (.ofNat 0)), (.int .i64 (.ofNat 0)), (.int .i64 (.ofNat 0)), (.int .i64 (.ofNat 0)), (.int .i64 (.ofNat 0)), (.int .i64 (.ofNat 0)), (.int .i64 (.ofNat 0)), (.int .i64 (.ofNat 0)), (.int .i64 (.ofNat 0)), (.int .i64 (.ofNat 0)), (.int .i64 (.ofNat 0)), (.int .i64 (.ofNat 0)), (.int .i64 (.ofNat 0)), (.int .i64 (.ofNat 0)), (.int .i64 (.ofNat 0)), (.int .i64 (.ofNat 0)), (.int .i64 (.ofNat 0)), (.int .i64 (.ofNat 0)), (.int .i64 (.ofNat 0)), (.int .i64 (.ofNat 0)), (.int .i64 (.ofNat 0)), (.int .i64 (.ofNat 0)), (.int .i64 (.ofNat 0)), (.int .i64 (.ofNat 0)), (.int .i64 (.ofNat 0)), (.int .i64 (.ofNat 0)), (.int .i64 (.ofNat 0)), (.int .i64 (.ofNat 0)), (.int .i64 (.ofNat 0)), (.int .i64 (.ofNat 0)), (.int .i64 (.ofNat 0)), (.int .i64 (.ofNat 0)), (.int .i64 (.ofNat 0)), (.int .i64 (.ofNat 0)), (.int .i64 (.ofNat 0)), (.int .i64 (.ofNat 0)), (.int .i64 (.ofNat 0)), (.int .i64 (.ofNat 0)), (.int .i64 (.ofNat 0)), (.int .i64 (.ofNat 0)), (.int .i64 (.ofNat 0)), (.int .i64 (.ofNat 0)), (.int .i64 (.ofNat 0)), (.int .i64 (.ofNat 0)), (.int .i64 (.ofNat 0)), (.int .i64 (.ofNat 0)), (.int .i64 (.ofNat 0)), (.int .i64 (.ofNat 0)), (.int .i64 (.ofNat 0)), (.int .i64 (.ofNat 0)), (.int .i64 (.ofNat 0)), (.int .i64 (.ofNat 0)), (.int .i64 (.ofNat 0)), (.int .i64 (.ofNat 0)), (.int .i64 (.ofNat 0)), (.int .i64 (.ofNat 0)), (.int .i64 (.ofNat 0)), (.int .i64 (.ofNat 0)), (.int .i64 (.ofNat 0)), (.int .i64 (.ofNat 0)), (.int .i64 (.ofNat 0)), (.int .i64 (.ofNat 0)), (.int .i64 (.ofNat 0)), (.int .i64 (.ofNat 0)), (.int .i64 (.ofNat 0)), (.int .i64 (.ofNat 0)), (.int .i64 (.ofNat 0)), (.int .i64 (.ofNat 0)), (.int .i64 (.ofNat 0)), (.int .i64 (.ofNat 0)), (.int .i64 (.ofNat 0)), (.int .i64 (.ofNat 0)), (.int .i64 (.ofNat 0)), (.int .i64 (.ofNat 0)), (.int .i64 (.ofNat 0)), (.int .i64 (.ofNat 0))] fun v8 h9 =>
 iter n (fun nx10 w11 h12 => un w11 fun v13 l14 => un l14 fun v15 l16 => un l16 fun v17 l18 => get1 (bin .lss v17 v15) fun v19 =>
 tst v19
 (callv rec (.func 232 [] []) [(.int .i64 (.ofNat 256))] h12 fun v20 h21 =>
 ext v20 0 fun v22 =>
 ext v20 1 fun v23 =>
 yes true (aeqI v23 (.int .i64 (.ofNat 0))) fun v24 =>
 tst v24
 (some (.tup [.nilp, v23], h21))
 (nil? v13 fun v25 =>
 fa 0 v25 fun v26 =>
 ld h21 v26 fun v27 =>
 getL (cellsOf v22) fun u28 => bif Nat.beq u28.length 1 then getL (over [.nilp] 0 u28) fun u29 => mkSlice h21 u29 1 1 (some 1) fun v30 h31 =>
 app 1 8 h31 v27 v30 fun v32 h33 =>
 nil? v13 fun v34 =>
 fa 0 v34 fun v35 =>
 st h33 v35 v32 fun h36 =>
 get1 (bin .add v17 (.int .i64 (.ofNat 1))) fun v37 =>
 nx10 [v13, v15, v37] h36 else none))
 (some (.tup [v13, (.int .i64 (.ofNat 0))], h12))) [v8, a0, (.int .i64 (.ofNat 0))] h9)
theorem b152 (n : Nat) (rec : Rec) (a0 : AV) (h : Heap) : bodyR Go.Proofs.Tryz.prog (tabs n) rec 152 [a0] h = c152 n rec a0 h := by kernel_rfl
-- detent·bank.New
def c153 (n : Nat) (rec : Rec) (a0 : AV) (a1 : AV) (h : Heap) : Out :=
 get1 (bin .lss a0 (.int .i64 (.ofNat 1))) fun v1 =>
 bnd (wantV v1 false (some (a0, h)) (some (.tup [], h))) fun v2 h3 =>
 bnd (wantV v1 false (get1 (bin .gtr v2 (.int .i64 (.ofNat 64))) fun v4 =>
 some (v4, h3)) (some (.tup [], h3))) fun v5 h6 =>
 pickB v1 (.bool true) v5 fun v7 =>
 tst v7
 (some (.tup [.nilp, (.int .i64 (.ofNat 2))], h6))
 (mk h6 [.nils] fun v8 h9 =>
 iter n (fun nx10 w11 h12 => un w11 fun v13 l14 => un l14 fun v15 l16 => un l16 fun v17 l18 => un l18 fun v19 l20 => get1 (bin .lss v19 v17) fun v21 =>
 tst v21
 (bnd (nil? v15 fun v22 =>
 some (v22, h12)) fun v23 h24 =>
 bnd (fa 0 v23 fun v25 =>
 some (v25, h24)) fun v26 h27 =>
 bnd (ld h27 v26 fun v28 =>
 some (v28, h27)) fun v29 h30 =>
 bnd (callv rec (.func 233 [] []) [v13] h30 fun v31 h32 =>
 some (v31, h32)) fun v33 h34 =>
 bif chkS false 1 h34 v26 v29 then bnd (getL (cellsOf v33) fun u35 => bif Nat.beq u35.length 1 then getL (over [.nilp] 0 u35) fun u36 => mkSlice h34 u36 1 1 (some 1) fun v37 h38 =>
 some (v37, h38) else none) fun v39 h40 =>
 bnd (app 1 8 h40 v29 v39 fun v41 h42 =>
 some (v41, h42)) fun v43 h44 =>
 bnd (nil? v15 fun v45 =>
 some (v45, h44)) fun v46 h47 =>
 bnd (fa 0 v46 fun v48 =>
 some (v48, h47)) fun v49 h50 =>
 bnd (st h50 v49 v43 fun h51 =>
 some ((.tup []), h51)) fun v52 h53 =>
 get1 (bin .add v19 (.int .i64 (.ofNat 1))) fun v54 =>
 nx10 [v13, v15, v17, v54] h53 else none)
 (some (.tup [v15, (.int .i64 (.ofNat 0))], h12))) [a1, v8, a0, (.int .i64 (.ofNat 0))] h9)
theorem b153 (n : Nat) (rec : Rec) (a0 : AV) (a1 : AV) (h : Heap) : bodyR Go.Proofs.Tryz.prog (tabs n) rec 153 [a0, a1] h = c153 n rec a0 a1 h := by kernel_rfl
-- detent·calls.New
def c154 (n : Nat) (rec : Rec) (a0 : AV) (h : Heap) : Out :=
 get1 (bin .lss a0 (.int .i64 (.ofNat 1))) fun v1 =>
 bnd (wantV v1 false (some (a0, h)) (some (.tup [], h))) fun v2 h3 =>
 bnd (wantV v1 false (get1 (bin .gtr v2 (.int .i64 (.ofNat 64))) fun v4 =>
 some (v4, h3)) (some (.tup [], h3))) fun v5 h6 =>
 pickB v1 (.bool true) v5 fun v7 =>
 tst v7
 (some (.tup [.nilp, (.int .i64 (.ofNat 2))], h6))
 (mk h6 [.nils, (.int .i64 (.ofNat 0))] fun v8 h9 =>
 iter n (fun nx10 w11 h12 => un w11 fun v13 l14 => un l14 fun v15 l16 => un l16 fun v17 l18 => get1 (bin .lss v17 v15) fun v19 =>
 tst v19
 (callv rec (.func 234 [] []) [(.int .i64 (.ofNat 64))] h12 fun v20 h21 =>
 ext v20 0 fun v22 =>
 ext v20 1 fun v23 =>
 yes true (aeqI v23 (.int .i64 (.ofNat 0))) fun v24 =>
 tst v24
 (some (.tup [.nilp, v23], h21))
 (nil? v13 fun v25 =>
 fa 0 v25 fun v26 =>
 ld h21 v26 fun v27 =>
 getL (cellsOf v22) fun u28 => bif Nat.beq u28.length 1 then getL (over [.nilp] 0 u28) fun u29 => mkSlice h21 u29 1 1 (some 1) fun v30 h31 =>
 app 1 8 h31 v27 v30 fun v32 h33 =>
 nil? v13 fun v34 =>
 fa 0 v34 fun v35 =>
 st h33 v35 v32 fun h36 =>
 get1 (bin .add v17 (.int .i64 (.ofNat 1))) fun v37 =>
 nx10 [v13, v15, v37] h36 else none))
 (some (.tup [v13, (.int .i64 (.ofNat 0))], h12))) [v8, a0, (.int .i64 (.ofNat 0))] h9)
theorem b154 (n : Nat) (rec : Rec) (a0 : AV) (h : Heap) : bodyR Go.Proofs.Tryz.prog (tabs n) rec 154 [a0] h = c154 n rec a0 h := by kernel_rfl
-- detent·mask.bit
def c155 (_n : Nat) (rec : Rec) (a0 : AV) (h : Heap) : Out :=
 callv rec (.func 235 [] []) [a0] h fun v1 h2 =>
 get1 (una .not v1) fun v3 =>
 tst v3
 (some ((.int .u64 (.ofNat 0)), h2))
 (cvI .u64 a0 fun v4 =>
 get1 (bin .shl (.int .u64 (.ofNat 1)) v4) fun v5 =>
 some (v5, h2))
theorem b155 (n : Nat) (rec : Rec) (a0 : AV) (h : Heap) : bodyR Go.Proofs.Tryz.prog (tabs n) rec 155 [a0] h = c155 n rec a0 h := by kernel_rfl
-- (*detent·kernel.Kernel).such$1
def c156 (n : Nat) (rec : Rec) (a0 : AV) (a1 : AV) (a2 : AV) (h : Heap) : Out :=
 ld h a1 fun v1 =>
 yes false (aeqP v1 .nilp) fun v2 =>
 tst v2
 (some (.tup [], h))
 (ld h a1 fun v3 =>
 nil? v3 fun v4 =>
 fa 23 v4 fun v5 =>
 ldn 32 h v5 fun v6 =>
 iter n (fun nx7 w8 h9 => un w8 fun v10 l11 => un l11 fun v12 l13 => un l13 fun v14 l15 => un l15 fun v16 l17 => un l17 fun v18 l19 => un l19 fun v20 l21 => un l21 fun v22 l23 => un l23 fun v24 l25 => un l25 fun v26 l27 => un l27 fun v28 l29 => un l29 fun v30 l31 => un l31 fun v32 l33 => get1 (bin .lss v16 (.int .i64 (.ofNat 32))) fun v34 =>
 tst v34
 (ixG false 32 1 v14 v16 fun v35 =>
 yes true (aeqP v35 .nilp) fun v36 =>
 bnd (wantV v36 true (ld h9 v12 fun v37 =>
 some (v37, h9)) (some (.tup [], h9))) fun v38 h39 =>
 bnd (wantV v36 true (some (v35, h39)) (some (.tup [], h39))) fun v40 h41 =>
 bnd (wantV v36 true (callv rec v38 [v40] h41 fun v42 h43 =>
 some (v42, h43)) (some (.tup [], h41))) fun v44 h45 =>
 pickB v36 v44 (.bool false) fun v46 =>
 bnd (wantV v46 true (some (v10, h45)) (some (.tup [], h45))) fun v47 h48 =>
 bnd (wantV v46 true (some (v16, h48)) (some (.tup [], h48))) fun v49 h50 =>
 bnd (wantV v46 true (some (v35, h50)) (some (.tup [], h50))) fun v51 h52 =>
 bnd (wantV v46 true (callv rec v47 [v49, v51] h52 fun v53 h54 =>
 some (v53, h54)) (some (.tup [], h52))) fun v55 h56 =>
 bnd (wantV v46 true (get1 (una .not v55) fun v57 =>
 some (v57, h56)) (some (.tup [], h56))) fun v58 h59 =>
 pickB v46 v58 (.bool false) fun v60 =>
 tst v60
 (some (.tup [], h59))
 (get1 (bin .add v16 (.int .i64 (.ofNat 1))) fun v61 =>
 nx7 [v10, v12, v14, v61, v38, v40, v44, v47, v49, v51, v55, v58] h59))
 (some (.tup [], h9))) [a0, a2, v6, (.int .i64 (.ofNat 0)), .bot, .bot, .bot, .bot, .bot, .bot, .bot, .bot] h)
theorem b156 (n : Nat) (rec : Rec) (a0 : AV) (a1 : AV) (a2 : AV) (h : Heap) : bodyR Go.Proofs.Tryz.prog (tabs n) rec 156 [a0, a1, a2] h = c156 n rec a0 a1 a2 h := by kernel_rfl
-- detent·isa.Check$1
def c157 (_n : Nat) (_rec : Rec) (a0 : AV) (a1 : AV) (a2 : AV) (h : Heap) : Out :=
 get1 (bin .lss a0 a1) fun v1 =>
 bnd (wantV v1 false (some (a0, h)) (some (.tup [], h))) fun v2 h3 =>
 bnd (wantV v1 false (some (a2, h3)) (some (.tup [], h3))) fun v4 h5 =>
 bnd (wantV v1 false (get1 (bin .geq v2 v4) fun v6 =>
 some (v6, h5)) (some (.tup [], h5))) fun v7 h8 =>
 pickB v1 (.bool true) v7 fun v9 =>
 some (v9, h8)
theorem b157 (n : Nat) (rec : Rec) (a0 : AV) (a1 : AV) (a2 : AV) (h : Heap) : bodyR Go.Proofs.Tryz.prog (tabs n) rec 157 [a0, a1, a2] h = c157 n rec a0 a1 a2 h := by kernel_rfl
-- detent·isa.has
def c158 (_n : Nat) (_rec : Rec) (a0 : AV) (h : Heap) : Out :=
 getL (cellsOf a0) fun u1 => mk h u1 fun v2 h3 =>
 mk h3 [(.bool false), (.bool false), (.bool false), (.bool false)] fun v4 h5 =>
 fa 1 v2 fun v6 =>
 ld h5 v6 fun v7 =>
 yes true (aeqI v7 (.int .i64 (.ofNat 0))) fun v8 =>
 fa 2 v2 fun v9 =>
 ld h5 v9 fun v10 =>
 yes true (aeqI v10 (.int .i64 (.ofNat 0))) fun v11 =>
 fa 3 v2 fun v12 =>
 ld h5 v12 fun v13 =>
 yes true (aeqI v13 (.int .i64 (.ofNat 0))) fun v14 =>
 fa 4 v2 fun v15 =>
 ld h5 v15 fun v16 =>
 yes true (aeqI v16 (.int .i64 (.ofNat 0))) fun v17 =>
 getL (cellsOf v8) fun u18 => bif Nat.beq u18.length 1 then getL (over [(.bool false), (.bool false), (.bool false), (.bool false)] 0 u18) fun u19 => getL (cellsOf v11) fun u20 => bif Nat.beq u20.length 1 then getL (over u19 1 u20) fun u21 => getL (cellsOf v14) fun u22 => bif Nat.beq u22.length 1 then getL (over u21 2 u22) fun u23 => getL (cellsOf v17) fun u24 => bif Nat.beq u24.length 1 then getL (over u23 3 u24) fun u25 => stn 4 h5 v4 (.agg u25) fun h26 =>
 ldn 4 h26 v4 fun v27 => some (v27, h26) else none else none else none else none
theorem b158 (n : Nat) (rec : Rec) (a0 : AV) (h : Heap) : bodyR Go.Proofs.Tryz.prog (tabs n) rec 158 [a0] h = c158 n rec a0 h := by kernel_rfl
-- detent·isa.Class
def c159 (_n : Nat) (_rec : Rec) (a0 : AV) (h : Heap) : Out :=
 joinPt (fun w2 h3 => un w2 fun v4 l5 => un l5 fun v6 l7 => un l7 fun v8 l9 => un l9 fun v10 l11 => un l11 fun v12 l13 => un l13 fun v14 l15 => un l15 fun v16 l17 => un l17 fun v18 l19 => un l19 fun v20 l21 => un l21 fun v22 l23 => tst v6
 (some ((.int .i64 (.ofNat 1)), h3))
 (joinPt (fun w25 h26 => un w25 fun v27 l28 => un l28 fun v29 l30 => un l30 fun v31 l32 => un l32 fun v33 l34 => un l34 fun v35 l36 => un l36 fun v37 l38 => tst v29
 (some ((.int .i64 (.ofNat 2)), h26))
 (get1 (bin .geq v27 (.int .i64 (.ofNat 64))) fun v39 =>
 bnd (wantV v39 true (some (v27, h26)) (some (.tup [], h26))) fun v40 h41 =>
 bnd (wantV v39 true (get1 (bin .leq v40 (.int .i64 (.ofNat 67))) fun v42 =>
 some (v42, h41)) (some (.tup [], h41))) fun v43 h44 =>
 pickB v39 v43 (.bool false) fun v45 =>
 tst v45
 (some ((.int .i64 (.ofNat 3)), h44))
 (yes false (aeqI v27 (.int .i64 (.ofNat 72))) fun v46 =>
 bnd (wantV v46 false (some (v27, h44)) (some (.tup [], h44))) fun v47 h48 =>
 bnd (wantV v46 false (yes false (aeqI v47 (.int .i64 (.ofNat 73))) fun v49 =>
 some (v49, h48)) (some (.tup [], h48))) fun v50 h51 =>
 pickB v46 (.bool true) v50 fun v52 =>
 tst v52
 (some ((.int .i64 (.ofNat 4)), h51))
 (some ((.int .i64 (.ofNat 0)), h51))))) fun J24 =>
 get1 (bin .geq v4 (.int .i64 (.ofNat 32))) fun v53 =>
 bnd (wantV v53 true (some (v4, h3)) (some (.tup [], h3))) fun v54 h55 =>
 bnd (wantV v53 true (get1 (bin .leq v54 (.int .i64 (.ofNat 41))) fun v56 =>
 some (v56, h55)) (some (.tup [], h55))) fun v57 h58 =>
 pickB v53 v57 (.bool false) fun v59 =>
 tst v59
 (J24 [v4, v59, v16, v18, v20, v22] h58)
 (get1 (bin .geq v4 (.int .i64 (.ofNat 49))) fun v60 =>
 bnd (wantV v60 true (some (v4, h58)) (some (.tup [], h58))) fun v61 h62 =>
 bnd (wantV v60 true (get1 (bin .leq v61 (.int .i64 (.ofNat 57))) fun v63 =>
 some (v63, h62)) (some (.tup [], h62))) fun v64 h65 =>
 pickB v60 v64 (.bool false) fun v66 =>
 J24 [v4, v66, v16, v18, v20, v22] h65))) fun J1 =>
 get1 (bin .geq a0 (.int .i64 (.ofNat 0))) fun v67 =>
 bnd (wantV v67 true (some (a0, h)) (some (.tup [], h))) fun v68 h69 =>
 bnd (wantV v67 true (get1 (bin .leq v68 (.int .i64 (.ofNat 12))) fun v70 =>
 some (v70, h69)) (some (.tup [], h69))) fun v71 h72 =>
 pickB v67 v71 (.bool false) fun v73 =>
 tst v73
 (J1 [a0, v73, .bot, .bot, .bot, .bot, .bot, .bot, .bot, .bot] h72)
 (get1 (bin .geq a0 (.int .i64 (.ofNat 16))) fun v74 =>
 bnd (wantV v74 true (some (a0, h72)) (some (.tup [], h72))) fun v75 h76 =>
 bnd (wantV v74 true (get1 (bin .leq v75 (.int .i64 (.ofNat 27))) fun v77 =>
 some (v77, h76)) (some (.tup [], h76))) fun v78 h79 =>
 pickB v74 v78 (.bool false) fun v80 =>
 J1 [a0, v80, .bot, .bot, .bot, .bot, .bot, .bot, .bot, .bot] h79)
theorem b159 (n : Nat) (rec : Rec) (a0 : AV) (h : Heap) : bodyR Go.Proofs.Tryz.prog (tabs n) rec 159 [a0] h = c159 n rec a0 h := by kernel_rfl
-- (detent·isa.uses).and
def c160 (_n : Nat) (_rec : Rec) (a0 : AV) (a1 : AV) (h : Heap) : Out :=
 getL (cellsOf a0) fun u1 => mk h u1 fun v2 h3 =>
 getL (cellsOf a1) fun u4 => mk h3 u4 fun v5 h6 =>
 mk h6 [(.bool false), (.bool false), (.bool false), (.bool false)] fun v7 h8 =>
 fa 0 v2 fun v9 =>
 ld h8 v9 fun v10 =>
 bnd (wantV v10 true (fa 0 v5 fun v11 =>
 some (v11, h8)) (some (.tup [], h8))) fun v12 h13 =>
 bnd (wantV v10 true (ld h13 v12 fun v14 =>
 some (v14, h13)) (some (.tup [], h13))) fun v15 h16 =>
 pickB v10 v15 (.bool false) fun v17 =>
 fa 1 v2 fun v18 =>
 ld h16 v18 fun v19 =>
 bnd (wantV v19 true (fa 1 v5 fun v20 =>
 some (v20, h16)) (some (.tup [], h16))) fun v21 h22 =>
 bnd (wantV v19 true (ld h22 v21 fun v23 =>
 some (v23, h22)) (some (.tup [], h22))) fun v24 h25 =>
 pickB v19 v24 (.bool false) fun v26 =>
 fa 2 v2 fun v27 =>
 ld h25 v27 fun v28 =>
 bnd (wantV v28 true (fa 2 v5 fun v29 =>
 some (v29, h25)) (some (.tup [], h25))) fun v30 h31 =>
 bnd (wantV v28 true (ld h31 v30 fun v32 =>
 some (v32, h31)) (some (.tup [], h31))) fun v33 h34 =>
 pickB v28 v33 (.bool false) fun v35 =>
 fa 3 v2 fun v36 =>
 ld h34 v36 fun v37 =>
 bnd (wantV v37 true (fa 3 v5 fun v38 =>
 some (v38, h34)) (some (.tup [], h34))) fun v39 h40 =>
 bnd (wantV v37 true (ld h40 v39 fun v41 =>
 some (v41, h40)) (some (.tup [], h40))) fun v42 h43 =>
 pickB v37 v42 (.bool false) fun v44 =>
 getL (cellsOf v17) fun u45 => bif Nat.beq u45.length 1 then getL (over [(.bool false), (.bool false), (.bool false), (.bool false)] 0 u45) fun u46 => getL (cellsOf v26) fun u47 => bif Nat.beq u47.length 1 then getL (over u46 1 u47) fun u48 => getL (cellsOf v35) fun u49 => bif Nat.beq u49.length 1 then getL (over u48 2 u49) fun u50 => getL (cellsOf v44) fun u51 => bif Nat.beq u51.length 1 then getL (over u50 3 u51) fun u52 => stn 4 h43 v7 (.agg u52) fun h53 =>
 ldn 4 h53 v7 fun v54 => some (v54, h53) else none else none else none else none
theorem b160 (n : Nat) (rec : Rec) (a0 : AV) (a1 : AV) (h : Heap) : bodyR Go.Proofs.Tryz.prog (tabs n) rec 160 [a0, a1] h = c160 n rec a0 a1 h := by kernel_rfl
-- detent·isa.used
def c161 (_n : Nat) (rec : Rec) (a0 : AV) (h : Heap) : Out :=
 mk h [(.bool false), (.bool false), (.bool false), (.bool false)] fun v1 h2 =>
 yes false (aeqI a0 (.int .i64 (.ofNat 12))) fun v3 =>
 tst v3
 (stn 4 h2 v1 (.agg [(.bool true), (.bool false), (.bool false), (.bool false)]) fun h4 =>
 ldn 4 h4 v1 fun v5 => some (v5, h4))
 (yes false (aeqI a0 (.int .i64 (.ofNat 32))) fun v6 =>
 tst v6
 (stn 4 h2 v1 (.agg [(.bool false), (.bool false), (.bool true), (.bool false)]) fun h7 =>
 ldn 4 h7 v1 fun v8 => some (v8, h7))
 (yes false (aeqI a0 (.int .i64 (.ofNat 64))) fun v9 =>
 tst v9
 (stn 4 h2 v1 (.agg [(.bool true), (.bool false), (.bool true), (.bool false)]) fun h10 =>
 ldn 4 h10 v1 fun v11 => some (v11, h10))
 (yes false (aeqI a0 (.int .i64 (.ofNat 65))) fun v12 =>
 tst v12
 (stn 4 h2 v1 (.agg [(.bool false), (.bool true), (.bool true), (.bool false)]) fun h13 =>
 ldn 4 h13 v1 fun v14 => some (v14, h13))
 (joinPt (fun w16 h17 => un w16 fun v18 l19 => un l19 fun v20 l21 => un l21 fun v22 l23 => un l23 fun v24 l25 => tst v24
 (stn 4 h17 v20 (.agg [(.bool true), (.bool true), (.bool true), (.bool false)]) fun h26 =>
 ldn 4 h26 v20 fun v27 => some (v27, h26))
 (yes false (aeqI v22 (.int .i64 (.ofNat 72))) fun v28 =>
 tst v28
 (stn 4 h17 v20 (.agg [(.bool false), (.bool false), (.bool false), (.bool true)]) fun h29 =>
 ldn 4 h29 v20 fun v30 => some (v30, h29))
 (yes false (aeqI v22 (.int .i64 (.ofNat 73))) fun v31 =>
 tst v31
 (stn 4 h17 v20 (.agg [(.bool false), (.bool false), (.bool false), (.bool false)]) fun h32 =>
 ldn 4 h32 v20 fun v33 => some (v33, h32))
 (callv rec (.func 236 [] []) [v18] h17 fun v34 h35 =>
 callv rec (.func 159 [] []) [v18] h35 fun v36 h37 =>
 yes false (aeqI v36 (.int .i64 (.ofNat 2))) fun v38 =>
 callv rec (.func 236 [] []) [v18] h37 fun v39 h40 =>
 get1 (una .not v39) fun v41 =>
 getL (cellsOf v34) fun u42 => bif Nat.beq u42.length 1 then getL (over [(.bool true), (.bool false), (.bool false), (.bool false)] 1 u42) fun u43 => getL (cellsOf v38) fun u44 => bif Nat.beq u44.length 1 then getL (over u43 2 u44) fun u45 => getL (cellsOf v41) fun u46 => bif Nat.beq u46.length 1 then getL (over u45 3 u46) fun u47 => stn 4 h40 v20 (.agg u47) fun h48 =>
 ldn 4 h48 v20 fun v49 => some (v49, h48) else none else none else none)))) fun J15 =>
 yes false (aeqI a0 (.int .i64 (.ofNat 66))) fun v50 =>
 tst v50
 (J15 [a0, v1, a0, v50] h2)
 (yes false (aeqI a0 (.int .i64 (.ofNat 67))) fun v51 =>
 J15 [a0, v1, a0, v51] h2)))))
theorem b161 (n : Nat) (rec : Rec) (a0 : AV) (h : Heap) : bodyR Go.Proofs.Tryz.prog (tabs n) rec 161 [a0] h = c161 n rec a0 h := by kernel_rfl
-- (*detent·pend.Pend).queue
def c162 (_n : Nat) (_rec : Rec) (a0 : AV) (a1 : AV) (h : Heap) : Out :=
 yes false (aeqP a0 .nilp) fun v1 =>
 bnd (wantV v1 false (some (a1, h)) (some (.tup [], h))) fun v2 h3 =>
 bnd (wantV v1 false (get1 (bin .lss v2 (.int .i64 (.ofNat 0))) fun v4 =>
 some (v4, h3)) (some (.tup [], h3))) fun v5 h6 =>
 pickB v1 (.bool true) v5 fun v7 =>
 bnd (wantV v7 false (some (a1, h6)) (some (.tup [], h6))) fun v8 h9 =>
 bnd (wantV v7 false (some (a0, h9)) (some (.tup [], h9))) fun v10 h11 =>
 bnd (wantV v7 false (nil? v10 fun v12 =>
 some (v12, h11)) (some (.tup [], h11))) fun v13 h14 =>
 bnd (wantV v7 false (fa 0 v13 fun v15 =>
 some (v15, h14)) (some (.tup [], h14))) fun v16 h17 =>
 bnd (wantV v7 false (ld h17 v16 fun v18 =>
 some (v18, h17)) (some (.tup [], h17))) fun v19 h20 =>
 bnd (wantV v7 false (lenS v19 fun v21 =>
 some (v21, h20)) (some (.tup [], h20))) fun v22 h23 =>
 bnd (wantV v7 false (get1 (bin .geq v8 v22) fun v24 =>
 some (v24, h23)) (some (.tup [], h23))) fun v25 h26 =>
 pickB v7 (.bool true) v25 fun v27 =>
 tst v27
 (some (.nilp, h26))
 (nil? a0 fun v28 =>
 fa 0 v28 fun v29 =>
 ld h26 v29 fun v30 =>
 ixS 1 v30 a1 fun v31 =>
 ld h26 v31 fun v32 =>
 some (v32, h26))
theorem b162 (n : Nat) (rec : Rec) (a0 : AV) (a1 : AV) (h : Heap) : bodyR Go.Proofs.Tryz.prog (tabs n) rec 162 [a0, a1] h = c162 n rec a0 a1 h := by kernel_rfl
-- (*detent·ring.Ring[int]).At
def c163 (_n : Nat) (rec : Rec) (a0 : AV) (a1 : AV) (h : Heap) : Out :=
 yes false (aeqP a0 .nilp) fun v1 =>
 bnd (wantV v1 false (some (a1, h)) (some (.tup [], h))) fun v2 h3 =>
 bnd (wantV v1 false (get1 (bin .lss v2 (.int .i64 (.ofNat 0))) fun v4 =>
 some (v4, h3)) (some (.tup [], h3))) fun v5 h6 =>
 pickB v1 (.bool true) v5 fun v7 =>
 bnd (wantV v7 false (some (a1, h6)) (some (.tup [], h6))) fun v8 h9 =>
 bnd (wantV v7 false (some (a0, h9)) (some (.tup [], h9))) fun v10 h11 =>
 bnd (wantV v7 false (nil? v10 fun v12 =>
 some (v12, h11)) (some (.tup [], h11))) fun v13 h14 =>
 bnd (wantV v7 false (fa 2 v13 fun v15 =>
 some (v15, h14)) (some (.tup [], h14))) fun v16 h17 =>
 bnd (wantV v7 false (ld h17 v16 fun v18 =>
 some (v18, h17)) (some (.tup [], h17))) fun v19 h20 =>
 bnd (wantV v7 false (get1 (bin .geq v8 v19) fun v21 =>
 some (v21, h20)) (some (.tup [], h20))) fun v22 h23 =>
 pickB v7 (.bool true) v22 fun v24 =>
 tst v24
 (some (.tup [(.int .i64 (.ofNat 0)), (.bool false)], h23))
 (bnd (nil? a0 fun v25 =>
 some (v25, h23)) fun v26 h27 =>
 bnd (fa 0 v26 fun v28 =>
 some (v28, h27)) fun v29 h30 =>
 bnd (ld h30 v29 fun v31 =>
 some (v31, h30)) fun v32 h33 =>
 bnd (callv rec (.func 237 [] []) [a0, a1] h33 fun v34 h35 =>
 some (v34, h35)) fun v36 h37 =>
 bif chkS false 1 h37 v29 v32 then bnd (ixS 1 v32 v36 fun v38 =>
 some (v38, h37)) fun v39 h40 =>
 bnd (ld h40 v39 fun v41 =>
 some (v41, h40)) fun v42 h43 =>
 some (.tup [v42, (.bool true)], h43) else none)
theorem b163 (n : Nat) (rec : Rec) (a0 : AV) (a1 : AV) (h : Heap) : bodyR Go.Proofs.Tryz.prog (tabs n) rec 163 [a0, a1] h = c163 n rec a0 a1 h := by kernel_rfl
-- (*detent·pend.Pend).Runs
def c164 (_n : Nat) (rec : Rec) (a0 : AV) (a1 : AV) (h : Heap) : Out :=
 yes false (aeqP a0 .nilp) fun v1 =>
 bnd (wantV v1 false (some (a1, h)) (some (.tup [], h))) fun v2 h3 =>
 bnd (wantV v1 false (callv rec (.func 238 [] []) [v2] h3 fun v4 h5 =>
 some (v4, h5)) (some (.tup [], h3))) fun v6 h7 =>
 bnd (wantV v1 false (get1 (una .not v6) fun v8 =>
 some (v8, h7)) (some (.tup [], h7))) fun v9 h10 =>
 pickB v1 (.bool true) v9 fun v11 =>
 bnd (wantV v11 false (some (a0, h10)) (some (.tup [], h10))) fun v12 h13 =>
 bnd (wantV v11 false (some (a1, h13)) (some (.tup [], h13))) fun v14 h15 =>
 bnd (wantV v11 false (nil? v12 fun v16 =>
 some (v16, h15)) (some (.tup [], h15))) fun v17 h18 =>
 bnd (wantV v11 false (fa 1 v17 fun v19 =>
 some (v19, h18)) (some (.tup [], h18))) fun v20 h21 =>
 bnd (wantV v11 false (ixA 256 1 v20 v14 fun v22 =>
 some (v22, h21)) (some (.tup [], h21))) fun v23 h24 =>
 bnd (wantV v11 false (ld h24 v23 fun v25 =>
 some (v25, h24)) (some (.tup [], h24))) fun v26 h27 =>
 bnd (wantV v11 false (yes false (aeqI v26 (.int .i64 (.ofNat 0))) fun v28 =>
 some (v28, h27)) (some (.tup [], h27))) fun v29 h30 =>
 pickB v11 (.bool true) v29 fun v31 =>
 tst v31
 (some (.tup [(.int .i64 (.ofNat 0)), (.bool false)], h30))
 (nil? a0 fun v32 =>
 fa 1 v32 fun v33 =>
 ixA 256 1 v33 a1 fun v34 =>
 ld h30 v34 fun v35 =>
 get1 (bin .sub v35 (.int .i64 (.ofNat 1))) fun v36 =>
 some (.tup [v36, (.bool true)], h30))
theorem b164 (n : Nat) (rec : Rec) (a0 : AV) (a1 : AV) (h : Heap) : bodyR Go.Proofs.Tryz.prog (tabs n) rec 164 [a0, a1] h = c164 n rec a0 a1 h := by kernel_rfl
-- (*detent·event.Log).such$1
def c165 (n : Nat) (rec : Rec) (a0 : AV) (a1 : AV) (a2 : AV) (h : Heap) : Out :=
 ld h a1 fun v1 =>
 yes false (aeqP v1 .nilp) fun v2 =>
 tst v2
 (some (.tup [], h))
 (ld h a1 fun v3 =>
 nil? v3 fun v4 =>
 fa 0 v4 fun v5 =>
 ld h v5 fun v6 =>
 lenS v6 fun v7 =>
 iter n (fun nx8 w9 h10 => un w9 fun v11 l12 => un l12 fun v13 l14 => un l14 fun v15 l16 => un l16 fun v17 l18 => un l18 fun v19 l20 => un l20 fun v21 l22 => un l22 fun v23 l24 => un l24 fun v25 l26 => un l26 fun v27 l28 => get1 (bin .lss v19 v17) fun v29 =>
 tst v29
 (ixS 5 v15 v19 fun v30 =>
 ldn 5 h10 v30 fun v31 =>
 mk h10 [(.int .u64 (.ofNat 0)), (.int .i64 (.ofNat 0)), (.int .i64 (.ofNat 0)), (.int .i64 (.ofNat 0)), (.int .u64 (.ofNat 0))] fun v32 h33 =>
 stn 5 h33 v32 v31 fun h34 =>
 ld h34 v13 fun v35 =>
 ldn 5 h34 v32 fun v36 =>
 callv rec v35 [v19, v36] h34 fun v37 h38 =>
 bnd (wantV v37 true (some (v11, h38)) (some (.tup [], h38))) fun v39 h40 =>
 bnd (wantV v37 true (ldn 5 h40 v32 fun v41 =>
 some (v41, h40)) (some (.tup [], h40))) fun v42 h43 =>
 bnd (wantV v37 true (callv rec v39 [v42] h43 fun v44 h45 =>
 some (v44, h45)) (some (.tup [], h43))) fun v46 h47 =>
 bnd (wantV v37 true (get1 (una .not v46) fun v48 =>
 some (v48, h47)) (some (.tup [], h47))) fun v49 h50 =>
 pickB v37 v49 (.bool false) fun v51 =>
 tst v51
 (some (.tup [], h50))
 (get1 (bin .add v19 (.int .i64 (.ofNat 1))) fun v52 =>
 nx8 [v11, v13, v15, v17, v52, v39, v42, v46, v49] h50))
 (some (.tup [], h10))) [a0, a2, v6, v7, (.int .i64 (.ofNat 0)), .bot, .bot, .bot, .bot] h)
theorem b165 (n : Nat) (rec : Rec) (a0 : AV) (a1 : AV) (a2 : AV) (h : Heap) : bodyR Go.Proofs.Tryz.prog (tabs n) rec 165 [a0, a1, a2] h = c165 n rec a0 a1 a2 h := by kernel_rfl
-- (*detent·waits.Waits).For
def c167 (_n : Nat) (_rec : Rec) (a0 : AV) (a1 : AV) (h : Heap) : Out :=
 yes false (aeqP a0 .nilp) fun v1 =>
 tst v1
 (some (.tup [(.int .i64 (.ofNat 0)), (.bool false)], h))
 (nil? a0 fun v2 =>
 fa 0 v2 fun v3 =>
 ld h v3 fun v4 =>
 lkp (.int .i64 (.ofNat 0)) true h v4 a1 fun v5 =>
 ext v5 0 fun v6 =>
 ext v5 1 fun v7 =>
 some (.tup [v6, v7], h))
theorem b167 (n : Nat) (rec : Rec) (a0 : AV) (a1 : AV) (h : Heap) : bodyR Go.Proofs.Tryz.prog (tabs n) rec 167 [a0, a1] h = c167 n rec a0 a1 h := by kernel_rfl
-- (detent·mask.Mask).all
def c177 (_n : Nat) (_rec : Rec) (a0 : AV) (h : Heap) : Out :=
 getL (cellsOf a0) fun u1 => mk h u1 fun v2 h3 =>
 some ((.func 244 [] [v2]), h3)
theorem b177 (n : Nat) (rec : Rec) (a0 : AV) (h : Heap) : bodyR Go.Proofs.Tryz.prog (tabs n) rec 177 [a0] h = c177 n rec a0 h := by kernel_rfl
-- strings.Fields
def c179 (n : Nat) (rec : Rec) (a0 : AV) (h : Heap) : Out :=
 iter n (fun nx1 w2 h3 => un w2 fun v4 l5 => un l5 fun v6 l7 => un l7 fun v8 l9 => un l9 fun v10 l11 => un l11 fun v12 l13 => un l13 fun v14 l15 => un l15 fun v16 l17 => un l17 fun v18 l19 => un l19 fun v20 l21 => un l21 fun v22 l23 => un l23 fun v24 l25 => un l25 fun v26 l27 => un l27 fun v28 l29 => un l29 fun v30 l31 => un l31 fun v32 l33 => un l33 fun v34 l35 => un l35 fun v36 l37 => lenT v4 fun v38 =>
 get1 (bin .lss v12 v38) fun v39 =>
 tst v39
 (ixT v4 v12 fun v40 =>
 get1 (bin .or v10 v40) fun v41 =>
 ixA 256 1 (.ptr 0 0) v40 fun v42 =>
 ld h3 v42 fun v43 =>
 cvI .i64 v43 fun v44 =>
 get1 (una .xor v44) fun v45 =>
 get1 (bin .and v8 v45) fun v46 =>
 get1 (bin .add v6 v46) fun v47 =>
 get1 (bin .add v12 (.int .i64 (.ofNat 1))) fun v48 =>
 nx1 [v4, v47, v44, v41, v48, v14, v16, v18, v20, v22, v24, v26, v28, v30, v32, v34, v36] h3)
 (get1 (bin .geq v10 (.int .u8 (.ofNat 128))) fun v49 =>
 tst v49
 (callv rec (.func 250 [] []) [v4, (.func 251 [] [])] h3 fun v50 h51 =>
 some (v50, h51))
 (mks [(.str [])] 1 16 h3 v6 v6 fun v52 h53 =>
 iter n (fun nx54 w55 h56 => un w55 fun v57 l58 => un l58 fun v59 l60 => un l60 fun v61 l62 => un l62 fun v63 l64 => un l64 fun v65 l66 => un l66 fun v67 l68 => un l68 fun v69 l70 => un l70 fun v71 l72 => un l72 fun v73 l74 => un l74 fun v75 l76 => un l76 fun v77 l78 => un l78 fun v79 l80 => un l80 fun v81 l82 => un l82 fun v83 l84 => un l84 fun v85 l86 => un l86 fun v87 l88 => lenT v57 fun v89 =>
 get1 (bin .lss v63 v89) fun v90 =>
 bnd (wantV v90 true (some (v57, h56)) (some (.tup [], h56))) fun v91 h92 =>
 bnd (wantV v90 true (some (v63, h92)) (some (.tup [], h92))) fun v93 h94 =>
 bnd (wantV v90 true (ixT v91 v93 fun v95 =>
 some (v95, h94)) (some (.tup [], h94))) fun v96 h97 =>
 bnd (wantV v90 true (ixA 256 1 (.ptr 0 0) v96 fun v98 =>
 some (v98, h97)) (some (.tup [], h97))) fun v99 h100 =>
 bnd (wantV v90 true (ld h100 v99 fun v101 =>
 some (v101, h100)) (some (.tup [], h100))) fun v102 h103 =>
 bnd (wantV v90 true (yes true (aeqI v102 (.int .u8 (.ofNat 0))) fun v104 =>
 some (v104, h103)) (some (.tup [], h103))) fun v105 h106 =>
 pickB v90 v105 (.bool false) fun v107 =>
 tst v107
 (get1 (bin .add v63 (.int .i64 (.ofNat 1))) fun v108 =>
 nx54 [v57, v59, v61, v108, v91, v93, v96, v99, v102, v105, v77, v79, v81, v83, v85, v87] h106)
 (iter n (fun nx109 w110 h111 => un w110 fun v112 l113 => un l113 fun v114 l115 => un l115 fun v116 l117 => un l117 fun v118 l119 => un l119 fun v120 l121 => un l121 fun v122 l123 => un l123 fun v124 l125 => un l125 fun v126 l127 => un l127 fun v128 l129 => un l129 fun v130 l131 => un l131 fun v132 l133 => lenT v112 fun v134 =>
 get1 (bin .lss v120 v134) fun v135 =>
 tst v135
 (ixT v112 v120 fun v136 =>
 ixA 256 1 (.ptr 0 0) v136 fun v137 =>
 ld h111 v137 fun v138 =>
 yes false (aeqI v138 (.int .u8 (.ofNat 0))) fun v139 =>
 tst v139
 (get1 (bin .add v120 (.int .i64 (.ofNat 1))) fun v140 =>
 nx109 [v112, v114, v116, v118, v140, v122, v124, v126, v128, v130, v132] h111)
 (slT v112 (some v118) (some v120) fun v141 =>
 ixS 1 v114 v116 fun v142 =>
 st h111 v142 v141 fun h143 =>
 get1 (bin .add v116 (.int .i64 (.ofNat 1))) fun v144 =>
 get1 (bin .add v120 (.int .i64 (.ofNat 1))) fun v145 =>
 iter n (fun nx146 w147 h148 => un w147 fun v149 l150 => un l150 fun v151 l152 => un l152 fun v153 l154 => un l154 fun v155 l156 => un l156 fun v157 l158 => un l158 fun v159 l160 => un l160 fun v161 l162 => un l162 fun v163 l164 => un l164 fun v165 l166 => un l166 fun v167 l168 => lenT v149 fun v169 =>
 get1 (bin .lss v155 v169) fun v170 =>
 bnd (wantV v170 true (some (v149, h148)) (some (.tup [], h148))) fun v171 h172 =>
 bnd (wantV v170 true (some (v155, h172)) (some (.tup [], h172))) fun v173 h174 =>
 bnd (wantV v170 true (ixT v171 v173 fun v175 =>
 some (v175, h174)) (some (.tup [], h174))) fun v176 h177 =>
 bnd (wantV v170 true (ixA 256 1 (.ptr 0 0) v176 fun v178 =>
 some (v178, h177)) (some (.tup [], h177))) fun v179 h180 =>
 bnd (wantV v170 true (ld h180 v179 fun v181 =>
 some (v181, h180)) (some (.tup [], h180))) fun v182 h183 =>
 bnd (wantV v170 true (yes true (aeqI v182 (.int .u8 (.ofNat 0))) fun v184 =>
 some (v184, h183)) (some (.tup [], h183))) fun v185 h186 =>
 pickB v170 v185 (.bool false) fun v187 =>
 tst v187
 (get1 (bin .add v155 (.int .i64 (.ofNat 1))) fun v188 =>
 nx146 [v149, v151, v153, v188, v171, v173, v176, v179, v182, v185] h186)
 (nx109 [v149, v151, v153, v155, v155, v171, v173, v176, v179, v182, v185] h186)) [v112, v114, v144, v145, v122, v124, v126, v128, v130, v132] h143))
 (joinPt (fun w190 h191 => un w190 fun v192 l193 => some (v192, h191)) fun J189 =>
 lenT v112 fun v194 =>
 get1 (bin .lss v118 v194) fun v195 =>
 tst v195
 (slT v112 (some v118) none fun v196 =>
 ixS 1 v114 v116 fun v197 =>
 st h111 v197 v196 fun h198 =>
 J189 [v114] h198)
 (J189 [v114] h111))) [v57, v59, v61, v63, v63, v77, v79, v81, v83, v85, v87] h106)) [v4, v52, (.int .i64 (.ofNat 0)), (.int .i64 (.ofNat 0)), v14, v16, v18, v20, v22, v24, v26, v28, v30, v32, v34, v36] h53))) [a0, (.int .i64 (.ofNat 0)), (.int .i64 (.ofNat 1)), (.int .u8 (.ofNat 0)), (.int .i64 (.ofNat 0)), .bot, .bot, .bot, .bot, .bot, .bot, .bot, .bot, .bot, .bot, .bot, .bot] h
theorem b179 (n : Nat) (rec : Rec) (a0 : AV) (h : Heap) : bodyR Go.Proofs.Tryz.prog (tabs n) rec 179 [a0] h = c179 n rec a0 h := by kernel_rfl
-- (*detent·bank.Bank).Catch
def c191 (_n : Nat) (rec : Rec) (a0 : AV) (a1 : AV) (a2 : AV) (h : Heap) : Out :=
 callv rec (.func 267 [] []) [a0, a1] h fun v1 h2 =>
 callv rec (.func 268 [] []) [v1, a2] h2 fun v3 h4 =>
 some (v3, h4)
theorem b191 (n : Nat) (rec : Rec) (a0 : AV) (a1 : AV) (a2 : AV) (h : Heap) : bodyR Go.Proofs.Tryz.prog (tabs n) rec 191 [a0, a1, a2] h = c191 n rec a0 a1 a2 h := by kernel_rfl
-- (*detent·pend.Pend).Add
def c192 (n : Nat) (rec : Rec) (a0 : AV) (a1 : AV) (a2 : AV) (h : Heap) : Out :=
 yes false (aeqP a0 .nilp) fun v1 =>
 tst v1
 (some ((.int .i64 (.ofNat 6)), h))
 (callv rec (.func 162 [] []) [a0, a1] h fun v2 h3 =>
 yes false (aeqP v2 .nilp) fun v4 =>
 tst v4
 (some ((.int .i64 (.ofNat 2)), h3))
 (lenS a2 fun v5 =>
 iter n (fun nx6 w7 h8 => un w7 fun v9 l10 => un l10 fun v11 l12 => un l12 fun v13 l14 => un l14 fun v15 l16 => un l16 fun v17 l18 => get1 (bin .lss v17 v15) fun v19 =>
 tst v19
 (ixS 1 v13 v17 fun v20 =>
 ld h8 v20 fun v21 =>
 callv rec (.func 238 [] []) [v21] h8 fun v22 h23 =>
 get1 (una .not v22) fun v24 =>
 tst v24
 (some ((.int .i64 (.ofNat 2)), h23))
 (callv rec (.func 106 [] []) [v9, v21] h23 fun v25 h26 =>
 ext v25 0 fun v27 =>
 ext v25 1 fun v28 =>
 tst v28
 (some ((.int .i64 (.ofNat 5)), h26))
 (callv rec (.func 162 [] []) [v9, v11] h26 fun v29 h30 =>
 getL (cellsOf v21) fun u31 => bif Nat.beq u31.length 1 then getL (over [(.int .i64 (.ofNat 0))] 0 u31) fun u32 => mkSlice h30 u32 1 1 (some 1) fun v33 h34 =>
 callv rec (.func 269 [] []) [v29, v33] h34 fun v35 h36 =>
 get1 (bin .add v17 (.int .i64 (.ofNat 1))) fun v37 =>
 nx6 [v9, v11, v13, v15, v37] h36 else none)))
 (some ((.int .i64 (.ofNat 0)), h8))) [a0, a1, a2, v5, (.int .i64 (.ofNat 0))] h3))
theorem b192 (n : Nat) (rec : Rec) (a0 : AV) (a1 : AV) (a2 : AV) (h : Heap) : bodyR Go.Proofs.Tryz.prog (tabs n) rec 192 [a0, a1, a2] h = c192 n rec a0 a1 a2 h := by kernel_rfl
-- (*detent·kernel.Kernel).enter
def c199 (_n : Nat) (rec : Rec) (a0 : AV) (a1 : AV) (a2 : AV) (h : Heap) : Out :=
 nil? a0 fun v1 =>
 fa 2 v1 fun v2 =>
 ixA 16 1 v2 a2 fun v3 =>
 ld h v3 fun v4 =>
 nil? v4 fun v5 =>
 fa 1 v5 fun v6 =>
 ld h v6 fun v7 =>
 tst v7
 (nil? a0 fun v8 =>
 fa 1 v8 fun v9 =>
 ld h v9 fun v10 =>
 callv rec (.func 68 [] []) [v10] h fun v11 h12 =>
 getL (cellsOf a1) fun u13 => bif Nat.beq u13.length 1 then getL (over [(.int .i64 (.ofNat 0))] 0 u13) fun u14 => mkSlice h12 u14 1 1 (some 1) fun v15 h16 =>
 callv rec (.func 79 [] []) [v11, v15] h16 fun v17 h18 =>
 some (.tup [], h18) else none)
 (nil? a0 fun v19 =>
 fa 1 v19 fun v20 =>
 ld h v20 fun v21 =>
 callv rec (.func 274 [] []) [v21] h fun v22 h23 =>
 getL (cellsOf a1) fun u24 => bif Nat.beq u24.length 1 then getL (over [(.int .i64 (.ofNat 0))] 0 u24) fun u25 => mkSlice h23 u25 1 1 (some 1) fun v26 h27 =>
 callv rec (.func 79 [] []) [v22, v26] h27 fun v28 h29 =>
 some (.tup [], h29) else none)
theorem b199 (n : Nat) (rec : Rec) (a0 : AV) (a1 : AV) (a2 : AV) (h : Heap) : bodyR Go.Proofs.Tryz.prog (tabs n) rec 199 [a0, a1, a2] h = c199 n rec a0 a1 a2 h := by kernel_rfl
end Go.Ai
/-
  WHAT FUNCTIONS COME TO, part 5: each one's body, types, slots and orders reckoned out, and that it is so.
-/
namespace Go.Ai
open Go
set_option maxRecDepth 100000
-- (*detent·guard.Guard).Enter
def c200 (_n : Nat) (rec : Rec) (a0 : AV) (a1 : AV) (a2 : AV) (h : Heap) : Out :=
 yes false (aeqP a0 .nilp) fun v1 =>
 tst v1
 (some ((.int .i64 (.ofNat 6)), h))
 (callv rec (.func 275 [] []) [a0, a1] h fun v2 h3 =>
 get1 (una .not v2) fun v4 =>
 bnd (wantV v4 false (some (a2, h3)) (some (.tup [], h3))) fun v5 h6 =>
 bnd (wantV v4 false (callv rec (.func 103 [] []) [v5] h6 fun v7 h8 =>
 some (v7, h8)) (some (.tup [], h6))) fun v9 h10 =>
 bnd (wantV v4 false (get1 (una .not v9) fun v11 =>
 some (v11, h10)) (some (.tup [], h10))) fun v12 h13 =>
 pickB v4 (.bool true) v12 fun v14 =>
 tst v14
 (some ((.int .i64 (.ofNat 2)), h13))
 (nil? a0 fun v15 =>
 fa 0 v15 fun v16 =>
 ld h13 v16 fun v17 =>
 ixS 1 v17 a1 fun v18 =>
 ld h13 v18 fun v19 =>
 callv rec (.func 210 [] []) [v19, a2] h13 fun v20 h21 =>
 tst v20
 (bnd (nil? a0 fun v22 =>
 some (v22, h21)) fun v23 h24 =>
 bnd (fa 1 v23 fun v25 =>
 some (v25, h24)) fun v26 h27 =>
 bnd (ixA 16 1 v26 a2 fun v28 =>
 some (v28, h27)) fun v29 h30 =>
 bnd (ld h30 v29 fun v31 =>
 some (v31, h30)) fun v32 h33 =>
 bnd (get1 (bin .add v32 (.int .i64 (.ofNat 1))) fun v34 =>
 some (v34, h33)) fun v35 h36 =>
 bnd (mm false v35 (.int .i64 (.ofNat 255)) fun v37 =>
 some (v37, h36)) fun v38 h39 =>
 bnd (nil? a0 fun v40 =>
 some (v40, h39)) fun v41 h42 =>
 bnd (fa 1 v41 fun v43 =>
 some (v43, h42)) fun v44 h45 =>
 bnd (ixA 16 1 v44 a2 fun v46 =>
 some (v46, h45)) fun v47 h48 =>
 bnd (st h48 v47 v38 fun h49 =>
 some ((.tup []), h49)) fun v50 h51 =>
 some ((.int .i64 (.ofNat 18)), h51))
 (bnd (nil? a0 fun v52 =>
 some (v52, h21)) fun v53 h54 =>
 bnd (fa 0 v53 fun v55 =>
 some (v55, h54)) fun v56 h57 =>
 bnd (ld h57 v56 fun v58 =>
 some (v58, h57)) fun v59 h60 =>
 bnd (nil? a0 fun v61 =>
 some (v61, h60)) fun v62 h63 =>
 bnd (fa 0 v62 fun v64 =>
 some (v64, h63)) fun v65 h66 =>
 bnd (ld h66 v65 fun v67 =>
 some (v67, h66)) fun v68 h69 =>
 bnd (ixS 1 v68 a1 fun v70 =>
 some (v70, h69)) fun v71 h72 =>
 bnd (ld h72 v71 fun v73 =>
 some (v73, h72)) fun v74 h75 =>
 bnd (getL (cellsOf a2) fun u76 => bif Nat.beq u76.length 1 then getL (over [(.int .i64 (.ofNat 0))] 0 u76) fun u77 => mkSlice h75 u77 1 1 (some 1) fun v78 h79 =>
 some (v78, h79) else none) fun v80 h81 =>
 bnd (callv rec (.func 90 [] []) [v74, v80] h81 fun v82 h83 =>
 some (v82, h83)) fun v84 h85 =>
 bif chkS false 1 h85 v56 v59 then bnd (ixS 1 v59 a1 fun v86 =>
 some (v86, h85)) fun v87 h88 =>
 bnd (st h88 v87 v84 fun h89 =>
 some ((.tup []), h89)) fun v90 h91 =>
 some ((.int .i64 (.ofNat 0)), h91) else none)))
theorem b200 (n : Nat) (rec : Rec) (a0 : AV) (a1 : AV) (a2 : AV) (h : Heap) : bodyR Go.Proofs.Tryz.prog (tabs n) rec 200 [a0, a1, a2] h = c200 n rec a0 a1 a2 h := by kernel_rfl
-- (*detent·vm.Run).Go
def c201 (n : Nat) (rec : Rec) (a0 : AV) (a1 : AV) (h : Heap) : Out :=
 mk h [(.int .i64 (.ofNat 0)), (.int .i64 (.ofNat 0)), (.int .i64 (.ofNat 0)), (.bool false), (.int .i64 (.ofNat 0)), (.int .i64 (.ofNat 0)), (.int .i64 (.ofNat 0)), (.int .u64 (.ofNat 0)), (.bool false), (.int .i64 (.ofNat 0)), (.int .i64 (.ofNat 0)), (.int .i64 (.ofNat 0)), (.int .u64 (.ofNat 0)), (.bool false), (.int .i64 (.ofNat 0)), (.int .i64 (.ofNat 0)), (.int .i64 (.ofNat 0)), (.int .u64 (.ofNat 0)), (.bool false), (.int .i64 (.ofNat 0)), (.int .i64 (.ofNat 0)), (.int .i64 (.ofNat 0)), (.int .u64 (.ofNat 0)), (.bool false), (.int .i64 (.ofNat 0)), (.int .i64 (.ofNat 0)), (.int .i64 (.ofNat 0)), (.int .u64 (.ofNat 0)), (.bool false), (.int .i64 (.ofNat 0)), (.int .i64 (.ofNat 0)), (.int .i64 (.ofNat 0)), (.int .u64 (.ofNat 0)), (.int .u64 (.ofNat 0))] fun v1 h2 =>
 yes false (aeqP a0 .nilp) fun v3 =>
 tst v3
 (stn 34 h2 v1 (.agg [(.int .i64 (.ofNat 1)), (.int .i64 (.ofNat 0)), (.int .i64 (.ofNat 0)), (.bool false), (.int .i64 (.ofNat 0)), (.int .i64 (.ofNat 0)), (.int .i64 (.ofNat 0)), (.int .u64 (.ofNat 0)), (.bool false), (.int .i64 (.ofNat 0)), (.int .i64 (.ofNat 0)), (.int .i64 (.ofNat 0)), (.int .u64 (.ofNat 0)), (.bool false), (.int .i64 (.ofNat 0)), (.int .i64 (.ofNat 0)), (.int .i64 (.ofNat 0)), (.int .u64 (.ofNat 0)), (.bool false), (.int .i64 (.ofNat 0)), (.int .i64 (.ofNat 0)), (.int .i64 (.ofNat 0)), (.int .u64 (.ofNat 0)), (.bool false), (.int .i64 (.ofNat 0)), (.int .i64 (.ofNat 0)), (.int .i64 (.ofNat 0)), (.int .u64 (.ofNat 0)), (.bool false), (.int .i64 (.ofNat 0)), (.int .i64 (.ofNat 0)), (.int .i64 (.ofNat 0)), (.int .u64 (.ofNat 0)), (.int .u64 (.ofNat 0))]) fun h4 =>
 ldn 34 h4 v1 fun v5 => some (v5, h4))
 (joinPt (fun w7 h8 => un w7 fun v9 l10 => un l10 fun v11 l12 => nil? v9 fun v13 =>
 fa 5 v13 fun v14 =>
 ld h8 v14 fun v15 =>
 tst v15
 (stn 34 h8 v11 (.agg [(.int .i64 (.ofNat 1)), (.int .i64 (.ofNat 0)), (.int .i64 (.ofNat 0)), (.bool false), (.int .i64 (.ofNat 0)), (.int .i64 (.ofNat 0)), (.int .i64 (.ofNat 0)), (.int .u64 (.ofNat 0)), (.bool false), (.int .i64 (.ofNat 0)), (.int .i64 (.ofNat 0)), (.int .i64 (.ofNat 0)), (.int .u64 (.ofNat 0)), (.bool false), (.int .i64 (.ofNat 0)), (.int .i64 (.ofNat 0)), (.int .i64 (.ofNat 0)), (.int .u64 (.ofNat 0)), (.bool false), (.int .i64 (.ofNat 0)), (.int .i64 (.ofNat 0)), (.int .i64 (.ofNat 0)), (.int .u64 (.ofNat 0)), (.bool false), (.int .i64 (.ofNat 0)), (.int .i64 (.ofNat 0)), (.int .i64 (.ofNat 0)), (.int .u64 (.ofNat 0)), (.bool false), (.int .i64 (.ofNat 0)), (.int .i64 (.ofNat 0)), (.int .i64 (.ofNat 0)), (.int .u64 (.ofNat 0)), (.int .u64 (.ofNat 0))]) fun h16 =>
 ldn 34 h16 v11 fun v17 => some (v17, h16))
 (nil? v9 fun v18 =>
 fa 4 v18 fun v19 =>
 ld h8 v19 fun v20 =>
 tst v20
 (nil? v9 fun v21 =>
 fa 6 v21 fun v22 =>
 ldn 34 h8 v22 fun v23 =>
 stn 34 h8 v11 v23 fun h24 =>
 ldn 34 h24 v11 fun v25 => some (v25, h24))
 (stn 34 h8 v11 (.agg [(.int .i64 (.ofNat 0)), (.int .i64 (.ofNat 0)), (.int .i64 (.ofNat 0)), (.bool false), (.int .i64 (.ofNat 0)), (.int .i64 (.ofNat 0)), (.int .i64 (.ofNat 0)), (.int .u64 (.ofNat 0)), (.bool false), (.int .i64 (.ofNat 0)), (.int .i64 (.ofNat 0)), (.int .i64 (.ofNat 0)), (.int .u64 (.ofNat 0)), (.bool false), (.int .i64 (.ofNat 0)), (.int .i64 (.ofNat 0)), (.int .i64 (.ofNat 0)), (.int .u64 (.ofNat 0)), (.bool false), (.int .i64 (.ofNat 0)), (.int .i64 (.ofNat 0)), (.int .i64 (.ofNat 0)), (.int .u64 (.ofNat 0)), (.bool false), (.int .i64 (.ofNat 0)), (.int .i64 (.ofNat 0)), (.int .i64 (.ofNat 0)), (.int .u64 (.ofNat 0)), (.bool false), (.int .i64 (.ofNat 0)), (.int .i64 (.ofNat 0)), (.int .i64 (.ofNat 0)), (.int .u64 (.ofNat 0)), (.int .u64 (.ofNat 0))]) fun h26 =>
 ldn 34 h26 v11 fun v27 => some (v27, h26)))) fun J6 =>
 iter n (fun nx28 w29 h30 => un w29 fun v31 l32 => un l32 fun v33 l34 => un l34 fun v35 l36 => un l36 fun v37 l38 => un l38 fun v39 l40 => un l40 fun v41 l42 => un l42 fun v43 l44 => un l44 fun v45 l46 => get1 (bin .lss v37 v33) fun v47 =>
 tst v47
 (nil? v31 fun v48 =>
 fa 5 v48 fun v49 =>
 ld h30 v49 fun v50 =>
 bnd (wantV v50 false (some (v31, h30)) (some (.tup [], h30))) fun v51 h52 =>
 bnd (wantV v50 false (nil? v51 fun v53 =>
 some (v53, h52)) (some (.tup [], h52))) fun v54 h55 =>
 bnd (wantV v50 false (fa 4 v54 fun v56 =>
 some (v56, h55)) (some (.tup [], h55))) fun v57 h58 =>
 bnd (wantV v50 false (ld h58 v57 fun v59 =>
 some (v59, h58)) (some (.tup [], h58))) fun v60 h61 =>
 pickB v50 (.bool true) v60 fun v62 =>
 tst v62
 (J6 [v31, v35] h61)
 (callv rec (.func 276 [] []) [v31] h61 fun v63 h64 =>
 get1 (bin .add v37 (.int .i64 (.ofNat 1))) fun v65 =>
 nx28 [v31, v33, v35, v65, v51, v54, v57, v60] h64))
 (J6 [v31, v35] h30)) [a0, a1, v1, (.int .i64 (.ofNat 0)), .bot, .bot, .bot, .bot] h2)
theorem b201 (n : Nat) (rec : Rec) (a0 : AV) (a1 : AV) (h : Heap) : bodyR Go.Proofs.Tryz.prog (tabs n) rec 201 [a0, a1] h = c201 n rec a0 a1 h := by kernel_rfl
-- (*detent·vm.Run).Over
def c203 (_n : Nat) (_rec : Rec) (a0 : AV) (h : Heap) : Out :=
 yes false (aeqP a0 .nilp) fun v1 =>
 bnd (wantV v1 false (some (a0, h)) (some (.tup [], h))) fun v2 h3 =>
 bnd (wantV v1 false (nil? v2 fun v4 =>
 some (v4, h3)) (some (.tup [], h3))) fun v5 h6 =>
 bnd (wantV v1 false (fa 5 v5 fun v7 =>
 some (v7, h6)) (some (.tup [], h6))) fun v8 h9 =>
 bnd (wantV v1 false (ld h9 v8 fun v10 =>
 some (v10, h9)) (some (.tup [], h9))) fun v11 h12 =>
 pickB v1 (.bool true) v11 fun v13 =>
 some (v13, h12)
theorem b203 (n : Nat) (rec : Rec) (a0 : AV) (h : Heap) : bodyR Go.Proofs.Tryz.prog (tabs n) rec 203 [a0] h = c203 n rec a0 h := by kernel_rfl
-- (*detent·kernel.Kernel).finish
def c204 (_n : Nat) (rec : Rec) (a0 : AV) (a1 : AV) (a2 : AV) (h : Heap) : Out :=
 getL (cellsOf a1) fun u1 => mk h u1 fun v2 h3 =>
 bnd (ld h3 v2 fun v4 =>
 some (v4, h3)) fun v5 h6 =>
 bnd (nil? a2 fun v7 =>
 some (v7, h6)) fun v8 h9 =>
 bnd (fa 0 v8 fun v10 =>
 some (v10, h9)) fun v11 h12 =>
 bnd (ld h12 v11 fun v13 =>
 some (v13, h12)) fun v14 h15 =>
 bnd (nil? a2 fun v16 =>
 some (v16, h15)) fun v17 h18 =>
 bnd (fa 0 v17 fun v19 =>
 some (v19, h18)) fun v20 h21 =>
 bnd (ld h21 v20 fun v22 =>
 some (v22, h21)) fun v23 h24 =>
 bnd (callv rec (.func 281 [] []) [v14] h24 fun v25 h26 =>
 some (v25, h26)) fun v27 h28 =>
 bif chkS false 1 h28 v20 v23 then bif chkS false 1 h28 v2 v5 then bnd (callv rec (.func 282 [] []) [v23] h28 fun v29 h30 =>
 some (v29, h30)) fun v31 h32 =>
 bif chkS false 1 h32 v2 v5 then bnd (getL (cellsOf v5) fun u33 => bif Nat.beq u33.length 1 then getL (over [(.int .u64 (.ofNat 0)), (.int .i64 (.ofNat 4)), (.int .i64 (.ofNat 0)), (.int .i64 (.ofNat 0)), (.int .u64 (.ofNat 0))] 2 u33) fun u34 => getL (cellsOf v27) fun u35 => bif Nat.beq u35.length 1 then getL (over u34 3 u35) fun u36 => getL (cellsOf v31) fun u37 => bif Nat.beq u37.length 1 then getL (over u36 4 u37) fun u38 => some ((.agg u38), h32) else none else none else none) fun v39 h40 =>
 bnd (getL (cellsOf v39) fun u41 => bif Nat.beq u41.length 5 then getL (over [(.int .u64 (.ofNat 0)), (.int .i64 (.ofNat 0)), (.int .i64 (.ofNat 0)), (.int .i64 (.ofNat 0)), (.int .u64 (.ofNat 0))] 0 u41) fun u42 => mkSlice h40 u42 1 5 (some 1) fun v43 h44 =>
 some (v43, h44) else none) fun v45 h46 =>
 bnd (callv rec (.func 32 [] []) [a0, v45] h46 fun v47 h48 =>
 some (v47, h48)) fun v49 h50 =>
 joinPt (fun w52 h53 => un w52 fun v54 l55 => un l55 fun v56 l57 => bnd (nil? v54 fun v58 =>
 some (v58, h53)) fun v59 h60 =>
 bnd (fa 1 v59 fun v61 =>
 some (v61, h60)) fun v62 h63 =>
 bnd (ld h63 v62 fun v64 =>
 some (v64, h63)) fun v65 h66 =>
 bnd (ld h66 v56 fun v67 =>
 some (v67, h66)) fun v68 h69 =>
 bnd (callv rec (.func 68 [] []) [v65] h69 fun v70 h71 =>
 some (v70, h71)) fun v72 h73 =>
 bif chkS false 1 h73 v56 v68 then bnd (callv rec (.func 80 [] []) [v72, v68] h73 fun v74 h75 =>
 some (v74, h75)) fun v76 h77 =>
 bnd (nil? v54 fun v78 =>
 some (v78, h77)) fun v79 h80 =>
 bnd (fa 1 v79 fun v81 =>
 some (v81, h80)) fun v82 h83 =>
 bnd (ld h83 v82 fun v84 =>
 some (v84, h83)) fun v85 h86 =>
 bnd (ld h86 v56 fun v87 =>
 some (v87, h86)) fun v88 h89 =>
 bnd (callv rec (.func 274 [] []) [v85] h89 fun v90 h91 =>
 some (v90, h91)) fun v92 h93 =>
 bif chkS false 1 h93 v56 v88 then bnd (callv rec (.func 80 [] []) [v92, v88] h93 fun v94 h95 =>
 some (v94, h95)) fun v96 h97 =>
 bnd (nil? v54 fun v98 =>
 some (v98, h97)) fun v99 h100 =>
 bnd (fa 1 v99 fun v101 =>
 some (v101, h100)) fun v102 h103 =>
 bnd (ld h103 v102 fun v104 =>
 some (v104, h103)) fun v105 h106 =>
 bnd (ld h106 v56 fun v107 =>
 some (v107, h106)) fun v108 h109 =>
 bnd (callv rec (.func 46 [] []) [v105] h109 fun v110 h111 =>
 some (v110, h111)) fun v112 h113 =>
 bif chkS false 1 h113 v56 v108 then bnd (callv rec (.func 284 [] []) [v112, v108] h113 fun v114 h115 =>
 some (v114, h115)) fun v116 h117 =>
 bnd (nil? v54 fun v118 =>
 some (v118, h117)) fun v119 h120 =>
 bnd (fa 1 v119 fun v121 =>
 some (v121, h120)) fun v122 h123 =>
 bnd (ld h123 v122 fun v124 =>
 some (v124, h123)) fun v125 h126 =>
 bnd (ld h126 v56 fun v127 =>
 some (v127, h126)) fun v128 h129 =>
 bnd (callv rec (.func 48 [] []) [v125] h129 fun v130 h131 =>
 some (v130, h131)) fun v132 h133 =>
 bif chkS false 1 h133 v56 v128 then bnd (callv rec (.func 285 [] []) [v132, v128] h133 fun v134 h135 =>
 some (v134, h135)) fun v136 h137 =>
 bnd (nil? v54 fun v138 =>
 some (v138, h137)) fun v139 h140 =>
 bnd (fa 19 v139 fun v141 =>
 some (v141, h140)) fun v142 h143 =>
 bnd (ld h143 v56 fun v144 =>
 some (v144, h143)) fun v145 h146 =>
 bnd (getL (cellsOf v145) fun u147 => bif Nat.beq u147.length 1 then getL (over [(.int .i64 (.ofNat 0))] 0 u147) fun u148 => mkSlice h146 u148 1 1 (some 1) fun v149 h150 =>
 some (v149, h150) else none) fun v151 h152 =>
 bnd (callv rec (.func 286 [] []) [v142, v151] h152 fun v153 h154 =>
 some (v153, h154)) fun v155 h156 =>
 callv rec (.func 131 [] []) [v54, (.func 287 [] [v56])] h156 fun v157 h158 =>
 bnd (ld h158 v56 fun v159 =>
 some (v159, h158)) fun v160 h161 =>
 bnd (nil? v54 fun v162 =>
 some (v162, h161)) fun v163 h164 =>
 bnd (fa 23 v163 fun v165 =>
 some (v165, h164)) fun v166 h167 =>
 bnd (ixA 32 1 v166 v160 fun v168 =>
 some (v168, h167)) fun v169 h170 =>
 bnd (st h170 v169 .nilp fun h171 =>
 some ((.tup []), h171)) fun v172 h173 =>
 some (.tup [], h173) else none else none else none else none) fun J51 =>
 nil? a2 fun v174 =>
 fa 1 v174 fun v175 =>
 fa 0 v175 fun v176 =>
 ld h50 v176 fun v177 =>
 yes false (aeqI v177 (.int .i64 (.ofNat 1))) fun v178 =>
 tst v178
 (bnd (nil? a0 fun v179 =>
 some (v179, h50)) fun v180 h181 =>
 bnd (fa 18 v180 fun v182 =>
 some (v182, h181)) fun v183 h184 =>
 bnd (ld h184 v183 fun v185 =>
 some (v185, h184)) fun v186 h187 =>
 bnd (nil? a2 fun v188 =>
 some (v188, h187)) fun v189 h190 =>
 bnd (fa 1 v189 fun v191 =>
 some (v191, h190)) fun v192 h193 =>
 bnd (fa 1 v192 fun v194 =>
 some (v194, h193)) fun v195 h196 =>
 bnd (ld h196 v195 fun v197 =>
 some (v197, h196)) fun v198 h199 =>
 bnd (nil? a2 fun v200 =>
 some (v200, h199)) fun v201 h202 =>
 bnd (fa 1 v201 fun v203 =>
 some (v203, h202)) fun v204 h205 =>
 bnd (fa 2 v204 fun v206 =>
 some (v206, h205)) fun v207 h208 =>
 bnd (ld h208 v207 fun v209 =>
 some (v209, h208)) fun v210 h211 =>
 bnd (getL (cellsOf v210) fun u212 => bif Nat.beq u212.length 1 then getL (over [(.int .i64 (.ofNat 0))] 0 u212) fun u213 => mkSlice h211 u213 1 1 (some 1) fun v214 h215 =>
 some (v214, h215) else none) fun v216 h217 =>
 bnd (callv rec (.func 283 [] []) [v186, v198, v216] h217 fun v218 h219 =>
 some (v218, h219)) fun v220 h221 =>
 J51 [a0, v2] h221)
 (J51 [a0, v2] h50) else none else none else none
theorem b204 (n : Nat) (rec : Rec) (a0 : AV) (a1 : AV) (a2 : AV) (h : Heap) : bodyR Go.Proofs.Tryz.prog (tabs n) rec 204 [a0, a1, a2] h = c204 n rec a0 a1 a2 h := by kernel_rfl
-- detent·isa.one
def c205 (_n : Nat) (_rec : Rec) (a0 : AV) (h : Heap) : Out :=
 mk h [(.int .i64 (.ofNat 0)), (.int .i64 (.ofNat 0)), (.int .i64 (.ofNat 0)), (.int .i64 (.ofNat 0)), (.int .i64 (.ofNat 0))] fun v1 h2 =>
 bnd (ixS 1 a0 (.int .i64 (.ofNat 2)) fun v3 =>
 some (v3, h2)) fun v4 h5 =>
 bnd (ld h5 v4 fun v6 =>
 some (v6, h5)) fun v7 h8 =>
 bnd (cvI .u16 v7 fun v9 =>
 some (v9, h8)) fun v10 h11 =>
 bnd (ixS 1 a0 (.int .i64 (.ofNat 3)) fun v12 =>
 some (v12, h11)) fun v13 h14 =>
 bnd (ld h14 v13 fun v15 =>
 some (v15, h14)) fun v16 h17 =>
 bnd (cvI .u16 v16 fun v18 =>
 some (v18, h17)) fun v19 h20 =>
 bnd (get1 (bin .shl v19 (.int .u64 (.ofNat 8))) fun v21 =>
 some (v21, h20)) fun v22 h23 =>
 bnd (get1 (bin .or v10 v22) fun v24 =>
 some (v24, h23)) fun v25 h26 =>
 bnd (cvI .i16 v25 fun v27 =>
 some (v27, h26)) fun v28 h29 =>
 bnd (ixS 1 a0 (.int .i64 (.ofNat 4)) fun v30 =>
 some (v30, h29)) fun v31 h32 =>
 bnd (ld h32 v31 fun v33 =>
 some (v33, h32)) fun v34 h35 =>
 bnd (cvI .u32 v34 fun v36 =>
 some (v36, h35)) fun v37 h38 =>
 bnd (ixS 1 a0 (.int .i64 (.ofNat 5)) fun v39 =>
 some (v39, h38)) fun v40 h41 =>
 bnd (ld h41 v40 fun v42 =>
 some (v42, h41)) fun v43 h44 =>
 bnd (cvI .u32 v43 fun v45 =>
 some (v45, h44)) fun v46 h47 =>
 bnd (get1 (bin .shl v46 (.int .u64 (.ofNat 8))) fun v48 =>
 some (v48, h47)) fun v49 h50 =>
 bnd (get1 (bin .or v37 v49) fun v51 =>
 some (v51, h50)) fun v52 h53 =>
 bnd (ixS 1 a0 (.int .i64 (.ofNat 6)) fun v54 =>
 some (v54, h53)) fun v55 h56 =>
 bnd (ld h56 v55 fun v57 =>
 some (v57, h56)) fun v58 h59 =>
 bnd (cvI .u32 v58 fun v60 =>
 some (v60, h59)) fun v61 h62 =>
 bnd (get1 (bin .shl v61 (.int .u64 (.ofNat 16))) fun v63 =>
 some (v63, h62)) fun v64 h65 =>
 bnd (get1 (bin .or v52 v64) fun v66 =>
 some (v66, h65)) fun v67 h68 =>
 bnd (ixS 1 a0 (.int .i64 (.ofNat 7)) fun v69 =>
 some (v69, h68)) fun v70 h71 =>
 bnd (ld h71 v70 fun v72 =>
 some (v72, h71)) fun v73 h74 =>
 bnd (cvI .u32 v73 fun v75 =>
 some (v75, h74)) fun v76 h77 =>
 bnd (get1 (bin .shl v76 (.int .u64 (.ofNat 24))) fun v78 =>
 some (v78, h77)) fun v79 h80 =>
 bnd (get1 (bin .or v67 v79) fun v81 =>
 some (v81, h80)) fun v82 h83 =>
 bnd (cvI .i32 v82 fun v84 =>
 some (v84, h83)) fun v85 h86 =>
 bnd (ixS 1 a0 (.int .i64 (.ofNat 0)) fun v87 =>
 some (v87, h86)) fun v88 h89 =>
 bnd (ld h89 v88 fun v90 =>
 some (v90, h89)) fun v91 h92 =>
 bnd (cvI .i64 v91 fun v93 =>
 some (v93, h92)) fun v94 h95 =>
 bnd (ixS 1 a0 (.int .i64 (.ofNat 1)) fun v96 =>
 some (v96, h95)) fun v97 h98 =>
 bnd (ld h98 v97 fun v99 =>
 some (v99, h98)) fun v100 h101 =>
 bnd (get1 (bin .shr v100 (.int .u64 (.ofNat 4))) fun v102 =>
 some (v102, h101)) fun v103 h104 =>
 bnd (cvI .i64 v103 fun v105 =>
 some (v105, h104)) fun v106 h107 =>
 bnd (ixS 1 a0 (.int .i64 (.ofNat 1)) fun v108 =>
 some (v108, h107)) fun v109 h110 =>
 bnd (ld h110 v109 fun v111 =>
 some (v111, h110)) fun v112 h113 =>
 bnd (get1 (bin .and v112 (.int .u8 (.ofNat 15))) fun v114 =>
 some (v114, h113)) fun v115 h116 =>
 bnd (cvI .i64 v115 fun v117 =>
 some (v117, h116)) fun v118 h119 =>
 bnd (cvI .i64 v28 fun v120 =>
 some (v120, h119)) fun v121 h122 =>
 bnd (cvI .i64 v85 fun v123 =>
 some (v123, h122)) fun v124 h125 =>
 bnd (getL (cellsOf v94) fun u126 => bif Nat.beq u126.length 1 then getL (over [(.int .i64 (.ofNat 0)), (.int .i64 (.ofNat 0)), (.int .i64 (.ofNat 0)), (.int .i64 (.ofNat 0)), (.int .i64 (.ofNat 0))] 0 u126) fun u127 => getL (cellsOf v106) fun u128 => bif Nat.beq u128.length 1 then getL (over u127 1 u128) fun u129 => getL (cellsOf v118) fun u130 => bif Nat.beq u130.length 1 then getL (over u129 2 u130) fun u131 => getL (cellsOf v121) fun u132 => bif Nat.beq u132.length 1 then getL (over u131 3 u132) fun u133 => getL (cellsOf v124) fun u134 => bif Nat.beq u134.length 1 then getL (over u133 4 u134) fun u135 => some ((.agg u135), h125) else none else none else none else none else none) fun v136 h137 =>
 bnd (stn 5 h137 v1 v136 fun h138 =>
 some ((.tup []), h138)) fun v139 h140 =>
 ldn 5 h140 v1 fun v141 => some (v141, h140)
theorem b205 (n : Nat) (rec : Rec) (a0 : AV) (h : Heap) : bodyR Go.Proofs.Tryz.prog (tabs n) rec 205 [a0] h = c205 n rec a0 h := by kernel_rfl
-- detent·check.Check$1
def c206 (_n : Nat) (rec : Rec) (a0 : AV) (a1 : AV) (h : Heap) : Out :=
 fa 0 a1 fun v1 =>
 ld h v1 fun v2 =>
 ixS 5 v2 a0 fun v3 =>
 ldn 5 h v3 fun v4 =>
 callv rec (.func 92 [] []) [v4] h fun v5 h6 =>
 some (v5, h6)
theorem b206 (n : Nat) (rec : Rec) (a0 : AV) (a1 : AV) (h : Heap) : bodyR Go.Proofs.Tryz.prog (tabs n) rec 206 [a0, a1] h = c206 n rec a0 a1 h := by kernel_rfl
-- detent·check.Check$2
def c207 (_n : Nat) (rec : Rec) (a0 : AV) (a1 : AV) (h : Heap) : Out :=
 ldn 2 h a1 fun v1 =>
 callv rec (.func 208 [] []) [v1, a0] h fun v2 h3 =>
 some (v2, h3)
theorem b207 (n : Nat) (rec : Rec) (a0 : AV) (a1 : AV) (h : Heap) : bodyR Go.Proofs.Tryz.prog (tabs n) rec 207 [a0, a1] h = c207 n rec a0 a1 h := by kernel_rfl
-- detent·check.wrong
def c208 (_n : Nat) (rec : Rec) (a0 : AV) (a1 : AV) (h : Heap) : Out :=
 getL (cellsOf a0) fun u1 => mk h u1 fun v2 h3 =>
 fa 0 v2 fun v4 =>
 ld h3 v4 fun v5 =>
 ixS 5 v5 a1 fun v6 =>
 ldn 5 h3 v6 fun v7 =>
 mk h3 [(.int .i64 (.ofNat 0)), (.int .i64 (.ofNat 0)), (.int .i64 (.ofNat 0)), (.int .i64 (.ofNat 0)), (.int .i64 (.ofNat 0))] fun v8 h9 =>
 stn 5 h9 v8 v7 fun h10 =>
 fa 4 v8 fun v11 =>
 ld h10 v11 fun v12 =>
 callv rec (.func 288 [] []) [v12] h10 fun v13 h14 =>
 ext v13 0 fun v15 =>
 ext v13 1 fun v16 =>
 ext v13 2 fun v17 =>
 fa 0 v2 fun v18 =>
 ld h14 v18 fun v19 =>
 callv rec (.func 289 [] []) [v19, a1] h14 fun v20 h21 =>
 get1 (una .not v20) fun v22 =>
 tst v22
 (some ((.int .i64 (.ofNat 2)), h21))
 (fa 0 v8 fun v23 =>
 ld h21 v23 fun v24 =>
 yes false (aeqI v24 (.int .i64 (.ofNat 72))) fun v25 =>
 bnd (wantV v25 true (some (v17, h21)) (some (.tup [], h21))) fun v26 h27 =>
 bnd (wantV v25 true (get1 (una .not v26) fun v28 =>
 some (v28, h27)) (some (.tup [], h27))) fun v29 h30 =>
 pickB v25 v29 (.bool false) fun v31 =>
 tst v31
 (some ((.int .i64 (.ofNat 4)), h30))
 (fa 0 v8 fun v32 =>
 ld h30 v32 fun v33 =>
 yes false (aeqI v33 (.int .i64 (.ofNat 72))) fun v34 =>
 bnd (wantV v34 true (fa 4 v8 fun v35 =>
 some (v35, h30)) (some (.tup [], h30))) fun v36 h37 =>
 bnd (wantV v34 true (ld h37 v36 fun v38 =>
 some (v38, h37)) (some (.tup [], h37))) fun v39 h40 =>
 bnd (wantV v34 true (yes false (aeqI v39 (.int .i64 (.ofNat 16))) fun v41 =>
 some (v41, h40)) (some (.tup [], h40))) fun v42 h43 =>
 pickB v34 v42 (.bool false) fun v44 =>
 bnd (wantV v44 true (fa 1 v2 fun v45 =>
 some (v45, h43)) (some (.tup [], h43))) fun v46 h47 =>
 bnd (wantV v44 true (ld h47 v46 fun v48 =>
 some (v48, h47)) (some (.tup [], h47))) fun v49 h50 =>
 bnd (wantV v44 true (get1 (una .not v49) fun v51 =>
 some (v51, h50)) (some (.tup [], h50))) fun v52 h53 =>
 pickB v44 v52 (.bool false) fun v54 =>
 tst v54
 (some ((.int .i64 (.ofNat 17)), h53))
 (fa 0 v2 fun v55 =>
 ld h53 v55 fun v56 =>
 lenS v56 fun v57 =>
 get1 (bin .sub v57 (.int .i64 (.ofNat 1))) fun v58 =>
 yes false (aeqI a1 v58) fun v59 =>
 bnd (wantV v59 true (fa 0 v8 fun v60 =>
 some (v60, h53)) (some (.tup [], h53))) fun v61 h62 =>
 bnd (wantV v59 true (ld h62 v61 fun v63 =>
 some (v63, h62)) (some (.tup [], h62))) fun v64 h65 =>
 bnd (wantV v59 true (yes true (aeqI v64 (.int .i64 (.ofNat 73))) fun v66 =>
 some (v66, h65)) (some (.tup [], h65))) fun v67 h68 =>
 pickB v59 v67 (.bool false) fun v69 =>
 bnd (wantV v69 true (fa 0 v8 fun v70 =>
 some (v70, h68)) (some (.tup [], h68))) fun v71 h72 =>
 bnd (wantV v69 true (ld h72 v71 fun v73 =>
 some (v73, h72)) (some (.tup [], h72))) fun v74 h75 =>
 bnd (wantV v69 true (yes true (aeqI v74 (.int .i64 (.ofNat 32))) fun v76 =>
 some (v76, h75)) (some (.tup [], h75))) fun v77 h78 =>
 pickB v69 v77 (.bool false) fun v79 =>
 tst v79
 (some ((.int .i64 (.ofNat 10)), h78))
 (some ((.int .i64 (.ofNat 0)), h78)))))
theorem b208 (n : Nat) (rec : Rec) (a0 : AV) (a1 : AV) (h : Heap) : bodyR Go.Proofs.Tryz.prog (tabs n) rec 208 [a0, a1] h = c208 n rec a0 a1 h := by kernel_rfl
-- detent·check.Check$3
def c209 (_n : Nat) (rec : Rec) (a0 : AV) (a1 : AV) (h : Heap) : Out :=
 ld h a1 fun v1 =>
 callv rec (.func 210 [] []) [v1, a0] h fun v2 h3 =>
 get1 (una .not v2) fun v4 =>
 tst v4
 (some ((.int .i64 (.ofNat 19)), h3))
 (some ((.int .i64 (.ofNat 0)), h3))
theorem b209 (n : Nat) (rec : Rec) (a0 : AV) (a1 : AV) (h : Heap) : bodyR Go.Proofs.Tryz.prog (tabs n) rec 209 [a0, a1] h = c209 n rec a0 a1 h := by kernel_rfl
-- (detent·mask.Mask).Has
def c210 (_n : Nat) (rec : Rec) (a0 : AV) (a1 : AV) (h : Heap) : Out :=
 callv rec (.func 155 [] []) [a1] h fun v1 h2 =>
 get1 (bin .and a0 v1) fun v3 =>
 yes true (aeqI v3 (.int .u64 (.ofNat 0))) fun v4 =>
 some (v4, h2)
theorem b210 (n : Nat) (rec : Rec) (a0 : AV) (a1 : AV) (h : Heap) : bodyR Go.Proofs.Tryz.prog (tabs n) rec 210 [a0, a1] h = c210 n rec a0 a1 h := by kernel_rfl
-- detent·check.Reached
def c211 (n : Nat) (rec : Rec) (a0 : AV) (h : Heap) : Out :=
 lenS a0 fun v1 =>
 mm false v1 (.int .i64 (.ofNat 64)) fun v2 =>
 slS 5 a0 none (some v2) none fun v3 =>
 lenS v3 fun v4 =>
 mm false v4 (.int .i64 (.ofNat 1)) fun v5 =>
 callv rec (.func 290 [] []) [v5] h fun v6 h7 =>
 mkSlice h7 [(.int .i64 (.ofNat 0))] 1 1 (some 1) fun v8 h9 =>
 iter n (fun nx10 w11 h12 => un w11 fun v13 l14 => un l14 fun v15 l16 => un l16 fun v17 l18 => lenS v17 fun v19 =>
 get1 (bin .gtr v19 (.int .i64 (.ofNat 0))) fun v20 =>
 tst v20
 (lenS v17 fun v21 =>
 get1 (bin .sub v21 (.int .i64 (.ofNat 1))) fun v22 =>
 ixS 1 v17 v22 fun v23 =>
 ld h12 v23 fun v24 =>
 lenS v17 fun v25 =>
 get1 (bin .sub v25 (.int .i64 (.ofNat 1))) fun v26 =>
 slS 1 v17 none (some v26) none fun v27 =>
 callv rec (.func 291 [] []) [v13, v24] h12 fun v28 h29 =>
 lenS v28 fun v30 =>
 iter n (fun nx31 w32 h33 => un w32 fun v34 l35 => un l35 fun v36 l37 => un l37 fun v38 l39 => un l39 fun v40 l41 => un l41 fun v42 l43 => un l43 fun v44 l45 => get1 (bin .lss v44 v42) fun v46 =>
 tst v46
 (joinPt (fun w48 h49 => un w48 fun v50 l51 => un l51 fun v52 l53 => un l53 fun v54 l55 => un l55 fun v56 l57 => un l57 fun v58 l59 => un l59 fun v60 l61 => get1 (bin .add v60 (.int .i64 (.ofNat 1))) fun v62 =>
 nx31 [v50, v52, v54, v56, v58, v62] h49) fun J47 =>
 ixS 1 v40 v44 fun v63 =>
 ld h33 v63 fun v64 =>
 callv rec (.func 210 [] []) [v36, v64] h33 fun v65 h66 =>
 get1 (una .not v65) fun v67 =>
 tst v67
 (getL (cellsOf v64) fun u68 => bif Nat.beq u68.length 1 then getL (over [(.int .i64 (.ofNat 0))] 0 u68) fun u69 => mkSlice h66 u69 1 1 (some 1) fun v70 h71 =>
 callv rec (.func 90 [] []) [v36, v70] h71 fun v72 h73 =>
 getL (cellsOf v64) fun u74 => bif Nat.beq u74.length 1 then getL (over [(.int .i64 (.ofNat 0))] 0 u74) fun u75 => mkSlice h73 u75 1 1 (some 1) fun v76 h77 =>
 app 1 8 h77 v38 v76 fun v78 h79 =>
 J47 [v34, v72, v78, v40, v42, v44] h79 else none else none)
 (J47 [v34, v36, v38, v40, v42, v44] h66))
 (nx10 [v34, v36, v38] h33)) [v13, v15, v27, v28, v30, (.int .i64 (.ofNat 0))] h29)
 (some (v15, h12))) [v3, v6, v8] h9
theorem b211 (n : Nat) (rec : Rec) (a0 : AV) (h : Heap) : bodyR Go.Proofs.Tryz.prog (tabs n) rec 211 [a0] h = c211 n rec a0 h := by kernel_rfl
-- slices.Index[[]*detent·kernel.context,*detent·kernel.context]
def c213 (n : Nat) (_rec : Rec) (a0 : AV) (a1 : AV) (h : Heap) : Out :=
 lenS a0 fun v1 =>
 iter n (fun nx2 w3 h4 => un w3 fun v5 l6 => un l6 fun v7 l8 => un l8 fun v9 l10 => un l10 fun v11 l12 => get1 (bin .lss v11 v9) fun v13 =>
 tst v13
 (ixS 1 v5 v11 fun v14 =>
 ld h4 v14 fun v15 =>
 yes false (aeqP v7 v15) fun v16 =>
 tst v16
 (some (v11, h4))
 (get1 (bin .add v11 (.int .i64 (.ofNat 1))) fun v17 =>
 nx2 [v5, v7, v9, v17] h4))
 (some ((.int .i64 (.negSucc 0)), h4))) [a0, a1, v1, (.int .i64 (.ofNat 0))] h
theorem b213 (n : Nat) (rec : Rec) (a0 : AV) (a1 : AV) (h : Heap) : bodyR Go.Proofs.Tryz.prog (tabs n) rec 213 [a0, a1] h = c213 n rec a0 a1 h := by kernel_rfl
-- detent·frame.New
def c214 (_n : Nat) (_rec : Rec) (a0 : AV) (h : Heap) : Out :=
 lenS a0 fun v1 =>
 get1 (bin .gtr v1 (.int .i64 (.ofNat 5))) fun v2 =>
 tst v2
 (some (.tup [.nilp, (.int .i64 (.ofNat 8))], h))
 (mk h [(.bool false), (.int .i64 (.ofNat 0)), (.int .i64 (.ofNat 0)), (.int .i64 (.ofNat 0)), (.int .u64 (.ofNat 0)), (.bool false), (.int .i64 (.ofNat 0)), (.int .i64 (.ofNat 0)), (.int .i64 (.ofNat 0)), (.int .u64 (.ofNat 0)), (.bool false), (.int .i64 (.ofNat 0)), (.int .i64 (.ofNat 0)), (.int .i64 (.ofNat 0)), (.int .u64 (.ofNat 0)), (.bool false), (.int .i64 (.ofNat 0)), (.int .i64 (.ofNat 0)), (.int .i64 (.ofNat 0)), (.int .u64 (.ofNat 0)), (.bool false), (.int .i64 (.ofNat 0)), (.int .i64 (.ofNat 0)), (.int .i64 (.ofNat 0)), (.int .u64 (.ofNat 0)), (.bool false), (.int .i64 (.ofNat 0)), (.int .i64 (.ofNat 0)), (.int .i64 (.ofNat 0)), (.int .u64 (.ofNat 0)), (.bool false), (.int .i64 (.ofNat 0)), (.int .i64 (.ofNat 0)), (.int .i64 (.ofNat 0)), (.int .u64 (.ofNat 0)), (.bool false), (.int .i64 (.ofNat 0)), (.int .i64 (.ofNat 0)), (.int .i64 (.ofNat 0)), (.int .u64 (.ofNat 0)), (.bool false), (.int .i64 (.ofNat 0)), (.int .i64 (.ofNat 0)), (.int .i64 (.ofNat 0)), (.int .u64 (.ofNat 0)), (.bool false), (.int .i64 (.ofNat 0)), (.int .i64 (.ofNat 0)), (.int .i64 (.ofNat 0)), (.int .u64 (.ofNat 0)), (.bool false), (.int .i64 (.ofNat 0)), (.int .i64 (.ofNat 0)), (.int .i64 (.ofNat 0)), (.int .u64 (.ofNat 0)), (.bool false), (.int .i64 (.ofNat 0)), (.int .i64 (.ofNat 0)), (.int .i64 (.ofNat 0)), (.int .u64 (.ofNat 0)), (.bool false), (.int .i64 (.ofNat 0)), (.int .i64 (.ofNat 0)), (.int .i64 (.ofNat 0)), (.int .u64 (.ofNat 0)), (.bool false), (.int .i64 (.ofNat 0)), (.int .i64 (.ofNat 0)), (.int .i64 (.ofNat 0)), (.int .u64 (.ofNat 0)), (.bool false), (.int .i64 (.ofNat 0)), (.int .i64 (.ofNat 0)), (.int .i64 (.ofNat 0)), (.int .u64 (.ofNat 0)), (.bool false), (.int .i64 (.ofNat 0)), (.int .i64 (.ofNat 0)), (.int .i64 (.ofNat 0)), (.int .u64 (.ofNat 0)), (.bool false), (.int .i64 (.ofNat 0)), (.int .i64 (.ofNat 0)), (.int .i64 (.ofNat 0)), (.int .u64 (.ofNat 0)), (.bool false), (.int .i64 (.ofNat 0)), (.int .i64 (.ofNat 0)), (.int .i64 (.ofNat 0)), (.int .u64 (.ofNat 0))] fun v3 h4 =>
 nil? v3 fun v5 =>
 fa 0 v5 fun v6 =>
 slA 10 5 h4 v6 (some (.int .i64 (.ofNat 1))) none none fun v7 =>
 cpy 5 h4 v7 a0 fun v8 h9 =>
 some (.tup [v3, (.int .i64 (.ofNat 0))], h9))
theorem b214 (n : Nat) (rec : Rec) (a0 : AV) (h : Heap) : bodyR Go.Proofs.Tryz.prog (tabs n) rec 214 [a0] h = c214 n rec a0 h := by kernel_rfl
-- (*detent·sect.Sections).enter
def c215 (_n : Nat) (rec : Rec) (a0 : AV) (a1 : AV) (h : Heap) : Out :=
 callv rec (.func 216 [] []) [a0, a1] h fun v1 h2 =>
 ext v1 0 fun v3 =>
 ext v1 1 fun v4 =>
 joinPt (fun w6 h7 => un w6 fun v8 l9 => nil? v8 fun v10 =>
 fa 0 v10 fun v11 =>
 ld h7 v11 fun v12 =>
 get1 (bin .add v12 (.int .i64 (.ofNat 1))) fun v13 =>
 nil? v8 fun v14 =>
 fa 0 v14 fun v15 =>
 st h7 v15 v13 fun h16 =>
 some ((.int .i64 (.ofNat 0)), h16)) fun J5 =>
 yes true (aeqI v4 (.int .i64 (.ofNat 0))) fun v17 =>
 tst v17
 (some (v4, h2))
 (nil? v3 fun v18 =>
 fa 0 v18 fun v19 =>
 ld h2 v19 fun v20 =>
 yes false (aeqI v20 (.int .i64 (.ofNat 8))) fun v21 =>
 tst v21
 (some ((.int .i64 (.ofNat 3)), h2))
 (nil? v3 fun v22 =>
 fa 0 v22 fun v23 =>
 ld h2 v23 fun v24 =>
 yes false (aeqI v24 (.int .i64 (.ofNat 0))) fun v25 =>
 tst v25
 (nil? a0 fun v26 =>
 fa 129 v26 fun v27 =>
 ld h2 v27 fun v28 =>
 get1 (bin .add v28 (.int .i64 (.ofNat 1))) fun v29 =>
 nil? a0 fun v30 =>
 fa 129 v30 fun v31 =>
 st h2 v31 v29 fun h32 =>
 nil? a0 fun v33 =>
 fa 129 v33 fun v34 =>
 ld h32 v34 fun v35 =>
 nil? v3 fun v36 =>
 fa 1 v36 fun v37 =>
 st h32 v37 v35 fun h38 =>
 nil? a0 fun v39 =>
 fa 128 v39 fun v40 =>
 ld h38 v40 fun v41 =>
 getL (cellsOf a1) fun u42 => bif Nat.beq u42.length 1 then getL (over [(.int .i64 (.ofNat 0))] 0 u42) fun u43 => mkSlice h38 u43 1 1 (some 1) fun v44 h45 =>
 callv rec (.func 90 [] []) [v41, v44] h45 fun v46 h47 =>
 nil? a0 fun v48 =>
 fa 128 v48 fun v49 =>
 st h47 v49 v46 fun h50 =>
 J5 [v3] h50 else none)
 (J5 [v3] h2)))
theorem b215 (n : Nat) (rec : Rec) (a0 : AV) (a1 : AV) (h : Heap) : bodyR Go.Proofs.Tryz.prog (tabs n) rec 215 [a0, a1] h = c215 n rec a0 a1 h := by kernel_rfl
-- (*detent·sect.Sections).find
def c216 (_n : Nat) (_rec : Rec) (a0 : AV) (a1 : AV) (h : Heap) : Out :=
 yes false (aeqP a0 .nilp) fun v1 =>
 tst v1
 (some (.tup [.nilp, (.int .i64 (.ofNat 6))], h))
 (get1 (bin .lss a1 (.int .i64 (.ofNat 0))) fun v2 =>
 bnd (wantV v2 false (some (a1, h)) (some (.tup [], h))) fun v3 h4 =>
 bnd (wantV v2 false (get1 (bin .geq v3 (.int .i64 (.ofNat 64))) fun v5 =>
 some (v5, h4)) (some (.tup [], h4))) fun v6 h7 =>
 pickB v2 (.bool true) v6 fun v8 =>
 tst v8
 (some (.tup [.nilp, (.int .i64 (.ofNat 2))], h7))
 (nil? a0 fun v9 =>
 fa 0 v9 fun v10 =>
 ixA 64 2 v10 a1 fun v11 =>
 some (.tup [v11, (.int .i64 (.ofNat 0))], h7)))
theorem b216 (n : Nat) (rec : Rec) (a0 : AV) (a1 : AV) (h : Heap) : bodyR Go.Proofs.Tryz.prog (tabs n) rec 216 [a0, a1] h = c216 n rec a0 a1 h := by kernel_rfl
-- (detent·mask.Mask).Without
def c217 (n : Nat) (rec : Rec) (a0 : AV) (a1 : AV) (h : Heap) : Out :=
 lenS a1 fun v1 =>
 iter n (fun nx2 w3 h4 => un w3 fun v5 l6 => un l6 fun v7 l8 => un l8 fun v9 l10 => un l10 fun v11 l12 => get1 (bin .lss v11 v9) fun v13 =>
 tst v13
 (ixS 1 v7 v11 fun v14 =>
 ld h4 v14 fun v15 =>
 callv rec (.func 155 [] []) [v15] h4 fun v16 h17 =>
 get1 (bin .andNot v5 v16) fun v18 =>
 get1 (bin .add v11 (.int .i64 (.ofNat 1))) fun v19 =>
 nx2 [v18, v7, v9, v19] h17)
 (some (v5, h4))) [a0, a1, v1, (.int .i64 (.ofNat 0))] h
theorem b217 (n : Nat) (rec : Rec) (a0 : AV) (a1 : AV) (h : Heap) : bodyR Go.Proofs.Tryz.prog (tabs n) rec 217 [a0, a1] h = c217 n rec a0 a1 h := by kernel_rfl
-- detent·ring.New[int]
def c232 (_n : Nat) (_rec : Rec) (a0 : AV) (h : Heap) : Out :=
 get1 (bin .lss a0 (.int .i64 (.ofNat 1))) fun v1 =>
 bnd (wantV v1 false (some (a0, h)) (some (.tup [], h))) fun v2 h3 =>
 bnd (wantV v1 false (get1 (bin .gtr v2 (.int .i64 (.ofNat 256))) fun v4 =>
 some (v4, h3)) (some (.tup [], h3))) fun v5 h6 =>
 pickB v1 (.bool true) v5 fun v7 =>
 tst v7
 (some (.tup [.nilp, (.int .i64 (.ofNat 2))], h6))
 (mks [(.int .i64 (.ofNat 0))] 1 8 h6 a0 a0 fun v8 h9 =>
 getL (cellsOf v8) fun u10 => bif Nat.beq u10.length 1 then getL (over [.nils, (.int .i64 (.ofNat 0)), (.int .i64 (.ofNat 0))] 0 u10) fun u11 => getL (cellsOf (.agg u11)) fun u12 => mk h9 u12 fun v13 h14 =>
 some (.tup [v13, (.int .i64 (.ofNat 0))], h14) else none)
theorem b232 (n : Nat) (rec : Rec) (a0 : AV) (h : Heap) : bodyR Go.Proofs.Tryz.prog (tabs n) rec 232 [a0] h = c232 n rec a0 h := by kernel_rfl
-- detent·wheel.New
def c233 (_n : Nat) (_rec : Rec) (a0 : AV) (h : Heap) : Out :=
 newMap h fun v1 h2 =>
 getL (cellsOf a0) fun u3 => bif Nat.beq u3.length 1 then getL (over [(.int .u64 (.ofNat 0)), .nils, .nils, .nils, .nils, .nils, .nils, .nils, .nils, .nils, .nils, .nils, .nils, .nils, .nils, .nils, .nils, .nils, .nils, .nils, .nils, .nils, .nils, .nils, .nils, .nils, .nils, .nils, .nils, .nils, .nils, .nils, .nils, .nils, .nils, .nils, .nils, .nils, .nils, .nils, .nils, .nils, .nils, .nils, .nils, .nils, .nils, .nils, .nils, .nils, .nils, .nils, .nils, .nils, .nils, .nils, .nils, .nils, .nils, .nils, .nils, .nils, .nils, .nils, .nils, .nils, .nils, .nils, .nils, .nils, .nils, .nils, .nils, .nils, .nils, .nils, .nils, .nils, .nils, .nils, .nils, .nils, .nils, .nils, .nils, .nils, .nils, .nils, .nils, .nils, .nils, .nils, .nils, .nils, .nils, .nils, .nils, .nils, .nils, .nils, .nils, .nils, .nils, .nils, .nils, .nils, .nils, .nils, .nils, .nils, .nils, .nils, .nils, .nils, .nils, .nils, .nils, .nils, .nils, .nils, .nils, .nils, .nils, .nils, .nils, .nils, .nils, .nils, .nils, .nils, .nils, .nils, .nils, .nils, .nils, .nils, .nils, .nils, .nils, .nils, .nils, .nils, .nils, .nils, .nils, .nils, .nils, .nils, .nils, .nils, .nils, .nils, .nils, .nils, .nils, .nils, .nils, .nils, .nils, .nils, .nils, .nils, .nils, .nils, .nils, .nils, .nils, .nils, .nils, .nils, .nils, .nils, .nils, .nils, .nils, .nils, .nils, .nils, .nils, .nils, .nils, .nils, .nils, .nils, .nils, .nils, .nils, .nils, .nils, .nils, .nils, .nils, .nils, .nils, .nils, .nils, .nils, .nils, .nils, .nils, .nils, .nils, .nils, .nils, .nils, .nils, .nils, .nils, .nils, .nils, .nils, .nils, .nils, .nils, .nils, .nils, .nils, .nils, .nils, .nils, .nils, .nils, .nils, .nils, .nils, .nils, .nils, .nils, .nils, .nils, .nils, .nils, .nils, .nils, .nils, .nils, .nils, .nils, .nils, .nils, .nils, .nils, .nils, .nils, .nils, .nils, .nils, .nils, .nils, .nils, .nils, .nils, .nils, .nils, .nils, .nils, .nils, .nils, .nils, .nils, .nils, .nils, .nils, .nils, .nils, .nils, .nils, .nils, .nils, .nils, .nils, .nils, .nils, .nils, .nils, .nils, .nils, .nils, .nils, .nils, .nils, .nils, .nils, .nils, .nils, .nils, .nils, .nils, .nils, .nils, .nils, .nils, .nils, .nils, .nils, .nils, .nils, .nils, .nils, .nils, .nils, .nils, .nils, .nils, .nils, .nils, .nils, .nils, .nils, .nils, .nils, .nils, .nils, .nils, .nils, .nils, .nils, .nils, .nils, .nils, .nils, .nils, .nils, .nils, .nils, .nils, .nils, .nils, .nils, .nils, .nils, .nils, .nils, .nils, .nils, .nils, .nils, .nils, .nils, .nils, .nils, .nils, .nils, .nils, .nils, .nils, .nils, .nils, .nils, .nils, .nils, .nils, .nils, .nils, .nils, .nils, .nils, .nils, .nils, .nils, .nils, .nils, .nils, .nils, .nils, .nils, .nils, .nils, .nils, .nils, .nils, .nils, .nils, .nils, .nils, .nils, .nils, .nils, .nils, .nils, .nils, .nils, .nils, .nils, .nils, .nils, .nils, .nils, .nils, .nils, .nils, .nils, .nils, .nils, .nils, .nils, .nils, .nils, .nils, .nils, .nils, .nils, .nils, .nils, .nils, .nils, .nils, .nils, .nils, .nils, .nils, .nils, .nils, .nils, .nils, .nils, .nils, .nils, .nils, .nils, .nils, .nils, .nils, .nils, .nils, .nils, .nils, .nils, .nils, .nils, .nils, .nils, .nils, .nils, .nils, .nils, .nils, .nils, .nils, .nils, .nils, .nils, .nils, .nils, .nils, .nils, .nils, .nils, .nils, .nils, .nils, .nils, .nils, .nils, .nils, .nils, .nils, .nils, .nils, .nils, .nils, .nils, .nils, .nils, .nils, .nils, .nils, .nils, .nils, .nils, .nils, .nils, .nils, .nils, .nils, .nils, .nils, .nils, .nils, .nils, .nils, .nils, .nils, .nils, .nils, .nils, .nils, .nils, .nils, .nils, .nils, .nils, .nils, .nils, .nils, .nils, .nils, .nils, .nils, .nils, .nils, .nils, .nils, .nils, .nils, .nils, .nils, .nils, .nils, .nils, .nils, .nils, .nils, (.int .u64 (.ofNat 0)), (.int .u64 (.ofNat 0)), (.int .u64 (.ofNat 0)), (.int .u64 (.ofNat 0)), (.int .u64 (.ofNat 0)), (.int .u64 (.ofNat 0)), (.int .u64 (.ofNat 0)), (.int .u64 (.ofNat 0)), .nilm, (.int .i64 (.ofNat 0))] 0 u3) fun u4 => getL (cellsOf v1) fun u5 => bif Nat.beq u5.length 1 then getL (over u4 521 u5) fun u6 => getL (cellsOf (.agg u6)) fun u7 => mk h2 u7 fun v8 h9 =>
 some (v8, h9) else none else none
theorem b233 (n : Nat) (rec : Rec) (a0 : AV) (h : Heap) : bodyR Go.Proofs.Tryz.prog (tabs n) rec 233 [a0] h = c233 n rec a0 h := by kernel_rfl
-- detent·ring.New[detent·calls.Call]
def c234 (_n : Nat) (_rec : Rec) (a0 : AV) (h : Heap) : Out :=
 get1 (bin .lss a0 (.int .i64 (.ofNat 1))) fun v1 =>
 bnd (wantV v1 false (some (a0, h)) (some (.tup [], h))) fun v2 h3 =>
 bnd (wantV v1 false (get1 (bin .gtr v2 (.int .i64 (.ofNat 256))) fun v4 =>
 some (v4, h3)) (some (.tup [], h3))) fun v5 h6 =>
 pickB v1 (.bool true) v5 fun v7 =>
 tst v7
 (some (.tup [.nilp, (.int .i64 (.ofNat 2))], h6))
 (mks [(.int .i64 (.ofNat 0)), (.int .i64 (.ofNat 0))] 2 16 h6 a0 a0 fun v8 h9 =>
 getL (cellsOf v8) fun u10 => bif Nat.beq u10.length 1 then getL (over [.nils, (.int .i64 (.ofNat 0)), (.int .i64 (.ofNat 0))] 0 u10) fun u11 => getL (cellsOf (.agg u11)) fun u12 => mk h9 u12 fun v13 h14 =>
 some (.tup [v13, (.int .i64 (.ofNat 0))], h14) else none)
theorem b234 (n : Nat) (rec : Rec) (a0 : AV) (h : Heap) : bodyR Go.Proofs.Tryz.prog (tabs n) rec 234 [a0] h = c234 n rec a0 h := by kernel_rfl
-- detent·mask.good
def c235 (_n : Nat) (_rec : Rec) (a0 : AV) (h : Heap) : Out :=
 get1 (bin .geq a0 (.int .i64 (.ofNat 0))) fun v1 =>
 bnd (wantV v1 true (some (a0, h)) (some (.tup [], h))) fun v2 h3 =>
 bnd (wantV v1 true (get1 (bin .lss v2 (.int .i64 (.ofNat 64))) fun v4 =>
 some (v4, h3)) (some (.tup [], h3))) fun v5 h6 =>
 pickB v1 v5 (.bool false) fun v7 =>
 some (v7, h6)
theorem b235 (n : Nat) (rec : Rec) (a0 : AV) (h : Heap) : bodyR Go.Proofs.Tryz.prog (tabs n) rec 235 [a0] h = c235 n rec a0 h := by kernel_rfl
end Go.Ai
