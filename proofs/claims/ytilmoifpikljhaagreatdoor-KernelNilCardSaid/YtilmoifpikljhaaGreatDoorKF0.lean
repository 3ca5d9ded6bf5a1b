/-
  WHAT FUNCTIONS COME TO, part 0: each one's body, types, slots and orders reckoned out, and that it is so.
-/
import Derived.Test.YtilmoifpikljhaaGreatDoorKTabs
import Derived.KernelRfl
set_option linter.unusedVariables false
set_option linter.unusedSimpArgs false
namespace Go.Ai
open Go
set_option maxRecDepth 100000
-- detent·detentlaw31.KernelNil
def c3 (_n : Nat) (rec : Rec) (a0 : AV) (a1 : AV) (a2 : AV) (a3 : AV) (h : Heap) : Out :=
 getL (cellsOf a3) fun u1 => mk h u1 fun v2 h3 =>
 fa 6 v2 fun v4 =>
 ld h3 v4 fun v5 =>
 fa 6 v2 fun v6 =>
 ld h3 v6 fun v7 =>
 lenS v7 fun v8 =>
 mm false v8 (.int .i64 (.ofNat 600)) fun v9 =>
 slS 1 v5 none (some v9) none fun v10 =>
 fa 6 v2 fun v11 =>
 st h3 v11 v10 fun h12 =>
 ldn 7 h12 v2 fun v13 =>
 callv rec (.func 6 [] []) [v13] h12 fun v14 h15 =>
 callv rec (.func 5 [] []) [.nilp, v14] h15 fun v16 h17 =>
 ext v16 0 fun v18 =>
 ext v16 1 fun v19 =>
 callv rec (.func 7 [] []) [.nilp, (.int .i64 (.ofNat 0))] h17 fun v20 h21 =>
 ext v20 0 fun v22 =>
 ext v20 1 fun v23 =>
 mk h21 [.nils, (.bool false)] fun v24 h25 =>
 stn 2 h25 v24 v22 fun h26 =>
 callv rec (.func 8 [] []) [a0, a1, a2] h26 fun v27 h28 =>
 ext v27 0 fun v29 =>
 ext v27 1 fun v30 =>
 get1 (bin .geq a0 (.int .i64 (.ofNat 1))) fun v31 =>
 bnd (wantV v31 true (some (a0, h28)) (some (.tup [], h28))) fun v32 h33 =>
 bnd (wantV v31 true (get1 (bin .leq v32 (.int .i64 (.ofNat 64))) fun v34 =>
 some (v34, h33)) (some (.tup [], h33))) fun v35 h36 =>
 pickB v31 v35 (.bool false) fun v37 =>
 bnd (wantV v37 true (some (a1, h36)) (some (.tup [], h36))) fun v38 h39 =>
 bnd (wantV v37 true (get1 (bin .geq v38 (.int .i64 (.ofNat 1))) fun v40 =>
 some (v40, h39)) (some (.tup [], h39))) fun v41 h42 =>
 pickB v37 v41 (.bool false) fun v43 =>
 bnd (wantV v43 true (some (a1, h42)) (some (.tup [], h42))) fun v44 h45 =>
 bnd (wantV v43 true (get1 (bin .leq v44 (.int .i64 (.ofNat 16))) fun v46 =>
 some (v46, h45)) (some (.tup [], h45))) fun v47 h48 =>
 pickB v43 v47 (.bool false) fun v49 =>
 bnd (wantV v49 true (some (v30, h48)) (some (.tup [], h48))) fun v50 h51 =>
 bnd (wantV v49 true (yes true (aeqI v50 (.int .i64 (.ofNat 0))) fun v52 =>
 some (v52, h51)) (some (.tup [], h51))) fun v53 h54 =>
 bnd (wantV v49 true (some (v53, h54)) (some (.tup [], h54))) fun v55 h56 =>
 bnd (wantV v55 false (some (v29, h56)) (some (.tup [], h56))) fun v57 h58 =>
 bnd (wantV v55 false (callv rec (.func 9 [] []) [v57] h58 fun v59 h60 =>
 some (v59, h60)) (some (.tup [], h58))) fun v61 h62 =>
 bnd (wantV v55 false (some (a0, h62)) (some (.tup [], h62))) fun v63 h64 =>
 bnd (wantV v55 false (yes true (aeqI v61 v63) fun v65 =>
 some (v65, h64)) (some (.tup [], h64))) fun v66 h67 =>
 bnd (wantV v49 true (pickB v55 (.bool true) v66 fun v68 =>
 some (v68, h67)) (some (.tup [], h67))) fun v69 h70 =>
 bnd (wantV v49 true (some (v69, h70)) (some (.tup [], h70))) fun v71 h72 =>
 bnd (wantV v71 false (some (v29, h72)) (some (.tup [], h72))) fun v73 h74 =>
 bnd (wantV v71 false (callv rec (.func 10 [] []) [v73] h74 fun v75 h76 =>
 some (v75, h76)) (some (.tup [], h74))) fun v77 h78 =>
 bnd (wantV v71 false (some (a2, h78)) (some (.tup [], h78))) fun v79 h80 =>
 bnd (wantV v71 false (yes true (aeqI v77 v79) fun v81 =>
 some (v81, h80)) (some (.tup [], h80))) fun v82 h83 =>
 bnd (wantV v49 true (pickB v71 (.bool true) v82 fun v84 =>
 some (v84, h83)) (some (.tup [], h83))) fun v85 h86 =>
 bnd (wantV v49 true (some (v85, h86)) (some (.tup [], h86))) fun v87 h88 =>
 bnd (wantV v87 false (some (v29, h88)) (some (.tup [], h88))) fun v89 h90 =>
 bnd (wantV v87 false (callv rec (.func 11 [] []) [v89] h90 fun v91 h92 =>
 some (v91, h92)) (some (.tup [], h90))) fun v93 h94 =>
 bnd (wantV v87 false (yes true (aeqI v93 (.int .u64 (.ofNat 0))) fun v95 =>
 some (v95, h94)) (some (.tup [], h94))) fun v96 h97 =>
 bnd (wantV v49 true (pickB v87 (.bool true) v96 fun v98 =>
 some (v98, h97)) (some (.tup [], h97))) fun v99 h100 =>
 pickB v49 v99 (.bool false) fun v101 =>
 bnd (wantV v101 false (some (v49, h100)) (some (.tup [], h100))) fun v102 h103 =>
 bnd (wantV v101 false (get1 (una .not v102) fun v104 =>
 some (v104, h103)) (some (.tup [], h103))) fun v105 h106 =>
 bnd (wantV v101 false (some (v105, h106)) (some (.tup [], h106))) fun v107 h108 =>
 bnd (wantV v107 true (some (v30, h108)) (some (.tup [], h108))) fun v109 h110 =>
 bnd (wantV v107 true (yes true (aeqI v109 (.int .i64 (.ofNat 2))) fun v111 =>
 some (v111, h110)) (some (.tup [], h110))) fun v112 h113 =>
 bnd (wantV v107 true (some (v112, h113)) (some (.tup [], h113))) fun v114 h115 =>
 bnd (wantV v114 false (some (v29, h115)) (some (.tup [], h115))) fun v116 h117 =>
 bnd (wantV v114 false (yes true (aeqP v116 .nilp) fun v118 =>
 some (v118, h117)) (some (.tup [], h117))) fun v119 h120 =>
 bnd (wantV v107 true (pickB v114 (.bool true) v119 fun v121 =>
 some (v121, h120)) (some (.tup [], h120))) fun v122 h123 =>
 bnd (wantV v101 false (pickB v107 v122 (.bool false) fun v124 =>
 some (v124, h123)) (some (.tup [], h123))) fun v125 h126 =>
 pickB v101 (.bool true) v125 fun v127 =>
 tst v127
 (some ((.bool false), h126))
 (callv rec (.func 12 [] []) [] h126 fun v128 h129 =>
 bnd (wantV v128 true (some (v18, h129)) (some (.tup [], h129))) fun v130 h131 =>
 bnd (wantV v128 true (yes false (aeqI v130 (.int .u64 (.ofNat 0))) fun v132 =>
 some (v132, h131)) (some (.tup [], h131))) fun v133 h134 =>
 pickB v128 v133 (.bool false) fun v135 =>
 bnd (wantV v135 true (some (v19, h134)) (some (.tup [], h134))) fun v136 h137 =>
 bnd (wantV v135 true (yes false (aeqI v136 (.int .i64 (.ofNat 6))) fun v138 =>
 some (v138, h137)) (some (.tup [], h137))) fun v139 h140 =>
 pickB v135 v139 (.bool false) fun v141 =>
 bnd (wantV v141 true (some (.nilp, h140)) (some (.tup [], h140))) fun v142 h143 =>
 bnd (wantV v141 true (some (a0, h143)) (some (.tup [], h143))) fun v144 h145 =>
 bnd (wantV v141 true (callv rec (.func 13 [] []) [v142, v144] h145 fun v146 h147 =>
 some (v146, h147)) (some (.tup [], h145))) fun v148 h149 =>
 bnd (wantV v141 true (lenS v148 fun v150 =>
 some (v150, h149)) (some (.tup [], h149))) fun v151 h152 =>
 bnd (wantV v141 true (yes false (aeqI v151 (.int .i64 (.ofNat 0))) fun v153 =>
 some (v153, h152)) (some (.tup [], h152))) fun v154 h155 =>
 pickB v141 v154 (.bool false) fun v156 =>
 bnd (wantV v156 true (some (.nilp, h155)) (some (.tup [], h155))) fun v157 h158 =>
 bnd (wantV v156 true (some (a1, h158)) (some (.tup [], h158))) fun v159 h160 =>
 bnd (wantV v156 true (callv rec (.func 14 [] []) [v157, v159] h160 fun v161 h162 =>
 some (v161, h162)) (some (.tup [], h160))) fun v163 h164 =>
 bnd (wantV v156 true (some ((.agg [(.int .i64 (.ofNat 0)), (.int .i64 (.ofNat 0)), (.int .i64 (.ofNat 0)), (.int .i64 (.ofNat 0)), (.int .i64 (.ofNat 0)), (.int .i64 (.ofNat 0))]), h164)) (some (.tup [], h164))) fun v165 h166 =>
 bnd (wantV v156 true (yes false (aeqG [false, false, false, false, false, false] v163 v165) fun v167 =>
 some (v167, h166)) (some (.tup [], h166))) fun v168 h169 =>
 pickB v156 v168 (.bool false) fun v170 =>
 bnd (wantV v170 true (some (.nilp, h169)) (some (.tup [], h169))) fun v171 h172 =>
 bnd (wantV v170 true (callv rec (.func 11 [] []) [v171] h172 fun v173 h174 =>
 some (v173, h174)) (some (.tup [], h172))) fun v175 h176 =>
 bnd (wantV v170 true (yes false (aeqI v175 (.int .u64 (.ofNat 0))) fun v177 =>
 some (v177, h176)) (some (.tup [], h176))) fun v178 h179 =>
 pickB v170 v178 (.bool false) fun v180 =>
 bnd (wantV v180 true (some (.nilp, h179)) (some (.tup [], h179))) fun v181 h182 =>
 bnd (wantV v180 true (callv rec (.func 15 [] []) [v181, (.int .i64 (.ofNat 0))] h182 fun v183 h184 =>
 some (v183, h184)) (some (.tup [], h182))) fun v185 h186 =>
 bnd (wantV v180 true (lenS v185 fun v187 =>
 some (v187, h186)) (some (.tup [], h186))) fun v188 h189 =>
 bnd (wantV v180 true (yes false (aeqI v188 (.int .i64 (.ofNat 0))) fun v190 =>
 some (v190, h189)) (some (.tup [], h189))) fun v191 h192 =>
 pickB v180 v191 (.bool false) fun v193 =>
 bnd (wantV v193 true (some (.nilp, h192)) (some (.tup [], h192))) fun v194 h195 =>
 bnd (wantV v193 true (callv rec (.func 16 [] []) [v194, (.int .i64 (.ofNat 0))] h195 fun v196 h197 =>
 some (v196, h197)) (some (.tup [], h195))) fun v198 h199 =>
 bnd (wantV v193 true (yes false (aeqI v198 (.int .u8 (.ofNat 0))) fun v200 =>
 some (v200, h199)) (some (.tup [], h199))) fun v201 h202 =>
 pickB v193 v201 (.bool false) fun v203 =>
 bnd (wantV v203 true (some (.nilp, h202)) (some (.tup [], h202))) fun v204 h205 =>
 bnd (wantV v203 true (callv rec (.func 17 [] []) [v204, (.int .i64 (.ofNat 0))] h205 fun v206 h207 =>
 some (v206, h207)) (some (.tup [], h205))) fun v208 h209 =>
 bnd (wantV v203 true (lenS v208 fun v210 =>
 some (v210, h209)) (some (.tup [], h209))) fun v211 h212 =>
 bnd (wantV v203 true (yes false (aeqI v211 (.int .i64 (.ofNat 0))) fun v213 =>
 some (v213, h212)) (some (.tup [], h212))) fun v214 h215 =>
 pickB v203 v214 (.bool false) fun v216 =>
 bnd (wantV v216 true (some (v23, h215)) (some (.tup [], h215))) fun v217 h218 =>
 bnd (wantV v216 true (get1 (una .not v217) fun v219 =>
 some (v219, h218)) (some (.tup [], h218))) fun v220 h221 =>
 pickB v216 v220 (.bool false) fun v222 =>
 bnd (wantV v222 true (some (.nilp, h221)) (some (.tup [], h221))) fun v223 h224 =>
 bnd (wantV v222 true (callv rec (.func 18 [] []) [v223, (.int .i64 (.ofNat 0))] h224 fun v225 h226 =>
 some (v225, h226)) (some (.tup [], h224))) fun v227 h228 =>
 bnd (wantV v222 true (yes false (aeqI v227 (.int .i64 (.ofNat 0))) fun v229 =>
 some (v229, h228)) (some (.tup [], h228))) fun v230 h231 =>
 pickB v222 v230 (.bool false) fun v232 =>
 bnd (wantV v232 true (some (.nilp, h231)) (some (.tup [], h231))) fun v233 h234 =>
 bnd (wantV v232 true (callv rec (.func 19 [] []) [v233] h234 fun v235 h236 =>
 some (v235, h236)) (some (.tup [], h234))) fun v237 h238 =>
 bnd (wantV v232 true (yes false (aeqP v237 .nilp) fun v239 =>
 some (v239, h238)) (some (.tup [], h238))) fun v240 h241 =>
 pickB v232 v240 (.bool false) fun v242 =>
 bnd (wantV v242 true (some (.nilp, h241)) (some (.tup [], h241))) fun v243 h244 =>
 bnd (wantV v242 true (callv rec (.func 10 [] []) [v243] h244 fun v245 h246 =>
 some (v245, h246)) (some (.tup [], h244))) fun v247 h248 =>
 bnd (wantV v242 true (yes false (aeqI v247 (.int .u64 (.ofNat 0))) fun v249 =>
 some (v249, h248)) (some (.tup [], h248))) fun v250 h251 =>
 pickB v242 v250 (.bool false) fun v252 =>
 bnd (wantV v252 true (some (.nilp, h251)) (some (.tup [], h251))) fun v253 h254 =>
 bnd (wantV v252 true (callv rec (.func 9 [] []) [v253] h254 fun v255 h256 =>
 some (v255, h256)) (some (.tup [], h254))) fun v257 h258 =>
 bnd (wantV v252 true (yes false (aeqI v257 (.int .i64 (.ofNat 0))) fun v259 =>
 some (v259, h258)) (some (.tup [], h258))) fun v260 h261 =>
 pickB v252 v260 (.bool false) fun v262 =>
 some (v262, h261))
theorem b3 (n : Nat) (rec : Rec) (a0 : AV) (a1 : AV) (a2 : AV) (a3 : AV) (h : Heap) : bodyR Go.Proofs.Tryz.prog (tabs n) rec 3 [a0, a1, a2, a3] h = c3 n rec a0 a1 a2 a3 h := by kernel_rfl
-- (*detent·kernel.Kernel).Do
def c5 (_n : Nat) (rec : Rec) (a0 : AV) (a1 : AV) (h : Heap) : Out :=
 getL (cellsOf a1) fun u1 => mk h u1 fun v2 h3 =>
 yes false (aeqP a0 .nilp) fun v4 =>
 tst v4
 (some (.tup [(.int .u64 (.ofNat 0)), (.int .i64 (.ofNat 6))], h3))
 (ldn 7 h3 v2 fun v5 =>
 callv rec (.func 30 [] []) [v5] h3 fun v6 h7 =>
 yes true (aeqI v6 (.int .i64 (.ofNat 0))) fun v8 =>
 tst v8
 (some (.tup [(.int .u64 (.ofNat 0)), v6], h7))
 (ldn 7 h7 v2 fun v9 =>
 callv rec (.func 31 [] []) [a0, v9] h7 fun v10 h11 =>
 ext v10 0 fun v12 =>
 ext v10 1 fun v13 =>
 fa 0 v2 fun v14 =>
 ld h11 v14 fun v15 =>
 getL (cellsOf v15) fun u16 => bif Nat.beq u16.length 1 then getL (over [(.int .u64 (.ofNat 0)), (.int .i64 (.ofNat 0)), (.int .i64 (.ofNat 0)), (.int .i64 (.ofNat 0)), (.int .u64 (.ofNat 0))] 2 u16) fun u17 => getL (cellsOf v13) fun u18 => bif Nat.beq u18.length 1 then getL (over u17 3 u18) fun u19 => getL (cellsOf v12) fun u20 => bif Nat.beq u20.length 1 then getL (over u19 4 u20) fun u21 => getL (cellsOf (.agg u21)) fun u22 => bif Nat.beq u22.length 5 then getL (over [(.int .u64 (.ofNat 0)), (.int .i64 (.ofNat 0)), (.int .i64 (.ofNat 0)), (.int .i64 (.ofNat 0)), (.int .u64 (.ofNat 0))] 0 u22) fun u23 => mkSlice h11 u23 1 5 (some 1) fun v24 h25 =>
 callv rec (.func 32 [] []) [a0, v24] h25 fun v26 h27 =>
 some (.tup [v12, v13], h27) else none else none else none else none))
theorem b5 (n : Nat) (rec : Rec) (a0 : AV) (a1 : AV) (h : Heap) : bodyR Go.Proofs.Tryz.prog (tabs n) rec 5 [a0, a1] h = c5 n rec a0 a1 h := by kernel_rfl
-- detent·detentlaw29.To
def c6 (_n : Nat) (_rec : Rec) (a0 : AV) (h : Heap) : Out :=
 getL (cellsOf a0) fun u1 => mk h u1 fun v2 h3 =>
 mk h3 [(.int .i64 (.ofNat 0)), (.int .i64 (.ofNat 0)), (.int .i64 (.ofNat 0)), (.int .i64 (.ofNat 0)), (.int .u64 (.ofNat 0)), (.int .u64 (.ofNat 0)), .nils] fun v4 h5 =>
 fa 0 v2 fun v6 =>
 ld h5 v6 fun v7 =>
 fa 1 v2 fun v8 =>
 ld h5 v8 fun v9 =>
 fa 2 v2 fun v10 =>
 ld h5 v10 fun v11 =>
 fa 3 v2 fun v12 =>
 ld h5 v12 fun v13 =>
 fa 4 v2 fun v14 =>
 ld h5 v14 fun v15 =>
 fa 5 v2 fun v16 =>
 ld h5 v16 fun v17 =>
 fa 6 v2 fun v18 =>
 ld h5 v18 fun v19 =>
 getL (cellsOf v7) fun u20 => bif Nat.beq u20.length 1 then getL (over [(.int .i64 (.ofNat 0)), (.int .i64 (.ofNat 0)), (.int .i64 (.ofNat 0)), (.int .i64 (.ofNat 0)), (.int .u64 (.ofNat 0)), (.int .u64 (.ofNat 0)), .nils] 0 u20) fun u21 => getL (cellsOf v9) fun u22 => bif Nat.beq u22.length 1 then getL (over u21 1 u22) fun u23 => getL (cellsOf v11) fun u24 => bif Nat.beq u24.length 1 then getL (over u23 2 u24) fun u25 => getL (cellsOf v13) fun u26 => bif Nat.beq u26.length 1 then getL (over u25 3 u26) fun u27 => getL (cellsOf v15) fun u28 => bif Nat.beq u28.length 1 then getL (over u27 4 u28) fun u29 => getL (cellsOf v17) fun u30 => bif Nat.beq u30.length 1 then getL (over u29 5 u30) fun u31 => getL (cellsOf v19) fun u32 => bif Nat.beq u32.length 1 then getL (over u31 6 u32) fun u33 => stn 7 h5 v4 (.agg u33) fun h34 =>
 ldn 7 h34 v4 fun v35 => some (v35, h34) else none else none else none else none else none else none else none
theorem b6 (n : Nat) (rec : Rec) (a0 : AV) (h : Heap) : bodyR Go.Proofs.Tryz.prog (tabs n) rec 6 [a0] h = c6 n rec a0 h := by kernel_rfl
-- (*detent·kernel.Kernel).Prog
def c7 (_n : Nat) (rec : Rec) (a0 : AV) (a1 : AV) (h : Heap) : Out :=
 mk h [.nils, (.bool false)] fun v1 h2 =>
 yes false (aeqP a0 .nilp) fun v3 =>
 bnd (wantV v3 false (some (a1, h2)) (some (.tup [], h2))) fun v4 h5 =>
 bnd (wantV v3 false (get1 (bin .lss v4 (.int .i64 (.ofNat 0))) fun v6 =>
 some (v6, h5)) (some (.tup [], h5))) fun v7 h8 =>
 pickB v3 (.bool true) v7 fun v9 =>
 bnd (wantV v9 false (some (a1, h8)) (some (.tup [], h8))) fun v10 h11 =>
 bnd (wantV v9 false (get1 (bin .geq v10 (.int .i64 (.ofNat 16))) fun v12 =>
 some (v12, h11)) (some (.tup [], h11))) fun v13 h14 =>
 pickB v9 (.bool true) v13 fun v15 =>
 bnd (wantV v15 false (some (a0, h14)) (some (.tup [], h14))) fun v16 h17 =>
 bnd (wantV v15 false (some (a1, h17)) (some (.tup [], h17))) fun v18 h19 =>
 bnd (wantV v15 false (nil? v16 fun v20 =>
 some (v20, h19)) (some (.tup [], h19))) fun v21 h22 =>
 bnd (wantV v15 false (fa 2 v21 fun v23 =>
 some (v23, h22)) (some (.tup [], h22))) fun v24 h25 =>
 bnd (wantV v15 false (ixA 16 1 v24 v18 fun v26 =>
 some (v26, h25)) (some (.tup [], h25))) fun v27 h28 =>
 bnd (wantV v15 false (ld h28 v27 fun v29 =>
 some (v29, h28)) (some (.tup [], h28))) fun v30 h31 =>
 bnd (wantV v15 false (yes false (aeqP v30 .nilp) fun v32 =>
 some (v32, h31)) (some (.tup [], h31))) fun v33 h34 =>
 pickB v15 (.bool true) v33 fun v35 =>
 tst v35
 (stn 2 h34 v1 (.agg [.nils, (.bool false)]) fun h36 =>
 ldn 2 h36 v1 fun v37 => some (.tup [v37, (.bool false)], h36))
 (nil? a0 fun v38 =>
 fa 2 v38 fun v39 =>
 ixA 16 1 v39 a1 fun v40 =>
 ld h34 v40 fun v41 =>
 nil? v41 fun v42 =>
 ldn 2 h34 v42 fun v43 =>
 mk h34 [.nils, (.bool false)] fun v44 h45 =>
 stn 2 h45 v44 v43 fun h46 =>
 fa 0 v44 fun v47 =>
 ld h46 v47 fun v48 =>
 callv rec (.func 33 [] []) [v48] h46 fun v49 h50 =>
 fa 0 v44 fun v51 =>
 st h50 v51 v49 fun h52 =>
 ldn 2 h52 v44 fun v53 =>
 stn 2 h52 v1 v53 fun h54 =>
 ldn 2 h54 v1 fun v55 => some (.tup [v55, (.bool true)], h54))
theorem b7 (n : Nat) (rec : Rec) (a0 : AV) (a1 : AV) (h : Heap) : bodyR Go.Proofs.Tryz.prog (tabs n) rec 7 [a0, a1] h = c7 n rec a0 a1 h := by kernel_rfl
-- detent·kernel.New
def c8 (_n : Nat) (rec : Rec) (a0 : AV) (a1 : AV) (a2 : AV) (h : Heap) : Out :=
 callv rec (.func 34 [] []) [a0, a2] h fun v1 h2 =>
 ext v1 0 fun v3 =>
 ext v1 1 fun v4 =>
 yes true (aeqI v4 (.int .i64 (.ofNat 0))) fun v5 =>
 tst v5
 (some (.tup [.nilp, v4], h2))
 (callv rec (.func 35 [] []) [a1] h2 fun v6 h7 =>
 ext v6 0 fun v8 =>
 ext v6 1 fun v9 =>
 yes true (aeqI v9 (.int .i64 (.ofNat 0))) fun v10 =>
 tst v10
 (some (.tup [.nilp, v9], h7))
 (callv rec (.func 36 [] []) [a0] h7 fun v11 h12 =>
 ext v11 0 fun v13 =>
 ext v11 1 fun v14 =>
 callv rec (.func 37 [] []) [a2] h12 fun v15 h16 =>
 getL (cellsOf v15) fun u17 => bif Nat.beq u17.length 1 then getL (over [.nilp, .nilp, .nilp, .nilp, .nilp, .nilp, .nilp, .nilp, .nilp, .nilp, .nilp, .nilp, .nilp, .nilp, .nilp, .nilp, .nilp, .nilp, .nilp, .nilm, .nilp, .nils, (.int .i64 (.ofNat 0)), .nilp, .nilp, .nilp, .nilp, .nilp, .nilp, .nilp, .nilp, .nilp, .nilp, .nilp, .nilp, .nilp, .nilp, .nilp, .nilp, .nilp, .nilp, .nilp, .nilp, .nilp, .nilp, .nilp, .nilp, .nilp, .nilp, .nilp, .nilp, .nilp, .nilp, .nilp, .nilp, .nils, (.int .i64 (.ofNat 0))] 0 u17) fun u18 => getL (cellsOf v3) fun u19 => bif Nat.beq u19.length 1 then getL (over u18 1 u19) fun u20 => getL (cellsOf v13) fun u21 => bif Nat.beq u21.length 1 then getL (over u20 18 u21) fun u22 => getL (cellsOf v8) fun u23 => bif Nat.beq u23.length 1 then getL (over u22 20 u23) fun u24 => getL (cellsOf a0) fun u25 => bif Nat.beq u25.length 1 then getL (over u24 56 u25) fun u26 => getL (cellsOf (.agg u26)) fun u27 => mk h16 u27 fun v28 h29 =>
 some (.tup [v28, (.int .i64 (.ofNat 0))], h29) else none else none else none else none else none))
theorem b8 (n : Nat) (rec : Rec) (a0 : AV) (a1 : AV) (a2 : AV) (h : Heap) : bodyR Go.Proofs.Tryz.prog (tabs n) rec 8 [a0, a1, a2] h = c8 n rec a0 a1 a2 h := by kernel_rfl
-- (*detent·kernel.Kernel).CPUs
def c9 (_n : Nat) (_rec : Rec) (a0 : AV) (h : Heap) : Out :=
 yes false (aeqP a0 .nilp) fun v1 =>
 tst v1
 (some ((.int .i64 (.ofNat 0)), h))
 (nil? a0 fun v2 =>
 fa 56 v2 fun v3 =>
 ld h v3 fun v4 =>
 some (v4, h))
theorem b9 (n : Nat) (rec : Rec) (a0 : AV) (h : Heap) : bodyR Go.Proofs.Tryz.prog (tabs n) rec 9 [a0] h = c9 n rec a0 h := by kernel_rfl
-- (*detent·kernel.Kernel).Now
def c10 (_n : Nat) (rec : Rec) (a0 : AV) (h : Heap) : Out :=
 yes false (aeqP a0 .nilp) fun v1 =>
 tst v1
 (some ((.int .u64 (.ofNat 0)), h))
 (nil? a0 fun v2 =>
 fa 0 v2 fun v3 =>
 ld h v3 fun v4 =>
 callv rec (.func 38 [] []) [v4] h fun v5 h6 =>
 some (v5, h6))
theorem b10 (n : Nat) (rec : Rec) (a0 : AV) (h : Heap) : bodyR Go.Proofs.Tryz.prog (tabs n) rec 10 [a0] h = c10 n rec a0 h := by kernel_rfl
-- (*detent·kernel.Kernel).Live
def c11 (_n : Nat) (rec : Rec) (a0 : AV) (h : Heap) : Out :=
 callv rec (.func 40 [] []) [a0, (.func 41 [] [])] h fun v1 h2 =>
 callv rec (.func 39 [] []) [v1] h2 fun v3 h4 =>
 some (v3, h4)
theorem b11 (n : Nat) (rec : Rec) (a0 : AV) (h : Heap) : bodyR Go.Proofs.Tryz.prog (tabs n) rec 11 [a0] h = c11 n rec a0 h := by kernel_rfl
-- detent·detentlaw31.known
def c12 (_n : Nat) (rec : Rec) (h : Heap) : Out :=
 callv rec (.func 8 [] []) [(.int .i64 (.ofNat 1)), (.int .i64 (.ofNat 1)), (.int .u64 (.ofNat 0))] h fun v1 h2 =>
 ext v1 0 fun v3 =>
 ext v1 1 fun v4 =>
 mkSlice h2 [(.int .i64 (.ofNat 11)), (.int .i64 (.ofNat 0)), (.int .i64 (.ofNat 0)), (.int .i64 (.ofNat 0)), (.int .i64 (.ofNat 7)), (.int .i64 (.ofNat 73)), (.int .i64 (.ofNat 0)), (.int .i64 (.ofNat 0)), (.int .i64 (.ofNat 0)), (.int .i64 (.ofNat 0))] 2 5 (some 2) fun v5 h6 =>
 callv rec (.func 42 [] []) [v5] h6 fun v7 h8 =>
 ext v7 0 fun v9 =>
 ext v7 1 fun v10 =>
 yes true (aeqI v4 (.int .i64 (.ofNat 0))) fun v11 =>
 tst v11
 (some ((.bool false), h8))
 (getL (cellsOf v9) fun u12 => bif Nat.beq u12.length 1 then getL (over [(.int .i64 (.ofNat 6)), (.int .i64 (.ofNat 0)), (.int .i64 (.ofNat 0)), (.int .i64 (.ofNat 0)), (.int .u64 (.ofNat 0)), (.int .u64 (.ofNat 0)), .nils] 6 u12) fun u13 => callv rec (.func 5 [] []) [v3, (.agg u13)] h8 fun v14 h15 =>
 callv rec (.func 5 [] []) [v3, (.agg [(.int .i64 (.ofNat 8)), (.int .i64 (.ofNat 0)), (.int .i64 (.ofNat 0)), (.int .i64 (.ofNat 9)), (.int .u64 (.ofNat 0)), (.int .u64 (.ofNat 0)), .nils])] h15 fun v16 h17 =>
 callv rec (.func 15 [] []) [v3, (.int .i64 (.ofNat 0))] h17 fun v18 h19 =>
 lenS v18 fun v20 =>
 callv rec (.func 5 [] []) [v3, (.agg [(.int .i64 (.ofNat 1)), (.int .i64 (.ofNat 0)), (.int .i64 (.ofNat 0)), (.int .i64 (.ofNat 0)), (.int .u64 (.ofNat 0)), (.int .u64 (.ofNat 0)), .nils])] h19 fun v21 h22 =>
 callv rec (.func 15 [] []) [v3, v20] h22 fun v23 h24 =>
 yes false (aeqI v20 (.int .i64 (.ofNat 2))) fun v25 =>
 bnd (wantV v25 true (some (v23, h24)) (some (.tup [], h24))) fun v26 h27 =>
 bnd (wantV v25 true (lenS v26 fun v28 =>
 some (v28, h27)) (some (.tup [], h27))) fun v29 h30 =>
 bnd (wantV v25 true (yes false (aeqI v29 (.int .i64 (.ofNat 3))) fun v31 =>
 some (v31, h30)) (some (.tup [], h30))) fun v32 h33 =>
 pickB v25 v32 (.bool false) fun v34 =>
 bnd (wantV v34 true (some (v23, h33)) (some (.tup [], h33))) fun v35 h36 =>
 bnd (wantV v34 true (ixS 5 v35 (.int .i64 (.ofNat 0)) fun v37 =>
 some (v37, h36)) (some (.tup [], h36))) fun v38 h39 =>
 bnd (wantV v34 true (ldn 5 h39 v38 fun v40 =>
 some (v40, h39)) (some (.tup [], h39))) fun v41 h42 =>
 bnd (wantV v34 true (some ((.agg [(.int .u64 (.ofNat 0)), (.int .i64 (.ofNat 3)), (.int .i64 (.ofNat 0)), (.int .i64 (.ofNat 0)), (.int .u64 (.ofNat 0))]), h42)) (some (.tup [], h42))) fun v43 h44 =>
 bnd (wantV v34 true (yes false (aeqG [false, false, false, false, false] v41 v43) fun v45 =>
 some (v45, h44)) (some (.tup [], h44))) fun v46 h47 =>
 pickB v34 v46 (.bool false) fun v48 =>
 bnd (wantV v48 true (some (v23, h47)) (some (.tup [], h47))) fun v49 h50 =>
 bnd (wantV v48 true (ixS 5 v49 (.int .i64 (.ofNat 1)) fun v51 =>
 some (v51, h50)) (some (.tup [], h50))) fun v52 h53 =>
 bnd (wantV v48 true (ldn 5 h53 v52 fun v54 =>
 some (v54, h53)) (some (.tup [], h53))) fun v55 h56 =>
 bnd (wantV v48 true (some ((.agg [(.int .u64 (.ofNat 0)), (.int .i64 (.ofNat 4)), (.int .i64 (.ofNat 0)), (.int .i64 (.ofNat 0)), (.int .u64 (.ofNat 7))]), h56)) (some (.tup [], h56))) fun v57 h58 =>
 bnd (wantV v48 true (yes false (aeqG [false, false, false, false, false] v55 v57) fun v59 =>
 some (v59, h58)) (some (.tup [], h58))) fun v60 h61 =>
 pickB v48 v60 (.bool false) fun v62 =>
 bnd (wantV v62 true (some (v23, h61)) (some (.tup [], h61))) fun v63 h64 =>
 bnd (wantV v62 true (ixS 5 v63 (.int .i64 (.ofNat 2)) fun v65 =>
 some (v65, h64)) (some (.tup [], h64))) fun v66 h67 =>
 bnd (wantV v62 true (ldn 5 h67 v66 fun v68 =>
 some (v68, h67)) (some (.tup [], h67))) fun v69 h70 =>
 bnd (wantV v62 true (some ((.agg [(.int .u64 (.ofNat 0)), (.int .i64 (.ofNat 0)), (.int .i64 (.ofNat 1)), (.int .i64 (.ofNat 0)), (.int .u64 (.ofNat 0))]), h70)) (some (.tup [], h70))) fun v71 h72 =>
 bnd (wantV v62 true (yes false (aeqG [false, false, false, false, false] v69 v71) fun v73 =>
 some (v73, h72)) (some (.tup [], h72))) fun v74 h75 =>
 pickB v62 v74 (.bool false) fun v76 =>
 some (v76, h75) else none)
theorem b12 (n : Nat) (rec : Rec) (h : Heap) : bodyR Go.Proofs.Tryz.prog (tabs n) rec 12 [] h = c12 n rec h := by kernel_rfl
-- (*detent·kernel.Kernel).Runnable
def c13 (_n : Nat) (rec : Rec) (a0 : AV) (a1 : AV) (h : Heap) : Out :=
 getL (cellsOf a0) fun u1 => mk h u1 fun v2 h3 =>
 getL (cellsOf a1) fun u4 => mk h3 u4 fun v5 h6 =>
 ld h6 v2 fun v7 =>
 yes false (aeqP v7 .nilp) fun v8 =>
 tst v8
 (some (.nils, h6))
 (callv rec (.func 43 [] [v2, v5]) [(.int .i64 (.ofNat 2))] h6 fun v9 h10 =>
 ld h10 v2 fun v11 =>
 callv rec (.func 40 [] []) [v11, (.func 45 [] [v5])] h10 fun v12 h13 =>
 joinPt (fun w15 h16 => un w15 fun v17 l18 => un l18 fun v19 l20 => un l20 fun v21 l22 => un l22 fun v23 l24 => callv rec v21 [(.int .i64 (.ofNat 1))] h16 fun v25 h26 =>
 app 1 8 h26 v23 v25 fun v27 h28 =>
 callv rec v21 [(.int .i64 (.ofNat 3))] h28 fun v29 h30 =>
 app 1 8 h30 v27 v29 fun v31 h32 =>
 joinPt (fun w34 h35 => un w34 fun v36 l37 => some (v36, h35)) fun J33 =>
 bnd (ld h32 v17 fun v38 =>
 some (v38, h32)) fun v39 h40 =>
 bnd (nil? v39 fun v41 =>
 some (v41, h40)) fun v42 h43 =>
 bnd (fa 1 v42 fun v44 =>
 some (v44, h43)) fun v45 h46 =>
 bnd (ld h46 v45 fun v47 =>
 some (v47, h46)) fun v48 h49 =>
 bnd (ld h49 v19 fun v50 =>
 some (v50, h49)) fun v51 h52 =>
 bnd (callv rec (.func 48 [] []) [v48] h52 fun v53 h54 =>
 some (v53, h54)) fun v55 h56 =>
 bif chkS false 1 h56 v19 v51 then bnd (callv rec (.func 49 [] []) [v55, v51] h56 fun v57 h58 =>
 some (v57, h58)) fun v59 h60 =>
 bnd (ext v59 0 fun v61 =>
 some (v61, h60)) fun v62 h63 =>
 bnd (ext v59 1 fun v64 =>
 some (v64, h63)) fun v65 h66 =>
 tst v65
 (mkSlice h66 [(.int .i64 (.negSucc 1))] 1 1 (some 1) fun v67 h68 =>
 app 1 8 h68 v31 v67 fun v69 h70 =>
 J33 [v69] h70)
 (J33 [v31] h66) else none) fun J14 =>
 bnd (ld h13 v2 fun v71 =>
 some (v71, h13)) fun v72 h73 =>
 bnd (nil? v72 fun v74 =>
 some (v74, h73)) fun v75 h76 =>
 bnd (fa 1 v75 fun v77 =>
 some (v77, h76)) fun v78 h79 =>
 bnd (ld h79 v78 fun v80 =>
 some (v80, h79)) fun v81 h82 =>
 bnd (ld h82 v5 fun v83 =>
 some (v83, h82)) fun v84 h85 =>
 bnd (callv rec (.func 46 [] []) [v81] h85 fun v86 h87 =>
 some (v86, h87)) fun v88 h89 =>
 bif chkS false 1 h89 v5 v84 then bnd (callv rec (.func 47 [] []) [v88, v84] h89 fun v90 h91 =>
 some (v90, h91)) fun v92 h93 =>
 bnd (ext v92 0 fun v94 =>
 some (v94, h93)) fun v95 h96 =>
 bnd (ext v92 1 fun v97 =>
 some (v97, h96)) fun v98 h99 =>
 bnd (wantV v98 true (some (v12, h99)) (some (.tup [], h99))) fun v100 h101 =>
 bnd (wantV v98 true (lenS v100 fun v102 =>
 some (v102, h101)) (some (.tup [], h101))) fun v103 h104 =>
 bnd (wantV v98 true (yes false (aeqI v103 (.int .i64 (.ofNat 0))) fun v105 =>
 some (v105, h104)) (some (.tup [], h104))) fun v106 h107 =>
 pickB v98 v106 (.bool false) fun v108 =>
 tst v108
 (mkSlice h107 [(.int .i64 (.negSucc 0))] 1 1 (some 1) fun v109 h110 =>
 app 1 8 h110 v9 v109 fun v111 h112 =>
 J14 [v2, v5, (.func 43 [] [v2, v5]), v111] h112)
 (J14 [v2, v5, (.func 43 [] [v2, v5]), v9] h107) else none)
theorem b13 (n : Nat) (rec : Rec) (a0 : AV) (a1 : AV) (h : Heap) : bodyR Go.Proofs.Tryz.prog (tabs n) rec 13 [a0, a1] h = c13 n rec a0 a1 h := by kernel_rfl
-- (*detent·kernel.Kernel).Ctx
def c14 (_n : Nat) (_rec : Rec) (a0 : AV) (a1 : AV) (h : Heap) : Out :=
 mk h [(.int .i64 (.ofNat 0)), (.int .i64 (.ofNat 0)), (.int .i64 (.ofNat 0)), (.int .i64 (.ofNat 0)), (.int .i64 (.ofNat 0)), (.int .i64 (.ofNat 0))] fun v1 h2 =>
 yes false (aeqP a0 .nilp) fun v3 =>
 bnd (wantV v3 false (some (a1, h2)) (some (.tup [], h2))) fun v4 h5 =>
 bnd (wantV v3 false (get1 (bin .lss v4 (.int .i64 (.ofNat 0))) fun v6 =>
 some (v6, h5)) (some (.tup [], h5))) fun v7 h8 =>
 pickB v3 (.bool true) v7 fun v9 =>
 bnd (wantV v9 false (some (a1, h8)) (some (.tup [], h8))) fun v10 h11 =>
 bnd (wantV v9 false (get1 (bin .geq v10 (.int .i64 (.ofNat 32))) fun v12 =>
 some (v12, h11)) (some (.tup [], h11))) fun v13 h14 =>
 pickB v9 (.bool true) v13 fun v15 =>
 bnd (wantV v15 false (some (a0, h14)) (some (.tup [], h14))) fun v16 h17 =>
 bnd (wantV v15 false (some (a1, h17)) (some (.tup [], h17))) fun v18 h19 =>
 bnd (wantV v15 false (nil? v16 fun v20 =>
 some (v20, h19)) (some (.tup [], h19))) fun v21 h22 =>
 bnd (wantV v15 false (fa 23 v21 fun v23 =>
 some (v23, h22)) (some (.tup [], h22))) fun v24 h25 =>
 bnd (wantV v15 false (ixA 32 1 v24 v18 fun v26 =>
 some (v26, h25)) (some (.tup [], h25))) fun v27 h28 =>
 bnd (wantV v15 false (ld h28 v27 fun v29 =>
 some (v29, h28)) (some (.tup [], h28))) fun v30 h31 =>
 bnd (wantV v15 false (yes false (aeqP v30 .nilp) fun v32 =>
 some (v32, h31)) (some (.tup [], h31))) fun v33 h34 =>
 pickB v15 (.bool true) v33 fun v35 =>
 tst v35
 (stn 6 h34 v1 (.agg [(.int .i64 (.ofNat 0)), (.int .i64 (.ofNat 0)), (.int .i64 (.ofNat 0)), (.int .i64 (.ofNat 0)), (.int .i64 (.ofNat 0)), (.int .i64 (.ofNat 0))]) fun h36 =>
 ldn 6 h36 v1 fun v37 => some (v37, h36))
 (nil? a0 fun v38 =>
 fa 23 v38 fun v39 =>
 ixA 32 1 v39 a1 fun v40 =>
 ld h34 v40 fun v41 =>
 nil? v41 fun v42 =>
 fa 1 v42 fun v43 =>
 ldn 6 h34 v43 fun v44 =>
 stn 6 h34 v1 v44 fun h45 =>
 ldn 6 h45 v1 fun v46 => some (v46, h45))
theorem b14 (n : Nat) (rec : Rec) (a0 : AV) (a1 : AV) (h : Heap) : bodyR Go.Proofs.Tryz.prog (tabs n) rec 14 [a0, a1] h = c14 n rec a0 a1 h := by kernel_rfl
-- (*detent·kernel.Kernel).Events
def c15 (_n : Nat) (rec : Rec) (a0 : AV) (a1 : AV) (h : Heap) : Out :=
 yes false (aeqP a0 .nilp) fun v1 =>
 tst v1
 (some (.nils, h))
 (nil? a0 fun v2 =>
 fa 21 v2 fun v3 =>
 callv rec (.func 50 [] []) [v3, a1] h fun v4 h5 =>
 some (v4, h5))
theorem b15 (n : Nat) (rec : Rec) (a0 : AV) (a1 : AV) (h : Heap) : bodyR Go.Proofs.Tryz.prog (tabs n) rec 15 [a0, a1] h = c15 n rec a0 a1 h := by kernel_rfl
-- (*detent·kernel.Kernel).Byte
def c16 (_n : Nat) (rec : Rec) (a0 : AV) (a1 : AV) (h : Heap) : Out :=
 yes false (aeqP a0 .nilp) fun v1 =>
 tst v1
 (some ((.int .u8 (.ofNat 0)), h))
 (nil? a0 fun v2 =>
 fa 20 v2 fun v3 =>
 ld h v3 fun v4 =>
 callv rec (.func 51 [] []) [v4, a1, (.int .i64 (.ofNat 1))] h fun v5 h6 =>
 ext v5 0 fun v7 =>
 ext v5 1 fun v8 =>
 yes true (aeqI v8 (.int .i64 (.ofNat 0))) fun v9 =>
 tst v9
 (some ((.int .u8 (.ofNat 0)), h6))
 (ixS 1 v7 (.int .i64 (.ofNat 0)) fun v10 =>
 ld h6 v10 fun v11 =>
 some (v11, h6)))
theorem b16 (n : Nat) (rec : Rec) (a0 : AV) (a1 : AV) (h : Heap) : bodyR Go.Proofs.Tryz.prog (tabs n) rec 16 [a0, a1] h = c16 n rec a0 a1 h := by kernel_rfl
-- (*detent·kernel.Kernel).Waits
def c17 (_n : Nat) (rec : Rec) (a0 : AV) (a1 : AV) (h : Heap) : Out :=
 yes false (aeqP a0 .nilp) fun v1 =>
 tst v1
 (some (.nils, h))
 (nil? a0 fun v2 =>
 fa 19 v2 fun v3 =>
 callv rec (.func 52 [] []) [v3, a1] h fun v4 h5 =>
 some (v4, h5))
theorem b17 (n : Nat) (rec : Rec) (a0 : AV) (a1 : AV) (h : Heap) : bodyR Go.Proofs.Tryz.prog (tabs n) rec 17 [a0, a1] h = c17 n rec a0 a1 h := by kernel_rfl
-- (*detent·kernel.Kernel).Missed
def c18 (_n : Nat) (rec : Rec) (a0 : AV) (a1 : AV) (h : Heap) : Out :=
 yes false (aeqP a0 .nilp) fun v1 =>
 tst v1
 (some ((.int .i64 (.ofNat 0)), h))
 (nil? a0 fun v2 =>
 fa 18 v2 fun v3 =>
 ld h v3 fun v4 =>
 callv rec (.func 53 [] []) [v4, a1] h fun v5 h6 =>
 some (v5, h6))
theorem b18 (n : Nat) (rec : Rec) (a0 : AV) (a1 : AV) (h : Heap) : bodyR Go.Proofs.Tryz.prog (tabs n) rec 18 [a0, a1] h = c18 n rec a0 a1 h := by kernel_rfl
-- (*detent·kernel.Kernel).Life
def c19 (_n : Nat) (_rec : Rec) (a0 : AV) (h : Heap) : Out :=
 yes false (aeqP a0 .nilp) fun v1 =>
 tst v1
 (some (.nilp, h))
 (nil? a0 fun v2 =>
 fa 1 v2 fun v3 =>
 ld h v3 fun v4 =>
 some (v4, h))
theorem b19 (n : Nat) (rec : Rec) (a0 : AV) (h : Heap) : bodyR Go.Proofs.Tryz.prog (tabs n) rec 19 [a0] h = c19 n rec a0 h := by kernel_rfl
-- detent·script.Check
def c30 (n : Nat) (rec : Rec) (a0 : AV) (h : Heap) : Out :=
 getL (cellsOf a0) fun u1 => mk h u1 fun v2 h3 =>
 fa 0 v2 fun v4 =>
 ld h3 v4 fun v5 =>
 callv rec (.func 64 [] []) [v5] h3 fun v6 h7 =>
 get1 (una .not v6) fun v8 =>
 tst v8
 (some ((.int .i64 (.ofNat 11)), h7))
 (fa 0 v2 fun v9 =>
 ld h7 v9 fun v10 =>
 callv rec (.func 65 [] []) [v10] h7 fun v11 h12 =>
 ext v11 0 fun v13 =>
 ext v11 1 fun v14 =>
 mk h12 [(.int .i64 (.ofNat 0)), (.int .i64 (.ofNat 0)), (.int .i64 (.ofNat 0)), (.int .i64 (.ofNat 0)), (.int .i64 (.ofNat 0))] fun v15 h16 =>
 mk h16 [(.int .i64 (.ofNat 0)), (.int .i64 (.ofNat 0)), (.int .i64 (.ofNat 0)), (.int .i64 (.ofNat 0)), (.int .i64 (.ofNat 0)), (.int .i64 (.ofNat 0))] fun v17 h18 =>
 stn 5 h18 v15 v13 fun h19 =>
 stn 6 h19 v17 v14 fun h20 =>
 ldn 7 h20 v2 fun v21 =>
 callv rec (.func 66 [] []) [v21] h20 fun v22 h23 =>
 iter n (fun nx24 w25 h26 => un w25 fun v27 l28 => un l28 fun v29 l30 => un l30 fun v31 l32 => un l32 fun v33 l34 => un l34 fun v35 l36 => un l36 fun v37 l38 => un l38 fun v39 l40 => un l40 fun v41 l42 => un l42 fun v43 l44 => un l44 fun v45 l46 => un l46 fun v47 l48 => un l48 fun v49 l50 => un l50 fun v51 l52 => un l52 fun v53 l54 => un l54 fun v55 l56 => un l56 fun v57 l58 => un l58 fun v59 l60 => un l60 fun v61 l62 => un l62 fun v63 l64 => get1 (bin .lss v35 (.int .i64 (.ofNat 5))) fun v65 =>
 tst v65
 (ixG false 5 1 v33 v35 fun v66 =>
 ixA 5 1 v29 v35 fun v67 =>
 ld h26 v67 fun v68 =>
 yes false (aeqI v68 (.int .i64 (.ofNat 0))) fun v69 =>
 bnd (wantV v69 true (some (v66, h26)) (some (.tup [], h26))) fun v70 h71 =>
 bnd (wantV v69 true (yes true (aeqI v70 (.int .u64 (.ofNat 0))) fun v72 =>
 some (v72, h71)) (some (.tup [], h71))) fun v73 h74 =>
 pickB v69 v73 (.bool false) fun v75 =>
 tst v75
 (some ((.int .i64 (.ofNat 9)), h74))
 (get1 (bin .add v35 (.int .i64 (.ofNat 1))) fun v76 =>
 nx24 [v27, v29, v31, v33, v76, v70, v73, v41, v43, v45, v47, v49, v51, v53, v55, v57, v59, v61, v63] h74))
 (fa 6 v27 fun v77 =>
 ld h26 v77 fun v78 =>
 lenS v78 fun v79 =>
 get1 (bin .gtr v79 (.int .i64 (.ofNat 0))) fun v80 =>
 bnd (wantV v80 true (fa 0 v27 fun v81 =>
 some (v81, h26)) (some (.tup [], h26))) fun v82 h83 =>
 bnd (wantV v80 true (ld h83 v82 fun v84 =>
 some (v84, h83)) (some (.tup [], h83))) fun v85 h86 =>
 bnd (wantV v80 true (yes true (aeqI v85 (.int .i64 (.ofNat 5))) fun v87 =>
 some (v87, h86)) (some (.tup [], h86))) fun v88 h89 =>
 pickB v80 v88 (.bool false) fun v90 =>
 bnd (wantV v90 true (fa 0 v27 fun v91 =>
 some (v91, h89)) (some (.tup [], h89))) fun v92 h93 =>
 bnd (wantV v90 true (ld h93 v92 fun v94 =>
 some (v94, h93)) (some (.tup [], h93))) fun v95 h96 =>
 bnd (wantV v90 true (yes true (aeqI v95 (.int .i64 (.ofNat 6))) fun v97 =>
 some (v97, h96)) (some (.tup [], h96))) fun v98 h99 =>
 pickB v90 v98 (.bool false) fun v100 =>
 tst v100
 (some ((.int .i64 (.ofNat 9)), h99))
 (fa 1 v27 fun v101 =>
 ld h99 v101 fun v102 =>
 fa 2 v27 fun v103 =>
 ld h99 v103 fun v104 =>
 fa 3 v27 fun v105 =>
 ld h99 v105 fun v106 =>
 getL (cellsOf v102) fun u107 => bif Nat.beq u107.length 1 then getL (over [(.int .i64 (.ofNat 0)), (.int .i64 (.ofNat 0)), (.int .i64 (.ofNat 0))] 0 u107) fun u108 => getL (cellsOf v104) fun u109 => bif Nat.beq u109.length 1 then getL (over u108 1 u109) fun u110 => getL (cellsOf v106) fun u111 => bif Nat.beq u111.length 1 then getL (over u110 2 u111) fun u112 => iter n (fun nx113 w114 h115 => un w114 fun v116 l117 => un l117 fun v118 l119 => un l119 fun v120 l121 => un l121 fun v122 l123 => un l123 fun v124 l125 => un l125 fun v126 l127 => un l127 fun v128 l129 => un l129 fun v130 l131 => un l131 fun v132 l133 => un l133 fun v134 l135 => get1 (bin .lss v122 (.int .i64 (.ofNat 3))) fun v136 =>
 tst v136
 (ixG false 3 1 v120 v122 fun v137 =>
 ixA 3 2 v118 v122 fun v138 =>
 fa 0 v138 fun v139 =>
 ld h115 v139 fun v140 =>
 get1 (bin .lss v137 v140) fun v141 =>
 bnd (wantV v141 false (some (v137, h115)) (some (.tup [], h115))) fun v142 h143 =>
 bnd (wantV v141 false (some (v122, h143)) (some (.tup [], h143))) fun v144 h145 =>
 bnd (wantV v141 false (ixA 3 2 v118 v144 fun v146 =>
 some (v146, h145)) (some (.tup [], h145))) fun v147 h148 =>
 bnd (wantV v141 false (fa 1 v147 fun v149 =>
 some (v149, h148)) (some (.tup [], h148))) fun v150 h151 =>
 bnd (wantV v141 false (ld h151 v150 fun v152 =>
 some (v152, h151)) (some (.tup [], h151))) fun v153 h154 =>
 bnd (wantV v141 false (get1 (bin .gtr v142 v153) fun v155 =>
 some (v155, h154)) (some (.tup [], h154))) fun v156 h157 =>
 pickB v141 (.bool true) v156 fun v158 =>
 tst v158
 (some ((.int .i64 (.ofNat 2)), h157))
 (get1 (bin .add v122 (.int .i64 (.ofNat 1))) fun v159 =>
 nx113 [v116, v118, v120, v159, v142, v144, v147, v150, v153, v156] h157))
 (fa 0 v116 fun v160 =>
 ld h115 v160 fun v161 =>
 fa 6 v116 fun v162 =>
 ld h115 v162 fun v163 =>
 lenS v163 fun v164 =>
 callv rec (.func 67 [] []) [v161, v164] h115 fun v165 h166 =>
 get1 (una .not v165) fun v167 =>
 tst v167
 (some ((.int .i64 (.ofNat 8)), h166))
 (some ((.int .i64 (.ofNat 0)), h166)))) [v27, v31, (.agg u112), (.int .i64 (.ofNat 0)), v53, v55, v57, v59, v61, v63] h99 else none else none else none))) [v2, v15, v17, v22, (.int .i64 (.ofNat 0)), .bot, .bot, .bot, .bot, .bot, .bot, .bot, .bot, .bot, .bot, .bot, .bot, .bot, .bot] h23)
theorem b30 (n : Nat) (rec : Rec) (a0 : AV) (h : Heap) : bodyR Go.Proofs.Tryz.prog (tabs n) rec 30 [a0] h = c30 n rec a0 h := by kernel_rfl
end Go.Ai
/-
  WHAT FUNCTIONS COME TO, part 1: each one's body, types, slots and orders reckoned out, and that it is so.
-/
namespace Go.Ai
open Go
set_option maxRecDepth 100000
-- (*detent·kernel.Kernel).step
def c31 (_n : Nat) (rec : Rec) (a0 : AV) (a1 : AV) (h : Heap) : Out :=
 getL (cellsOf a1) fun u1 => mk h u1 fun v2 h3 =>
 nil? a0 fun v4 =>
 fa 1 v4 fun v5 =>
 ld h3 v5 fun v6 =>
 callv rec (.func 68 [] []) [v6] h3 fun v7 h8 =>
 fa 0 v2 fun v9 =>
 ld h8 v9 fun v10 =>
 yes false (aeqI v10 (.int .i64 (.ofNat 0))) fun v11 =>
 tst v11
 (fa 1 v2 fun v12 =>
 ld h8 v12 fun v13 =>
 callv rec (.func 69 [] []) [a0, v13] h8 fun v14 h15 =>
 some (.tup [v14, (.int .i64 (.ofNat 0))], h15))
 (yes false (aeqI v10 (.int .i64 (.ofNat 1))) fun v16 =>
 tst v16
 (fa 1 v2 fun v17 =>
 ld h8 v17 fun v18 =>
 fa 2 v2 fun v19 =>
 ld h8 v19 fun v20 =>
 callv rec (.func 70 [] []) [a0, v18, v20] h8 fun v21 h22 =>
 ext v21 0 fun v23 =>
 ext v21 1 fun v24 =>
 some (.tup [v23, v24], h22))
 (yes false (aeqI v10 (.int .i64 (.ofNat 2))) fun v25 =>
 tst v25
 (bnd (fa 1 v2 fun v26 =>
 some (v26, h8)) fun v27 h28 =>
 bnd (ld h28 v27 fun v29 =>
 some (v29, h28)) fun v30 h31 =>
 bnd (nil? a0 fun v32 =>
 some (v32, h31)) fun v33 h34 =>
 bnd (fa 20 v33 fun v35 =>
 some (v35, h34)) fun v36 h37 =>
 bnd (ld h37 v36 fun v38 =>
 some (v38, h37)) fun v39 h40 =>
 bnd (fa 1 v2 fun v41 =>
 some (v41, h40)) fun v42 h43 =>
 bnd (ld h43 v42 fun v44 =>
 some (v44, h43)) fun v45 h46 =>
 bnd (callv rec (.func 72 [] []) [v39, v45] h46 fun v47 h48 =>
 some (v47, h48)) fun v49 h50 =>
 bif chkS false 1 h50 v27 v30 then bnd (callv rec (.func 71 [] []) [a0, v30, v49] h50 fun v51 h52 =>
 some (v51, h52)) fun v53 h54 =>
 some (.tup [(.int .u64 (.ofNat 0)), v53], h54) else none)
 (yes false (aeqI v10 (.int .i64 (.ofNat 3))) fun v55 =>
 tst v55
 (bnd (fa 1 v2 fun v56 =>
 some (v56, h8)) fun v57 h58 =>
 bnd (ld h58 v57 fun v59 =>
 some (v59, h58)) fun v60 h61 =>
 bnd (nil? a0 fun v62 =>
 some (v62, h61)) fun v63 h64 =>
 bnd (fa 20 v63 fun v65 =>
 some (v65, h64)) fun v66 h67 =>
 bnd (ld h67 v66 fun v68 =>
 some (v68, h67)) fun v69 h70 =>
 bnd (fa 1 v2 fun v71 =>
 some (v71, h70)) fun v72 h73 =>
 bnd (ld h73 v72 fun v74 =>
 some (v74, h73)) fun v75 h76 =>
 bnd (callv rec (.func 73 [] []) [v69, v75] h76 fun v77 h78 =>
 some (v77, h78)) fun v79 h80 =>
 bif chkS false 1 h80 v57 v60 then bnd (callv rec (.func 71 [] []) [a0, v60, v79] h80 fun v81 h82 =>
 some (v81, h82)) fun v83 h84 =>
 some (.tup [(.int .u64 (.ofNat 0)), v83], h84) else none)
 (yes false (aeqI v10 (.int .i64 (.ofNat 4))) fun v85 =>
 tst v85
 (bnd (nil? a0 fun v86 =>
 some (v86, h8)) fun v87 h88 =>
 bnd (fa 20 v87 fun v89 =>
 some (v89, h88)) fun v90 h91 =>
 bnd (ld h91 v90 fun v92 =>
 some (v92, h91)) fun v93 h94 =>
 bnd (fa 1 v2 fun v95 =>
 some (v95, h94)) fun v96 h97 =>
 bnd (ld h97 v96 fun v98 =>
 some (v98, h97)) fun v99 h100 =>
 bnd (callv rec (.func 74 [] []) [v93, v99] h100 fun v101 h102 =>
 some (v101, h102)) fun v103 h104 =>
 some (.tup [(.int .u64 (.ofNat 0)), v103], h104))
 (yes false (aeqI v10 (.int .i64 (.ofNat 5))) fun v105 =>
 tst v105
 (bnd (nil? a0 fun v106 =>
 some (v106, h8)) fun v107 h108 =>
 bnd (fa 20 v107 fun v109 =>
 some (v109, h108)) fun v110 h111 =>
 bnd (ld h111 v110 fun v112 =>
 some (v112, h111)) fun v113 h114 =>
 bnd (fa 1 v2 fun v115 =>
 some (v115, h114)) fun v116 h117 =>
 bnd (ld h117 v116 fun v118 =>
 some (v118, h117)) fun v119 h120 =>
 bnd (fa 6 v2 fun v121 =>
 some (v121, h120)) fun v122 h123 =>
 bnd (ld h123 v122 fun v124 =>
 some (v124, h123)) fun v125 h126 =>
 bnd (callv rec (.func 75 [] []) [v113, v119, v125] h126 fun v127 h128 =>
 some (v127, h128)) fun v129 h130 =>
 some (.tup [(.int .u64 (.ofNat 0)), v129], h130))
 (yes false (aeqI v10 (.int .i64 (.ofNat 6))) fun v131 =>
 tst v131
 (fa 1 v2 fun v132 =>
 ld h8 v132 fun v133 =>
 yes false (aeqI v133 (.int .i64 (.ofNat 1))) fun v134 =>
 fa 6 v2 fun v135 =>
 ld h8 v135 fun v136 =>
 callv rec (.func 76 [] []) [a0, v134, v136] h8 fun v137 h138 =>
 ext v137 0 fun v139 =>
 ext v137 1 fun v140 =>
 some (.tup [v139, v140], h138))
 (yes false (aeqI v10 (.int .i64 (.ofNat 17))) fun v141 =>
 tst v141
 (fa 1 v2 fun v142 =>
 ld h8 v142 fun v143 =>
 callv rec (.func 77 [] []) [a0, v143] h8 fun v144 h145 =>
 some (.tup [(.int .u64 (.ofNat 0)), v144], h145))
 (yes false (aeqI v10 (.int .i64 (.ofNat 8))) fun v146 =>
 tst v146
 (fa 1 v2 fun v147 =>
 ld h8 v147 fun v148 =>
 fa 2 v2 fun v149 =>
 ld h8 v149 fun v150 =>
 fa 3 v2 fun v151 =>
 ld h8 v151 fun v152 =>
 fa 4 v2 fun v153 =>
 ld h8 v153 fun v154 =>
 callv rec (.func 78 [] []) [a0, v148, v150, v152, v154] h8 fun v155 h156 =>
 ext v155 0 fun v157 =>
 ext v155 1 fun v158 =>
 some (.tup [v157, v158], h156))
 (yes false (aeqI v10 (.int .i64 (.ofNat 13))) fun v159 =>
 tst v159
 (fa 1 v2 fun v160 =>
 ld h8 v160 fun v161 =>
 get1 (bin .add (.int .i64 (.ofNat 32)) v161) fun v162 =>
 getL (cellsOf v162) fun u163 => bif Nat.beq u163.length 1 then getL (over [(.int .i64 (.ofNat 0))] 0 u163) fun u164 => mkSlice h8 u164 1 1 (some 1) fun v165 h166 =>
 callv rec (.func 79 [] []) [v7, v165] h166 fun v167 h168 =>
 some (.tup [(.int .u64 (.ofNat 0)), v167], h168) else none)
 (yes false (aeqI v10 (.int .i64 (.ofNat 14))) fun v169 =>
 tst v169
 (fa 1 v2 fun v170 =>
 ld h8 v170 fun v171 =>
 get1 (bin .add (.int .i64 (.ofNat 32)) v171) fun v172 =>
 callv rec (.func 80 [] []) [v7, v172] h8 fun v173 h174 =>
 ext v173 0 fun v175 =>
 ext v173 1 fun v176 =>
 some (.tup [(.int .u64 (.ofNat 0)), v176], h174))
 (yes false (aeqI v10 (.int .i64 (.ofNat 15))) fun v177 =>
 tst v177
 (callv rec (.func 81 [] []) [a0, (.int .i64 (.ofNat 0)), (.func 82 [v7] [])] h8 fun v178 h179 =>
 ext v178 0 fun v180 =>
 ext v178 1 fun v181 =>
 some (.tup [v180, v181], h179))
 (yes false (aeqI v10 (.int .i64 (.ofNat 16))) fun v182 =>
 tst v182
 (callv rec (.func 81 [] []) [a0, (.int .i64 (.ofNat 1)), (.func 83 [v7] [])] h8 fun v183 h184 =>
 ext v183 0 fun v185 =>
 ext v183 1 fun v186 =>
 some (.tup [v185, v186], h184))
 (ldn 7 h8 v2 fun v187 =>
 callv rec (.func 84 [] []) [a0, v187] h8 fun v188 h189 =>
 ext v188 0 fun v190 =>
 ext v188 1 fun v191 =>
 some (.tup [v190, v191], h189))))))))))))))
theorem b31 (n : Nat) (rec : Rec) (a0 : AV) (a1 : AV) (h : Heap) : bodyR Go.Proofs.Tryz.prog (tabs n) rec 31 [a0, a1] h = c31 n rec a0 a1 h := by kernel_rfl
-- (*detent·kernel.Kernel).put
def c32 (n : Nat) (rec : Rec) (a0 : AV) (a1 : AV) (h : Heap) : Out :=
 lenS a1 fun v1 =>
 iter n (fun nx2 w3 h4 => un w3 fun v5 l6 => un l6 fun v7 l8 => un l8 fun v9 l10 => un l10 fun v11 l12 => get1 (bin .lss v11 v9) fun v13 =>
 tst v13
 (ixS 5 v7 v11 fun v14 =>
 ldn 5 h4 v14 fun v15 =>
 mk h4 [(.int .u64 (.ofNat 0)), (.int .i64 (.ofNat 0)), (.int .i64 (.ofNat 0)), (.int .i64 (.ofNat 0)), (.int .u64 (.ofNat 0))] fun v16 h17 =>
 stn 5 h17 v16 v15 fun h18 =>
 nil? v5 fun v19 =>
 fa 0 v19 fun v20 =>
 ld h18 v20 fun v21 =>
 callv rec (.func 38 [] []) [v21] h18 fun v22 h23 =>
 fa 0 v16 fun v24 =>
 st h23 v24 v22 fun h25 =>
 bnd (nil? v5 fun v26 =>
 some (v26, h25)) fun v27 h28 =>
 bnd (fa 21 v27 fun v29 =>
 some (v29, h28)) fun v30 h31 =>
 bnd (ldn 5 h31 v16 fun v32 =>
 some (v32, h31)) fun v33 h34 =>
 bnd (getL (cellsOf v33) fun u35 => bif Nat.beq u35.length 5 then getL (over [(.int .u64 (.ofNat 0)), (.int .i64 (.ofNat 0)), (.int .i64 (.ofNat 0)), (.int .i64 (.ofNat 0)), (.int .u64 (.ofNat 0))] 0 u35) fun u36 => mkSlice h34 u36 1 5 (some 1) fun v37 h38 =>
 some (v37, h38) else none) fun v39 h40 =>
 bnd (callv rec (.func 85 [] []) [v30, v39] h40 fun v41 h42 =>
 some (v41, h42)) fun v43 h44 =>
 get1 (bin .add v11 (.int .i64 (.ofNat 1))) fun v45 =>
 nx2 [v5, v7, v9, v45] h44)
 (some (.tup [], h4))) [a0, a1, v1, (.int .i64 (.ofNat 0))] h
theorem b32 (n : Nat) (rec : Rec) (a0 : AV) (a1 : AV) (h : Heap) : bodyR Go.Proofs.Tryz.prog (tabs n) rec 32 [a0, a1] h = c32 n rec a0 a1 h := by kernel_rfl
-- slices.Clone[[]detent·isa.Ins,detent·isa.Ins]
def c33 (_n : Nat) (_rec : Rec) (a0 : AV) (h : Heap) : Out :=
 yes false (aeqS a0 .nils) fun v1 =>
 tst v1
 (some (.nils, h))
 (mkSlice h [] 0 5 (some 0) fun v2 h3 =>
 app 5 40 h3 v2 a0 fun v4 h5 =>
 some (v4, h5))
theorem b33 (n : Nat) (rec : Rec) (a0 : AV) (h : Heap) : bodyR Go.Proofs.Tryz.prog (tabs n) rec 33 [a0] h = c33 n rec a0 h := by kernel_rfl
-- detent·life.New
def c34 (_n : Nat) (rec : Rec) (a0 : AV) (a1 : AV) (h : Heap) : Out :=
 callv rec (.func 86 [] []) [a0, a1] h fun v1 h2 =>
 ext v1 0 fun v3 =>
 ext v1 1 fun v4 =>
 yes true (aeqI v4 (.int .i64 (.ofNat 0))) fun v5 =>
 tst v5
 (some (.tup [.nilp, v4], h2))
 (newMap h2 fun v6 h7 =>
 getL (cellsOf a0) fun u8 => bif Nat.beq u8.length 1 then getL (over [(.int .i64 (.ofNat 0)), .nilp, (.bool false), .nilp, (.bool false), .nilp, (.bool false), .nilp, (.bool false), .nilp, .nilp, .nilp, .nilp, .nilp, .nilm] 0 u8) fun u9 => getL (cellsOf v3) fun u10 => bif Nat.beq u10.length 1 then getL (over u9 9 u10) fun u11 => getL (cellsOf v6) fun u12 => bif Nat.beq u12.length 1 then getL (over u11 14 u12) fun u13 => getL (cellsOf (.agg u13)) fun u14 => mk h7 u14 fun v15 h16 =>
 callv rec (.func 87 [] []) [a0] h16 fun v17 h18 =>
 ext v17 0 fun v19 =>
 ext v17 1 fun v20 =>
 nil? v15 fun v21 =>
 fa 10 v21 fun v22 =>
 st h18 v22 v19 fun h23 =>
 callv rec (.func 88 [] []) [a0] h23 fun v24 h25 =>
 ext v24 0 fun v26 =>
 ext v24 1 fun v27 =>
 nil? v15 fun v28 =>
 fa 11 v28 fun v29 =>
 st h25 v29 v26 fun h30 =>
 callv rec (.func 88 [] []) [a0] h30 fun v31 h32 =>
 ext v31 0 fun v33 =>
 ext v31 1 fun v34 =>
 nil? v15 fun v35 =>
 fa 12 v35 fun v36 =>
 st h32 v36 v33 fun h37 =>
 callv rec (.func 89 [] []) [(.int .i64 (.ofNat 8))] h37 fun v38 h39 =>
 ext v38 0 fun v40 =>
 ext v38 1 fun v41 =>
 nil? v15 fun v42 =>
 fa 13 v42 fun v43 =>
 st h39 v43 v40 fun h44 =>
 some (.tup [v15, (.int .i64 (.ofNat 0))], h44) else none else none else none)
theorem b34 (n : Nat) (rec : Rec) (a0 : AV) (a1 : AV) (h : Heap) : bodyR Go.Proofs.Tryz.prog (tabs n) rec 34 [a0, a1] h = c34 n rec a0 a1 h := by kernel_rfl
-- detent·user.New
def c35 (_n : Nat) (_rec : Rec) (a0 : AV) (h : Heap) : Out :=
 get1 (bin .lss a0 (.int .i64 (.ofNat 1))) fun v1 =>
 bnd (wantV v1 false (some (a0, h)) (some (.tup [], h))) fun v2 h3 =>
 bnd (wantV v1 false (get1 (bin .gtr v2 (.int .i64 (.ofNat 16))) fun v4 =>
 some (v4, h3)) (some (.tup [], h3))) fun v5 h6 =>
 pickB v1 (.bool true) v5 fun v7 =>
 tst v7
 (some (.tup [.nilp, (.int .i64 (.ofNat 2))], h6))
 (get1 (bin .mul a0 (.int .i64 (.ofNat 16))) fun v8 =>
 mks [(.int .u8 (.ofNat 0))] 1 1 h6 v8 v8 fun v9 h10 =>
 getL (cellsOf v9) fun u11 => bif Nat.beq u11.length 1 then getL (over [.nils, (.int .i64 (.ofNat 0)), (.int .i64 (.ofNat 0)), (.int .i64 (.ofNat 0)), (.int .i64 (.ofNat 0)), (.int .i64 (.ofNat 0)), (.int .i64 (.ofNat 0)), (.int .i64 (.ofNat 0)), (.int .i64 (.ofNat 0)), (.int .i64 (.ofNat 0)), (.int .i64 (.ofNat 0)), (.int .i64 (.ofNat 0)), (.int .i64 (.ofNat 0)), (.int .i64 (.ofNat 0)), (.int .i64 (.ofNat 0)), (.int .i64 (.ofNat 0)), (.int .i64 (.ofNat 0))] 0 u11) fun u12 => getL (cellsOf (.agg u12)) fun u13 => mk h10 u13 fun v14 h15 =>
 some (.tup [v14, (.int .i64 (.ofNat 0))], h15) else none)
theorem b35 (n : Nat) (rec : Rec) (a0 : AV) (h : Heap) : bodyR Go.Proofs.Tryz.prog (tabs n) rec 35 [a0] h = c35 n rec a0 h := by kernel_rfl
-- detent·guard.New
def c36 (_n : Nat) (_rec : Rec) (a0 : AV) (h : Heap) : Out :=
 get1 (bin .lss a0 (.int .i64 (.ofNat 1))) fun v1 =>
 bnd (wantV v1 false (some (a0, h)) (some (.tup [], h))) fun v2 h3 =>
 bnd (wantV v1 false (get1 (bin .gtr v2 (.int .i64 (.ofNat 64))) fun v4 =>
 some (v4, h3)) (some (.tup [], h3))) fun v5 h6 =>
 pickB v1 (.bool true) v5 fun v7 =>
 tst v7
 (some (.tup [.nilp, (.int .i64 (.ofNat 2))], h6))
 (mks [(.int .u64 (.ofNat 0))] 1 8 h6 a0 a0 fun v8 h9 =>
 getL (cellsOf v8) fun u10 => bif Nat.beq u10.length 1 then getL (over [.nils, (.int .i64 (.ofNat 0)), (.int .i64 (.ofNat 0)), (.int .i64 (.ofNat 0)), (.int .i64 (.ofNat 0)), (.int .i64 (.ofNat 0)), (.int .i64 (.ofNat 0)), (.int .i64 (.ofNat 0)), (.int .i64 (.ofNat 0)), (.int .i64 (.ofNat 0)), (.int .i64 (.ofNat 0)), (.int .i64 (.ofNat 0)), (.int .i64 (.ofNat 0)), (.int .i64 (.ofNat 0)), (.int .i64 (.ofNat 0)), (.int .i64 (.ofNat 0)), (.int .i64 (.ofNat 0))] 0 u10) fun u11 => getL (cellsOf (.agg u11)) fun u12 => mk h9 u12 fun v13 h14 =>
 some (.tup [v13, (.int .i64 (.ofNat 0))], h14) else none)
theorem b36 (n : Nat) (rec : Rec) (a0 : AV) (h : Heap) : bodyR Go.Proofs.Tryz.prog (tabs n) rec 36 [a0] h = c36 n rec a0 h := by kernel_rfl
-- detent·clock.At
def c37 (_n : Nat) (_rec : Rec) (a0 : AV) (h : Heap) : Out :=
 getL (cellsOf a0) fun u1 => bif Nat.beq u1.length 1 then getL (over [(.int .u64 (.ofNat 0))] 0 u1) fun u2 => getL (cellsOf (.agg u2)) fun u3 => mk h u3 fun v4 h5 =>
 some (v4, h5) else none
theorem b37 (n : Nat) (rec : Rec) (a0 : AV) (h : Heap) : bodyR Go.Proofs.Tryz.prog (tabs n) rec 37 [a0] h = c37 n rec a0 h := by kernel_rfl
-- (*detent·clock.Clock).Now
def c38 (_n : Nat) (_rec : Rec) (a0 : AV) (h : Heap) : Out :=
 yes false (aeqP a0 .nilp) fun v1 =>
 tst v1
 (some ((.int .u64 (.ofNat 0)), h))
 (nil? a0 fun v2 =>
 fa 0 v2 fun v3 =>
 ld h v3 fun v4 =>
 some (v4, h))
theorem b38 (n : Nat) (rec : Rec) (a0 : AV) (h : Heap) : bodyR Go.Proofs.Tryz.prog (tabs n) rec 38 [a0] h = c38 n rec a0 h := by kernel_rfl
-- detent·mask.Of
def c39 (_n : Nat) (rec : Rec) (a0 : AV) (h : Heap) : Out :=
 callv rec (.func 90 [] []) [(.int .u64 (.ofNat 0)), a0] h fun v1 h2 =>
 some (v1, h2)
theorem b39 (n : Nat) (rec : Rec) (a0 : AV) (h : Heap) : bodyR Go.Proofs.Tryz.prog (tabs n) rec 39 [a0] h = c39 n rec a0 h := by kernel_rfl
-- (*detent·kernel.Kernel).list
def c40 (_n : Nat) (rec : Rec) (a0 : AV) (a1 : AV) (h : Heap) : Out :=
 mk h [.nils] fun v1 h2 =>
 callv rec (.func 91 [] []) [a0, a1] h2 fun v3 h4 =>
 callf rec v3 [.yield h4.next] (h4.push (.loop 40004 [v1] 0 .normal)) fun v6 h5 => loopAt h5 h4.next 40004 fun w7 v8 p9 => bif Nat.beq v8 1 then none else leaveP p9 (ld (h5.set h4.next (.loop 40004 w7 3 p9)) v1 fun v11 =>
 some (v11, (h5.set h4.next (.loop 40004 w7 3 p9)))) none fun i10 => none
theorem b40 (n : Nat) (rec : Rec) (a0 : AV) (a1 : AV) (h : Heap) : bodyR Go.Proofs.Tryz.prog (tabs n) rec 40 [a0, a1] h = c40 n rec a0 a1 h := by kernel_rfl
def y40004 (_n : Nat) (_rec : Rec) (l : Nat) (vs args : List AV) (h : Heap) : Out :=
 un vs fun v1 l2 => bif Nat.beq args.length 2 then un args fun v3 l4 => un l4 fun v5 l6 => loopAt h l 40004 fun w7 v8 p9 => bif Nat.beq v8 0 then ld (h.set l (.loop 40004 w7 1 p9)) v1 fun v10 =>
 getL (cellsOf v3) fun u11 => bif Nat.beq u11.length 1 then getL (over [(.int .i64 (.ofNat 0))] 0 u11) fun u12 => mkSlice (h.set l (.loop 40004 w7 1 p9)) u12 1 1 (some 1) fun v13 h14 =>
 app 1 8 h14 v10 v13 fun v15 h16 =>
 st h16 v1 v15 fun h17 =>
 loopAt h17 l 40004 fun w18 v19 p20 => some (.bool true, h17.set l (.loop 40004 w18 0 .normal)) else none else none else none
theorem r40004 (n : Nat) (rec : Rec) (l : Nat) (vs args : List AV) (h : Heap) : roundS Go.Proofs.Tryz.prog (tabs n) rec l 40004 vs args h = y40004 n rec l vs args h := by kernel_rfl
-- detent·isa.Bytes
def c42 (n : Nat) (rec : Rec) (a0 : AV) (h : Heap) : Out :=
 lenS a0 fun v1 =>
 iter n (fun nx2 w3 h4 => un w3 fun v5 l6 => un l6 fun v7 l8 => un l8 fun v9 l10 => un l10 fun v11 l12 => get1 (bin .lss v11 v9) fun v13 =>
 tst v13
 (ixS 5 v7 v11 fun v14 =>
 ldn 5 h4 v14 fun v15 =>
 mk h4 [(.int .i64 (.ofNat 0)), (.int .i64 (.ofNat 0)), (.int .i64 (.ofNat 0)), (.int .i64 (.ofNat 0)), (.int .i64 (.ofNat 0))] fun v16 h17 =>
 stn 5 h17 v16 v15 fun h18 =>
 ldn 5 h18 v16 fun v19 =>
 callv rec (.func 92 [] []) [v19] h18 fun v20 h21 =>
 yes true (aeqI v20 (.int .i64 (.ofNat 0))) fun v22 =>
 tst v22
 (some (.tup [.nils, v20], h21))
 (fa 0 v16 fun v23 =>
 ld h21 v23 fun v24 =>
 cvI .u8 v24 fun v25 =>
 fa 1 v16 fun v26 =>
 ld h21 v26 fun v27 =>
 get1 (bin .shl v27 (.int .u64 (.ofNat 4))) fun v28 =>
 fa 2 v16 fun v29 =>
 ld h21 v29 fun v30 =>
 get1 (bin .or v28 v30) fun v31 =>
 cvI .u8 v31 fun v32 =>
 getL (cellsOf v25) fun u33 => bif Nat.beq u33.length 1 then getL (over [(.int .u8 (.ofNat 0)), (.int .u8 (.ofNat 0))] 0 u33) fun u34 => getL (cellsOf v32) fun u35 => bif Nat.beq u35.length 1 then getL (over u34 1 u35) fun u36 => mkSlice h21 u36 2 1 (some 2) fun v37 h38 =>
 app 1 1 h38 v5 v37 fun v39 h40 =>
 fa 3 v16 fun v41 =>
 ld h40 v41 fun v42 =>
 callv rec (.func 93 [] []) [v42, (.int .i64 (.ofNat 2))] h40 fun v43 h44 =>
 app 1 1 h44 v39 v43 fun v45 h46 =>
 fa 4 v16 fun v47 =>
 ld h46 v47 fun v48 =>
 callv rec (.func 93 [] []) [v48, (.int .i64 (.ofNat 4))] h46 fun v49 h50 =>
 app 1 1 h50 v45 v49 fun v51 h52 =>
 get1 (bin .add v11 (.int .i64 (.ofNat 1))) fun v53 =>
 nx2 [v51, v7, v9, v53] h52 else none else none))
 (some (.tup [v5, (.int .i64 (.ofNat 0))], h4))) [.nils, a0, v1, (.int .i64 (.ofNat 0))] h
theorem b42 (n : Nat) (rec : Rec) (a0 : AV) (h : Heap) : bodyR Go.Proofs.Tryz.prog (tabs n) rec 42 [a0] h = c42 n rec a0 h := by kernel_rfl
-- (*detent·kernel.Kernel).Runnable$1
def c43 (_n : Nat) (rec : Rec) (a0 : AV) (a1 : AV) (a2 : AV) (h : Heap) : Out :=
 getL (cellsOf a0) fun u1 => mk h u1 fun v2 h3 =>
 ld h3 a1 fun v4 =>
 callv rec (.func 40 [] []) [v4, (.func 44 [] [a2, v2])] h3 fun v5 h6 =>
 some (v5, h6)
theorem b43 (n : Nat) (rec : Rec) (a0 : AV) (a1 : AV) (a2 : AV) (h : Heap) : bodyR Go.Proofs.Tryz.prog (tabs n) rec 43 [a0, a1, a2] h = c43 n rec a0 a1 a2 h := by kernel_rfl
-- (*detent·kernel.Kernel).Runnable$1$1
def c44 (_n : Nat) (_rec : Rec) (a0 : AV) (a1 : AV) (a2 : AV) (h : Heap) : Out :=
 bnd (nil? a0 fun v1 =>
 some (v1, h)) fun v2 h3 =>
 bnd (fa 1 v2 fun v4 =>
 some (v4, h3)) fun v5 h6 =>
 bnd (fa 1 v5 fun v7 =>
 some (v7, h6)) fun v8 h9 =>
 bnd (ld h9 v8 fun v10 =>
 some (v10, h9)) fun v11 h12 =>
 bnd (ld h12 a1 fun v13 =>
 some (v13, h12)) fun v14 h15 =>
 bnd (yes false (aeqI v11 v14) fun v16 =>
 some (v16, h15)) fun v17 h18 =>
 bnd (wantV v17 true (some (a0, h18)) (some (.tup [], h18))) fun v19 h20 =>
 bnd (wantV v17 true (nil? v19 fun v21 =>
 some (v21, h20)) (some (.tup [], h20))) fun v22 h23 =>
 bnd (wantV v17 true (fa 1 v22 fun v24 =>
 some (v24, h23)) (some (.tup [], h23))) fun v25 h26 =>
 bnd (wantV v17 true (fa 0 v25 fun v27 =>
 some (v27, h26)) (some (.tup [], h26))) fun v28 h29 =>
 bnd (wantV v17 true (ld h29 v28 fun v30 =>
 some (v30, h29)) (some (.tup [], h29))) fun v31 h32 =>
 bnd (wantV v17 true (ld h32 a2 fun v33 =>
 some (v33, h32)) (some (.tup [], h32))) fun v34 h35 =>
 bnd (wantV v17 true (yes false (aeqI v31 v34) fun v36 =>
 some (v36, h35)) (some (.tup [], h35))) fun v37 h38 =>
 bnd (pickB v17 v37 (.bool false) fun v39 =>
 some (v39, h38)) fun v40 h41 =>
 bnd (wantV v40 true (some (a0, h41)) (some (.tup [], h41))) fun v42 h43 =>
 bnd (wantV v40 true (nil? v42 fun v44 =>
 some (v44, h43)) (some (.tup [], h43))) fun v45 h46 =>
 bnd (wantV v40 true (fa 1 v45 fun v47 =>
 some (v47, h46)) (some (.tup [], h46))) fun v48 h49 =>
 bnd (wantV v40 true (fa 3 v48 fun v50 =>
 some (v50, h49)) (some (.tup [], h49))) fun v51 h52 =>
 bnd (wantV v40 true (ld h52 v51 fun v53 =>
 some (v53, h52)) (some (.tup [], h52))) fun v54 h55 =>
 bnd (wantV v40 true (yes false (aeqI v54 (.int .i64 (.ofNat 0))) fun v56 =>
 some (v56, h55)) (some (.tup [], h55))) fun v57 h58 =>
 bnd (pickB v40 v57 (.bool false) fun v59 =>
 some (v59, h58)) fun v60 h61 =>
 some (v60, h61)
theorem b44 (n : Nat) (rec : Rec) (a0 : AV) (a1 : AV) (a2 : AV) (h : Heap) : bodyR Go.Proofs.Tryz.prog (tabs n) rec 44 [a0, a1, a2] h = c44 n rec a0 a1 a2 h := by kernel_rfl
-- (*detent·kernel.Kernel).Runnable$2
def c45 (_n : Nat) (_rec : Rec) (a0 : AV) (a1 : AV) (h : Heap) : Out :=
 bnd (nil? a0 fun v1 =>
 some (v1, h)) fun v2 h3 =>
 bnd (fa 1 v2 fun v4 =>
 some (v4, h3)) fun v5 h6 =>
 bnd (fa 1 v5 fun v7 =>
 some (v7, h6)) fun v8 h9 =>
 bnd (ld h9 v8 fun v10 =>
 some (v10, h9)) fun v11 h12 =>
 bnd (ld h12 a1 fun v13 =>
 some (v13, h12)) fun v14 h15 =>
 bnd (yes false (aeqI v11 v14) fun v16 =>
 some (v16, h15)) fun v17 h18 =>
 bnd (wantV v17 true (some (a0, h18)) (some (.tup [], h18))) fun v19 h20 =>
 bnd (wantV v17 true (nil? v19 fun v21 =>
 some (v21, h20)) (some (.tup [], h20))) fun v22 h23 =>
 bnd (wantV v17 true (fa 1 v22 fun v24 =>
 some (v24, h23)) (some (.tup [], h23))) fun v25 h26 =>
 bnd (wantV v17 true (fa 0 v25 fun v27 =>
 some (v27, h26)) (some (.tup [], h26))) fun v28 h29 =>
 bnd (wantV v17 true (ld h29 v28 fun v30 =>
 some (v30, h29)) (some (.tup [], h29))) fun v31 h32 =>
 bnd (wantV v17 true (yes false (aeqI v31 (.int .i64 (.ofNat 2))) fun v33 =>
 some (v33, h32)) (some (.tup [], h32))) fun v34 h35 =>
 bnd (pickB v17 v34 (.bool false) fun v36 =>
 some (v36, h35)) fun v37 h38 =>
 some (v37, h38)
theorem b45 (n : Nat) (rec : Rec) (a0 : AV) (a1 : AV) (h : Heap) : bodyR Go.Proofs.Tryz.prog (tabs n) rec 45 [a0, a1] h = c45 n rec a0 a1 h := by kernel_rfl
-- (*detent·life.Life).Timers
def c46 (_n : Nat) (_rec : Rec) (a0 : AV) (h : Heap) : Out :=
 yes false (aeqP a0 .nilp) fun v1 =>
 tst v1
 (some (.nilp, h))
 (nil? a0 fun v2 =>
 fa 9 v2 fun v3 =>
 ld h v3 fun v4 =>
 some (v4, h))
theorem b46 (n : Nat) (rec : Rec) (a0 : AV) (h : Heap) : bodyR Go.Proofs.Tryz.prog (tabs n) rec 46 [a0] h = c46 n rec a0 h := by kernel_rfl
-- (*detent·timer.Timers).Ready
def c47 (_n : Nat) (rec : Rec) (a0 : AV) (a1 : AV) (h : Heap) : Out :=
 callv rec (.func 94 [] []) [a0] h fun v1 h2 =>
 callv rec (.func 95 [] []) [v1, a1] h2 fun v3 h4 =>
 ext v3 0 fun v5 =>
 ext v3 1 fun v6 =>
 some (.tup [v5, v6], h4)
theorem b47 (n : Nat) (rec : Rec) (a0 : AV) (a1 : AV) (h : Heap) : bodyR Go.Proofs.Tryz.prog (tabs n) rec 47 [a0, a1] h = c47 n rec a0 a1 h := by kernel_rfl
-- (*detent·life.Life).Works
def c48 (_n : Nat) (_rec : Rec) (a0 : AV) (h : Heap) : Out :=
 yes false (aeqP a0 .nilp) fun v1 =>
 tst v1
 (some (.nilp, h))
 (nil? a0 fun v2 =>
 fa 10 v2 fun v3 =>
 ld h v3 fun v4 =>
 some (v4, h))
theorem b48 (n : Nat) (rec : Rec) (a0 : AV) (h : Heap) : bodyR Go.Proofs.Tryz.prog (tabs n) rec 48 [a0] h = c48 n rec a0 h := by kernel_rfl
-- (*detent·work.Works).Ready
def c49 (_n : Nat) (rec : Rec) (a0 : AV) (a1 : AV) (h : Heap) : Out :=
 callv rec (.func 96 [] []) [a0] h fun v1 h2 =>
 callv rec (.func 95 [] []) [v1, a1] h2 fun v3 h4 =>
 ext v3 0 fun v5 =>
 ext v3 1 fun v6 =>
 bnd (wantV v6 true (some (a0, h4)) (some (.tup [], h4))) fun v7 h8 =>
 bnd (wantV v6 true (some (a1, h8)) (some (.tup [], h8))) fun v9 h10 =>
 bnd (wantV v6 true (callv rec (.func 97 [] []) [v7, v9] h10 fun v11 h12 =>
 some (v11, h12)) (some (.tup [], h10))) fun v13 h14 =>
 bnd (wantV v6 true (get1 (bin .lss v13 (.int .i64 (.ofNat 2))) fun v15 =>
 some (v15, h14)) (some (.tup [], h14))) fun v16 h17 =>
 pickB v6 v16 (.bool false) fun v18 =>
 some (.tup [v5, v18], h17)
theorem b49 (n : Nat) (rec : Rec) (a0 : AV) (a1 : AV) (h : Heap) : bodyR Go.Proofs.Tryz.prog (tabs n) rec 49 [a0, a1] h = c49 n rec a0 a1 h := by kernel_rfl
-- (*detent·event.Log).After
def c50 (_n : Nat) (rec : Rec) (a0 : AV) (a1 : AV) (h : Heap) : Out :=
 getL (cellsOf a1) fun u1 => mk h u1 fun v2 h3 =>
 mk h3 [.nils] fun v4 h5 =>
 callv rec (.func 98 [] []) [a0, (.func 99 [] [v2])] h5 fun v6 h7 =>
 callf rec v6 [.yield h7.next] (h7.push (.loop 50004 [v4] 0 .normal)) fun v9 h8 => loopAt h8 h7.next 50004 fun w10 v11 p12 => bif Nat.beq v11 1 then none else leaveP p12 (ld (h8.set h7.next (.loop 50004 w10 3 p12)) v4 fun v14 =>
 some (v14, (h8.set h7.next (.loop 50004 w10 3 p12)))) none fun i13 => none
theorem b50 (n : Nat) (rec : Rec) (a0 : AV) (a1 : AV) (h : Heap) : bodyR Go.Proofs.Tryz.prog (tabs n) rec 50 [a0, a1] h = c50 n rec a0 a1 h := by kernel_rfl
def y50004 (_n : Nat) (_rec : Rec) (l : Nat) (vs args : List AV) (h : Heap) : Out :=
 un vs fun v1 l2 => bif Nat.beq args.length 1 then un args fun v3 l4 => mk h [(.int .u64 (.ofNat 0)), (.int .i64 (.ofNat 0)), (.int .i64 (.ofNat 0)), (.int .i64 (.ofNat 0)), (.int .u64 (.ofNat 0))] fun v5 h6 =>
 stn 5 h6 v5 v3 fun h7 =>
 loopAt h7 l 50004 fun w8 v9 p10 => bif Nat.beq v9 0 then ld (h7.set l (.loop 50004 w8 1 p10)) v1 fun v11 =>
 ldn 5 (h7.set l (.loop 50004 w8 1 p10)) v5 fun v12 =>
 getL (cellsOf v12) fun u13 => bif Nat.beq u13.length 5 then getL (over [(.int .u64 (.ofNat 0)), (.int .i64 (.ofNat 0)), (.int .i64 (.ofNat 0)), (.int .i64 (.ofNat 0)), (.int .u64 (.ofNat 0))] 0 u13) fun u14 => mkSlice (h7.set l (.loop 50004 w8 1 p10)) u14 1 5 (some 1) fun v15 h16 =>
 app 5 40 h16 v11 v15 fun v17 h18 =>
 st h18 v1 v17 fun h19 =>
 loopAt h19 l 50004 fun w20 v21 p22 => some (.bool true, h19.set l (.loop 50004 w20 0 .normal)) else none else none else none
theorem r50004 (n : Nat) (rec : Rec) (l : Nat) (vs args : List AV) (h : Heap) : roundS Go.Proofs.Tryz.prog (tabs n) rec l 50004 vs args h = y50004 n rec l vs args h := by kernel_rfl
-- detent·script.is
def c64 (_n : Nat) (_rec : Rec) (a0 : AV) (h : Heap) : Out :=
 get1 (bin .geq a0 (.int .i64 (.ofNat 0))) fun v1 =>
 bnd (wantV v1 true (some (a0, h)) (some (.tup [], h))) fun v2 h3 =>
 bnd (wantV v1 true (get1 (bin .leq v2 (.int .i64 (.ofNat 17))) fun v4 =>
 some (v4, h3)) (some (.tup [], h3))) fun v5 h6 =>
 pickB v1 v5 (.bool false) fun v7 =>
 some (v7, h6)
theorem b64 (n : Nat) (rec : Rec) (a0 : AV) (h : Heap) : bodyR Go.Proofs.Tryz.prog (tabs n) rec 64 [a0] h = c64 n rec a0 h := by kernel_rfl
-- detent·script.shape
def c65 (_n : Nat) (_rec : Rec) (a0 : AV) (h : Heap) : Out :=
 mk h [(.int .i64 (.ofNat 0)), (.int .i64 (.ofNat 0)), (.int .i64 (.ofNat 0)), (.int .i64 (.ofNat 0)), (.int .i64 (.ofNat 0))] fun v1 h2 =>
 mk h2 [(.int .i64 (.ofNat 0)), (.int .i64 (.ofNat 0)), (.int .i64 (.ofNat 0)), (.int .i64 (.ofNat 0)), (.int .i64 (.ofNat 0)), (.int .i64 (.ofNat 0))] fun v3 h4 =>
 yes false (aeqI a0 (.int .i64 (.ofNat 0))) fun v5 =>
 tst v5
 (stn 5 h4 v1 (.agg [(.int .i64 (.ofNat 1)), (.int .i64 (.ofNat 0)), (.int .i64 (.ofNat 0)), (.int .i64 (.ofNat 0)), (.int .i64 (.ofNat 0))]) fun h6 =>
 stn 6 h6 v3 (.agg [(.int .i64 (.ofNat 1)), (.int .i64 (.ofNat 255)), (.int .i64 (.ofNat 0)), (.int .i64 (.ofNat 0)), (.int .i64 (.ofNat 0)), (.int .i64 (.ofNat 0))]) fun h7 =>
 ldn 5 h7 v1 fun v8 => ldn 6 h7 v3 fun v9 => some (.tup [v8, v9], h7))
 (yes false (aeqI a0 (.int .i64 (.ofNat 1))) fun v10 =>
 tst v10
 (stn 5 h4 v1 (.agg [(.int .i64 (.ofNat 1)), (.int .i64 (.ofNat 1)), (.int .i64 (.ofNat 0)), (.int .i64 (.ofNat 0)), (.int .i64 (.ofNat 0))]) fun h11 =>
 stn 6 h11 v3 (.agg [(.int .i64 (.ofNat 0)), (.int .i64 (.ofNat 63)), (.int .i64 (.ofNat 0)), (.int .i64 (.ofNat 255)), (.int .i64 (.ofNat 0)), (.int .i64 (.ofNat 0))]) fun h12 =>
 ldn 5 h12 v1 fun v13 => ldn 6 h12 v3 fun v14 => some (.tup [v13, v14], h12))
 (joinPt (fun w16 h17 => un w16 fun v18 l19 => un l19 fun v20 l21 => un l21 fun v22 l23 => un l23 fun v24 l25 => tst v24
 (stn 5 h17 v18 (.agg [(.int .i64 (.ofNat 1)), (.int .i64 (.ofNat 0)), (.int .i64 (.ofNat 0)), (.int .i64 (.ofNat 0)), (.int .i64 (.ofNat 0))]) fun h26 =>
 stn 6 h26 v20 (.agg [(.int .i64 (.ofNat 0)), (.int .i64 (.ofNat 15)), (.int .i64 (.ofNat 0)), (.int .i64 (.ofNat 0)), (.int .i64 (.ofNat 0)), (.int .i64 (.ofNat 0))]) fun h27 =>
 ldn 5 h27 v18 fun v28 => ldn 6 h27 v20 fun v29 => some (.tup [v28, v29], h27))
 (yes false (aeqI v22 (.int .i64 (.ofNat 5))) fun v30 =>
 tst v30
 (stn 5 h17 v18 (.agg [(.int .i64 (.ofNat 1)), (.int .i64 (.ofNat 0)), (.int .i64 (.ofNat 0)), (.int .i64 (.ofNat 0)), (.int .i64 (.ofNat 0))]) fun h31 =>
 stn 6 h31 v20 (.agg [(.int .i64 (.ofNat 0)), (.int .i64 (.ofNat 255)), (.int .i64 (.ofNat 0)), (.int .i64 (.ofNat 0)), (.int .i64 (.ofNat 0)), (.int .i64 (.ofNat 0))]) fun h32 =>
 ldn 5 h32 v18 fun v33 => ldn 6 h32 v20 fun v34 => some (.tup [v33, v34], h32))
 (yes false (aeqI v22 (.int .i64 (.ofNat 6))) fun v35 =>
 tst v35
 (stn 5 h17 v18 (.agg [(.int .i64 (.ofNat 1)), (.int .i64 (.ofNat 0)), (.int .i64 (.ofNat 0)), (.int .i64 (.ofNat 0)), (.int .i64 (.ofNat 0))]) fun h36 =>
 stn 6 h36 v20 (.agg [(.int .i64 (.ofNat 0)), (.int .i64 (.ofNat 1)), (.int .i64 (.ofNat 0)), (.int .i64 (.ofNat 0)), (.int .i64 (.ofNat 0)), (.int .i64 (.ofNat 0))]) fun h37 =>
 ldn 5 h37 v18 fun v38 => ldn 6 h37 v20 fun v39 => some (.tup [v38, v39], h37))
 (yes false (aeqI v22 (.int .i64 (.ofNat 7))) fun v40 =>
 tst v40
 (stn 5 h17 v18 (.agg [(.int .i64 (.ofNat 1)), (.int .i64 (.ofNat 1)), (.int .i64 (.ofNat 1)), (.int .i64 (.ofNat 0)), (.int .i64 (.ofNat 0))]) fun h41 =>
 stn 6 h41 v20 (.agg [(.int .i64 (.ofNat 0)), (.int .i64 (.ofNat 2)), (.int .i64 (.ofNat 1)), (.int .i64 (.ofNat 8)), (.int .i64 (.ofNat 1)), (.int .i64 (.ofNat 4))]) fun h42 =>
 ldn 5 h42 v18 fun v43 => ldn 6 h42 v20 fun v44 => some (.tup [v43, v44], h42))
 (yes false (aeqI v22 (.int .i64 (.ofNat 8))) fun v45 =>
 tst v45
 (stn 5 h17 v18 (.agg [(.int .i64 (.ofNat 1)), (.int .i64 (.ofNat 1)), (.int .i64 (.ofNat 2)), (.int .i64 (.ofNat 8)), (.int .i64 (.ofNat 0))]) fun h46 =>
 stn 6 h46 v20 (.agg [(.int .i64 (.ofNat 0)), (.int .i64 (.ofNat 15)), (.int .i64 (.ofNat 0)), (.int .i64 (.ofNat 63)), (.int .i64 (.ofNat 1)), (.int .i64 (.ofNat 256))]) fun h47 =>
 ldn 5 h47 v18 fun v48 => ldn 6 h47 v20 fun v49 => some (.tup [v48, v49], h47))
 (yes false (aeqI v22 (.int .i64 (.ofNat 9))) fun v50 =>
 tst v50
 (stn 5 h17 v18 (.agg [(.int .i64 (.ofNat 1)), (.int .i64 (.ofNat 1)), (.int .i64 (.ofNat 0)), (.int .i64 (.ofNat 8)), (.int .i64 (.ofNat 8))]) fun h51 =>
 stn 6 h51 v20 (.agg [(.int .i64 (.ofNat 0)), (.int .i64 (.ofNat 3)), (.int .i64 (.ofNat 0)), (.int .i64 (.ofNat 2)), (.int .i64 (.ofNat 0)), (.int .i64 (.ofNat 0))]) fun h52 =>
 ldn 5 h52 v18 fun v53 => ldn 6 h52 v20 fun v54 => some (.tup [v53, v54], h52))
 (joinPt (fun w56 h57 => un w56 fun v58 l59 => un l59 fun v60 l61 => un l61 fun v62 l63 => un l63 fun v64 l65 => tst v64
 (stn 5 h57 v58 (.agg [(.int .i64 (.ofNat 1)), (.int .i64 (.ofNat 0)), (.int .i64 (.ofNat 0)), (.int .i64 (.ofNat 8)), (.int .i64 (.ofNat 0))]) fun h66 =>
 stn 6 h66 v60 (.agg [(.int .i64 (.ofNat 0)), (.int .i64 (.ofNat 3)), (.int .i64 (.ofNat 0)), (.int .i64 (.ofNat 0)), (.int .i64 (.ofNat 0)), (.int .i64 (.ofNat 0))]) fun h67 =>
 ldn 5 h67 v58 fun v68 => ldn 6 h67 v60 fun v69 => some (.tup [v68, v69], h67))
 (yes false (aeqI v62 (.int .i64 (.ofNat 12))) fun v70 =>
 tst v70
 (stn 5 h57 v58 (.agg [(.int .i64 (.ofNat 1)), (.int .i64 (.ofNat 0)), (.int .i64 (.ofNat 0)), (.int .i64 (.ofNat 0)), (.int .i64 (.ofNat 0))]) fun h71 =>
 stn 6 h71 v60 (.agg [(.int .i64 (.ofNat 0)), (.int .i64 (.ofNat 3)), (.int .i64 (.ofNat 0)), (.int .i64 (.ofNat 0)), (.int .i64 (.ofNat 0)), (.int .i64 (.ofNat 0))]) fun h72 =>
 ldn 5 h72 v58 fun v73 => ldn 6 h72 v60 fun v74 => some (.tup [v73, v74], h72))
 (joinPt (fun w76 h77 => un w76 fun v78 l79 => un l79 fun v80 l81 => un l81 fun v82 l83 => un l83 fun v84 l85 => tst v84
 (stn 5 h77 v78 (.agg [(.int .i64 (.ofNat 1)), (.int .i64 (.ofNat 0)), (.int .i64 (.ofNat 0)), (.int .i64 (.ofNat 0)), (.int .i64 (.ofNat 0))]) fun h86 =>
 stn 6 h86 v80 (.agg [(.int .i64 (.ofNat 0)), (.int .i64 (.ofNat 31)), (.int .i64 (.ofNat 0)), (.int .i64 (.ofNat 0)), (.int .i64 (.ofNat 0)), (.int .i64 (.ofNat 0))]) fun h87 =>
 ldn 5 h87 v78 fun v88 => ldn 6 h87 v80 fun v89 => some (.tup [v88, v89], h87))
 (yes false (aeqI v82 (.int .i64 (.ofNat 17))) fun v90 =>
 tst v90
 (stn 5 h77 v78 (.agg [(.int .i64 (.ofNat 1)), (.int .i64 (.ofNat 0)), (.int .i64 (.ofNat 0)), (.int .i64 (.ofNat 0)), (.int .i64 (.ofNat 0))]) fun h91 =>
 stn 6 h91 v80 (.agg [(.int .i64 (.ofNat 0)), (.int .i64 (.ofNat 15)), (.int .i64 (.ofNat 0)), (.int .i64 (.ofNat 0)), (.int .i64 (.ofNat 0)), (.int .i64 (.ofNat 0))]) fun h92 =>
 ldn 5 h92 v78 fun v93 => ldn 6 h92 v80 fun v94 => some (.tup [v93, v94], h92))
 (stn 5 h77 v78 (.agg [(.int .i64 (.ofNat 0)), (.int .i64 (.ofNat 0)), (.int .i64 (.ofNat 0)), (.int .i64 (.ofNat 0)), (.int .i64 (.ofNat 0))]) fun h95 =>
 stn 6 h95 v80 (.agg [(.int .i64 (.ofNat 0)), (.int .i64 (.ofNat 0)), (.int .i64 (.ofNat 0)), (.int .i64 (.ofNat 0)), (.int .i64 (.ofNat 0)), (.int .i64 (.ofNat 0))]) fun h96 =>
 ldn 5 h96 v78 fun v97 => ldn 6 h96 v80 fun v98 => some (.tup [v97, v98], h96)))) fun J75 =>
 yes false (aeqI v62 (.int .i64 (.ofNat 13))) fun v99 =>
 tst v99
 (J75 [v58, v60, v62, v99] h57)
 (yes false (aeqI v62 (.int .i64 (.ofNat 14))) fun v100 =>
 J75 [v58, v60, v62, v100] h57)))) fun J55 =>
 yes false (aeqI v22 (.int .i64 (.ofNat 10))) fun v101 =>
 tst v101
 (J55 [v18, v20, v22, v101] h17)
 (yes false (aeqI v22 (.int .i64 (.ofNat 11))) fun v102 =>
 J55 [v18, v20, v22, v102] h17)))))))) fun J15 =>
 yes false (aeqI a0 (.int .i64 (.ofNat 2))) fun v103 =>
 tst v103
 (J15 [v1, v3, a0, v103] h4)
 (yes false (aeqI a0 (.int .i64 (.ofNat 3))) fun v104 =>
 tst v104
 (J15 [v1, v3, a0, v104] h4)
 (yes false (aeqI a0 (.int .i64 (.ofNat 4))) fun v105 =>
 J15 [v1, v3, a0, v105] h4))))
theorem b65 (n : Nat) (rec : Rec) (a0 : AV) (h : Heap) : bodyR Go.Proofs.Tryz.prog (tabs n) rec 65 [a0] h = c65 n rec a0 h := by kernel_rfl
-- (detent·script.Step).parts
def c66 (_n : Nat) (_rec : Rec) (a0 : AV) (h : Heap) : Out :=
 getL (cellsOf a0) fun u1 => mk h u1 fun v2 h3 =>
 mk h3 [(.int .u64 (.ofNat 0)), (.int .u64 (.ofNat 0)), (.int .u64 (.ofNat 0)), (.int .u64 (.ofNat 0)), (.int .u64 (.ofNat 0))] fun v4 h5 =>
 fa 1 v2 fun v6 =>
 ld h5 v6 fun v7 =>
 cvI .u64 v7 fun v8 =>
 fa 2 v2 fun v9 =>
 ld h5 v9 fun v10 =>
 cvI .u64 v10 fun v11 =>
 fa 3 v2 fun v12 =>
 ld h5 v12 fun v13 =>
 cvI .u64 v13 fun v14 =>
 fa 4 v2 fun v15 =>
 ld h5 v15 fun v16 =>
 fa 5 v2 fun v17 =>
 ld h5 v17 fun v18 =>
 getL (cellsOf v8) fun u19 => bif Nat.beq u19.length 1 then getL (over [(.int .u64 (.ofNat 0)), (.int .u64 (.ofNat 0)), (.int .u64 (.ofNat 0)), (.int .u64 (.ofNat 0)), (.int .u64 (.ofNat 0))] 0 u19) fun u20 => getL (cellsOf v11) fun u21 => bif Nat.beq u21.length 1 then getL (over u20 1 u21) fun u22 => getL (cellsOf v14) fun u23 => bif Nat.beq u23.length 1 then getL (over u22 2 u23) fun u24 => getL (cellsOf v16) fun u25 => bif Nat.beq u25.length 1 then getL (over u24 3 u25) fun u26 => getL (cellsOf v18) fun u27 => bif Nat.beq u27.length 1 then getL (over u26 4 u27) fun u28 => stn 5 h5 v4 (.agg u28) fun h29 =>
 ldn 5 h29 v4 fun v30 => some (v30, h29) else none else none else none else none else none
theorem b66 (n : Nat) (rec : Rec) (a0 : AV) (h : Heap) : bodyR Go.Proofs.Tryz.prog (tabs n) rec 66 [a0] h = c66 n rec a0 h := by kernel_rfl
-- detent·script.raw
def c67 (_n : Nat) (_rec : Rec) (a0 : AV) (a1 : AV) (h : Heap) : Out :=
 yes false (aeqI a0 (.int .i64 (.ofNat 5))) fun v1 =>
 tst v1
 (get1 (bin .geq a1 (.int .i64 (.ofNat 1))) fun v2 =>
 bnd (wantV v2 true (some (a1, h)) (some (.tup [], h))) fun v3 h4 =>
 bnd (wantV v2 true (get1 (bin .leq v3 (.int .i64 (.ofNat 16))) fun v5 =>
 some (v5, h4)) (some (.tup [], h4))) fun v6 h7 =>
 pickB v2 v6 (.bool false) fun v8 =>
 some (v8, h7))
 (yes false (aeqI a0 (.int .i64 (.ofNat 6))) fun v9 =>
 tst v9
 (get1 (bin .geq a1 (.int .i64 (.ofNat 8))) fun v10 =>
 bnd (wantV v10 true (some (a1, h)) (some (.tup [], h))) fun v11 h12 =>
 bnd (wantV v10 true (get1 (bin .leq v11 (.int .i64 (.ofNat 512))) fun v13 =>
 some (v13, h12)) (some (.tup [], h12))) fun v14 h15 =>
 pickB v10 v14 (.bool false) fun v16 =>
 bnd (wantV v16 true (some (a1, h15)) (some (.tup [], h15))) fun v17 h18 =>
 bnd (wantV v16 true (get1 (bin .rem v17 (.int .i64 (.ofNat 8))) fun v19 =>
 some (v19, h18)) (some (.tup [], h18))) fun v20 h21 =>
 bnd (wantV v16 true (yes false (aeqI v20 (.int .i64 (.ofNat 0))) fun v22 =>
 some (v22, h21)) (some (.tup [], h21))) fun v23 h24 =>
 pickB v16 v23 (.bool false) fun v25 =>
 some (v25, h24))
 (yes false (aeqI a1 (.int .i64 (.ofNat 0))) fun v26 =>
 some (v26, h)))
theorem b67 (n : Nat) (rec : Rec) (a0 : AV) (a1 : AV) (h : Heap) : bodyR Go.Proofs.Tryz.prog (tabs n) rec 67 [a0, a1] h = c67 n rec a0 a1 h := by kernel_rfl
-- (*detent·life.Life).Trace
def c68 (_n : Nat) (_rec : Rec) (a0 : AV) (h : Heap) : Out :=
 yes false (aeqP a0 .nilp) fun v1 =>
 tst v1
 (some (.nilp, h))
 (nil? a0 fun v2 =>
 fa 11 v2 fun v3 =>
 ld h v3 fun v4 =>
 some (v4, h))
theorem b68 (n : Nat) (rec : Rec) (a0 : AV) (h : Heap) : bodyR Go.Proofs.Tryz.prog (tabs n) rec 68 [a0] h = c68 n rec a0 h := by kernel_rfl
-- (*detent·kernel.Kernel).pick
def c70 (_n : Nat) (rec : Rec) (a0 : AV) (a1 : AV) (a2 : AV) (h : Heap) : Out :=
 callv rec (.func 9 [] []) [a0] h fun v1 h2 =>
 get1 (bin .geq a1 v1) fun v3 =>
 tst v3
 (some (.tup [(.int .u64 (.ofNat 0)), (.int .i64 (.ofNat 2))], h2))
 (bnd (nil? a0 fun v4 =>
 some (v4, h2)) fun v5 h6 =>
 bnd (fa 1 v5 fun v7 =>
 some (v7, h6)) fun v8 h9 =>
 bnd (ld h9 v8 fun v10 =>
 some (v10, h9)) fun v11 h12 =>
 bnd (nil? a0 fun v13 =>
 some (v13, h12)) fun v14 h15 =>
 bnd (fa 0 v14 fun v16 =>
 some (v16, h15)) fun v17 h18 =>
 bnd (ld h18 v17 fun v19 =>
 some (v19, h18)) fun v20 h21 =>
 bnd (callv rec (.func 46 [] []) [v11] h21 fun v22 h23 =>
 some (v22, h23)) fun v24 h25 =>
 bif chkS false 1 h25 v17 v20 then bnd (callv rec (.func 38 [] []) [v20] h25 fun v26 h27 =>
 some (v26, h27)) fun v28 h29 =>
 bnd (callv rec (.func 127 [] []) [v24, a1, v28] h29 fun v30 h31 =>
 some (v30, h31)) fun v32 h33 =>
 callv rec (.func 13 [] []) [a0, a1] h33 fun v34 h35 =>
 lenS v34 fun v36 =>
 yes false (aeqI v36 (.int .i64 (.ofNat 0))) fun v37 =>
 tst v37
 (some (.tup [(.int .u64 (.ofNat 0)), (.int .i64 (.ofNat 4))], h35))
 (lenS v34 fun v38 =>
 get1 (bin .rem a2 v38) fun v39 =>
 ixS 1 v34 v39 fun v40 =>
 ld h35 v40 fun v41 =>
 joinPt (fun w43 h44 => un w43 fun v45 l46 => un l46 fun v47 l48 => un l48 fun v49 l50 => yes true (aeqI v49 (.int .i64 (.ofNat 0))) fun v51 =>
 tst v51
 (some (.tup [(.int .u64 (.ofNat 0)), v49], h44))
 (callv rec (.func 130 [] []) [v45, v47] h44 fun v52 h53 =>
 cvI .u64 v47 fun v54 =>
 some (.tup [v54, (.int .i64 (.ofNat 0))], h53))) fun J42 =>
 get1 (bin .lss v41 (.int .i64 (.ofNat 0))) fun v55 =>
 tst v55
 (callv rec (.func 128 [] []) [a0, a1, v41] h35 fun v56 h57 =>
 ext v56 0 fun v58 =>
 ext v56 1 fun v59 =>
 J42 [a0, v58, v59] h57)
 (callv rec (.func 129 [] []) [a0, v41] h35 fun v60 h61 =>
 J42 [a0, v41, v60] h61)) else none)
theorem b70 (n : Nat) (rec : Rec) (a0 : AV) (a1 : AV) (a2 : AV) (h : Heap) : bodyR Go.Proofs.Tryz.prog (tabs n) rec 70 [a0, a1, a2] h = c70 n rec a0 a1 a2 h := by kernel_rfl
-- (*detent·kernel.Kernel).load
def c76 (_n : Nat) (rec : Rec) (a0 : AV) (a1 : AV) (a2 : AV) (h : Heap) : Out :=
 callv rec (.func 134 [] []) [a2] h fun v1 h2 =>
 ext v1 0 fun v3 =>
 ext v1 1 fun v4 =>
 ext v1 2 fun v5 =>
 yes true (aeqI v5 (.int .i64 (.ofNat 0))) fun v6 =>
 tst v6
 (some (.tup [(.int .u64 (.ofNat 0)), v5], h2))
 (getL (cellsOf v3) fun u7 => bif Nat.beq u7.length 1 then getL (over [.nils, (.bool false)] 0 u7) fun u8 => getL (cellsOf a1) fun u9 => bif Nat.beq u9.length 1 then getL (over u8 1 u9) fun u10 => mk h2 [.nils, (.bool false)] fun v11 h12 =>
 stn 2 h12 v11 (.agg u10) fun h13 =>
 ldn 2 h13 v11 fun v14 =>
 callv rec (.func 135 [] []) [v14] h13 fun v15 h16 =>
 ext v15 0 fun v17 =>
 ext v15 1 fun v18 =>
 yes true (aeqI v18 (.int .i64 (.ofNat 0))) fun v19 =>
 tst v19
 (some (.tup [(.int .u64 (.ofNat 0)), v18], h16))
 (nil? a0 fun v20 =>
 fa 2 v20 fun v21 =>
 slA 16 1 h16 v21 none none none fun v22 =>
 callv rec (.func 136 [] []) [v22, .nilp] h16 fun v23 h24 =>
 get1 (bin .lss v23 (.int .i64 (.ofNat 0))) fun v25 =>
 tst v25
 (some (.tup [(.int .u64 (.ofNat 0)), (.int .i64 (.ofNat 3))], h24))
 (nil? a0 fun v26 =>
 fa 2 v26 fun v27 =>
 ixA 16 1 v27 v23 fun v28 =>
 st h24 v28 v11 fun h29 =>
 cvI .u64 v23 fun v30 =>
 some (.tup [v30, (.int .i64 (.ofNat 0))], h29))) else none else none)
theorem b76 (n : Nat) (rec : Rec) (a0 : AV) (a1 : AV) (a2 : AV) (h : Heap) : bodyR Go.Proofs.Tryz.prog (tabs n) rec 76 [a0, a1, a2] h = c76 n rec a0 a1 a2 h := by kernel_rfl
end Go.Ai
