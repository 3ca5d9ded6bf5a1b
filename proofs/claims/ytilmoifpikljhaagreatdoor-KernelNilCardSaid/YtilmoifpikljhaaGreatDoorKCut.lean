/-
  KERNEL NIL: what the law comes to, cut into segments.
-/
import Derived.Test.YtilmoifpikljhaaGreatDoorKAll
import Derived.KernelRfl
set_option linter.unusedVariables false
set_option linter.unusedSimpArgs false
set_option linter.unusedVariables false
namespace Go.Ai
def s3_0 (_n : Nat) (_rec : Rec) (a0 : AV) (a1 : AV) (a2 : AV) (a3 : AV) (h : Heap) (K : AV → AV → AV → AV → AV → AV → Heap → Out) : Out :=
 getL (cellsOf a3) fun u1 => mk h u1 fun v2 h3 =>
 fa 6 v2 fun v4 =>
 ld h3 v4 fun v5 =>
 fa 6 v2 fun v6 =>
 ld h3 v6 fun v7 =>
 lenS v7 fun v8 =>
 mm false v8 (.int .i64 (.ofNat 600)) fun v9 =>
 slS 1 v5 none (some v9) none fun v10 =>
 fa 6 v2 fun v11 =>
 K a0 a1 a2 v2 v10 v11 h3
def s3_1 (_n : Nat) (rec : Rec) (a0 : AV) (a1 : AV) (a2 : AV) (v2 : AV) (v10 : AV) (v11 : AV) (h3 : Heap) (K : AV → AV → AV → AV → AV → AV → AV → AV → AV → AV → AV → Heap → Out) : Out :=
 st h3 v11 v10 fun h12 =>
 ldn 7 h12 v2 fun v13 =>
 callv rec (.func 6 [] []) [v13] h12 fun v14 h15 =>
 callv rec (.func 5 [] []) [.nilp, v14] h15 fun v16 h17 =>
 ext v16 0 fun v18 =>
 ext v16 1 fun v19 =>
 callv rec (.func 7 [] []) [.nilp, (.int .i64 (.ofNat 0))] h17 fun v20 h21 =>
 ext v20 0 fun v22 =>
 ext v20 1 fun v23 =>
 mk h21 [.nils, (.bool false)] fun v24 h25 =>
 stn 2 h25 v24 v22 fun h26 =>
 callv rec (.func 8 [] []) [a0, a1, a2] h26 fun v27 h28 =>
 ext v27 0 fun v29 =>
 ext v27 1 fun v30 =>
 get1 (bin .geq a0 (.int .i64 (.ofNat 1))) fun v31 =>
 bnd (wantV v31 true (some (a0, h28)) (some (.tup [], h28))) fun v32 h33 =>
 bnd (wantV v31 true (get1 (bin .leq v32 (.int .i64 (.ofNat 64))) fun v34 =>
 some (v34, h33)) (some (.tup [], h33))) fun v35 h36 =>
 pickB v31 v35 (.bool false) fun v37 =>
 bnd (wantV v37 true (some (a1, h36)) (some (.tup [], h36))) fun v38 h39 =>
 bnd (wantV v37 true (get1 (bin .geq v38 (.int .i64 (.ofNat 1))) fun v40 =>
 some (v40, h39)) (some (.tup [], h39))) fun v41 h42 =>
 pickB v37 v41 (.bool false) fun v43 =>
 bnd (wantV v43 true (some (a1, h42)) (some (.tup [], h42))) fun v44 h45 =>
 bnd (wantV v43 true (get1 (bin .leq v44 (.int .i64 (.ofNat 16))) fun v46 =>
 some (v46, h45)) (some (.tup [], h45))) fun v47 h48 =>
 pickB v43 v47 (.bool false) fun v49 =>
 bnd (wantV v49 true (some (v30, h48)) (some (.tup [], h48))) fun v50 h51 =>
 bnd (wantV v49 true (yes true (aeqI v50 (.int .i64 (.ofNat 0))) fun v52 =>
 some (v52, h51)) (some (.tup [], h51))) fun v53 h54 =>
 bnd (wantV v49 true (some (v53, h54)) (some (.tup [], h54))) fun v55 h56 =>
 bnd (wantV v55 false (some (v29, h56)) (some (.tup [], h56))) fun v57 h58 =>
 bnd (wantV v55 false (callv rec (.func 9 [] []) [v57] h58 fun v59 h60 =>
 some (v59, h60)) (some (.tup [], h58))) fun v61 h62 =>
 bnd (wantV v55 false (some (a0, h62)) (some (.tup [], h62))) fun v63 h64 =>
 bnd (wantV v55 false (yes true (aeqI v61 v63) fun v65 =>
 some (v65, h64)) (some (.tup [], h64))) fun v66 h67 =>
 bnd (wantV v49 true (pickB v55 (.bool true) v66 fun v68 =>
 some (v68, h67)) (some (.tup [], h67))) fun v69 h70 =>
 bnd (wantV v49 true (some (v69, h70)) (some (.tup [], h70))) fun v71 h72 =>
 bnd (wantV v71 false (some (v29, h72)) (some (.tup [], h72))) fun v73 h74 =>
 bnd (wantV v71 false (callv rec (.func 10 [] []) [v73] h74 fun v75 h76 =>
 some (v75, h76)) (some (.tup [], h74))) fun v77 h78 =>
 bnd (wantV v71 false (some (a2, h78)) (some (.tup [], h78))) fun v79 h80 =>
 K a0 a1 v18 v19 v23 v29 v30 v49 v71 v77 v79 h80
def s3_2 (_n : Nat) (_rec : Rec) (a0 : AV) (a1 : AV) (v18 : AV) (v19 : AV) (v23 : AV) (v29 : AV) (v30 : AV) (v49 : AV) (v71 : AV) (v77 : AV) (v79 : AV) (h80 : Heap) (K : AV → AV → AV → AV → AV → AV → AV → AV → AV → AV → Heap → Out) : Out :=
 bnd (wantV v71 false (yes true (aeqI v77 v79) fun v81 =>
 some (v81, h80)) (some (.tup [], h80))) fun v82 h83 =>
 K a0 a1 v18 v19 v23 v29 v30 v49 v71 v82 h83
def s3_3 (_n : Nat) (rec : Rec) (a0 : AV) (a1 : AV) (v18 : AV) (v19 : AV) (v23 : AV) (v29 : AV) (v30 : AV) (v49 : AV) (v71 : AV) (v82 : AV) (h83 : Heap)  : Out :=
 bnd (wantV v49 true (pickB v71 (.bool true) v82 fun v84 =>
 some (v84, h83)) (some (.tup [], h83))) fun v85 h86 =>
 bnd (wantV v49 true (some (v85, h86)) (some (.tup [], h86))) fun v87 h88 =>
 bnd (wantV v87 false (some (v29, h88)) (some (.tup [], h88))) fun v89 h90 =>
 bnd (wantV v87 false (callv rec (.func 11 [] []) [v89] h90 fun v91 h92 =>
 some (v91, h92)) (some (.tup [], h90))) fun v93 h94 =>
 bnd (wantV v87 false (yes true (aeqI v93 (.int .u64 (.ofNat 0))) fun v95 =>
 some (v95, h94)) (some (.tup [], h94))) fun v96 h97 =>
 bnd (wantV v49 true (pickB v87 (.bool true) v96 fun v98 =>
 some (v98, h97)) (some (.tup [], h97))) fun v99 h100 =>
 pickB v49 v99 (.bool false) fun v101 =>
 bnd (wantV v101 false (some (v49, h100)) (some (.tup [], h100))) fun v102 h103 =>
 bnd (wantV v101 false (get1 (una .not v102) fun v104 =>
 some (v104, h103)) (some (.tup [], h103))) fun v105 h106 =>
 bnd (wantV v101 false (some (v105, h106)) (some (.tup [], h106))) fun v107 h108 =>
 bnd (wantV v107 true (some (v30, h108)) (some (.tup [], h108))) fun v109 h110 =>
 bnd (wantV v107 true (yes true (aeqI v109 (.int .i64 (.ofNat 2))) fun v111 =>
 some (v111, h110)) (some (.tup [], h110))) fun v112 h113 =>
 bnd (wantV v107 true (some (v112, h113)) (some (.tup [], h113))) fun v114 h115 =>
 bnd (wantV v114 false (some (v29, h115)) (some (.tup [], h115))) fun v116 h117 =>
 bnd (wantV v114 false (yes true (aeqP v116 .nilp) fun v118 =>
 some (v118, h117)) (some (.tup [], h117))) fun v119 h120 =>
 bnd (wantV v107 true (pickB v114 (.bool true) v119 fun v121 =>
 some (v121, h120)) (some (.tup [], h120))) fun v122 h123 =>
 bnd (wantV v101 false (pickB v107 v122 (.bool false) fun v124 =>
 some (v124, h123)) (some (.tup [], h123))) fun v125 h126 =>
 pickB v101 (.bool true) v125 fun v127 =>
 tst v127
 (some ((.bool false), h126))
 (callv rec (.func 12 [] []) [] h126 fun v128 h129 =>
 bnd (wantV v128 true (some (v18, h129)) (some (.tup [], h129))) fun v130 h131 =>
 bnd (wantV v128 true (yes false (aeqI v130 (.int .u64 (.ofNat 0))) fun v132 =>
 some (v132, h131)) (some (.tup [], h131))) fun v133 h134 =>
 pickB v128 v133 (.bool false) fun v135 =>
 bnd (wantV v135 true (some (v19, h134)) (some (.tup [], h134))) fun v136 h137 =>
 bnd (wantV v135 true (yes false (aeqI v136 (.int .i64 (.ofNat 6))) fun v138 =>
 some (v138, h137)) (some (.tup [], h137))) fun v139 h140 =>
 pickB v135 v139 (.bool false) fun v141 =>
 bnd (wantV v141 true (some (.nilp, h140)) (some (.tup [], h140))) fun v142 h143 =>
 bnd (wantV v141 true (some (a0, h143)) (some (.tup [], h143))) fun v144 h145 =>
 bnd (wantV v141 true (callv rec (.func 13 [] []) [v142, v144] h145 fun v146 h147 =>
 some (v146, h147)) (some (.tup [], h145))) fun v148 h149 =>
 bnd (wantV v141 true (lenS v148 fun v150 =>
 some (v150, h149)) (some (.tup [], h149))) fun v151 h152 =>
 bnd (wantV v141 true (yes false (aeqI v151 (.int .i64 (.ofNat 0))) fun v153 =>
 some (v153, h152)) (some (.tup [], h152))) fun v154 h155 =>
 pickB v141 v154 (.bool false) fun v156 =>
 bnd (wantV v156 true (some (.nilp, h155)) (some (.tup [], h155))) fun v157 h158 =>
 bnd (wantV v156 true (some (a1, h158)) (some (.tup [], h158))) fun v159 h160 =>
 bnd (wantV v156 true (callv rec (.func 14 [] []) [v157, v159] h160 fun v161 h162 =>
 some (v161, h162)) (some (.tup [], h160))) fun v163 h164 =>
 bnd (wantV v156 true (some ((.agg [(.int .i64 (.ofNat 0)), (.int .i64 (.ofNat 0)), (.int .i64 (.ofNat 0)), (.int .i64 (.ofNat 0)), (.int .i64 (.ofNat 0)), (.int .i64 (.ofNat 0))]), h164)) (some (.tup [], h164))) fun v165 h166 =>
 bnd (wantV v156 true (yes false (aeqG [false, false, false, false, false, false] v163 v165) fun v167 =>
 some (v167, h166)) (some (.tup [], h166))) fun v168 h169 =>
 pickB v156 v168 (.bool false) fun v170 =>
 bnd (wantV v170 true (some (.nilp, h169)) (some (.tup [], h169))) fun v171 h172 =>
 bnd (wantV v170 true (callv rec (.func 11 [] []) [v171] h172 fun v173 h174 =>
 some (v173, h174)) (some (.tup [], h172))) fun v175 h176 =>
 bnd (wantV v170 true (yes false (aeqI v175 (.int .u64 (.ofNat 0))) fun v177 =>
 some (v177, h176)) (some (.tup [], h176))) fun v178 h179 =>
 pickB v170 v178 (.bool false) fun v180 =>
 bnd (wantV v180 true (some (.nilp, h179)) (some (.tup [], h179))) fun v181 h182 =>
 bnd (wantV v180 true (callv rec (.func 15 [] []) [v181, (.int .i64 (.ofNat 0))] h182 fun v183 h184 =>
 some (v183, h184)) (some (.tup [], h182))) fun v185 h186 =>
 bnd (wantV v180 true (lenS v185 fun v187 =>
 some (v187, h186)) (some (.tup [], h186))) fun v188 h189 =>
 bnd (wantV v180 true (yes false (aeqI v188 (.int .i64 (.ofNat 0))) fun v190 =>
 some (v190, h189)) (some (.tup [], h189))) fun v191 h192 =>
 pickB v180 v191 (.bool false) fun v193 =>
 bnd (wantV v193 true (some (.nilp, h192)) (some (.tup [], h192))) fun v194 h195 =>
 bnd (wantV v193 true (callv rec (.func 16 [] []) [v194, (.int .i64 (.ofNat 0))] h195 fun v196 h197 =>
 some (v196, h197)) (some (.tup [], h195))) fun v198 h199 =>
 bnd (wantV v193 true (yes false (aeqI v198 (.int .u8 (.ofNat 0))) fun v200 =>
 some (v200, h199)) (some (.tup [], h199))) fun v201 h202 =>
 pickB v193 v201 (.bool false) fun v203 =>
 bnd (wantV v203 true (some (.nilp, h202)) (some (.tup [], h202))) fun v204 h205 =>
 bnd (wantV v203 true (callv rec (.func 17 [] []) [v204, (.int .i64 (.ofNat 0))] h205 fun v206 h207 =>
 some (v206, h207)) (some (.tup [], h205))) fun v208 h209 =>
 bnd (wantV v203 true (lenS v208 fun v210 =>
 some (v210, h209)) (some (.tup [], h209))) fun v211 h212 =>
 bnd (wantV v203 true (yes false (aeqI v211 (.int .i64 (.ofNat 0))) fun v213 =>
 some (v213, h212)) (some (.tup [], h212))) fun v214 h215 =>
 pickB v203 v214 (.bool false) fun v216 =>
 bnd (wantV v216 true (some (v23, h215)) (some (.tup [], h215))) fun v217 h218 =>
 bnd (wantV v216 true (get1 (una .not v217) fun v219 =>
 some (v219, h218)) (some (.tup [], h218))) fun v220 h221 =>
 pickB v216 v220 (.bool false) fun v222 =>
 bnd (wantV v222 true (some (.nilp, h221)) (some (.tup [], h221))) fun v223 h224 =>
 bnd (wantV v222 true (callv rec (.func 18 [] []) [v223, (.int .i64 (.ofNat 0))] h224 fun v225 h226 =>
 some (v225, h226)) (some (.tup [], h224))) fun v227 h228 =>
 bnd (wantV v222 true (yes false (aeqI v227 (.int .i64 (.ofNat 0))) fun v229 =>
 some (v229, h228)) (some (.tup [], h228))) fun v230 h231 =>
 pickB v222 v230 (.bool false) fun v232 =>
 bnd (wantV v232 true (some (.nilp, h231)) (some (.tup [], h231))) fun v233 h234 =>
 bnd (wantV v232 true (callv rec (.func 19 [] []) [v233] h234 fun v235 h236 =>
 some (v235, h236)) (some (.tup [], h234))) fun v237 h238 =>
 bnd (wantV v232 true (yes false (aeqP v237 .nilp) fun v239 =>
 some (v239, h238)) (some (.tup [], h238))) fun v240 h241 =>
 pickB v232 v240 (.bool false) fun v242 =>
 bnd (wantV v242 true (some (.nilp, h241)) (some (.tup [], h241))) fun v243 h244 =>
 bnd (wantV v242 true (callv rec (.func 10 [] []) [v243] h244 fun v245 h246 =>
 some (v245, h246)) (some (.tup [], h244))) fun v247 h248 =>
 bnd (wantV v242 true (yes false (aeqI v247 (.int .u64 (.ofNat 0))) fun v249 =>
 some (v249, h248)) (some (.tup [], h248))) fun v250 h251 =>
 pickB v242 v250 (.bool false) fun v252 =>
 bnd (wantV v252 true (some (.nilp, h251)) (some (.tup [], h251))) fun v253 h254 =>
 bnd (wantV v252 true (callv rec (.func 9 [] []) [v253] h254 fun v255 h256 =>
 some (v255, h256)) (some (.tup [], h254))) fun v257 h258 =>
 bnd (wantV v252 true (yes false (aeqI v257 (.int .i64 (.ofNat 0))) fun v259 =>
 some (v259, h258)) (some (.tup [], h258))) fun v260 h261 =>
 pickB v252 v260 (.bool false) fun v262 =>
 some (v262, h261))
theorem cut3 (n : Nat) (rec : Rec) (a0 : AV) (a1 : AV) (a2 : AV) (a3 : AV) (h : Heap) : c3 n rec a0 a1 a2 a3 h = s3_0 n rec a0 a1 a2 a3 h fun a0 a1 a2 v2 v10 v11 h3 => s3_1 n rec a0 a1 a2 v2 v10 v11 h3 fun a0 a1 v18 v19 v23 v29 v30 v49 v71 v77 v79 h80 => s3_2 n rec a0 a1 v18 v19 v23 v29 v30 v49 v71 v77 v79 h80 fun a0 a1 v18 v19 v23 v29 v30 v49 v71 v82 h83 => s3_3 n rec a0 a1 v18 v19 v23 v29 v30 v49 v71 v82 h83 := rfl
end Go.Ai
