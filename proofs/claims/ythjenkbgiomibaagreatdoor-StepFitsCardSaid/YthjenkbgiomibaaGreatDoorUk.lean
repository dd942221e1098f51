/-
  THE TEST of an entry in reachlaw10.StepFits, case by case (chapter 10).
-/
import Derived.Test.YthjenkbgiomibaaGreatDoorUi
set_option linter.unusedVariables false
set_option linter.unusedSimpArgs false
set_option maxRecDepth 1000000
set_option maxHeartbeats 8000000
namespace Go.Proofs.YthjenkbgiomibaaGreatDoor
open Go.RowKit
theorem r19_case3 (N Bp Bx b : Nat) (fd : Int) (qk np kc pn gg og gl cg li ci lc cc : Nat) (h : ByteArray) (Ag Ai Ac : Option Addr) (v0 v1 v4 v5 v6 v7 v9 v10 v13 v15 v16 v17 v18 v19 v20 v21 v22 v23 v24 v25 v26 v27 v28 v29 v30 v31 v32 v33 v34 v35 v36 v37 v38 v39 v40 v41 v42 v43 v44 v45 v46 v47 v48 v49 v50 v51 v52 v53 v54 v55 v56 v57 v58 v59 v60 v61 v62 v63 v64 v65 v66 v67 v68 v69 v70 v71 v72 v73 v74 v75 v76 v77 v78 v79 v80 v81 v82 v83 v84 v85 v86 v87 v88 v89 v90 v91 v92 v93 v94 v95 v96 v97 v98 v99 v100 v101 v102 v103 v104 v105 v106 v107 v108 v109 v110 v111 v112 v113 v114 v115 v116 v117 v118 v119 v120 v121 v122 v123 v124 v125 v126 v127 v128 v129 v130 v131 v132 v133 v134 v135 v136 v137 v138 v139 v140 v141 v142 v143 v144 v145 v146 v147 v148 v149 v150 v151 v152 v153 v154 v155 v156 v157 v158 v159 v160 v161 v162 v163 v164 v165 v166 v167 v168 v169 v170 v171 v172 v173 v174 v175 v176 v177 v178 v179 v180 v181 v182 v183 v184 v185 v186 v187 v188 v189 v190 v191 v192 v193 v194 v195 v196 v197 v198 v199 v200 v201 v202 v203 v204 v205 v206 v207 v208 v209 v210 v211 v212 v213 v214 v215 v216 v217 v218 : Value) (V : World) (p0 : (0 : Int) ≤ (pn : Int)) (p1 : (pn : Int) < (np : Int)) (tb : ((b : Int) == (qk : Int)) = true) (tb' : (b == qk) = true) (tf : decide (fd < 0) = true) (HKR : ∀ w', Below V.heap.size V w' → w'.cell? ⟨Bp, 2, none⟩ = some (.bool true) ∧ w'.cell? ⟨Bp, 1, none⟩ = some (.int .i64 (qk : Int)) ∧ w'.cell? ⟨N, 3, none⟩ = some (.slice (some ⟨gg, og, none⟩) np kc) ∧ w'.cell? ⟨N + 1, 0, none⟩ = some (.int .i64 (pn : Int)) ∧ w'.cell? ⟨N + 1, 1, none⟩ = some (.string h) ∧ w'.cell? ⟨gg, og + pn, none⟩ = some (.slice Ag gl cg) ∧ w'.cell? ⟨Bx, 1, none⟩ = some (.slice Ai li ci) ∧ w'.cell? ⟨Bx, 2, none⟩ = some (.slice Ac lc cc)) (HLETS : ∀ W, Below V.heap.size V W → Calls Tryz.prog 13 #[.slice Ag gl cg, .string h] W fun e w' => e = .returned (.bool false) ∧ Below W.heap.size W w') (Q : Exit → Act → World → Prop) (hQp : ∀ c (a : Act) (k : Nat) v w, Q (.panic c) (a.put (some k) v) w → Q (.panic c) a w)
    (hQ : ∀ (x : Nat → Value) (Vy : World), Below V.heap.size V Vy → Q .normal { tmps := #[v0, v1, .pointer (some ⟨N, 0, none⟩), .pointer (some ⟨N + 1, 0, none⟩), v4, v5, v6, v7, .pointer (some ⟨Bp, 0, none⟩), v9, v10, .int .i64 fd, .int .i64 (b : Int), v13, .pointer (some ⟨Bx, 0, none⟩), v15, v16, v17, v18, v19, v20, v21, v22, v23, v24, v25, v26, v27, v28, v29, v30, v31, v32, v33, v34, v35, v36, v37, v38, v39, v40, v41, v42, v43, v44, v45, v46, v47, v48, v49, v50, v51, v52, v53, v54, v55, v56, v57, v58, v59, v60, v61, v62, v63, v64, v65, v66, v67, v68, v69, v70, v71, v72, v73, v74, v75, v76, v77, v78, v79, v80, v81, v82, v83, v84, v85, v86, v87, v88, v89, v90, v91, v92, v93, v94, v95, v96, v97, v98, v99, v100, v101, v102, v103, v104, v105, v106, v107, v108, v109, x 110, x 111, x 112, x 113, x 114, x 115, x 116, x 117, x 118, x 119, x 120, x 121, x 122, x 123, x 124, x 125, x 126, x 127, x 128, x 129, x 130, x 131, x 132, x 133, x 134, x 135, x 136, x 137, x 138, x 139, x 140, x 141, x 142, x 143, x 144, x 145, .bool false, v147, v148, v149, v150, v151, v152, v153, v154, v155, v156, v157, v158, v159, v160, v161, v162, v163, v164, v165, v166, v167, v168, v169, v170, v171, v172, v173, v174, v175, v176, v177, v178, v179, v180, v181, v182, v183, v184, v185, v186, v187, v188, v189, v190, v191, v192, v193, v194, v195, v196, v197, v198, v199, v200, v201, v202, v203, v204, v205, v206, v207, v208, v209, v210, v211, v212, v213, v214, v215, v216, v217, v218], defers := [] } Vy) :
    r19.wp Tryz.prog Q { tmps := #[v0, v1, .pointer (some ⟨N, 0, none⟩), .pointer (some ⟨N + 1, 0, none⟩), v4, v5, v6, v7, .pointer (some ⟨Bp, 0, none⟩), v9, v10, .int .i64 fd, .int .i64 (b : Int), v13, .pointer (some ⟨Bx, 0, none⟩), v15, v16, v17, v18, v19, v20, v21, v22, v23, v24, v25, v26, v27, v28, v29, v30, v31, v32, v33, v34, v35, v36, v37, v38, v39, v40, v41, v42, v43, v44, v45, v46, v47, v48, v49, v50, v51, v52, v53, v54, v55, v56, v57, v58, v59, v60, v61, v62, v63, v64, v65, v66, v67, v68, v69, v70, v71, v72, v73, v74, v75, v76, v77, v78, v79, v80, v81, v82, v83, v84, v85, v86, v87, v88, v89, v90, v91, v92, v93, v94, v95, v96, v97, v98, v99, v100, v101, v102, v103, v104, v105, v106, v107, v108, v109, v110, v111, v112, v113, v114, v115, v116, v117, v118, v119, v120, v121, v122, v123, v124, v125, v126, v127, v128, v129, v130, v131, v132, v133, v134, v135, v136, v137, v138, v139, v140, v141, v142, v143, v144, v145, v146, v147, v148, v149, v150, v151, v152, v153, v154, v155, v156, v157, v158, v159, v160, v161, v162, v163, v164, v165, v166, v167, v168, v169, v170, v171, v172, v173, v174, v175, v176, v177, v178, v179, v180, v181, v182, v183, v184, v185, v186, v187, v188, v189, v190, v191, v192, v193, v194, v195, v196, v197, v198, v199, v200, v201, v202, v203, v204, v205, v206, v207, v208, v209, v210, v211, v212, v213, v214, v215, v216, v217, v218], defers := [] } V := by
  conv => arg 2; whnf
  replace HKR := Lib.hid HKR
  replace hQ := Lib.hid hQ
  replace HLETS := Lib.hid HLETS
  refine wp_region_K 36 (fun w' => w'.cell? ⟨Bp, 2, none⟩ = some (.bool true) ∧ w'.cell? ⟨Bp, 1, none⟩ = some (.int .i64 (qk : Int)) ∧ w'.cell? ⟨N, 3, none⟩ = some (.slice (some ⟨gg, og, none⟩) np kc) ∧ w'.cell? ⟨N + 1, 0, none⟩ = some (.int .i64 (pn : Int)) ∧ w'.cell? ⟨N + 1, 1, none⟩ = some (.string h) ∧ w'.cell? ⟨gg, og + pn, none⟩ = some (.slice Ag gl cg) ∧ w'.cell? ⟨Bx, 1, none⟩ = some (.slice Ai li ci) ∧ w'.cell? ⟨Bx, 2, none⟩ = some (.slice Ac lc cc)) (by kernel_rfl) (fun hcl => ?_)
  have hS : (fun w' : World => w'.cell? ⟨Bp, 2, none⟩ = some (.bool true) ∧ w'.cell? ⟨Bp, 1, none⟩ = some (.int .i64 (qk : Int)) ∧ w'.cell? ⟨N, 3, none⟩ = some (.slice (some ⟨gg, og, none⟩) np kc) ∧ w'.cell? ⟨N + 1, 0, none⟩ = some (.int .i64 (pn : Int)) ∧ w'.cell? ⟨N + 1, 1, none⟩ = some (.string h) ∧ w'.cell? ⟨gg, og + pn, none⟩ = some (.slice Ag gl cg) ∧ w'.cell? ⟨Bx, 1, none⟩ = some (.slice Ai li ci) ∧ w'.cell? ⟨Bx, 2, none⟩ = some (.slice Ac lc cc)) V.drew := HKR.out _ (Below.refl _ _).drew
  refine wpAnyK_take (i := 0) (v := ?_) hcl hS rfl (by kernel_rfl) (fun c a w => hQp c a _ _ w) (by rfl) ?_ (fun hcl2 => ?_)
  rotate_left
  · (intro w hSw; (try dsimp only at hSw); first | (go_simp; done) | (go_simp; with_reducible rfl))
  (try simp only [List.getElem_toArray, List.getElem_cons_succ, List.getElem_cons_zero])
  (try simp only [Act.put, List.setIfInBounds_toArray, List.set_cons_zero, List.set_cons_succ])
  clear hcl; have hcl := hcl2; clear hcl2
  refine wpAnyK_take (i := 1) (v := ?_) hcl hS rfl (by kernel_rfl) (fun c a w => hQp c a _ _ w) (by rfl) ?_ (fun hcl2 => ?_)
  rotate_left
  · (intro w hSw; (try dsimp only at hSw); first | (go_simp; done) | (go_simp; with_reducible rfl))
  (try simp only [List.getElem_toArray, List.getElem_cons_succ, List.getElem_cons_zero])
  (try simp only [Act.put, List.setIfInBounds_toArray, List.set_cons_zero, List.set_cons_succ])
  clear hcl; have hcl := hcl2; clear hcl2
  refine wpAnyK_take (i := 2) (v := ?_) hcl hS rfl (by kernel_rfl) (fun c a w => hQp c a _ _ w) (by rfl) ?_ (fun hcl2 => ?_)
  rotate_left
  · (intro w hSw; (try dsimp only at hSw); first | (go_simp; done) | (go_simp; with_reducible rfl))
  (try simp only [List.getElem_toArray, List.getElem_cons_succ, List.getElem_cons_zero])
  (try simp only [Act.put, List.setIfInBounds_toArray, List.set_cons_zero, List.set_cons_succ])
  clear hcl; have hcl := hcl2; clear hcl2
  refine wpAnyK_take (i := 3) (v := ?_) hcl hS rfl (by kernel_rfl) (fun c a w => hQp c a _ _ w) (by rfl) ?_ (fun hcl2 => ?_)
  rotate_left
  · (intro w hSw; (try dsimp only at hSw); first | (go_simp; done) | (go_simp; with_reducible rfl))
  (try simp only [List.getElem_toArray, List.getElem_cons_succ, List.getElem_cons_zero])
  (try simp only [Act.put, List.setIfInBounds_toArray, List.set_cons_zero, List.set_cons_succ])
  clear hcl; have hcl := hcl2; clear hcl2
  refine wpAnyK_take (i := 4) (v := ?_) hcl hS rfl (by kernel_rfl) (fun c a w => hQp c a _ _ w) (by rfl) ?_ (fun hcl2 => ?_)
  rotate_left
  · (intro w hSw; (try dsimp only at hSw); first | (go_simp; done) | (go_simp; with_reducible rfl))
  (try simp only [List.getElem_toArray, List.getElem_cons_succ, List.getElem_cons_zero])
  (try simp only [Act.put, List.setIfInBounds_toArray, List.set_cons_zero, List.set_cons_succ])
  clear hcl; have hcl := hcl2; clear hcl2
  refine wpAnyK_take (i := 5) (v := ?_) hcl hS rfl (by kernel_rfl) (fun c a w => hQp c a _ _ w) (by rfl) ?_ (fun hcl2 => ?_)
  rotate_left
  · (intro w hSw; (try dsimp only at hSw); first | (go_simp; done) | (go_simp; with_reducible rfl))
  (try simp only [List.getElem_toArray, List.getElem_cons_succ, List.getElem_cons_zero])
  (try simp only [Act.put, List.setIfInBounds_toArray, List.set_cons_zero, List.set_cons_succ])
  clear hcl; have hcl := hcl2; clear hcl2
  refine wpAnyK_take (i := 6) (v := ?_) hcl hS rfl (by kernel_rfl) (fun c a w => hQp c a _ _ w) (by rfl) ?_ (fun hcl2 => ?_)
  rotate_left
  · (intro w hSw; (try dsimp only at hSw); first | (go_simp; done) | (go_simp; with_reducible rfl))
  (try simp only [List.getElem_toArray, List.getElem_cons_succ, List.getElem_cons_zero])
  (try simp only [Act.put, List.setIfInBounds_toArray, List.set_cons_zero, List.set_cons_succ])
  clear hcl; have hcl := hcl2; clear hcl2
  refine wpAnyK_take (i := 7) (v := ?_) hcl hS rfl (by kernel_rfl) (fun c a w => hQp c a _ _ w) (by rfl) ?_ (fun hcl2 => ?_)
  rotate_left
  · (intro w hSw; (try dsimp only at hSw); first | (go_simp; done) | (go_simp; with_reducible rfl))
  (try simp only [List.getElem_toArray, List.getElem_cons_succ, List.getElem_cons_zero])
  (try simp only [Act.put, List.setIfInBounds_toArray, List.set_cons_zero, List.set_cons_succ])
  clear hcl; have hcl := hcl2; clear hcl2
  refine wpAnyK_take (i := 8) (v := ?_) hcl hS rfl (by kernel_rfl) (fun c a w => hQp c a _ _ w) (by rfl) ?_ (fun hcl2 => ?_)
  rotate_left
  · (intro w hSw; (try dsimp only at hSw); first | (go_simp; done) | (go_simp; with_reducible rfl))
  (try simp only [List.getElem_toArray, List.getElem_cons_succ, List.getElem_cons_zero])
  (try simp only [Act.put, List.setIfInBounds_toArray, List.set_cons_zero, List.set_cons_succ])
  clear hcl; have hcl := hcl2; clear hcl2
  refine wpAnyK_take (i := 9) (v := ?_) hcl hS rfl (by kernel_rfl) (fun c a w => hQp c a _ _ w) (by rfl) ?_ (fun hcl2 => ?_)
  rotate_left
  · (intro w hSw; (try dsimp only at hSw); first | (go_simp; done) | (go_simp; with_reducible rfl))
  (try simp only [List.getElem_toArray, List.getElem_cons_succ, List.getElem_cons_zero])
  (try simp only [Act.put, List.setIfInBounds_toArray, List.set_cons_zero, List.set_cons_succ])
  clear hcl; have hcl := hcl2; clear hcl2
  refine wpAnyK_take (i := 10) (v := ?_) hcl hS rfl (by kernel_rfl) (fun c a w => hQp c a _ _ w) (by rfl) ?_ (fun hcl2 => ?_)
  rotate_left
  · (intro w hSw; (try dsimp only at hSw); first | (go_simp; done) | (go_simp; with_reducible rfl))
  (try simp only [List.getElem_toArray, List.getElem_cons_succ, List.getElem_cons_zero])
  (try simp only [Act.put, List.setIfInBounds_toArray, List.set_cons_zero, List.set_cons_succ])
  clear hcl; have hcl := hcl2; clear hcl2
  refine wpAnyK_take (i := 11) (v := ?_) hcl hS rfl (by kernel_rfl) (fun c a w => hQp c a _ _ w) (by rfl) ?_ (fun hcl2 => ?_)
  rotate_left
  · (intro w hSw; (try dsimp only at hSw); first | (go_simp; done) | (go_simp; with_reducible rfl))
  (try simp only [List.getElem_toArray, List.getElem_cons_succ, List.getElem_cons_zero])
  (try simp only [Act.put, List.setIfInBounds_toArray, List.set_cons_zero, List.set_cons_succ])
  clear hcl; have hcl := hcl2; clear hcl2
  refine wpAnyK_take (i := 12) (v := ?_) hcl hS rfl (by kernel_rfl) (fun c a w => hQp c a _ _ w) (by rfl) ?_ (fun hcl2 => ?_)
  rotate_left
  · (intro w hSw; (try dsimp only at hSw); first | (go_simp; done) | (go_simp; with_reducible rfl))
  (try simp only [List.getElem_toArray, List.getElem_cons_succ, List.getElem_cons_zero])
  (try simp only [Act.put, List.setIfInBounds_toArray, List.set_cons_zero, List.set_cons_succ])
  clear hcl; have hcl := hcl2; clear hcl2
  refine wpAnyK_take (i := 13) (v := ?_) hcl hS rfl (by kernel_rfl) (fun c a w => hQp c a _ _ w) (by rfl) ?_ (fun hcl2 => ?_)
  rotate_left
  · (intro w hSw; (try dsimp only at hSw); first | (go_simp; done) | (go_simp; with_reducible rfl))
  (try simp only [List.getElem_toArray, List.getElem_cons_succ, List.getElem_cons_zero])
  (try simp only [Act.put, List.setIfInBounds_toArray, List.set_cons_zero, List.set_cons_succ])
  clear hcl; have hcl := hcl2; clear hcl2
  refine wpAnyK_take (i := 14) (v := ?_) hcl hS rfl (by kernel_rfl) (fun c a w => hQp c a _ _ w) (by rfl) ?_ (fun hcl2 => ?_)
  rotate_left
  · (intro w hSw; (try dsimp only at hSw); first | (go_simp; done) | (go_simp; with_reducible rfl))
  (try simp only [List.getElem_toArray, List.getElem_cons_succ, List.getElem_cons_zero])
  (try simp only [Act.put, List.setIfInBounds_toArray, List.set_cons_zero, List.set_cons_succ])
  clear hcl; have hcl := hcl2; clear hcl2
  refine wpAnyK_take (i := 15) (v := ?_) hcl hS rfl (by kernel_rfl) (fun c a w => hQp c a _ _ w) (by rfl) ?_ (fun hcl2 => ?_)
  rotate_left
  · (intro w hSw; (try dsimp only at hSw); first | (go_simp; done) | (go_simp; with_reducible rfl))
  (try simp only [List.getElem_toArray, List.getElem_cons_succ, List.getElem_cons_zero])
  (try simp only [Act.put, List.setIfInBounds_toArray, List.set_cons_zero, List.set_cons_succ])
  clear hcl; have hcl := hcl2; clear hcl2
  refine wpAnyK_take (i := 16) (v := ?_) hcl hS rfl (by kernel_rfl) (fun c a w => hQp c a _ _ w) (by rfl) ?_ (fun hcl2 => ?_)
  rotate_left
  · (intro w hSw; (try dsimp only at hSw); first | (go_simp; done) | (go_simp; with_reducible rfl))
  (try simp only [List.getElem_toArray, List.getElem_cons_succ, List.getElem_cons_zero])
  (try simp only [Act.put, List.setIfInBounds_toArray, List.set_cons_zero, List.set_cons_succ])
  clear hcl; have hcl := hcl2; clear hcl2
  refine wpAnyK_take (i := 17) (v := ?_) hcl hS rfl (by kernel_rfl) (fun c a w => hQp c a _ _ w) (by rfl) ?_ (fun hcl2 => ?_)
  rotate_left
  · (intro w hSw; (try dsimp only at hSw); first | (go_simp; done) | (go_simp; with_reducible rfl))
  (try simp only [List.getElem_toArray, List.getElem_cons_succ, List.getElem_cons_zero])
  (try simp only [Act.put, List.setIfInBounds_toArray, List.set_cons_zero, List.set_cons_succ])
  clear hcl; have hcl := hcl2; clear hcl2
  refine wpAnyK_take (i := 18) (v := ?_) hcl hS rfl (by kernel_rfl) (fun c a w => hQp c a _ _ w) (by rfl) ?_ (fun hcl2 => ?_)
  rotate_left
  · (intro w hSw; (try dsimp only at hSw); first | (go_simp; done) | (go_simp; with_reducible rfl))
  (try simp only [List.getElem_toArray, List.getElem_cons_succ, List.getElem_cons_zero])
  (try simp only [Act.put, List.setIfInBounds_toArray, List.set_cons_zero, List.set_cons_succ])
  clear hcl; have hcl := hcl2; clear hcl2
  refine wpAnyK_take (i := 19) (v := ?_) hcl hS rfl (by kernel_rfl) (fun c a w => hQp c a _ _ w) (by rfl) ?_ (fun hcl2 => ?_)
  rotate_left
  · (intro w hSw; (try dsimp only at hSw); first | (go_simp; done) | (go_simp; with_reducible rfl))
  (try simp only [List.getElem_toArray, List.getElem_cons_succ, List.getElem_cons_zero])
  (try simp only [Act.put, List.setIfInBounds_toArray, List.set_cons_zero, List.set_cons_succ])
  clear hcl; have hcl := hcl2; clear hcl2
  refine wpAnyK_take (i := 20) (v := ?_) hcl hS rfl (by kernel_rfl) (fun c a w => hQp c a _ _ w) (by rfl) ?_ (fun hcl2 => ?_)
  rotate_left
  · (intro w hSw; (try dsimp only at hSw); first | (go_simp; done) | (go_simp; with_reducible rfl))
  (try simp only [List.getElem_toArray, List.getElem_cons_succ, List.getElem_cons_zero])
  (try simp only [Act.put, List.setIfInBounds_toArray, List.set_cons_zero, List.set_cons_succ])
  clear hcl; have hcl := hcl2; clear hcl2
  clear hS
  refine wpAnyK_one (i := 21) hcl (by kernel_rfl) rfl (by rfl) (fun K hK => ?_)
  go_simp
  go_at_call 13
  refine (HLETS.out _ (Below.refl _ _).drew).mono ?_
  rintro e Vy ⟨rfl, hbz0⟩
  have hbz : Below V.heap.size V Vy := (Below.refl _ _).drew.trans hbz0
  clear hbz0
  refine hK.out _ _ (Or.inr (HKR.out _ hbz)) (fun hcl2 => ?_)
  clear hK K hcl
  have hcl := hcl2
  clear hcl2
  have hS : (fun w' : World => w'.cell? ⟨Bp, 2, none⟩ = some (.bool true) ∧ w'.cell? ⟨Bp, 1, none⟩ = some (.int .i64 (qk : Int)) ∧ w'.cell? ⟨N, 3, none⟩ = some (.slice (some ⟨gg, og, none⟩) np kc) ∧ w'.cell? ⟨N + 1, 0, none⟩ = some (.int .i64 (pn : Int)) ∧ w'.cell? ⟨N + 1, 1, none⟩ = some (.string h) ∧ w'.cell? ⟨gg, og + pn, none⟩ = some (.slice Ag gl cg) ∧ w'.cell? ⟨Bx, 1, none⟩ = some (.slice Ai li ci) ∧ w'.cell? ⟨Bx, 2, none⟩ = some (.slice Ac lc cc)) Vy := HKR.out _ hbz
  (try simp only [Act.put, List.setIfInBounds_toArray, List.set_cons_zero, List.set_cons_succ])
  (try simp only [List.getElem_toArray, List.getElem_cons_succ, List.getElem_cons_zero])
  (try simp only [Act.put, List.setIfInBounds_toArray, List.set_cons_zero, List.set_cons_succ])
  refine wpAnyK_take (i := 22) (v := ?_) hcl hS rfl (by kernel_rfl) (fun c a w => hQp c a _ _ w) (by rfl) ?_ (fun hcl2 => ?_)
  rotate_left
  · (intro w hSw; (try dsimp only at hSw); first | (go_simp; done) | (go_simp; with_reducible rfl))
  (try simp only [List.getElem_toArray, List.getElem_cons_succ, List.getElem_cons_zero])
  (try simp only [Act.put, List.setIfInBounds_toArray, List.set_cons_zero, List.set_cons_succ])
  clear hcl; have hcl := hcl2; clear hcl2
  refine wpAnyK_take (i := 23) (v := ?_) hcl hS rfl (by kernel_rfl) (fun c a w => hQp c a _ _ w) (by rfl) ?_ (fun hcl2 => ?_)
  rotate_left
  · (intro w hSw; (try dsimp only at hSw); first | (go_simp; done) | (go_simp; with_reducible rfl))
  (try simp only [List.getElem_toArray, List.getElem_cons_succ, List.getElem_cons_zero])
  (try simp only [Act.put, List.setIfInBounds_toArray, List.set_cons_zero, List.set_cons_succ])
  clear hcl; have hcl := hcl2; clear hcl2
  refine wpAnyK_passM 8 (i := 24) hcl hS rfl (by kernel_rfl) (fun c a w => hQp c a _ _ w) (by rfl) (fun hcl2 => ?_)
  (try simp only [List.getElem_toArray, List.getElem_cons_succ, List.getElem_cons_zero])
  (try simp only [Act.put, List.setIfInBounds_toArray, List.set_cons_zero, List.set_cons_succ])
  clear hcl; have hcl := hcl2; clear hcl2
  refine wpAnyK_passM 8 (i := 25) hcl hS rfl (by kernel_rfl) (fun c a w => hQp c a _ _ w) (by rfl) (fun hcl2 => ?_)
  (try simp only [List.getElem_toArray, List.getElem_cons_succ, List.getElem_cons_zero])
  (try simp only [Act.put, List.setIfInBounds_toArray, List.set_cons_zero, List.set_cons_succ])
  clear hcl; have hcl := hcl2; clear hcl2
  refine wpAnyK_passM 8 (i := 26) hcl hS rfl (by kernel_rfl) (fun c a w => hQp c a _ _ w) (by rfl) (fun hcl2 => ?_)
  (try simp only [List.getElem_toArray, List.getElem_cons_succ, List.getElem_cons_zero])
  (try simp only [Act.put, List.setIfInBounds_toArray, List.set_cons_zero, List.set_cons_succ])
  clear hcl; have hcl := hcl2; clear hcl2
  refine wpAnyK_passM 8 (i := 27) hcl hS rfl (by kernel_rfl) (fun c a w => hQp c a _ _ w) (by rfl) (fun hcl2 => ?_)
  (try simp only [List.getElem_toArray, List.getElem_cons_succ, List.getElem_cons_zero])
  (try simp only [Act.put, List.setIfInBounds_toArray, List.set_cons_zero, List.set_cons_succ])
  clear hcl; have hcl := hcl2; clear hcl2
  refine wpAnyK_passM 8 (i := 28) hcl hS rfl (by kernel_rfl) (fun c a w => hQp c a _ _ w) (by rfl) (fun hcl2 => ?_)
  (try simp only [List.getElem_toArray, List.getElem_cons_succ, List.getElem_cons_zero])
  (try simp only [Act.put, List.setIfInBounds_toArray, List.set_cons_zero, List.set_cons_succ])
  clear hcl; have hcl := hcl2; clear hcl2
  refine wpAnyK_takeM 8 (i := 29) (v := ?_) hcl hS rfl (by kernel_rfl) (fun c a w => hQp c a _ _ w) (by rfl) ?_ (fun hcl2 => ?_)
  rotate_left
  · (intro w hSw; (try dsimp only at hSw); first | (go_simp; done) | (go_simp; with_reducible rfl))
  (try simp only [List.getElem_toArray, List.getElem_cons_succ, List.getElem_cons_zero])
  (try simp only [Act.put, List.setIfInBounds_toArray, List.set_cons_zero, List.set_cons_succ])
  clear hcl; have hcl := hcl2; clear hcl2
  refine wpAnyK_takeM 8 (i := 30) (v := ?_) hcl hS rfl (by kernel_rfl) (fun c a w => hQp c a _ _ w) (by rfl) ?_ (fun hcl2 => ?_)
  rotate_left
  · (intro w hSw; (try dsimp only at hSw); first | (go_simp; done) | (go_simp; with_reducible rfl))
  (try simp only [List.getElem_toArray, List.getElem_cons_succ, List.getElem_cons_zero])
  (try simp only [Act.put, List.setIfInBounds_toArray, List.set_cons_zero, List.set_cons_succ])
  clear hcl; have hcl := hcl2; clear hcl2
  refine wpAnyK_passM 8 (i := 31) hcl hS rfl (by kernel_rfl) (fun c a w => hQp c a _ _ w) (by rfl) (fun hcl2 => ?_)
  (try simp only [List.getElem_toArray, List.getElem_cons_succ, List.getElem_cons_zero])
  (try simp only [Act.put, List.setIfInBounds_toArray, List.set_cons_zero, List.set_cons_succ])
  clear hcl; have hcl := hcl2; clear hcl2
  refine wpAnyK_passM 8 (i := 32) hcl hS rfl (by kernel_rfl) (fun c a w => hQp c a _ _ w) (by rfl) (fun hcl2 => ?_)
  (try simp only [List.getElem_toArray, List.getElem_cons_succ, List.getElem_cons_zero])
  (try simp only [Act.put, List.setIfInBounds_toArray, List.set_cons_zero, List.set_cons_succ])
  clear hcl; have hcl := hcl2; clear hcl2
  refine wpAnyK_passM 8 (i := 33) hcl hS rfl (by kernel_rfl) (fun c a w => hQp c a _ _ w) (by rfl) (fun hcl2 => ?_)
  (try simp only [List.getElem_toArray, List.getElem_cons_succ, List.getElem_cons_zero])
  (try simp only [Act.put, List.setIfInBounds_toArray, List.set_cons_zero, List.set_cons_succ])
  clear hcl; have hcl := hcl2; clear hcl2
  refine wpAnyK_passM 8 (i := 34) hcl hS rfl (by kernel_rfl) (fun c a w => hQp c a _ _ w) (by rfl) (fun hcl2 => ?_)
  (try simp only [List.getElem_toArray, List.getElem_cons_succ, List.getElem_cons_zero])
  (try simp only [Act.put, List.setIfInBounds_toArray, List.set_cons_zero, List.set_cons_succ])
  clear hcl; have hcl := hcl2; clear hcl2
  refine wpAnyK_passM 8 (i := 35) hcl hS rfl (by kernel_rfl) (fun c a w => hQp c a _ _ w) (by rfl) (fun hcl2 => ?_)
  (try simp only [List.getElem_toArray, List.getElem_cons_succ, List.getElem_cons_zero])
  (try simp only [Act.put, List.setIfInBounds_toArray, List.set_cons_zero, List.set_cons_succ])
  clear hcl; have hcl := hcl2; clear hcl2
  clear hS
  refine wpAnyK_one (i := 36) hcl (by kernel_rfl) rfl (by rfl) (fun K hK => ?_)
  go_simp
  refine hK.out _ _ (Or.inl (by kernel_rfl)) (fun hcl2 => ?_)
  clear hK K hcl hcl2
  refine wpAnyK_done (by kernel_rfl) ?_ _
  (try simp only [Act.put, List.setIfInBounds_toArray, List.set_cons_zero, List.set_cons_succ])
  exact fits_frame hQ.out hbz
theorem r19_case4 (N Bp Bx b : Nat) (fd : Int) (qk np kc pn gg og gl cg li ci lc cc : Nat) (h : ByteArray) (Ag Ai Ac : Option Addr) (v0 v1 v4 v5 v6 v7 v9 v10 v13 v15 v16 v17 v18 v19 v20 v21 v22 v23 v24 v25 v26 v27 v28 v29 v30 v31 v32 v33 v34 v35 v36 v37 v38 v39 v40 v41 v42 v43 v44 v45 v46 v47 v48 v49 v50 v51 v52 v53 v54 v55 v56 v57 v58 v59 v60 v61 v62 v63 v64 v65 v66 v67 v68 v69 v70 v71 v72 v73 v74 v75 v76 v77 v78 v79 v80 v81 v82 v83 v84 v85 v86 v87 v88 v89 v90 v91 v92 v93 v94 v95 v96 v97 v98 v99 v100 v101 v102 v103 v104 v105 v106 v107 v108 v109 v110 v111 v112 v113 v114 v115 v116 v117 v118 v119 v120 v121 v122 v123 v124 v125 v126 v127 v128 v129 v130 v131 v132 v133 v134 v135 v136 v137 v138 v139 v140 v141 v142 v143 v144 v145 v146 v147 v148 v149 v150 v151 v152 v153 v154 v155 v156 v157 v158 v159 v160 v161 v162 v163 v164 v165 v166 v167 v168 v169 v170 v171 v172 v173 v174 v175 v176 v177 v178 v179 v180 v181 v182 v183 v184 v185 v186 v187 v188 v189 v190 v191 v192 v193 v194 v195 v196 v197 v198 v199 v200 v201 v202 v203 v204 v205 v206 v207 v208 v209 v210 v211 v212 v213 v214 v215 v216 v217 v218 : Value) (V : World) (p0 : (0 : Int) ≤ (pn : Int)) (p1 : (pn : Int) < (np : Int)) (tb : ((b : Int) == (qk : Int)) = true) (tb' : (b == qk) = true) (tf : decide (fd < 0) = true) (HKR : ∀ w', Below V.heap.size V w' → w'.cell? ⟨Bp, 2, none⟩ = some (.bool true) ∧ w'.cell? ⟨Bp, 1, none⟩ = some (.int .i64 (qk : Int)) ∧ w'.cell? ⟨N, 3, none⟩ = some (.slice (some ⟨gg, og, none⟩) np kc) ∧ w'.cell? ⟨N + 1, 0, none⟩ = some (.int .i64 (pn : Int)) ∧ w'.cell? ⟨N + 1, 1, none⟩ = some (.string h) ∧ w'.cell? ⟨gg, og + pn, none⟩ = some (.slice Ag gl cg) ∧ w'.cell? ⟨Bx, 1, none⟩ = some (.slice Ai li ci) ∧ w'.cell? ⟨Bx, 2, none⟩ = some (.slice Ac lc cc)) (HLETS : ∀ W, Below V.heap.size V W → Calls Tryz.prog 13 #[.slice Ag gl cg, .string h] W fun e w' => e = .returned (.bool true) ∧ Below W.heap.size W w') (HINN : ∀ W, Below V.heap.size V W → Calls Tryz.prog 14 #[.slice Ai li ci, .int .i64 (pn : Int)] W fun e' w' => e' = .returned (.bool false) ∧ w' = W) (Q : Exit → Act → World → Prop) (hQp : ∀ c (a : Act) (k : Nat) v w, Q (.panic c) (a.put (some k) v) w → Q (.panic c) a w)
    (hQ : ∀ (x : Nat → Value) (Vy : World), Below V.heap.size V Vy → Q .normal { tmps := #[v0, v1, .pointer (some ⟨N, 0, none⟩), .pointer (some ⟨N + 1, 0, none⟩), v4, v5, v6, v7, .pointer (some ⟨Bp, 0, none⟩), v9, v10, .int .i64 fd, .int .i64 (b : Int), v13, .pointer (some ⟨Bx, 0, none⟩), v15, v16, v17, v18, v19, v20, v21, v22, v23, v24, v25, v26, v27, v28, v29, v30, v31, v32, v33, v34, v35, v36, v37, v38, v39, v40, v41, v42, v43, v44, v45, v46, v47, v48, v49, v50, v51, v52, v53, v54, v55, v56, v57, v58, v59, v60, v61, v62, v63, v64, v65, v66, v67, v68, v69, v70, v71, v72, v73, v74, v75, v76, v77, v78, v79, v80, v81, v82, v83, v84, v85, v86, v87, v88, v89, v90, v91, v92, v93, v94, v95, v96, v97, v98, v99, v100, v101, v102, v103, v104, v105, v106, v107, v108, v109, x 110, x 111, x 112, x 113, x 114, x 115, x 116, x 117, x 118, x 119, x 120, x 121, x 122, x 123, x 124, x 125, x 126, x 127, x 128, x 129, x 130, x 131, x 132, x 133, x 134, x 135, x 136, x 137, x 138, x 139, x 140, x 141, x 142, x 143, x 144, x 145, .bool false, v147, v148, v149, v150, v151, v152, v153, v154, v155, v156, v157, v158, v159, v160, v161, v162, v163, v164, v165, v166, v167, v168, v169, v170, v171, v172, v173, v174, v175, v176, v177, v178, v179, v180, v181, v182, v183, v184, v185, v186, v187, v188, v189, v190, v191, v192, v193, v194, v195, v196, v197, v198, v199, v200, v201, v202, v203, v204, v205, v206, v207, v208, v209, v210, v211, v212, v213, v214, v215, v216, v217, v218], defers := [] } Vy) :
    r19.wp Tryz.prog Q { tmps := #[v0, v1, .pointer (some ⟨N, 0, none⟩), .pointer (some ⟨N + 1, 0, none⟩), v4, v5, v6, v7, .pointer (some ⟨Bp, 0, none⟩), v9, v10, .int .i64 fd, .int .i64 (b : Int), v13, .pointer (some ⟨Bx, 0, none⟩), v15, v16, v17, v18, v19, v20, v21, v22, v23, v24, v25, v26, v27, v28, v29, v30, v31, v32, v33, v34, v35, v36, v37, v38, v39, v40, v41, v42, v43, v44, v45, v46, v47, v48, v49, v50, v51, v52, v53, v54, v55, v56, v57, v58, v59, v60, v61, v62, v63, v64, v65, v66, v67, v68, v69, v70, v71, v72, v73, v74, v75, v76, v77, v78, v79, v80, v81, v82, v83, v84, v85, v86, v87, v88, v89, v90, v91, v92, v93, v94, v95, v96, v97, v98, v99, v100, v101, v102, v103, v104, v105, v106, v107, v108, v109, v110, v111, v112, v113, v114, v115, v116, v117, v118, v119, v120, v121, v122, v123, v124, v125, v126, v127, v128, v129, v130, v131, v132, v133, v134, v135, v136, v137, v138, v139, v140, v141, v142, v143, v144, v145, v146, v147, v148, v149, v150, v151, v152, v153, v154, v155, v156, v157, v158, v159, v160, v161, v162, v163, v164, v165, v166, v167, v168, v169, v170, v171, v172, v173, v174, v175, v176, v177, v178, v179, v180, v181, v182, v183, v184, v185, v186, v187, v188, v189, v190, v191, v192, v193, v194, v195, v196, v197, v198, v199, v200, v201, v202, v203, v204, v205, v206, v207, v208, v209, v210, v211, v212, v213, v214, v215, v216, v217, v218], defers := [] } V := by
  conv => arg 2; whnf
  replace HKR := Lib.hid HKR
  replace hQ := Lib.hid hQ
  replace HLETS := Lib.hid HLETS
  replace HINN := Lib.hid HINN
  refine wp_region_K 36 (fun w' => w'.cell? ⟨Bp, 2, none⟩ = some (.bool true) ∧ w'.cell? ⟨Bp, 1, none⟩ = some (.int .i64 (qk : Int)) ∧ w'.cell? ⟨N, 3, none⟩ = some (.slice (some ⟨gg, og, none⟩) np kc) ∧ w'.cell? ⟨N + 1, 0, none⟩ = some (.int .i64 (pn : Int)) ∧ w'.cell? ⟨N + 1, 1, none⟩ = some (.string h) ∧ w'.cell? ⟨gg, og + pn, none⟩ = some (.slice Ag gl cg) ∧ w'.cell? ⟨Bx, 1, none⟩ = some (.slice Ai li ci) ∧ w'.cell? ⟨Bx, 2, none⟩ = some (.slice Ac lc cc)) (by kernel_rfl) (fun hcl => ?_)
  have hS : (fun w' : World => w'.cell? ⟨Bp, 2, none⟩ = some (.bool true) ∧ w'.cell? ⟨Bp, 1, none⟩ = some (.int .i64 (qk : Int)) ∧ w'.cell? ⟨N, 3, none⟩ = some (.slice (some ⟨gg, og, none⟩) np kc) ∧ w'.cell? ⟨N + 1, 0, none⟩ = some (.int .i64 (pn : Int)) ∧ w'.cell? ⟨N + 1, 1, none⟩ = some (.string h) ∧ w'.cell? ⟨gg, og + pn, none⟩ = some (.slice Ag gl cg) ∧ w'.cell? ⟨Bx, 1, none⟩ = some (.slice Ai li ci) ∧ w'.cell? ⟨Bx, 2, none⟩ = some (.slice Ac lc cc)) V.drew := HKR.out _ (Below.refl _ _).drew
  refine wpAnyK_take (i := 0) (v := ?_) hcl hS rfl (by kernel_rfl) (fun c a w => hQp c a _ _ w) (by rfl) ?_ (fun hcl2 => ?_)
  rotate_left
  · (intro w hSw; (try dsimp only at hSw); first | (go_simp; done) | (go_simp; with_reducible rfl))
  (try simp only [List.getElem_toArray, List.getElem_cons_succ, List.getElem_cons_zero])
  (try simp only [Act.put, List.setIfInBounds_toArray, List.set_cons_zero, List.set_cons_succ])
  clear hcl; have hcl := hcl2; clear hcl2
  refine wpAnyK_take (i := 1) (v := ?_) hcl hS rfl (by kernel_rfl) (fun c a w => hQp c a _ _ w) (by rfl) ?_ (fun hcl2 => ?_)
  rotate_left
  · (intro w hSw; (try dsimp only at hSw); first | (go_simp; done) | (go_simp; with_reducible rfl))
  (try simp only [List.getElem_toArray, List.getElem_cons_succ, List.getElem_cons_zero])
  (try simp only [Act.put, List.setIfInBounds_toArray, List.set_cons_zero, List.set_cons_succ])
  clear hcl; have hcl := hcl2; clear hcl2
  refine wpAnyK_take (i := 2) (v := ?_) hcl hS rfl (by kernel_rfl) (fun c a w => hQp c a _ _ w) (by rfl) ?_ (fun hcl2 => ?_)
  rotate_left
  · (intro w hSw; (try dsimp only at hSw); first | (go_simp; done) | (go_simp; with_reducible rfl))
  (try simp only [List.getElem_toArray, List.getElem_cons_succ, List.getElem_cons_zero])
  (try simp only [Act.put, List.setIfInBounds_toArray, List.set_cons_zero, List.set_cons_succ])
  clear hcl; have hcl := hcl2; clear hcl2
  refine wpAnyK_take (i := 3) (v := ?_) hcl hS rfl (by kernel_rfl) (fun c a w => hQp c a _ _ w) (by rfl) ?_ (fun hcl2 => ?_)
  rotate_left
  · (intro w hSw; (try dsimp only at hSw); first | (go_simp; done) | (go_simp; with_reducible rfl))
  (try simp only [List.getElem_toArray, List.getElem_cons_succ, List.getElem_cons_zero])
  (try simp only [Act.put, List.setIfInBounds_toArray, List.set_cons_zero, List.set_cons_succ])
  clear hcl; have hcl := hcl2; clear hcl2
  refine wpAnyK_take (i := 4) (v := ?_) hcl hS rfl (by kernel_rfl) (fun c a w => hQp c a _ _ w) (by rfl) ?_ (fun hcl2 => ?_)
  rotate_left
  · (intro w hSw; (try dsimp only at hSw); first | (go_simp; done) | (go_simp; with_reducible rfl))
  (try simp only [List.getElem_toArray, List.getElem_cons_succ, List.getElem_cons_zero])
  (try simp only [Act.put, List.setIfInBounds_toArray, List.set_cons_zero, List.set_cons_succ])
  clear hcl; have hcl := hcl2; clear hcl2
  refine wpAnyK_take (i := 5) (v := ?_) hcl hS rfl (by kernel_rfl) (fun c a w => hQp c a _ _ w) (by rfl) ?_ (fun hcl2 => ?_)
  rotate_left
  · (intro w hSw; (try dsimp only at hSw); first | (go_simp; done) | (go_simp; with_reducible rfl))
  (try simp only [List.getElem_toArray, List.getElem_cons_succ, List.getElem_cons_zero])
  (try simp only [Act.put, List.setIfInBounds_toArray, List.set_cons_zero, List.set_cons_succ])
  clear hcl; have hcl := hcl2; clear hcl2
  refine wpAnyK_take (i := 6) (v := ?_) hcl hS rfl (by kernel_rfl) (fun c a w => hQp c a _ _ w) (by rfl) ?_ (fun hcl2 => ?_)
  rotate_left
  · (intro w hSw; (try dsimp only at hSw); first | (go_simp; done) | (go_simp; with_reducible rfl))
  (try simp only [List.getElem_toArray, List.getElem_cons_succ, List.getElem_cons_zero])
  (try simp only [Act.put, List.setIfInBounds_toArray, List.set_cons_zero, List.set_cons_succ])
  clear hcl; have hcl := hcl2; clear hcl2
  refine wpAnyK_take (i := 7) (v := ?_) hcl hS rfl (by kernel_rfl) (fun c a w => hQp c a _ _ w) (by rfl) ?_ (fun hcl2 => ?_)
  rotate_left
  · (intro w hSw; (try dsimp only at hSw); first | (go_simp; done) | (go_simp; with_reducible rfl))
  (try simp only [List.getElem_toArray, List.getElem_cons_succ, List.getElem_cons_zero])
  (try simp only [Act.put, List.setIfInBounds_toArray, List.set_cons_zero, List.set_cons_succ])
  clear hcl; have hcl := hcl2; clear hcl2
  refine wpAnyK_take (i := 8) (v := ?_) hcl hS rfl (by kernel_rfl) (fun c a w => hQp c a _ _ w) (by rfl) ?_ (fun hcl2 => ?_)
  rotate_left
  · (intro w hSw; (try dsimp only at hSw); first | (go_simp; done) | (go_simp; with_reducible rfl))
  (try simp only [List.getElem_toArray, List.getElem_cons_succ, List.getElem_cons_zero])
  (try simp only [Act.put, List.setIfInBounds_toArray, List.set_cons_zero, List.set_cons_succ])
  clear hcl; have hcl := hcl2; clear hcl2
  refine wpAnyK_take (i := 9) (v := ?_) hcl hS rfl (by kernel_rfl) (fun c a w => hQp c a _ _ w) (by rfl) ?_ (fun hcl2 => ?_)
  rotate_left
  · (intro w hSw; (try dsimp only at hSw); first | (go_simp; done) | (go_simp; with_reducible rfl))
  (try simp only [List.getElem_toArray, List.getElem_cons_succ, List.getElem_cons_zero])
  (try simp only [Act.put, List.setIfInBounds_toArray, List.set_cons_zero, List.set_cons_succ])
  clear hcl; have hcl := hcl2; clear hcl2
  refine wpAnyK_take (i := 10) (v := ?_) hcl hS rfl (by kernel_rfl) (fun c a w => hQp c a _ _ w) (by rfl) ?_ (fun hcl2 => ?_)
  rotate_left
  · (intro w hSw; (try dsimp only at hSw); first | (go_simp; done) | (go_simp; with_reducible rfl))
  (try simp only [List.getElem_toArray, List.getElem_cons_succ, List.getElem_cons_zero])
  (try simp only [Act.put, List.setIfInBounds_toArray, List.set_cons_zero, List.set_cons_succ])
  clear hcl; have hcl := hcl2; clear hcl2
  refine wpAnyK_take (i := 11) (v := ?_) hcl hS rfl (by kernel_rfl) (fun c a w => hQp c a _ _ w) (by rfl) ?_ (fun hcl2 => ?_)
  rotate_left
  · (intro w hSw; (try dsimp only at hSw); first | (go_simp; done) | (go_simp; with_reducible rfl))
  (try simp only [List.getElem_toArray, List.getElem_cons_succ, List.getElem_cons_zero])
  (try simp only [Act.put, List.setIfInBounds_toArray, List.set_cons_zero, List.set_cons_succ])
  clear hcl; have hcl := hcl2; clear hcl2
  refine wpAnyK_take (i := 12) (v := ?_) hcl hS rfl (by kernel_rfl) (fun c a w => hQp c a _ _ w) (by rfl) ?_ (fun hcl2 => ?_)
  rotate_left
  · (intro w hSw; (try dsimp only at hSw); first | (go_simp; done) | (go_simp; with_reducible rfl))
  (try simp only [List.getElem_toArray, List.getElem_cons_succ, List.getElem_cons_zero])
  (try simp only [Act.put, List.setIfInBounds_toArray, List.set_cons_zero, List.set_cons_succ])
  clear hcl; have hcl := hcl2; clear hcl2
  refine wpAnyK_take (i := 13) (v := ?_) hcl hS rfl (by kernel_rfl) (fun c a w => hQp c a _ _ w) (by rfl) ?_ (fun hcl2 => ?_)
  rotate_left
  · (intro w hSw; (try dsimp only at hSw); first | (go_simp; done) | (go_simp; with_reducible rfl))
  (try simp only [List.getElem_toArray, List.getElem_cons_succ, List.getElem_cons_zero])
  (try simp only [Act.put, List.setIfInBounds_toArray, List.set_cons_zero, List.set_cons_succ])
  clear hcl; have hcl := hcl2; clear hcl2
  refine wpAnyK_take (i := 14) (v := ?_) hcl hS rfl (by kernel_rfl) (fun c a w => hQp c a _ _ w) (by rfl) ?_ (fun hcl2 => ?_)
  rotate_left
  · (intro w hSw; (try dsimp only at hSw); first | (go_simp; done) | (go_simp; with_reducible rfl))
  (try simp only [List.getElem_toArray, List.getElem_cons_succ, List.getElem_cons_zero])
  (try simp only [Act.put, List.setIfInBounds_toArray, List.set_cons_zero, List.set_cons_succ])
  clear hcl; have hcl := hcl2; clear hcl2
  refine wpAnyK_take (i := 15) (v := ?_) hcl hS rfl (by kernel_rfl) (fun c a w => hQp c a _ _ w) (by rfl) ?_ (fun hcl2 => ?_)
  rotate_left
  · (intro w hSw; (try dsimp only at hSw); first | (go_simp; done) | (go_simp; with_reducible rfl))
  (try simp only [List.getElem_toArray, List.getElem_cons_succ, List.getElem_cons_zero])
  (try simp only [Act.put, List.setIfInBounds_toArray, List.set_cons_zero, List.set_cons_succ])
  clear hcl; have hcl := hcl2; clear hcl2
  refine wpAnyK_take (i := 16) (v := ?_) hcl hS rfl (by kernel_rfl) (fun c a w => hQp c a _ _ w) (by rfl) ?_ (fun hcl2 => ?_)
  rotate_left
  · (intro w hSw; (try dsimp only at hSw); first | (go_simp; done) | (go_simp; with_reducible rfl))
  (try simp only [List.getElem_toArray, List.getElem_cons_succ, List.getElem_cons_zero])
  (try simp only [Act.put, List.setIfInBounds_toArray, List.set_cons_zero, List.set_cons_succ])
  clear hcl; have hcl := hcl2; clear hcl2
  refine wpAnyK_take (i := 17) (v := ?_) hcl hS rfl (by kernel_rfl) (fun c a w => hQp c a _ _ w) (by rfl) ?_ (fun hcl2 => ?_)
  rotate_left
  · (intro w hSw; (try dsimp only at hSw); first | (go_simp; done) | (go_simp; with_reducible rfl))
  (try simp only [List.getElem_toArray, List.getElem_cons_succ, List.getElem_cons_zero])
  (try simp only [Act.put, List.setIfInBounds_toArray, List.set_cons_zero, List.set_cons_succ])
  clear hcl; have hcl := hcl2; clear hcl2
  refine wpAnyK_take (i := 18) (v := ?_) hcl hS rfl (by kernel_rfl) (fun c a w => hQp c a _ _ w) (by rfl) ?_ (fun hcl2 => ?_)
  rotate_left
  · (intro w hSw; (try dsimp only at hSw); first | (go_simp; done) | (go_simp; with_reducible rfl))
  (try simp only [List.getElem_toArray, List.getElem_cons_succ, List.getElem_cons_zero])
  (try simp only [Act.put, List.setIfInBounds_toArray, List.set_cons_zero, List.set_cons_succ])
  clear hcl; have hcl := hcl2; clear hcl2
  refine wpAnyK_take (i := 19) (v := ?_) hcl hS rfl (by kernel_rfl) (fun c a w => hQp c a _ _ w) (by rfl) ?_ (fun hcl2 => ?_)
  rotate_left
  · (intro w hSw; (try dsimp only at hSw); first | (go_simp; done) | (go_simp; with_reducible rfl))
  (try simp only [List.getElem_toArray, List.getElem_cons_succ, List.getElem_cons_zero])
  (try simp only [Act.put, List.setIfInBounds_toArray, List.set_cons_zero, List.set_cons_succ])
  clear hcl; have hcl := hcl2; clear hcl2
  refine wpAnyK_take (i := 20) (v := ?_) hcl hS rfl (by kernel_rfl) (fun c a w => hQp c a _ _ w) (by rfl) ?_ (fun hcl2 => ?_)
  rotate_left
  · (intro w hSw; (try dsimp only at hSw); first | (go_simp; done) | (go_simp; with_reducible rfl))
  (try simp only [List.getElem_toArray, List.getElem_cons_succ, List.getElem_cons_zero])
  (try simp only [Act.put, List.setIfInBounds_toArray, List.set_cons_zero, List.set_cons_succ])
  clear hcl; have hcl := hcl2; clear hcl2
  clear hS
  refine wpAnyK_one (i := 21) hcl (by kernel_rfl) rfl (by rfl) (fun K hK => ?_)
  go_simp
  go_at_call 13
  refine (HLETS.out _ (Below.refl _ _).drew).mono ?_
  rintro e Vy ⟨rfl, hbz0⟩
  have hbz : Below V.heap.size V Vy := (Below.refl _ _).drew.trans hbz0
  clear hbz0
  refine hK.out _ _ (Or.inr (HKR.out _ hbz)) (fun hcl2 => ?_)
  clear hK K hcl
  have hcl := hcl2
  clear hcl2
  have hS : (fun w' : World => w'.cell? ⟨Bp, 2, none⟩ = some (.bool true) ∧ w'.cell? ⟨Bp, 1, none⟩ = some (.int .i64 (qk : Int)) ∧ w'.cell? ⟨N, 3, none⟩ = some (.slice (some ⟨gg, og, none⟩) np kc) ∧ w'.cell? ⟨N + 1, 0, none⟩ = some (.int .i64 (pn : Int)) ∧ w'.cell? ⟨N + 1, 1, none⟩ = some (.string h) ∧ w'.cell? ⟨gg, og + pn, none⟩ = some (.slice Ag gl cg) ∧ w'.cell? ⟨Bx, 1, none⟩ = some (.slice Ai li ci) ∧ w'.cell? ⟨Bx, 2, none⟩ = some (.slice Ac lc cc)) Vy := HKR.out _ hbz
  (try simp only [Act.put, List.setIfInBounds_toArray, List.set_cons_zero, List.set_cons_succ])
  (try simp only [List.getElem_toArray, List.getElem_cons_succ, List.getElem_cons_zero])
  (try simp only [Act.put, List.setIfInBounds_toArray, List.set_cons_zero, List.set_cons_succ])
  refine wpAnyK_take (i := 22) (v := ?_) hcl hS rfl (by kernel_rfl) (fun c a w => hQp c a _ _ w) (by rfl) ?_ (fun hcl2 => ?_)
  rotate_left
  · (intro w hSw; (try dsimp only at hSw); first | (go_simp; done) | (go_simp; with_reducible rfl))
  (try simp only [List.getElem_toArray, List.getElem_cons_succ, List.getElem_cons_zero])
  (try simp only [Act.put, List.setIfInBounds_toArray, List.set_cons_zero, List.set_cons_succ])
  clear hcl; have hcl := hcl2; clear hcl2
  refine wpAnyK_take (i := 23) (v := ?_) hcl hS rfl (by kernel_rfl) (fun c a w => hQp c a _ _ w) (by rfl) ?_ (fun hcl2 => ?_)
  rotate_left
  · (intro w hSw; (try dsimp only at hSw); first | (go_simp; done) | (go_simp; with_reducible rfl))
  (try simp only [List.getElem_toArray, List.getElem_cons_succ, List.getElem_cons_zero])
  (try simp only [Act.put, List.setIfInBounds_toArray, List.set_cons_zero, List.set_cons_succ])
  clear hcl; have hcl := hcl2; clear hcl2
  refine wpAnyK_takeM 8 (i := 24) (v := ?_) hcl hS rfl (by kernel_rfl) (fun c a w => hQp c a _ _ w) (by rfl) ?_ (fun hcl2 => ?_)
  rotate_left
  · (intro w hSw; (try dsimp only at hSw); first | (go_simp; done) | (go_simp; with_reducible rfl))
  (try simp only [List.getElem_toArray, List.getElem_cons_succ, List.getElem_cons_zero])
  (try simp only [Act.put, List.setIfInBounds_toArray, List.set_cons_zero, List.set_cons_succ])
  clear hcl; have hcl := hcl2; clear hcl2
  refine wpAnyK_takeM 8 (i := 25) (v := ?_) hcl hS rfl (by kernel_rfl) (fun c a w => hQp c a _ _ w) (by rfl) ?_ (fun hcl2 => ?_)
  rotate_left
  · (intro w hSw; (try dsimp only at hSw); first | (go_simp; done) | (go_simp; with_reducible rfl))
  (try simp only [List.getElem_toArray, List.getElem_cons_succ, List.getElem_cons_zero])
  (try simp only [Act.put, List.setIfInBounds_toArray, List.set_cons_zero, List.set_cons_succ])
  clear hcl; have hcl := hcl2; clear hcl2
  refine wpAnyK_takeM 8 (i := 26) (v := ?_) hcl hS rfl (by kernel_rfl) (fun c a w => hQp c a _ _ w) (by rfl) ?_ (fun hcl2 => ?_)
  rotate_left
  · (intro w hSw; (try dsimp only at hSw); first | (go_simp; done) | (go_simp; with_reducible rfl))
  (try simp only [List.getElem_toArray, List.getElem_cons_succ, List.getElem_cons_zero])
  (try simp only [Act.put, List.setIfInBounds_toArray, List.set_cons_zero, List.set_cons_succ])
  clear hcl; have hcl := hcl2; clear hcl2
  refine wpAnyK_takeM 8 (i := 27) (v := ?_) hcl hS rfl (by kernel_rfl) (fun c a w => hQp c a _ _ w) (by rfl) ?_ (fun hcl2 => ?_)
  rotate_left
  · (intro w hSw; (try dsimp only at hSw); first | (go_simp; done) | (go_simp; with_reducible rfl))
  (try simp only [List.getElem_toArray, List.getElem_cons_succ, List.getElem_cons_zero])
  (try simp only [Act.put, List.setIfInBounds_toArray, List.set_cons_zero, List.set_cons_succ])
  clear hcl; have hcl := hcl2; clear hcl2
  clear hS
  refine wpAnyK_one (i := 28) hcl (by kernel_rfl) rfl (by rfl) (fun K hK => ?_)
  go_simp
  go_at_call 14
  refine (HINN.out _ hbz).mono ?_
  rintro e w' ⟨rfl, he⟩
  have he' := he.symm
  subst he'
  clear he
  refine hK.out _ _ (Or.inr (HKR.out _ hbz)) (fun hcl2 => ?_)
  clear hK K hcl
  have hcl := hcl2
  clear hcl2
  have hS : (fun w' : World => w'.cell? ⟨Bp, 2, none⟩ = some (.bool true) ∧ w'.cell? ⟨Bp, 1, none⟩ = some (.int .i64 (qk : Int)) ∧ w'.cell? ⟨N, 3, none⟩ = some (.slice (some ⟨gg, og, none⟩) np kc) ∧ w'.cell? ⟨N + 1, 0, none⟩ = some (.int .i64 (pn : Int)) ∧ w'.cell? ⟨N + 1, 1, none⟩ = some (.string h) ∧ w'.cell? ⟨gg, og + pn, none⟩ = some (.slice Ag gl cg) ∧ w'.cell? ⟨Bx, 1, none⟩ = some (.slice Ai li ci) ∧ w'.cell? ⟨Bx, 2, none⟩ = some (.slice Ac lc cc)) Vy := HKR.out _ hbz
  (try simp only [Act.put, List.setIfInBounds_toArray, List.set_cons_zero, List.set_cons_succ])
  (try simp only [List.getElem_toArray, List.getElem_cons_succ, List.getElem_cons_zero])
  (try simp only [Act.put, List.setIfInBounds_toArray, List.set_cons_zero, List.set_cons_succ])
  refine wpAnyK_takeM 8 (i := 29) (v := ?_) hcl hS rfl (by kernel_rfl) (fun c a w => hQp c a _ _ w) (by rfl) ?_ (fun hcl2 => ?_)
  rotate_left
  · (intro w hSw; (try dsimp only at hSw); first | (go_simp; done) | (go_simp; with_reducible rfl))
  (try simp only [List.getElem_toArray, List.getElem_cons_succ, List.getElem_cons_zero])
  (try simp only [Act.put, List.setIfInBounds_toArray, List.set_cons_zero, List.set_cons_succ])
  clear hcl; have hcl := hcl2; clear hcl2
  refine wpAnyK_takeM 8 (i := 30) (v := ?_) hcl hS rfl (by kernel_rfl) (fun c a w => hQp c a _ _ w) (by rfl) ?_ (fun hcl2 => ?_)
  rotate_left
  · (intro w hSw; (try dsimp only at hSw); first | (go_simp; done) | (go_simp; with_reducible rfl))
  (try simp only [List.getElem_toArray, List.getElem_cons_succ, List.getElem_cons_zero])
  (try simp only [Act.put, List.setIfInBounds_toArray, List.set_cons_zero, List.set_cons_succ])
  clear hcl; have hcl := hcl2; clear hcl2
  refine wpAnyK_passM 8 (i := 31) hcl hS rfl (by kernel_rfl) (fun c a w => hQp c a _ _ w) (by rfl) (fun hcl2 => ?_)
  (try simp only [List.getElem_toArray, List.getElem_cons_succ, List.getElem_cons_zero])
  (try simp only [Act.put, List.setIfInBounds_toArray, List.set_cons_zero, List.set_cons_succ])
  clear hcl; have hcl := hcl2; clear hcl2
  refine wpAnyK_passM 8 (i := 32) hcl hS rfl (by kernel_rfl) (fun c a w => hQp c a _ _ w) (by rfl) (fun hcl2 => ?_)
  (try simp only [List.getElem_toArray, List.getElem_cons_succ, List.getElem_cons_zero])
  (try simp only [Act.put, List.setIfInBounds_toArray, List.set_cons_zero, List.set_cons_succ])
  clear hcl; have hcl := hcl2; clear hcl2
  refine wpAnyK_passM 8 (i := 33) hcl hS rfl (by kernel_rfl) (fun c a w => hQp c a _ _ w) (by rfl) (fun hcl2 => ?_)
  (try simp only [List.getElem_toArray, List.getElem_cons_succ, List.getElem_cons_zero])
  (try simp only [Act.put, List.setIfInBounds_toArray, List.set_cons_zero, List.set_cons_succ])
  clear hcl; have hcl := hcl2; clear hcl2
  refine wpAnyK_passM 8 (i := 34) hcl hS rfl (by kernel_rfl) (fun c a w => hQp c a _ _ w) (by rfl) (fun hcl2 => ?_)
  (try simp only [List.getElem_toArray, List.getElem_cons_succ, List.getElem_cons_zero])
  (try simp only [Act.put, List.setIfInBounds_toArray, List.set_cons_zero, List.set_cons_succ])
  clear hcl; have hcl := hcl2; clear hcl2
  refine wpAnyK_passM 8 (i := 35) hcl hS rfl (by kernel_rfl) (fun c a w => hQp c a _ _ w) (by rfl) (fun hcl2 => ?_)
  (try simp only [List.getElem_toArray, List.getElem_cons_succ, List.getElem_cons_zero])
  (try simp only [Act.put, List.setIfInBounds_toArray, List.set_cons_zero, List.set_cons_succ])
  clear hcl; have hcl := hcl2; clear hcl2
  clear hS
  refine wpAnyK_one (i := 36) hcl (by kernel_rfl) rfl (by rfl) (fun K hK => ?_)
  go_simp
  refine hK.out _ _ (Or.inl (by kernel_rfl)) (fun hcl2 => ?_)
  clear hK K hcl hcl2
  refine wpAnyK_done (by kernel_rfl) ?_ _
  (try simp only [Act.put, List.setIfInBounds_toArray, List.set_cons_zero, List.set_cons_succ])
  exact fits_frame hQ.out hbz
end Go.Proofs.YthjenkbgiomibaaGreatDoor
