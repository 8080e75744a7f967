/- The switch of clepsydralaw21.NetPlays: its arms Take and Drop. Conditions: SwH. -/
import Derived.Test.YtihhepojhoaacaaNetPA
import Derived.Test.YtihhepojhoaacaaMsg3
namespace Go.Proofs.Ytihhepojhoaacaa.netPlays
set_option linter.unusedVariables false
set_option linter.unusedSimpArgs false
open Go.ChangeShapes Go.WideShapes Go.ChangeAt Go.RowKit
theorem bare_same_of {x y : Mg} (h : x.bare = y.bare) : Mg.same x y := by
  unfold Mg.bare at h
  injection h with h1 h2 h3 h4 h5 h6 h7 h8
  exact ⟨h1, h2, h3, h4, h5, h8⟩
theorem row_takeM {w : World} {A : Option Addr} {M : List Mg} (h : RowAt Mg.cells 6 w A M) (i : Nat) : RowAt Mg.cells 6 w A (M.take i) := fun hn => by
  have hM : M ≠ [] := fun e => hn (by rw [e]; simp)
  obtain ⟨g, off, e, hlt, hc⟩ := h hM
  refine ⟨g, off, e, hlt, fun k hk j u hu => ?_⟩
  have hk2 : k < M.length := by rw [List.length_take] at hk; omega
  rw [List.getElem_take] at hu
  exact hc k hk2 j u hu
theorem row_dropM {w : World} {g off c : Nat} {M : List Mg} (h : RowAt Mg.cells 6 w (some ⟨g, off, none⟩) M) (hc : M.length ≤ c) (j : Nat) : RowAt Mg.cells 6 w (if c = j then some ⟨g, off, none⟩ else some ⟨g, off + j * 6, none⟩) (M.drop j) := fun hn => by
  have hj : j < M.length := Nat.lt_of_not_le fun e => hn (List.drop_eq_nil_of_le e)
  rw [if_neg (by omega)]
  obtain ⟨g', off', e, hlt, hcc⟩ := h (fun e => by rw [e] at hj; simp at hj)
  obtain ⟨rfl, rfl⟩ : g = g' ∧ off = off' := by injection e with h; injection h; exact ⟨by assumption, by assumption⟩
  refine ⟨g, off + j * 6, rfl, hlt, fun k hk i u hu => ?_⟩
  have hk2 : j + k < M.length := by rw [List.length_drop] at hk; omega
  rw [List.getElem_drop] at hu
  have h1 := hcc (j + k) hk2 i u hu
  rw [show off + (j + k) * 6 + i = off + j * 6 + k * 6 + i from by omega] at h1
  exact h1
set_option maxRecDepth 1000000 in
set_option maxHeartbeats 6400000 in
theorem arm_drop_miss {w u : World} {b m c6 c l s k gb : Nat} {rb : Option Nat} {A : Option Addr} {W : List Mg} {ok oi oj : Int} {x : Mg} (h : SwH w u b m c6 c l s k gb rb A W ok oi oj x) (e0 : ok = 2) (hb : hasB W.length oi = false)
    (q0 q1 q2 q3 q11 u4 u14 u15 u16 u17 u18 u19 u20 u21 u22 u23 u24 u25 u26 u27 u28 u29 u30 u31 u32 u33 u34 u35 u36 u37 u38 u39 u40 u41 u42 u43 u44 u45 u46 u47 u48 u49 u50 u51 u52 u53 u54 u55 u56 u57 u58 u59 u61 u62 u63 u64 u65 u66 u67 u68 u69 u70 u71 u72 u73 u74 u75 u76 u77 u78 u79 u80 u81 u82 u83 u84 u85 u86 u87 u88 u89 u90 u91 u92 u93 u94 u95 u96 u97 u98 u99 u100 u101 u102 u103 u104 u105 u106 u107 u108 u109 u110 u111 u112 u113 u114 u115 u116 u117 u118 u119 u120 u121 u122 u123 u124 u125 u126 u127 u128 u129 u130 u131 u132 u133 u134 u135 u136 u137 u138 u139 u140 u141 u142 u143 u144 u145 u146 u147 u148 u149 u150 u151 u152 u153 u154 u155 u156 u157 u158 u159 u160 u161 u162 u163 u164 u165 u166 u167 u168 u169 u170 u171 u172 u173 u174 u175 u176 u177 u178 u179 u180 u181 u182 u183 u184 u185 u186 u187 u188 u189 u190 u191 u192 u193 u194 u195 u196 u197 u198 u199 u200 u201 u202 u203 u204 u205 u206 u207 u208 u209 u210 u211 u212 u213 u214 u215 u216 u217 u218 u219 u220 u221 u222 u223 u224 u225 u226 u227 : Value) {K : Act → World → Prop} {Q : Exit → Act → World → Prop} (hK : ∀ (v4 v14 v15 v16 v17 v61 v62 v63 v64 v65 v66 v67 v68 v69 v70 v71 v72 v73 v74 v75 v76 v77 v78 v79 v80 v81 v82 v83 v84 v85 v86 v87 v88 v89 v90 v91 v92 v93 v94 v95 v96 v97 v98 v99 v100 v101 v102 v103 v104 v105 v106 v107 v108 v109 v110 v111 v112 v113 v114 v115 v116 v117 v118 v119 v120 v121 v122 v123 v124 v125 v126 v127 v128 v129 v130 v131 v132 v133 v134 v135 v136 v137 v138 v139 v140 v141 v142 v143 v144 v145 v146 v147 v148 v149 v150 v151 v152 v153 v154 v155 v156 v157 v158 v159 v160 v161 v162 v163 v164 v165 v166 v167 v168 v169 v170 v171 v172 v173 v174 v175 v176 v177 v178 v179 v180 v181 v182 v183 v184 v185 v186 v187 v188 v189 v190 v191 v192 v193 v194 v195 v196 v197 v198 v199 v200 v201 v202 v203 : Value) (W2 : World), PlR w b m c6 k W2 → K ⟨#[q0, q1, q2, q3, v4, .pointer (some ⟨b, 0, none⟩), .pointer (some ⟨c6, 0, none⟩), .pointer (some ⟨c6 + 1, 0, none⟩), .pointer (some ⟨c6 + 2, 0, none⟩), .pointer (some ⟨c6 + 3, 0, none⟩), .func (Fn.func 17) #[] #[.pointer (some ⟨c6 + 3, 0, none⟩), .pointer (some ⟨c6 + 1, 0, none⟩), .pointer (some ⟨c6, 0, none⟩), .pointer (some ⟨c6 + 2, 0, none⟩)], q11, .pointer (some ⟨gb, 0, none⟩), .bool (hasB W.length oi), v14, v15, v16, v17, u18, u19, u20, u21, u22, u23, u24, u25, u26, u27, u28, u29, u30, u31, u32, u33, u34, u35, u36, u37, u38, u39, u40, u41, u42, u43, u44, u45, u46, u47, u48, u49, u50, u51, u52, u53, u54, u55, u56, u57, u58, u59, .int .i64 ok, v61, v62, v63, v64, v65, v66, v67, v68, v69, v70, v71, v72, v73, v74, v75, v76, v77, v78, v79, v80, v81, v82, v83, v84, v85, v86, v87, v88, v89, v90, v91, v92, v93, v94, v95, v96, v97, v98, v99, v100, v101, v102, v103, v104, v105, v106, v107, v108, v109, v110, v111, v112, v113, v114, v115, v116, v117, v118, v119, v120, v121, v122, v123, v124, v125, v126, v127, v128, v129, v130, v131, v132, v133, v134, v135, v136, v137, v138, v139, v140, v141, v142, v143, v144, v145, v146, v147, v148, v149, v150, v151, v152, v153, v154, v155, v156, v157, v158, v159, v160, v161, v162, v163, v164, v165, v166, v167, v168, v169, v170, v171, v172, v173, v174, v175, v176, v177, v178, v179, v180, v181, v182, v183, v184, v185, v186, v187, v188, v189, v190, v191, v192, v193, v194, v195, v196, v197, v198, v199, v200, v201, v202, v203, u204, u205, u206, u207, u208, u209, u210, u211, u212, u213, u214, u215, u216, u217, u218, u219, u220, u221, u222, u223, u224, u225, u226, u227], []⟩ W2) :
    Code.wp Try.prog swCode (Exit.then K Q) ⟨#[q0, q1, q2, q3, u4, .pointer (some ⟨b, 0, none⟩), .pointer (some ⟨c6, 0, none⟩), .pointer (some ⟨c6 + 1, 0, none⟩), .pointer (some ⟨c6 + 2, 0, none⟩), .pointer (some ⟨c6 + 3, 0, none⟩), .func (Fn.func 17) #[] #[.pointer (some ⟨c6 + 3, 0, none⟩), .pointer (some ⟨c6 + 1, 0, none⟩), .pointer (some ⟨c6, 0, none⟩), .pointer (some ⟨c6 + 2, 0, none⟩)], q11, .pointer (some ⟨gb, 0, none⟩), .bool (hasB W.length oi), u14, u15, u16, u17, u18, u19, u20, u21, u22, u23, u24, u25, u26, u27, u28, u29, u30, u31, u32, u33, u34, u35, u36, u37, u38, u39, u40, u41, u42, u43, u44, u45, u46, u47, u48, u49, u50, u51, u52, u53, u54, u55, u56, u57, u58, u59, .int .i64 ok, u61, u62, u63, u64, u65, u66, u67, u68, u69, u70, u71, u72, u73, u74, u75, u76, u77, u78, u79, u80, u81, u82, u83, u84, u85, u86, u87, u88, u89, u90, u91, u92, u93, u94, u95, u96, u97, u98, u99, u100, u101, u102, u103, u104, u105, u106, u107, u108, u109, u110, u111, u112, u113, u114, u115, u116, u117, u118, u119, u120, u121, u122, u123, u124, u125, u126, u127, u128, u129, u130, u131, u132, u133, u134, u135, u136, u137, u138, u139, u140, u141, u142, u143, u144, u145, u146, u147, u148, u149, u150, u151, u152, u153, u154, u155, u156, u157, u158, u159, u160, u161, u162, u163, u164, u165, u166, u167, u168, u169, u170, u171, u172, u173, u174, u175, u176, u177, u178, u179, u180, u181, u182, u183, u184, u185, u186, u187, u188, u189, u190, u191, u192, u193, u194, u195, u196, u197, u198, u199, u200, u201, u202, u203, u204, u205, u206, u207, u208, u209, u210, u211, u212, u213, u214, u215, u216, u217, u218, u219, u220, u221, u222, u223, u224, u225, u226, u227], []⟩ u := by
  have HK := hide hK
  clear hK
  conv => arg 2; whnf
  subst e0
  obtain ⟨hP, hcap, eo, ⟨hgN, hg6, hgA⟩, ⟨hxr, hx50⟩, h50, hWk, hk80, hlk, hsk⟩ := h
  have hlt := (Array.getElem?_eq_some_iff.1 eo).1
  have hba := below_alloc (Below.refl u.heap.size u) (.cells #[.int .i64 0, .int .i64 0, .int .i64 0, .int .u64 0, .int .u64 0, .slice none 0 0] 28)
  have hz := heap_alloc_new u (.cells #[.int .i64 0, .int .i64 0, .int .i64 0, .int .u64 0, .int .u64 0, .slice none 0 0] 28)
  obtain ⟨wb, hwb⟩ : ∃ wb, u.alloc (.cells #[.int .i64 0, .int .i64 0, .int .i64 0, .int .u64 0, .int .u64 0, .slice none 0 0] 28) = wb := ⟨_, rfl⟩
  rw [hwb] at hba hz
  have HWB := hide hwb
  have HBA := hide hba
  have hPb := hP.below hba
  have eob := (hba.block gb hlt).trans eo
  have H50 := hide h50
  have hbl : b < u.heap.size := hP.net.at_.lt
  have HRL := hide hP.net.at_.row_lt
  obtain ⟨gq, hgq⟩ : ∃ gq, u.heap.size = gq := ⟨_, rfl⟩
  rw [hgq] at hz
  have HGQ := hide hgq
  rw [hb] at HK
  have HD := hide (drop_miss hPb.net.at_ oi (by rw [List.length_map]; exact hasB_no_of hb))
  have HPB := hide hPb
  have EO := hide eob
  obtain ⟨p0, p1, p2, p3, p4, p5, p6, p7, p8⟩ := op_cells eob
  have lgb := (Array.getElem?_eq_some_iff.1 eob).1
  rw [hb]
  clear hP hxr hgN hgA eo eob h50 hba hz hPb p2 p3 p4 p5 p6 p7 p8 hb hwb hgq
  go_upto_region 31 with fail
  try rw [HWB.out]
  try rw [HGQ.out]
  go_wp2_with fail
  refine (Calls.mono HD.out ?_); rintro e w3 ⟨rfl, hb3⟩
  have e3 := (hb3.block gb lgb).trans EO.out
  have t0 := (op_cells e3).1
  have lt3 := (Array.getElem?_eq_some_iff.1 e3).1
  have rt0 := fun s : Near w3 => s.cell t0 lt3
  have HP3 := hide (HPB.out.below hb3)
  clear hb3 e3 p0 p1
  go_wp2_with fail
  refine wp_region_near (by kernel_rfl) (by kernel_rfl) ?_
  repeat (go_big_quiet_step (fail))
  refine wpQuiet_nil ?_
  intro _ hw'
  obtain ⟨s1, rfl⟩ := hw'
  clear rt0 t0
  go_wp2_with fail
  exact HK.out _ _ _ _ _ _ _ _ _ _ _ _ _ _ _ _ _ _ _ _ _ _ _ _ _ _ _ _ _ _ _ _ _ _ _ _ _ _ _ _ _ _ _ _ _ _ _ _ _ _ _ _ _ _ _ _ _ _ _ _ _ _ _ _ _ _ _ _ _ _ _ _ _ _ _ _ _ _ _ _ _ _ _ _ _ _ _ _ _ _ _ _ _ _ _ _ _ _ _ _ _ _ _ _ _ _ _ _ _ _ _ _ _ _ _ _ _ _ _ _ _ _ _ _ _ _ _ _ _ _ _ _ _ _ _ _ _ _ _ _ _ _ _ _ _ _ _ _ _ ⟨rb, A, c, W, l, s, by omega, by omega, by omega, H50.out, HP3.out.below s1.is⟩
set_option maxRecDepth 1000000 in
set_option maxHeartbeats 6400000 in
theorem arm_take_miss {w u : World} {b m c6 c l s k gb : Nat} {rb : Option Nat} {A : Option Addr} {W : List Mg} {ok oi oj : Int} {x : Mg} (h : SwH w u b m c6 c l s k gb rb A W ok oi oj x) (e0 : ok = 1) (hb : hasB W.length oi = false)
    (q0 q1 q2 q3 q11 u4 u14 u15 u16 u17 u18 u19 u20 u21 u22 u23 u24 u25 u26 u27 u28 u29 u30 u31 u32 u33 u34 u35 u36 u37 u38 u39 u40 u41 u42 u43 u44 u45 u46 u47 u48 u49 u50 u51 u52 u53 u54 u55 u56 u57 u58 u59 u61 u62 u63 u64 u65 u66 u67 u68 u69 u70 u71 u72 u73 u74 u75 u76 u77 u78 u79 u80 u81 u82 u83 u84 u85 u86 u87 u88 u89 u90 u91 u92 u93 u94 u95 u96 u97 u98 u99 u100 u101 u102 u103 u104 u105 u106 u107 u108 u109 u110 u111 u112 u113 u114 u115 u116 u117 u118 u119 u120 u121 u122 u123 u124 u125 u126 u127 u128 u129 u130 u131 u132 u133 u134 u135 u136 u137 u138 u139 u140 u141 u142 u143 u144 u145 u146 u147 u148 u149 u150 u151 u152 u153 u154 u155 u156 u157 u158 u159 u160 u161 u162 u163 u164 u165 u166 u167 u168 u169 u170 u171 u172 u173 u174 u175 u176 u177 u178 u179 u180 u181 u182 u183 u184 u185 u186 u187 u188 u189 u190 u191 u192 u193 u194 u195 u196 u197 u198 u199 u200 u201 u202 u203 u204 u205 u206 u207 u208 u209 u210 u211 u212 u213 u214 u215 u216 u217 u218 u219 u220 u221 u222 u223 u224 u225 u226 u227 : Value) {K : Act → World → Prop} {Q : Exit → Act → World → Prop} (hK : ∀ (v4 v14 v15 v16 v17 v61 v62 v63 v64 v65 v66 v67 v68 v69 v70 v71 v72 v73 v74 v75 v76 v77 v78 v79 v80 v81 v82 v83 v84 v85 v86 v87 v88 v89 v90 v91 v92 v93 v94 v95 v96 v97 v98 v99 v100 v101 v102 v103 v104 v105 v106 v107 v108 v109 v110 v111 v112 v113 v114 v115 v116 v117 v118 v119 v120 v121 v122 v123 v124 v125 v126 v127 v128 v129 v130 v131 v132 v133 v134 v135 v136 v137 v138 v139 v140 v141 v142 v143 v144 v145 v146 v147 v148 v149 v150 v151 v152 v153 v154 v155 v156 v157 v158 v159 v160 v161 v162 v163 v164 v165 v166 v167 v168 v169 v170 v171 v172 v173 v174 v175 v176 v177 v178 v179 v180 v181 v182 v183 v184 v185 v186 v187 v188 v189 v190 v191 v192 v193 v194 v195 v196 v197 v198 v199 v200 v201 v202 v203 : Value) (W2 : World), PlR w b m c6 k W2 → K ⟨#[q0, q1, q2, q3, v4, .pointer (some ⟨b, 0, none⟩), .pointer (some ⟨c6, 0, none⟩), .pointer (some ⟨c6 + 1, 0, none⟩), .pointer (some ⟨c6 + 2, 0, none⟩), .pointer (some ⟨c6 + 3, 0, none⟩), .func (Fn.func 17) #[] #[.pointer (some ⟨c6 + 3, 0, none⟩), .pointer (some ⟨c6 + 1, 0, none⟩), .pointer (some ⟨c6, 0, none⟩), .pointer (some ⟨c6 + 2, 0, none⟩)], q11, .pointer (some ⟨gb, 0, none⟩), .bool (hasB W.length oi), v14, v15, v16, v17, u18, u19, u20, u21, u22, u23, u24, u25, u26, u27, u28, u29, u30, u31, u32, u33, u34, u35, u36, u37, u38, u39, u40, u41, u42, u43, u44, u45, u46, u47, u48, u49, u50, u51, u52, u53, u54, u55, u56, u57, u58, u59, .int .i64 ok, v61, v62, v63, v64, v65, v66, v67, v68, v69, v70, v71, v72, v73, v74, v75, v76, v77, v78, v79, v80, v81, v82, v83, v84, v85, v86, v87, v88, v89, v90, v91, v92, v93, v94, v95, v96, v97, v98, v99, v100, v101, v102, v103, v104, v105, v106, v107, v108, v109, v110, v111, v112, v113, v114, v115, v116, v117, v118, v119, v120, v121, v122, v123, v124, v125, v126, v127, v128, v129, v130, v131, v132, v133, v134, v135, v136, v137, v138, v139, v140, v141, v142, v143, v144, v145, v146, v147, v148, v149, v150, v151, v152, v153, v154, v155, v156, v157, v158, v159, v160, v161, v162, v163, v164, v165, v166, v167, v168, v169, v170, v171, v172, v173, v174, v175, v176, v177, v178, v179, v180, v181, v182, v183, v184, v185, v186, v187, v188, v189, v190, v191, v192, v193, v194, v195, v196, v197, v198, v199, v200, v201, v202, v203, u204, u205, u206, u207, u208, u209, u210, u211, u212, u213, u214, u215, u216, u217, u218, u219, u220, u221, u222, u223, u224, u225, u226, u227], []⟩ W2) :
    Code.wp Try.prog swCode (Exit.then K Q) ⟨#[q0, q1, q2, q3, u4, .pointer (some ⟨b, 0, none⟩), .pointer (some ⟨c6, 0, none⟩), .pointer (some ⟨c6 + 1, 0, none⟩), .pointer (some ⟨c6 + 2, 0, none⟩), .pointer (some ⟨c6 + 3, 0, none⟩), .func (Fn.func 17) #[] #[.pointer (some ⟨c6 + 3, 0, none⟩), .pointer (some ⟨c6 + 1, 0, none⟩), .pointer (some ⟨c6, 0, none⟩), .pointer (some ⟨c6 + 2, 0, none⟩)], q11, .pointer (some ⟨gb, 0, none⟩), .bool (hasB W.length oi), u14, u15, u16, u17, u18, u19, u20, u21, u22, u23, u24, u25, u26, u27, u28, u29, u30, u31, u32, u33, u34, u35, u36, u37, u38, u39, u40, u41, u42, u43, u44, u45, u46, u47, u48, u49, u50, u51, u52, u53, u54, u55, u56, u57, u58, u59, .int .i64 ok, u61, u62, u63, u64, u65, u66, u67, u68, u69, u70, u71, u72, u73, u74, u75, u76, u77, u78, u79, u80, u81, u82, u83, u84, u85, u86, u87, u88, u89, u90, u91, u92, u93, u94, u95, u96, u97, u98, u99, u100, u101, u102, u103, u104, u105, u106, u107, u108, u109, u110, u111, u112, u113, u114, u115, u116, u117, u118, u119, u120, u121, u122, u123, u124, u125, u126, u127, u128, u129, u130, u131, u132, u133, u134, u135, u136, u137, u138, u139, u140, u141, u142, u143, u144, u145, u146, u147, u148, u149, u150, u151, u152, u153, u154, u155, u156, u157, u158, u159, u160, u161, u162, u163, u164, u165, u166, u167, u168, u169, u170, u171, u172, u173, u174, u175, u176, u177, u178, u179, u180, u181, u182, u183, u184, u185, u186, u187, u188, u189, u190, u191, u192, u193, u194, u195, u196, u197, u198, u199, u200, u201, u202, u203, u204, u205, u206, u207, u208, u209, u210, u211, u212, u213, u214, u215, u216, u217, u218, u219, u220, u221, u222, u223, u224, u225, u226, u227], []⟩ u := by
  have HK := hide hK
  clear hK
  conv => arg 2; whnf
  subst e0
  obtain ⟨hP, hcap, eo, ⟨hgN, hg6, hgA⟩, ⟨hxr, hx50⟩, h50, hWk, hk80, hlk, hsk⟩ := h
  have hlt := (Array.getElem?_eq_some_iff.1 eo).1
  have hba := below_alloc (Below.refl u.heap.size u) (.cells #[.int .i64 0, .int .i64 0, .int .i64 0, .int .u64 0, .int .u64 0, .slice none 0 0] 28)
  have hz := heap_alloc_new u (.cells #[.int .i64 0, .int .i64 0, .int .i64 0, .int .u64 0, .int .u64 0, .slice none 0 0] 28)
  obtain ⟨wb, hwb⟩ : ∃ wb, u.alloc (.cells #[.int .i64 0, .int .i64 0, .int .i64 0, .int .u64 0, .int .u64 0, .slice none 0 0] 28) = wb := ⟨_, rfl⟩
  rw [hwb] at hba hz
  have HWB := hide hwb
  have HBA := hide hba
  have hPb := hP.below hba
  have eob := (hba.block gb hlt).trans eo
  have H50 := hide h50
  have hbl : b < u.heap.size := hP.net.at_.lt
  have HRL := hide hP.net.at_.row_lt
  obtain ⟨gq, hgq⟩ : ∃ gq, u.heap.size = gq := ⟨_, rfl⟩
  rw [hgq] at hz
  have HGQ := hide hgq
  rw [hb] at HK
  have HD := hide (take_miss hPb.net.at_ oi (by rw [List.length_map]; exact hasB_no_of hb))
  have HPO := hide hP
  have EO := hide eob
  obtain ⟨p0, p1, p2, p3, p4, p5, p6, p7, p8⟩ := op_cells eob
  have lgb := (Array.getElem?_eq_some_iff.1 eob).1
  have lgq := (Array.getElem?_eq_some_iff.1 hz).1
  have HZ := hide hz
  have HSM : Hid (∀ W' : World, Calls Try.prog 19 #[zMg.val, zMg.val] W' fun e w' => e = .returned (.bool true) ∧ Below W'.heap.size W' w') := hide (fun W' => by
    have h := samem_any zMg zMg W' RowAt.nil_ RowAt.nil_ (by decide) (by decide)
    rw [show sameMB zMg zMg = true from by decide] at h
    exact h)
  rw [hb]
  clear hP hxr hgN hgA eo eob h50 hba hz hPb p2 p3 p4 p5 p6 p7 p8 hb hwb hgq
  go_upto_region 31 with fail
  try rw [HWB.out]
  try rw [HGQ.out]
  unfold Mg.val at HD
  go_upto_region 32 with fail
  have HGB : Hid (gb < gq) := hide (by rw [← HGQ.out]; exact hlt)
  go_wp2_with fail
  refine (Calls.mono HD.out ?_); rintro e w3 ⟨rfl, hb3⟩
  have e3 := (hb3.block gb lgb).trans EO.out
  have z3 := (hb3.block gq lgq).trans HZ.out
  have f3 : ∀ o, w3.frozen? ⟨gq, o, none⟩ = false := fun o => by simp [World.frozen?, z3]
  obtain ⟨s0, s1, s2, s3, s4, s5⟩ := six_cells z3
  have HP4 := hide (fun (w4 : World) (hk : Sets (fun x => x = gq) w3 w4) => HPO.out.below (Sets.below (below_step HBA.out hb3) hk (fun x e => by rw [e, HGQ.out]; exact Nat.le_refl _) (below_step HBA.out hb3).size))
  have HS4 := hide (Sets.set6 (S := fun x => x = gq) (Sets.refl w3) (g := gq) (fun _ => rfl) (.int .i64 0) (.int .i64 0) (.int .i64 0) (.int .u64 0) (.int .u64 0) (.slice none 0 0))
  have z4 := put6m (.int .i64 0) (.int .i64 0) (.int .i64 0) (.int .u64 0) (.int .u64 0) (.slice none 0 0) z3
  have e4 := (HS4.out.block gb (Array.getElem?_eq_some_iff.1 e3).1 (fun e => by have := HGB.out; omega)).trans e3
  have Z4 := hide z4
  have E4 := hide e4
  clear hb3 e3 z3 z4 e4 p0 p1
  go_upto_region 34 with fail
  obtain ⟨w4, hw4⟩ : ∃ w4, ((((((w3.setCell ⟨gq, 0, none⟩ (.int .i64 0)).setCell ⟨gq, 1, none⟩ (.int .i64 0)).setCell ⟨gq, 2, none⟩ (.int .i64 0)).setCell ⟨gq, 3, none⟩ (.int .u64 0)).setCell ⟨gq, 4, none⟩ (.int .u64 0)).setCell ⟨gq, 5, none⟩ (.slice none 0 0)) = w4 := ⟨_, rfl⟩
  rw [hw4] at HS4 Z4 E4 ⊢
  have HP5 := hide (HP4.out w4 HS4.out)
  clear hw4 s0 s1 s2 s3 s4 s5 f3
  have lz4 := (Array.getElem?_eq_some_iff.1 Z4.out).1
  have le4 := (Array.getElem?_eq_some_iff.1 E4.out).1
  obtain ⟨d0, d1, d2, d3, d4, d5⟩ := six_cells Z4.out
  have t0 := (op_cells E4.out).1
  have rt0 := fun s : Near w4 => s.cell t0 le4
  have rs0 := fun s : Near w4 => s.cell d0 lz4
  have rs1 := fun s : Near w4 => s.cell d1 lz4
  have rs2 := fun s : Near w4 => s.cell d2 lz4
  have rs3 := fun s : Near w4 => s.cell d3 lz4
  have rs4 := fun s : Near w4 => s.cell d4 lz4
  have rs5 := fun s : Near w4 => s.cell d5 lz4
  clear HD HP4 HS4 HPO EO HZ
  unfold Mg.val at HSM
  refine wp_region_near (by kernel_rfl) (by kernel_rfl) ?_
  repeat (go_big_quiet_step ((first | (go_at_call 19; exact near_of (HSM.out _)))))
  refine wpQuiet_nil ?_
  intro _ hw'
  obtain ⟨s1, rfl⟩ := hw'
  clear rt0 t0 rs0 rs1 rs2 rs3 rs4 rs5 d0 d1 d2 d3 d4 d5
  go_wp2_with fail
  exact HK.out _ _ _ _ _ _ _ _ _ _ _ _ _ _ _ _ _ _ _ _ _ _ _ _ _ _ _ _ _ _ _ _ _ _ _ _ _ _ _ _ _ _ _ _ _ _ _ _ _ _ _ _ _ _ _ _ _ _ _ _ _ _ _ _ _ _ _ _ _ _ _ _ _ _ _ _ _ _ _ _ _ _ _ _ _ _ _ _ _ _ _ _ _ _ _ _ _ _ _ _ _ _ _ _ _ _ _ _ _ _ _ _ _ _ _ _ _ _ _ _ _ _ _ _ _ _ _ _ _ _ _ _ _ _ _ _ _ _ _ _ _ _ _ _ _ _ _ _ _ ⟨rb, A, c, W, l, s, by omega, by omega, by omega, H50.out, HP5.out.below s1.is⟩
set_option maxRecDepth 1000000 in
set_option maxHeartbeats 6400000 in
theorem arm_drop_hit {w u : World} {b m c6 c l s k gb : Nat} {rb : Option Nat} {A : Option Addr} {W : List Mg} {ok oi oj : Int} {x : Mg} (h : SwH w u b m c6 c l s k gb rb A W ok oi oj x) (e0 : ok = 2) (hb : hasB W.length oi = true)
    (q0 q1 q2 q3 q11 u4 u14 u15 u16 u17 u18 u19 u20 u21 u22 u23 u24 u25 u26 u27 u28 u29 u30 u31 u32 u33 u34 u35 u36 u37 u38 u39 u40 u41 u42 u43 u44 u45 u46 u47 u48 u49 u50 u51 u52 u53 u54 u55 u56 u57 u58 u59 u61 u62 u63 u64 u65 u66 u67 u68 u69 u70 u71 u72 u73 u74 u75 u76 u77 u78 u79 u80 u81 u82 u83 u84 u85 u86 u87 u88 u89 u90 u91 u92 u93 u94 u95 u96 u97 u98 u99 u100 u101 u102 u103 u104 u105 u106 u107 u108 u109 u110 u111 u112 u113 u114 u115 u116 u117 u118 u119 u120 u121 u122 u123 u124 u125 u126 u127 u128 u129 u130 u131 u132 u133 u134 u135 u136 u137 u138 u139 u140 u141 u142 u143 u144 u145 u146 u147 u148 u149 u150 u151 u152 u153 u154 u155 u156 u157 u158 u159 u160 u161 u162 u163 u164 u165 u166 u167 u168 u169 u170 u171 u172 u173 u174 u175 u176 u177 u178 u179 u180 u181 u182 u183 u184 u185 u186 u187 u188 u189 u190 u191 u192 u193 u194 u195 u196 u197 u198 u199 u200 u201 u202 u203 u204 u205 u206 u207 u208 u209 u210 u211 u212 u213 u214 u215 u216 u217 u218 u219 u220 u221 u222 u223 u224 u225 u226 u227 : Value) {K : Act → World → Prop} {Q : Exit → Act → World → Prop} (hK : ∀ (v4 v14 v15 v16 v17 v61 v62 v63 v64 v65 v66 v67 v68 v69 v70 v71 v72 v73 v74 v75 v76 v77 v78 v79 v80 v81 v82 v83 v84 v85 v86 v87 v88 v89 v90 v91 v92 v93 v94 v95 v96 v97 v98 v99 v100 v101 v102 v103 v104 v105 v106 v107 v108 v109 v110 v111 v112 v113 v114 v115 v116 v117 v118 v119 v120 v121 v122 v123 v124 v125 v126 v127 v128 v129 v130 v131 v132 v133 v134 v135 v136 v137 v138 v139 v140 v141 v142 v143 v144 v145 v146 v147 v148 v149 v150 v151 v152 v153 v154 v155 v156 v157 v158 v159 v160 v161 v162 v163 v164 v165 v166 v167 v168 v169 v170 v171 v172 v173 v174 v175 v176 v177 v178 v179 v180 v181 v182 v183 v184 v185 v186 v187 v188 v189 v190 v191 v192 v193 v194 v195 v196 v197 v198 v199 v200 v201 v202 v203 : Value) (W2 : World), PlR w b m c6 k W2 → K ⟨#[q0, q1, q2, q3, v4, .pointer (some ⟨b, 0, none⟩), .pointer (some ⟨c6, 0, none⟩), .pointer (some ⟨c6 + 1, 0, none⟩), .pointer (some ⟨c6 + 2, 0, none⟩), .pointer (some ⟨c6 + 3, 0, none⟩), .func (Fn.func 17) #[] #[.pointer (some ⟨c6 + 3, 0, none⟩), .pointer (some ⟨c6 + 1, 0, none⟩), .pointer (some ⟨c6, 0, none⟩), .pointer (some ⟨c6 + 2, 0, none⟩)], q11, .pointer (some ⟨gb, 0, none⟩), .bool (hasB W.length oi), v14, v15, v16, v17, u18, u19, u20, u21, u22, u23, u24, u25, u26, u27, u28, u29, u30, u31, u32, u33, u34, u35, u36, u37, u38, u39, u40, u41, u42, u43, u44, u45, u46, u47, u48, u49, u50, u51, u52, u53, u54, u55, u56, u57, u58, u59, .int .i64 ok, v61, v62, v63, v64, v65, v66, v67, v68, v69, v70, v71, v72, v73, v74, v75, v76, v77, v78, v79, v80, v81, v82, v83, v84, v85, v86, v87, v88, v89, v90, v91, v92, v93, v94, v95, v96, v97, v98, v99, v100, v101, v102, v103, v104, v105, v106, v107, v108, v109, v110, v111, v112, v113, v114, v115, v116, v117, v118, v119, v120, v121, v122, v123, v124, v125, v126, v127, v128, v129, v130, v131, v132, v133, v134, v135, v136, v137, v138, v139, v140, v141, v142, v143, v144, v145, v146, v147, v148, v149, v150, v151, v152, v153, v154, v155, v156, v157, v158, v159, v160, v161, v162, v163, v164, v165, v166, v167, v168, v169, v170, v171, v172, v173, v174, v175, v176, v177, v178, v179, v180, v181, v182, v183, v184, v185, v186, v187, v188, v189, v190, v191, v192, v193, v194, v195, v196, v197, v198, v199, v200, v201, v202, v203, u204, u205, u206, u207, u208, u209, u210, u211, u212, u213, u214, u215, u216, u217, u218, u219, u220, u221, u222, u223, u224, u225, u226, u227], []⟩ W2) :
    Code.wp Try.prog swCode (Exit.then K Q) ⟨#[q0, q1, q2, q3, u4, .pointer (some ⟨b, 0, none⟩), .pointer (some ⟨c6, 0, none⟩), .pointer (some ⟨c6 + 1, 0, none⟩), .pointer (some ⟨c6 + 2, 0, none⟩), .pointer (some ⟨c6 + 3, 0, none⟩), .func (Fn.func 17) #[] #[.pointer (some ⟨c6 + 3, 0, none⟩), .pointer (some ⟨c6 + 1, 0, none⟩), .pointer (some ⟨c6, 0, none⟩), .pointer (some ⟨c6 + 2, 0, none⟩)], q11, .pointer (some ⟨gb, 0, none⟩), .bool (hasB W.length oi), u14, u15, u16, u17, u18, u19, u20, u21, u22, u23, u24, u25, u26, u27, u28, u29, u30, u31, u32, u33, u34, u35, u36, u37, u38, u39, u40, u41, u42, u43, u44, u45, u46, u47, u48, u49, u50, u51, u52, u53, u54, u55, u56, u57, u58, u59, .int .i64 ok, u61, u62, u63, u64, u65, u66, u67, u68, u69, u70, u71, u72, u73, u74, u75, u76, u77, u78, u79, u80, u81, u82, u83, u84, u85, u86, u87, u88, u89, u90, u91, u92, u93, u94, u95, u96, u97, u98, u99, u100, u101, u102, u103, u104, u105, u106, u107, u108, u109, u110, u111, u112, u113, u114, u115, u116, u117, u118, u119, u120, u121, u122, u123, u124, u125, u126, u127, u128, u129, u130, u131, u132, u133, u134, u135, u136, u137, u138, u139, u140, u141, u142, u143, u144, u145, u146, u147, u148, u149, u150, u151, u152, u153, u154, u155, u156, u157, u158, u159, u160, u161, u162, u163, u164, u165, u166, u167, u168, u169, u170, u171, u172, u173, u174, u175, u176, u177, u178, u179, u180, u181, u182, u183, u184, u185, u186, u187, u188, u189, u190, u191, u192, u193, u194, u195, u196, u197, u198, u199, u200, u201, u202, u203, u204, u205, u206, u207, u208, u209, u210, u211, u212, u213, u214, u215, u216, u217, u218, u219, u220, u221, u222, u223, u224, u225, u226, u227], []⟩ u := by
  have HK := hide hK
  clear hK
  conv => arg 2; whnf
  subst e0
  obtain ⟨hP, hcap, eo, ⟨hgN, hg6, hgA⟩, ⟨hxr, hx50⟩, h50, hWk, hk80, hlk, hsk⟩ := h
  have hlt := (Array.getElem?_eq_some_iff.1 eo).1
  have hba := below_alloc (Below.refl u.heap.size u) (.cells #[.int .i64 0, .int .i64 0, .int .i64 0, .int .u64 0, .int .u64 0, .slice none 0 0] 28)
  have hz := heap_alloc_new u (.cells #[.int .i64 0, .int .i64 0, .int .i64 0, .int .u64 0, .int .u64 0, .slice none 0 0] 28)
  obtain ⟨wb, hwb⟩ : ∃ wb, u.alloc (.cells #[.int .i64 0, .int .i64 0, .int .i64 0, .int .u64 0, .int .u64 0, .slice none 0 0] 28) = wb := ⟨_, rfl⟩
  rw [hwb] at hba hz
  have HWB := hide hwb
  have HBA := hide hba
  have hPb := hP.below hba
  have eob := (hba.block gb hlt).trans eo
  have H50 := hide h50
  have hbl : b < u.heap.size := hP.net.at_.lt
  have HRL := hide hP.net.at_.row_lt
  obtain ⟨gq, hgq⟩ : ∃ gq, u.heap.size = gq := ⟨_, rfl⟩
  rw [hgq] at hz
  have HGQ := hide hgq
  rw [hb] at HK
  obtain ⟨i, rfl, hi⟩ := hasB_yes_of hb
  have hiC : i < (W.map Mg.bare).length := by rw [List.length_map]; exact hi
  have hnc := hP.cap.1
  have hcm := hP.cap.2
  obtain ⟨g, off, rfl⟩ : ∃ g off, A = some ⟨g, off, none⟩ := by
    obtain ⟨g, off, e, _⟩ := hP.row.at_ hi
    exact ⟨g, off, e⟩
  have HER : Hid (∀ x ∈ W.take i ++ W.drop (i + 1), x.rd w) := hide (fun x hx => hP.rd x (by
    rcases List.mem_append.1 hx with h | h
    · exact List.mem_of_mem_take h
    · exact List.mem_of_mem_drop h))
  have HEE : Hid (W.take i ++ W.drop (i + 1) = W.eraseIdx i) := hide (List.eraseIdx_eq_take_drop_succ W i).symm
  have HE5 : Hid (∀ x ∈ W.eraseIdx i, x.L.length ≤ 50) := hide (fun x hx => h50 x (List.mem_of_mem_eraseIdx hx))
  have HLE : Hid ((W.eraseIdx i).length + 1 = W.length) := hide (by rw [List.length_eraseIdx_of_lt hi]; omega)
  have HWI : Hid ((W[i]'hi).rd w) := hide (hP.rd _ (List.getElem_mem _))
  have HW5 : Hid ((W[i]'hi).L.length ≤ 50) := hide (h50 _ (List.getElem_mem _))
  have hCi : (W.map Mg.bare)[i]'hiC = (W[i]'hi).bare := by simp
  have HD := hide (drop_pl hPb i hiC (by omega))
  have EO := hide eob
  have HGN := hide hgN
  obtain ⟨p0, p1, p2, p3, p4, p5, p6, p7, p8⟩ := op_cells eob
  have lgb := (Array.getElem?_eq_some_iff.1 eob).1
  have hc0 : ¬ c = 0 := by omega
  have hi0 : (0 : Int) ≤ (i : Int) := by omega
  have hiI : (i : Int) < (W.length : Int) := by omega
  have hicI : (i : Int) ≤ (c : Int) := by omega
  obtain ⟨j, hj⟩ : ∃ j, i + 1 = j := ⟨_, rfl⟩
  have hjw : IntKind.i64.wrap ((i : Int) + 1) = (j : Int) := by rw [IntKind.wrap_i64]; omega
  have hj0 : (0 : Int) ≤ (j : Int) := by omega
  have hjI : (j : Int) ≤ (W.length : Int) := by omega
  rw [hj] at HER HEE
  obtain ⟨n, hn⟩ : ∃ n, W.length = n := ⟨_, rfl⟩
  rw [hn] at hiI hjI hi hWk hnc HLE
  have HN := hide hn
  unfold maxLen at hcm
  clear hn
  rw [hb]
  clear hP hxr hgN hgA eo eob h50 hba hz hPb p2 p3 p4 p5 p6 p7 p8 hb hwb hgq hCi HWI HW5 hiC
  go_upto_region 31 with fail
  try rw [HWB.out]
  try rw [HGQ.out]
  go_wp2_with fail
  refine (Calls.mono HD.out ?_); rintro e w3 ⟨rb', rfl, hP3, hS3⟩
  have e3 := (hS3.block gb lgb HGN.out).trans EO.out
  have t0 := (op_cells e3).1
  have lt3 := (Array.getElem?_eq_some_iff.1 e3).1
  have rt0 := fun s : Near w3 => s.cell t0 lt3
  have HP2 := hide hP3
  clear EO
  have EO2 := hide e3
  clear hP3 hS3 e3 p0 p1 HD
  go_wp2_with fail
  refine wp_region_near (by kernel_rfl) (by kernel_rfl) ?_
  repeat (go_big_quiet_step (fail))
  refine wpQuiet_nil ?_
  intro _ hw'
  obtain ⟨s1, rfl⟩ := hw'
  have HP3 := hide (HP2.out.below s1.is)
  have EO := hide ((s1.is.block gb lt3).trans EO2.out)
  clear rt0 t0 HP2 EO2
  obtain ⟨wv, hwv⟩ : ∃ wv, s1.at_ = wv := ⟨_, rfl⟩
  rw [hwv] at HP3 EO ⊢
  clear hwv lt3
  have hP := HP3.out
  have q7 := (cell_of_row wv (c6 + 1) 0 _ _ _ hP.b7).trans rfl
  rw [HN.out] at q7
  have q7z : wv.frozen? ⟨c6 + 1, 0, none⟩ = false := by simp [World.frozen?, hP.b7]
  have hl7 : c6 + 1 < wv.heap.size := by have := hP.lt; omega
  have ltg := (Array.getElem?_eq_some_iff.1 EO.out).1
  have k1 := (op_cells EO.out).2.1
  have HC : Hid (∀ W' : World, Below wv.heap.size wv W' → W'.cell? ⟨c6 + 1, 0, none⟩ = some (.slice (some ⟨g, off, none⟩) n c) ∧ W'.frozen? ⟨c6 + 1, 0, none⟩ = false ∧ W'.cell? ⟨gb, 1, none⟩ = some (.int .i64 i)) := hide (fun W' hW => ⟨keep_cell hW q7 hl7, (hW.frozen (p := ⟨c6 + 1, 0, none⟩) hl7).trans q7z, keep_cell hW k1 ltg⟩)
  have HRT : Hid (∀ W' : World, Below wv.heap.size wv W' → RowAt Mg.cells 6 W' (some ⟨g, off, none⟩) (W.take i)) := hide (fun W' hW => row_takeM (hP.row.below hW) i)
  have HRD : Hid (∀ W' : World, Below wv.heap.size wv W' → RowAt Mg.cells 6 W' (if c = j then some ⟨g, off, none⟩ else some ⟨g, off + j * 6, none⟩) (W.drop j)) := hide (fun W' hW => row_dropM (hP.row.below hW) (by rw [HN.out]; exact hnc) j)
  have HLT : Hid ((W.take i).length = i) := hide (by rw [List.length_take, HN.out]; omega)
  have HLD : Hid ((W.drop j).length = n - j) := hide (by rw [List.length_drop, HN.out])
  clear hP q7 q7z hl7 ltg k1
  go_upto_region 37 with fail
  refine j_start [12] (by kernel_rfl) ?_
  obtain ⟨ud, hud⟩ : ∃ ud, wv.drew = ud := ⟨_, rfl⟩
  have HUD : Hid (Below wv.heap.size wv ud) := hide (by rw [← hud]; exact (Below.refl _ _).drew)
  have HUE : Hid (ud.heap.size = wv.heap.size) := hide (by rw [← hud]; rfl)
  have HS : Hid (Below ud.heap.size ud ud) := hide (Below.refl _ _)
  rw [hud]
  clear hud
  refine' wpAnyJ_take (i := 1) (v := _) [4, 5, 11, 12] ?hi1n1 (by kernel_rfl) (by kernel_rfl) (by kernel_rfl) (by kernel_rfl) (by kernel_rfl) (Or.inl ⟨?hw1n1, ?hy1n1⟩) HS.out ?rest1n1
  case hi1n1 => (simp only [List.getElem?_toArray, List.getElem?_cons_succ, List.getElem?_cons_zero]; rfl)
  case hw1n1 => rfl
  case hy1n1 => (intro w' hw'; have h0 := (HC.out _ (below_step HUD.out hw')).1; go_simp; try with_reducible rfl)
  try simp only [Act.put, List.setIfInBounds_toArray, List.set_cons_zero, List.set_cons_succ]
  refine' wpAnyJ_take (i := 2) (v := _) [3, 4, 5, 11, 12] ?hi2n2 (by kernel_rfl) (by kernel_rfl) (by kernel_rfl) (by kernel_rfl) (by kernel_rfl) (Or.inl ⟨?hw2n2, ?hy2n2⟩) HS.out ?rest2n2
  case hi2n2 => (simp only [List.getElem?_toArray, List.getElem?_cons_succ, List.getElem?_cons_zero]; rfl)
  case hw2n2 => rfl
  case hy2n2 => (intro w' hw'; go_simp; try with_reducible rfl)
  try simp only [Act.put, List.setIfInBounds_toArray, List.set_cons_zero, List.set_cons_succ]
  refine' wpAnyJ_take (i := 3) (v := _) [4, 5, 11, 12] ?hi3n3 (by kernel_rfl) (by kernel_rfl) (by kernel_rfl) (by kernel_rfl) (by kernel_rfl) (Or.inl ⟨?hw3n3, ?hy3n3⟩) HS.out ?rest3n3
  case hi3n3 => (simp only [List.getElem?_toArray, List.getElem?_cons_succ, List.getElem?_cons_zero]; rfl)
  case hw3n3 => rfl
  case hy3n3 => (intro w' hw'; have h0 := (HC.out _ (below_step HUD.out hw')).2.2; go_simp; try with_reducible rfl)
  try simp only [Act.put, List.setIfInBounds_toArray, List.set_cons_zero, List.set_cons_succ]
  refine' wpAnyJ_take (i := 4) (v := _) [5, 11, 12] ?hi4n4 (by kernel_rfl) (by kernel_rfl) (by kernel_rfl) (by kernel_rfl) (by kernel_rfl) (Or.inl ⟨?hw4n4, ?hy4n4⟩) HS.out ?rest4n4
  case hi4n4 => (simp only [List.getElem?_toArray, List.getElem?_cons_succ, List.getElem?_cons_zero]; rfl)
  case hw4n4 => rfl
  case hy4n4 => (intro w' hw'; go_simp; try with_reducible rfl)
  try simp only [Act.put, List.setIfInBounds_toArray, List.set_cons_zero, List.set_cons_succ]
  refine' wpAnyJ_take (i := 6) (v := _) [10, 11, 12] ?hi6n5 (by kernel_rfl) (by kernel_rfl) (by kernel_rfl) (by kernel_rfl) (by kernel_rfl) (Or.inl ⟨?hw6n5, ?hy6n5⟩) HS.out ?rest6n5
  case hi6n5 => (simp only [List.getElem?_toArray, List.getElem?_cons_succ, List.getElem?_cons_zero]; rfl)
  case hw6n5 => rfl
  case hy6n5 => (intro w' hw'; have h0 := (HC.out _ (below_step HUD.out hw')).1; go_simp; try with_reducible rfl)
  try simp only [Act.put, List.setIfInBounds_toArray, List.set_cons_zero, List.set_cons_succ]
  refine' wpAnyJ_take (i := 7) (v := _) [8, 9, 10, 11, 12] ?hi7n6 (by kernel_rfl) (by kernel_rfl) (by kernel_rfl) (by kernel_rfl) (by kernel_rfl) (Or.inl ⟨?hw7n6, ?hy7n6⟩) HS.out ?rest7n6
  case hi7n6 => (simp only [List.getElem?_toArray, List.getElem?_cons_succ, List.getElem?_cons_zero]; rfl)
  case hw7n6 => rfl
  case hy7n6 => (intro w' hw'; go_simp; try with_reducible rfl)
  try simp only [Act.put, List.setIfInBounds_toArray, List.set_cons_zero, List.set_cons_succ]
  refine' wpAnyJ_take (i := 8) (v := _) [9, 10, 11, 12] ?hi8n7 (by kernel_rfl) (by kernel_rfl) (by kernel_rfl) (by kernel_rfl) (by kernel_rfl) (Or.inl ⟨?hw8n7, ?hy8n7⟩) HS.out ?rest8n7
  case hi8n7 => (simp only [List.getElem?_toArray, List.getElem?_cons_succ, List.getElem?_cons_zero]; rfl)
  case hw8n7 => rfl
  case hy8n7 => (intro w' hw'; have h0 := (HC.out _ (below_step HUD.out hw')).2.2; go_simp; try with_reducible rfl)
  try simp only [Act.put, List.setIfInBounds_toArray, List.set_cons_zero, List.set_cons_succ]
  refine' wpAnyJ_take (i := 9) (v := _) [10, 11, 12] ?hi9n8 (by kernel_rfl) (by kernel_rfl) (by kernel_rfl) (by kernel_rfl) (by kernel_rfl) (Or.inl ⟨?hw9n8, ?hy9n8⟩) HS.out ?rest9n8
  case hi9n8 => (simp only [List.getElem?_toArray, List.getElem?_cons_succ, List.getElem?_cons_zero]; rfl)
  case hw9n8 => rfl
  case hy9n8 => (intro w' hw'; go_simp; try with_reducible rfl)
  try simp only [Act.put, List.setIfInBounds_toArray, List.set_cons_zero, List.set_cons_succ]
  refine' wpAnyJ_take (i := 10) (v := _) [11, 12] ?hi10n9 (by kernel_rfl) (by kernel_rfl) (by kernel_rfl) (by kernel_rfl) (by kernel_rfl) (Or.inl ⟨?hw10n9, ?hy10n9⟩) HS.out ?rest10n9
  case hi10n9 => (simp only [List.getElem?_toArray, List.getElem?_cons_succ, List.getElem?_cons_zero]; rfl)
  case hw10n9 => rfl
  case hy10n9 => (intro w' hw'; go_simp; try with_reducible rfl)
  try simp only [Act.put, List.setIfInBounds_toArray, List.set_cons_zero, List.set_cons_succ]
  refine' wpAnyJ_step (i := 0) (o := _) (by kernel_rfl) ?ho0n10 (fun K hK => ?step0n10)
  case ho0n10 => (simp only [List.getElem?_toArray, List.getElem?_cons_succ, List.getElem?_cons_zero]; rfl)
  go_simp
  have hal := below_alloc (Below.refl ud.heap.size ud) (.cells #[] 28)
  have HE := hide (own_emptyE Mg.cells 6 28 ud.heap.size ud HS.out.size)
  have HS := hide (below_step HS.out hal)
  obtain ⟨ve, hve⟩ : ∃ ve, Value.slice (some ⟨ud.heap.size, 0, none⟩) 0 0 = ve := ⟨_, rfl⟩
  rw [hve] at HE
  try rw [hve]
  obtain ⟨u1x, hu1⟩ : ∃ u1x, ud.alloc (.cells #[] 28) = u1x := ⟨_, rfl⟩
  rw [hu1] at HE HS
  try rw [hu1]
  clear hal hve hu1
  refine hK.out _ _ HS.out ?_
  clear hK K
  try simp only [Act.put, List.setIfInBounds_toArray, List.set_cons_zero, List.set_cons_succ]
  refine' wpAnyJ_step (i := 5) (o := _) (by kernel_rfl) ?ho5n11 (fun K hK => ?step5n11)
  case ho5n11 => (simp only [List.getElem?_toArray, List.getElem?_cons_succ, List.getElem?_cons_zero]; rfl)
  refine step_app_msg rfl (.tmp 171) (.tmp 175) rfl rfl ud.heap.size ve [] rfl HE.out _ _ i (W.take i) HLT.out rfl (HRT.out _ (below_step HUD.out HS.out)) (by simp only [List.length_nil]; omega) HS.out.size ?_
  intro v2 u2x ho2 hg2 hm2
  have HS2 := hide (HS.out.grown hg2 HS.out.size (fun q hq => (OwnL.lt HE.out q hq).1))
  have HE := hide ho2
  have HS := HS2
  rw [List.nil_append] at HE
  clear ho2 hg2 hm2 HS2
  refine hK.out _ _ HS.out ?_
  clear hK K
  try simp only [Act.put, List.setIfInBounds_toArray, List.set_cons_zero, List.set_cons_succ]
  refine' wpAnyJ_step (i := 11) (o := _) (by kernel_rfl) ?ho11n12 (fun K hK => ?step11n12)
  case ho11n12 => (simp only [List.getElem?_toArray, List.getElem?_cons_succ, List.getElem?_cons_zero]; rfl)
  refine step_app_msg rfl (.tmp 176) (.tmp 181) rfl rfl ud.heap.size v2 (W.take i) rfl HE.out _ _ (n - j) (W.drop j) HLD.out rfl (HRD.out _ (below_step HUD.out HS.out)) (by rw [HLT.out]; omega) HS.out.size ?_
  intro v5 u5x ho5 hg5 hm5
  have HS5 := hide (HS.out.grown hg5 HS.out.size (fun q hq => (OwnL.lt HE.out q hq).1))
  obtain ⟨A5, c5, rfl, hr5, _, hc5, hcm5⟩ := OwnL.row Mg.cells_len ho5
  have hl5 : (W.take i ++ W.drop j).length = n - 1 := by rw [List.length_append, HLT.out, HLD.out]; omega
  rw [hl5] at ho5 hc5
  try rw [hl5]
  have HO5 := hide ho5
  have HC5 := hide (And.intro hc5 hcm5)
  have HL5 := hide hl5
  have HS := HS5
  clear ho5 hg5 hm5 HS5 hr5 HE hl5 hc5 hcm5
  refine hK.out _ _ HS.out ?_
  clear hK K
  try simp only [Act.put, List.setIfInBounds_toArray, List.set_cons_zero, List.set_cons_succ]
  refine' wpAnyJ_last (i := 12) (o := _) (by kernel_rfl) ?ho12n13 (by kernel_rfl) (fun K hK => ?step12n13)
  case ho12n13 => (simp only [List.getElem?_toArray, List.getElem?_cons_succ, List.getElem?_cons_zero]; rfl)
  obtain ⟨d7, f7, _⟩ := HC.out _ (below_step HUD.out HS.out)
  go_simp
  refine hK.out _ _ ?_
  clear hK K
  try simp only [Act.put, List.setIfInBounds_toArray, List.set_cons_zero, List.set_cons_succ]
  refine wpAnyJ_done (by kernel_rfl) ?_ _
  refine NoPanic.normal ?_
  have HPZ := hide (PlH.renew HP3.out (below_step HUD.out HS.out) HO5.out HL5.out (by rw [HUE.out]; exact Nat.le_refl _) HC5.out HER.out)
  have EZ := hide ((Below.heap_setCell u5x ⟨c6 + 1, 0, none⟩ (.slice A5 (n - 1) c5) gb (fun e => by have : gb = c6 + 1 := by simpa using e
                                                                                                    omega)).trans (((below_step HUD.out HS.out).block gb (Array.getElem?_eq_some_iff.1 EO.out).1).trans EO.out))
  obtain ⟨uz, huz⟩ : ∃ uz, u5x.setCell ⟨c6 + 1, 0, none⟩ (.slice A5 (n - 1) c5) = uz := ⟨_, rfl⟩
  rw [huz] at HPZ EZ
  rw [huz]
  generalize (if c = j then some (⟨g, off, none⟩ : Addr) else some ⟨g, off + j * 6, none⟩) = tA
  have z0 := (op_cells EZ.out).1
  clear huz HS HUD HUE HO5 HC5 HL5 HRT HRD HLT HLD HC
  have q8 := (cell_of_row uz (c6 + 2) 0 _ _ _ HPZ.out.b8).trans rfl
  have q8z : uz.frozen? ⟨c6 + 2, 0, none⟩ = false := by simp [World.frozen?, HPZ.out.b8]
  have hlw : IntKind.i64.wrap ((l : Int) + 1) = (((l + 1 : Nat) : Int)) := by rw [IntKind.wrap_i64]; omega
  have HPY := hide HPZ.out.lost1
  go_wp2_with fail
  refine HK.out _ _ _ _ _ _ _ _ _ _ _ _ _ _ _ _ _ _ _ _ _ _ _ _ _ _ _ _ _ _ _ _ _ _ _ _ _ _ _ _ _ _ _ _ _ _ _ _ _ _ _ _ _ _ _ _ _ _ _ _ _ _ _ _ _ _ _ _ _ _ _ _ _ _ _ _ _ _ _ _ _ _ _ _ _ _ _ _ _ _ _ _ _ _ _ _ _ _ _ _ _ _ _ _ _ _ _ _ _ _ _ _ _ _ _ _ _ _ _ _ _ _ _ _ _ _ _ _ _ _ _ _ _ _ _ _ _ _ _ _ _ _ _ _ _ _ _ _ _ ⟨rb', A5, c5, W.eraseIdx i, l + 1, s, by have := HLE.out; omega, by omega, by omega, HE5.out, ?_⟩
  have h := HPY.out
  rw [HEE.out, map_erase] at h
  exact h
set_option maxRecDepth 1000000 in
set_option maxHeartbeats 6400000 in
theorem arm_take_hit {w u : World} {b m c6 c l s k gb : Nat} {rb : Option Nat} {A : Option Addr} {W : List Mg} {ok oi oj : Int} {x : Mg} (h : SwH w u b m c6 c l s k gb rb A W ok oi oj x) (e0 : ok = 1) (hb : hasB W.length oi = true)
    (q0 q1 q2 q3 q11 u4 u14 u15 u16 u17 u18 u19 u20 u21 u22 u23 u24 u25 u26 u27 u28 u29 u30 u31 u32 u33 u34 u35 u36 u37 u38 u39 u40 u41 u42 u43 u44 u45 u46 u47 u48 u49 u50 u51 u52 u53 u54 u55 u56 u57 u58 u59 u61 u62 u63 u64 u65 u66 u67 u68 u69 u70 u71 u72 u73 u74 u75 u76 u77 u78 u79 u80 u81 u82 u83 u84 u85 u86 u87 u88 u89 u90 u91 u92 u93 u94 u95 u96 u97 u98 u99 u100 u101 u102 u103 u104 u105 u106 u107 u108 u109 u110 u111 u112 u113 u114 u115 u116 u117 u118 u119 u120 u121 u122 u123 u124 u125 u126 u127 u128 u129 u130 u131 u132 u133 u134 u135 u136 u137 u138 u139 u140 u141 u142 u143 u144 u145 u146 u147 u148 u149 u150 u151 u152 u153 u154 u155 u156 u157 u158 u159 u160 u161 u162 u163 u164 u165 u166 u167 u168 u169 u170 u171 u172 u173 u174 u175 u176 u177 u178 u179 u180 u181 u182 u183 u184 u185 u186 u187 u188 u189 u190 u191 u192 u193 u194 u195 u196 u197 u198 u199 u200 u201 u202 u203 u204 u205 u206 u207 u208 u209 u210 u211 u212 u213 u214 u215 u216 u217 u218 u219 u220 u221 u222 u223 u224 u225 u226 u227 : Value) {K : Act → World → Prop} {Q : Exit → Act → World → Prop} (hK : ∀ (v4 v14 v15 v16 v17 v61 v62 v63 v64 v65 v66 v67 v68 v69 v70 v71 v72 v73 v74 v75 v76 v77 v78 v79 v80 v81 v82 v83 v84 v85 v86 v87 v88 v89 v90 v91 v92 v93 v94 v95 v96 v97 v98 v99 v100 v101 v102 v103 v104 v105 v106 v107 v108 v109 v110 v111 v112 v113 v114 v115 v116 v117 v118 v119 v120 v121 v122 v123 v124 v125 v126 v127 v128 v129 v130 v131 v132 v133 v134 v135 v136 v137 v138 v139 v140 v141 v142 v143 v144 v145 v146 v147 v148 v149 v150 v151 v152 v153 v154 v155 v156 v157 v158 v159 v160 v161 v162 v163 v164 v165 v166 v167 v168 v169 v170 v171 v172 v173 v174 v175 v176 v177 v178 v179 v180 v181 v182 v183 v184 v185 v186 v187 v188 v189 v190 v191 v192 v193 v194 v195 v196 v197 v198 v199 v200 v201 v202 v203 : Value) (W2 : World), PlR w b m c6 k W2 → K ⟨#[q0, q1, q2, q3, v4, .pointer (some ⟨b, 0, none⟩), .pointer (some ⟨c6, 0, none⟩), .pointer (some ⟨c6 + 1, 0, none⟩), .pointer (some ⟨c6 + 2, 0, none⟩), .pointer (some ⟨c6 + 3, 0, none⟩), .func (Fn.func 17) #[] #[.pointer (some ⟨c6 + 3, 0, none⟩), .pointer (some ⟨c6 + 1, 0, none⟩), .pointer (some ⟨c6, 0, none⟩), .pointer (some ⟨c6 + 2, 0, none⟩)], q11, .pointer (some ⟨gb, 0, none⟩), .bool (hasB W.length oi), v14, v15, v16, v17, u18, u19, u20, u21, u22, u23, u24, u25, u26, u27, u28, u29, u30, u31, u32, u33, u34, u35, u36, u37, u38, u39, u40, u41, u42, u43, u44, u45, u46, u47, u48, u49, u50, u51, u52, u53, u54, u55, u56, u57, u58, u59, .int .i64 ok, v61, v62, v63, v64, v65, v66, v67, v68, v69, v70, v71, v72, v73, v74, v75, v76, v77, v78, v79, v80, v81, v82, v83, v84, v85, v86, v87, v88, v89, v90, v91, v92, v93, v94, v95, v96, v97, v98, v99, v100, v101, v102, v103, v104, v105, v106, v107, v108, v109, v110, v111, v112, v113, v114, v115, v116, v117, v118, v119, v120, v121, v122, v123, v124, v125, v126, v127, v128, v129, v130, v131, v132, v133, v134, v135, v136, v137, v138, v139, v140, v141, v142, v143, v144, v145, v146, v147, v148, v149, v150, v151, v152, v153, v154, v155, v156, v157, v158, v159, v160, v161, v162, v163, v164, v165, v166, v167, v168, v169, v170, v171, v172, v173, v174, v175, v176, v177, v178, v179, v180, v181, v182, v183, v184, v185, v186, v187, v188, v189, v190, v191, v192, v193, v194, v195, v196, v197, v198, v199, v200, v201, v202, v203, u204, u205, u206, u207, u208, u209, u210, u211, u212, u213, u214, u215, u216, u217, u218, u219, u220, u221, u222, u223, u224, u225, u226, u227], []⟩ W2) :
    Code.wp Try.prog swCode (Exit.then K Q) ⟨#[q0, q1, q2, q3, u4, .pointer (some ⟨b, 0, none⟩), .pointer (some ⟨c6, 0, none⟩), .pointer (some ⟨c6 + 1, 0, none⟩), .pointer (some ⟨c6 + 2, 0, none⟩), .pointer (some ⟨c6 + 3, 0, none⟩), .func (Fn.func 17) #[] #[.pointer (some ⟨c6 + 3, 0, none⟩), .pointer (some ⟨c6 + 1, 0, none⟩), .pointer (some ⟨c6, 0, none⟩), .pointer (some ⟨c6 + 2, 0, none⟩)], q11, .pointer (some ⟨gb, 0, none⟩), .bool (hasB W.length oi), u14, u15, u16, u17, u18, u19, u20, u21, u22, u23, u24, u25, u26, u27, u28, u29, u30, u31, u32, u33, u34, u35, u36, u37, u38, u39, u40, u41, u42, u43, u44, u45, u46, u47, u48, u49, u50, u51, u52, u53, u54, u55, u56, u57, u58, u59, .int .i64 ok, u61, u62, u63, u64, u65, u66, u67, u68, u69, u70, u71, u72, u73, u74, u75, u76, u77, u78, u79, u80, u81, u82, u83, u84, u85, u86, u87, u88, u89, u90, u91, u92, u93, u94, u95, u96, u97, u98, u99, u100, u101, u102, u103, u104, u105, u106, u107, u108, u109, u110, u111, u112, u113, u114, u115, u116, u117, u118, u119, u120, u121, u122, u123, u124, u125, u126, u127, u128, u129, u130, u131, u132, u133, u134, u135, u136, u137, u138, u139, u140, u141, u142, u143, u144, u145, u146, u147, u148, u149, u150, u151, u152, u153, u154, u155, u156, u157, u158, u159, u160, u161, u162, u163, u164, u165, u166, u167, u168, u169, u170, u171, u172, u173, u174, u175, u176, u177, u178, u179, u180, u181, u182, u183, u184, u185, u186, u187, u188, u189, u190, u191, u192, u193, u194, u195, u196, u197, u198, u199, u200, u201, u202, u203, u204, u205, u206, u207, u208, u209, u210, u211, u212, u213, u214, u215, u216, u217, u218, u219, u220, u221, u222, u223, u224, u225, u226, u227], []⟩ u := by
  have HK := hide hK
  clear hK
  conv => arg 2; whnf
  subst e0
  obtain ⟨hP, hcap, eo, ⟨hgN, hg6, hgA⟩, ⟨hxr, hx50⟩, h50, hWk, hk80, hlk, hsk⟩ := h
  have hlt := (Array.getElem?_eq_some_iff.1 eo).1
  have hba := below_alloc (Below.refl u.heap.size u) (.cells #[.int .i64 0, .int .i64 0, .int .i64 0, .int .u64 0, .int .u64 0, .slice none 0 0] 28)
  have hz := heap_alloc_new u (.cells #[.int .i64 0, .int .i64 0, .int .i64 0, .int .u64 0, .int .u64 0, .slice none 0 0] 28)
  obtain ⟨wb, hwb⟩ : ∃ wb, u.alloc (.cells #[.int .i64 0, .int .i64 0, .int .i64 0, .int .u64 0, .int .u64 0, .slice none 0 0] 28) = wb := ⟨_, rfl⟩
  rw [hwb] at hba hz
  have HWB := hide hwb
  have HBA := hide hba
  have hPb := hP.below hba
  have eob := (hba.block gb hlt).trans eo
  have H50 := hide h50
  have hbl : b < u.heap.size := hP.net.at_.lt
  have HRL := hide hP.net.at_.row_lt
  obtain ⟨gq, hgq⟩ : ∃ gq, u.heap.size = gq := ⟨_, rfl⟩
  rw [hgq] at hz
  have HGQ := hide hgq
  rw [hb] at HK
  obtain ⟨i, rfl, hi⟩ := hasB_yes_of hb
  have hiC : i < (W.map Mg.bare).length := by rw [List.length_map]; exact hi
  have hnc := hP.cap.1
  have hcm := hP.cap.2
  obtain ⟨g, off, rfl⟩ : ∃ g off, A = some ⟨g, off, none⟩ := by
    obtain ⟨g, off, e, _⟩ := hP.row.at_ hi
    exact ⟨g, off, e⟩
  have HER : Hid (∀ x ∈ W.take i ++ W.drop (i + 1), x.rd w) := hide (fun x hx => hP.rd x (by
    rcases List.mem_append.1 hx with h | h
    · exact List.mem_of_mem_take h
    · exact List.mem_of_mem_drop h))
  have HEE : Hid (W.take i ++ W.drop (i + 1) = W.eraseIdx i) := hide (List.eraseIdx_eq_take_drop_succ W i).symm
  have HE5 : Hid (∀ x ∈ W.eraseIdx i, x.L.length ≤ 50) := hide (fun x hx => h50 x (List.mem_of_mem_eraseIdx hx))
  have HLE : Hid ((W.eraseIdx i).length + 1 = W.length) := hide (by rw [List.length_eraseIdx_of_lt hi]; omega)
  have HWI : Hid ((W[i]'hi).rd w) := hide (hP.rd _ (List.getElem_mem _))
  have HW5 : Hid ((W[i]'hi).L.length ≤ 50) := hide (h50 _ (List.getElem_mem _))
  have hCi : (W.map Mg.bare)[i]'hiC = (W[i]'hi).bare := by simp
  have HD := hide (take_pl hP hba (by rw [hgq]; exact Nat.le_refl _) hz i hiC)
  rw [hCi] at HD
  have EO := hide eob
  have HGN := hide hgN
  have hW0 := hPb.net.low
  obtain ⟨y, hy⟩ : ∃ y, W[i]'hi = y := ⟨_, rfl⟩
  rw [hy] at HD HWI HW5
  have HY := hide hy
  have HRY : Hid (∀ u' : World, RowAt Mg.cells 6 u' (some ⟨g, off, none⟩) W → u'.cell? ⟨g, off + i * 6, none⟩ = some (.int .i64 y.k) ∧ u'.cell? ⟨g, off + i * 6 + 1, none⟩ = some (.int .i64 y.f) ∧ u'.cell? ⟨g, off + i * 6 + 2, none⟩ = some (.int .i64 y.t) ∧ u'.cell? ⟨g, off + i * 6 + 3, none⟩ = some (.int .u64 y.id) ∧ u'.cell? ⟨g, off + i * 6 + 4, none⟩ = some (.int .u64 y.n) ∧ u'.cell? ⟨g, off + i * 6 + 5, none⟩ = some (.slice y.A y.L.length y.c)) := hide (fun u' hr => by
    have h := row6o hr hi
    rw [hy] at h
    exact h)
  obtain ⟨p0, p1, p2, p3, p4, p5, p6, p7, p8⟩ := op_cells eob
  have lgb := (Array.getElem?_eq_some_iff.1 eob).1
  have lgq := (Array.getElem?_eq_some_iff.1 hz).1
  have hc0 : ¬ c = 0 := by omega
  have hi0 : (0 : Int) ≤ (i : Int) := by omega
  have hiI : (i : Int) < (W.length : Int) := by omega
  have hicI : (i : Int) ≤ (c : Int) := by omega
  obtain ⟨j, hj⟩ : ∃ j, i + 1 = j := ⟨_, rfl⟩
  have hjw : IntKind.i64.wrap ((i : Int) + 1) = (j : Int) := by rw [IntKind.wrap_i64]; omega
  have hj0 : (0 : Int) ≤ (j : Int) := by omega
  have hjI : (j : Int) ≤ (W.length : Int) := by omega
  rw [hj] at HER HEE
  obtain ⟨n, hn⟩ : ∃ n, W.length = n := ⟨_, rfl⟩
  rw [hn] at hiI hjI hi hWk hnc HLE
  have HN := hide hn
  unfold maxLen at hcm
  clear hn
  rw [hb]
  clear hP hxr hgN hgA eo eob h50 hba hz hPb p2 p3 p4 p5 p6 p7 p8 hb hwb hCi hy hiC
  go_upto_region 31 with fail
  try rw [HWB.out]
  try rw [HGQ.out]
  have HGB : Hid (gb < gq) := hide (by rw [← HGQ.out]; exact hlt)
  clear hgq
  unfold Mg.val at HD
  go_upto_region 32 with fail
  go_wp2_with fail
  refine (Calls.mono HD.out ?_); rintro e w3 ⟨x, rb', rfl, hx, z3, hN3, hS3⟩
  have e3 := (hS3.block gb lgb HGN.out).trans EO.out
  have f3 : ∀ o, w3.frozen? ⟨gq, o, none⟩ = false := fun o => by simp [World.frozen?, z3]
  obtain ⟨s0, s1, s2, s3, s4, s5⟩ := six_cells z3
  have HX := hide hx
  have HN3 := hide hN3
  have HS4 := hide (Sets.set6 (S := fun x => x = gq) (Sets.refl w3) (g := gq) (fun _ => rfl) (.int .i64 x.k) (.int .i64 x.f) (.int .i64 x.t) (.int .u64 x.id) (.int .u64 x.n) (.slice x.A x.L.length x.c))
  have Z4 := hide (put6m (.int .i64 x.k) (.int .i64 x.f) (.int .i64 x.t) (.int .u64 x.id) (.int .u64 x.n) (.slice x.A x.L.length x.c) z3)
  have E4 := hide ((HS4.out.block gb (Array.getElem?_eq_some_iff.1 e3).1 (fun e => by have := HGB.out; omega)).trans e3)
  clear hx hN3 hS3 e3 z3 p0 p1 HD EO
  go_upto_region 34 with fail
  obtain ⟨wv, hwv⟩ : ∃ wv, ((((((w3.setCell ⟨gq, 0, none⟩ (.int .i64 x.k)).setCell ⟨gq, 1, none⟩ (.int .i64 x.f)).setCell ⟨gq, 2, none⟩ (.int .i64 x.t)).setCell ⟨gq, 3, none⟩ (.int .u64 x.id)).setCell ⟨gq, 4, none⟩ (.int .u64 x.n)).setCell ⟨gq, 5, none⟩ (.slice x.A x.L.length x.c)) = wv := ⟨_, rfl⟩
  rw [hwv] at HS4 Z4 E4 ⊢
  obtain ⟨hxr4, hP4⟩ := HN3.out wv HS4.out
  have HP4 := hide hP4
  have hl4 := hP4.lt
  have q7 := (cell_of_row wv (c6 + 1) 0 _ _ _ hP4.b7).trans rfl
  rw [HN.out] at q7
  have hl7 : c6 + 1 < wv.heap.size := by omega
  have lz4 := (Array.getElem?_eq_some_iff.1 Z4.out).1
  have le4 := (Array.getElem?_eq_some_iff.1 E4.out).1
  have lg4 : g < wv.heap.size := (hP4.blk _ rfl).2.1
  obtain ⟨y0, y1, y2, y3, y4, y5⟩ := HRY.out wv hP4.row
  obtain ⟨d0, d1, d2, d3, d4, d5⟩ := six_cells Z4.out
  obtain ⟨t0, t1, _⟩ := op_cells E4.out
  have HSM : Hid (∀ s : Near wv, Calls Try.prog 19 #[x.val, y.val] s.at_ fun e w' => e = .returned (.bool true) ∧ Below s.at_.heap.size s.at_ w') := hide (fun s => by
    have hyr := (HWI.out.below hP4.net.low)
    have hs : sameMB x y = true := sameMB_iff.2 (bare_same_of HX.out)
    have hx5 : x.L.length = y.L.length := by have := congrArg (fun z => z.L.length) HX.out; exact this
    have h5 := HW5.out
    have h := samem_any x y s.at_ (hxr4.1.below s.is) (hyr.1.below s.is) (by omega) (by omega)
    rw [hs] at h
    exact h)
  clear hwv s0 s1 s2 s3 s4 s5 f3 hP4 hxr4 hl4
  have rt0 := fun s : Near wv => s.cell t0 le4
  have rt1 := fun s : Near wv => s.cell t1 le4
  have rq7 := fun s : Near wv => s.cell q7 hl7
  have rd0 := fun s : Near wv => s.cell d0 lz4
  have ry0 := fun s : Near wv => s.cell y0 lg4
  have rd1 := fun s : Near wv => s.cell d1 lz4
  have ry1 := fun s : Near wv => s.cell y1 lg4
  have rd2 := fun s : Near wv => s.cell d2 lz4
  have ry2 := fun s : Near wv => s.cell y2 lg4
  have rd3 := fun s : Near wv => s.cell d3 lz4
  have ry3 := fun s : Near wv => s.cell y3 lg4
  have rd4 := fun s : Near wv => s.cell d4 lz4
  have ry4 := fun s : Near wv => s.cell y4 lg4
  have rd5 := fun s : Near wv => s.cell d5 lz4
  have ry5 := fun s : Near wv => s.cell y5 lg4
  unfold Mg.val at HSM
  clear HN3 HS4 Z4 HRY
  refine wp_region_near (by kernel_rfl) (by kernel_rfl) ?_
  repeat (go_big_quiet_step ((first | (go_at_call 19; exact near_of (HSM.out _)))))
  refine wpQuiet_nil ?_
  intro _ hw'
  obtain ⟨s1, rfl⟩ := hw'
  have HP3 := hide (HP4.out.below s1.is)
  have EO := hide ((s1.is.block gb le4).trans E4.out)
  clear rt0 rt1 rq7 t0 t1 q7 rd0 ry0 d0 y0 rd1 ry1 d1 y1 rd2 ry2 d2 y2 rd3 ry3 d3 y3 rd4 ry4 d4 y4 rd5 ry5 d5 y5 HP4 E4
  obtain ⟨wx, hwx⟩ : ∃ wx, s1.at_ = wx := ⟨_, rfl⟩
  rw [hwx] at HP3 EO ⊢
  clear hwx lz4 le4 lg4 hl7
  have hP := HP3.out
  have q7 := (cell_of_row wx (c6 + 1) 0 _ _ _ hP.b7).trans rfl
  rw [HN.out] at q7
  have q7z : wx.frozen? ⟨c6 + 1, 0, none⟩ = false := by simp [World.frozen?, hP.b7]
  have hl7 : c6 + 1 < wx.heap.size := by have := hP.lt; omega
  have ltg := (Array.getElem?_eq_some_iff.1 EO.out).1
  have k1 := (op_cells EO.out).2.1
  have HC : Hid (∀ W' : World, Below wx.heap.size wx W' → W'.cell? ⟨c6 + 1, 0, none⟩ = some (.slice (some ⟨g, off, none⟩) n c) ∧ W'.frozen? ⟨c6 + 1, 0, none⟩ = false ∧ W'.cell? ⟨gb, 1, none⟩ = some (.int .i64 i)) := hide (fun W' hW => ⟨keep_cell hW q7 hl7, (hW.frozen (p := ⟨c6 + 1, 0, none⟩) hl7).trans q7z, keep_cell hW k1 ltg⟩)
  have HRT : Hid (∀ W' : World, Below wx.heap.size wx W' → RowAt Mg.cells 6 W' (some ⟨g, off, none⟩) (W.take i)) := hide (fun W' hW => row_takeM (hP.row.below hW) i)
  have HRD : Hid (∀ W' : World, Below wx.heap.size wx W' → RowAt Mg.cells 6 W' (if c = j then some ⟨g, off, none⟩ else some ⟨g, off + j * 6, none⟩) (W.drop j)) := hide (fun W' hW => row_dropM (hP.row.below hW) (by rw [HN.out]; exact hnc) j)
  have HLT : Hid ((W.take i).length = i) := hide (by rw [List.length_take, HN.out]; omega)
  have HLD : Hid ((W.drop j).length = n - j) := hide (by rw [List.length_drop, HN.out])
  clear hP q7 q7z hl7 ltg k1
  go_upto_region 37 with fail
  refine j_start [12] (by kernel_rfl) ?_
  obtain ⟨ud, hud⟩ : ∃ ud, wx.drew = ud := ⟨_, rfl⟩
  have HUD : Hid (Below wx.heap.size wx ud) := hide (by rw [← hud]; exact (Below.refl _ _).drew)
  have HUE : Hid (ud.heap.size = wx.heap.size) := hide (by rw [← hud]; rfl)
  have HS : Hid (Below ud.heap.size ud ud) := hide (Below.refl _ _)
  rw [hud]
  clear hud
  refine' wpAnyJ_take (i := 1) (v := _) [4, 5, 11, 12] ?hi1n1 (by kernel_rfl) (by kernel_rfl) (by kernel_rfl) (by kernel_rfl) (by kernel_rfl) (Or.inl ⟨?hw1n1, ?hy1n1⟩) HS.out ?rest1n1
  case hi1n1 => (simp only [List.getElem?_toArray, List.getElem?_cons_succ, List.getElem?_cons_zero]; rfl)
  case hw1n1 => rfl
  case hy1n1 => (intro w' hw'; have h0 := (HC.out _ (below_step HUD.out hw')).1; go_simp; try with_reducible rfl)
  try simp only [Act.put, List.setIfInBounds_toArray, List.set_cons_zero, List.set_cons_succ]
  refine' wpAnyJ_take (i := 2) (v := _) [3, 4, 5, 11, 12] ?hi2n2 (by kernel_rfl) (by kernel_rfl) (by kernel_rfl) (by kernel_rfl) (by kernel_rfl) (Or.inl ⟨?hw2n2, ?hy2n2⟩) HS.out ?rest2n2
  case hi2n2 => (simp only [List.getElem?_toArray, List.getElem?_cons_succ, List.getElem?_cons_zero]; rfl)
  case hw2n2 => rfl
  case hy2n2 => (intro w' hw'; go_simp; try with_reducible rfl)
  try simp only [Act.put, List.setIfInBounds_toArray, List.set_cons_zero, List.set_cons_succ]
  refine' wpAnyJ_take (i := 3) (v := _) [4, 5, 11, 12] ?hi3n3 (by kernel_rfl) (by kernel_rfl) (by kernel_rfl) (by kernel_rfl) (by kernel_rfl) (Or.inl ⟨?hw3n3, ?hy3n3⟩) HS.out ?rest3n3
  case hi3n3 => (simp only [List.getElem?_toArray, List.getElem?_cons_succ, List.getElem?_cons_zero]; rfl)
  case hw3n3 => rfl
  case hy3n3 => (intro w' hw'; have h0 := (HC.out _ (below_step HUD.out hw')).2.2; go_simp; try with_reducible rfl)
  try simp only [Act.put, List.setIfInBounds_toArray, List.set_cons_zero, List.set_cons_succ]
  refine' wpAnyJ_take (i := 4) (v := _) [5, 11, 12] ?hi4n4 (by kernel_rfl) (by kernel_rfl) (by kernel_rfl) (by kernel_rfl) (by kernel_rfl) (Or.inl ⟨?hw4n4, ?hy4n4⟩) HS.out ?rest4n4
  case hi4n4 => (simp only [List.getElem?_toArray, List.getElem?_cons_succ, List.getElem?_cons_zero]; rfl)
  case hw4n4 => rfl
  case hy4n4 => (intro w' hw'; go_simp; try with_reducible rfl)
  try simp only [Act.put, List.setIfInBounds_toArray, List.set_cons_zero, List.set_cons_succ]
  refine' wpAnyJ_take (i := 6) (v := _) [10, 11, 12] ?hi6n5 (by kernel_rfl) (by kernel_rfl) (by kernel_rfl) (by kernel_rfl) (by kernel_rfl) (Or.inl ⟨?hw6n5, ?hy6n5⟩) HS.out ?rest6n5
  case hi6n5 => (simp only [List.getElem?_toArray, List.getElem?_cons_succ, List.getElem?_cons_zero]; rfl)
  case hw6n5 => rfl
  case hy6n5 => (intro w' hw'; have h0 := (HC.out _ (below_step HUD.out hw')).1; go_simp; try with_reducible rfl)
  try simp only [Act.put, List.setIfInBounds_toArray, List.set_cons_zero, List.set_cons_succ]
  refine' wpAnyJ_take (i := 7) (v := _) [8, 9, 10, 11, 12] ?hi7n6 (by kernel_rfl) (by kernel_rfl) (by kernel_rfl) (by kernel_rfl) (by kernel_rfl) (Or.inl ⟨?hw7n6, ?hy7n6⟩) HS.out ?rest7n6
  case hi7n6 => (simp only [List.getElem?_toArray, List.getElem?_cons_succ, List.getElem?_cons_zero]; rfl)
  case hw7n6 => rfl
  case hy7n6 => (intro w' hw'; go_simp; try with_reducible rfl)
  try simp only [Act.put, List.setIfInBounds_toArray, List.set_cons_zero, List.set_cons_succ]
  refine' wpAnyJ_take (i := 8) (v := _) [9, 10, 11, 12] ?hi8n7 (by kernel_rfl) (by kernel_rfl) (by kernel_rfl) (by kernel_rfl) (by kernel_rfl) (Or.inl ⟨?hw8n7, ?hy8n7⟩) HS.out ?rest8n7
  case hi8n7 => (simp only [List.getElem?_toArray, List.getElem?_cons_succ, List.getElem?_cons_zero]; rfl)
  case hw8n7 => rfl
  case hy8n7 => (intro w' hw'; have h0 := (HC.out _ (below_step HUD.out hw')).2.2; go_simp; try with_reducible rfl)
  try simp only [Act.put, List.setIfInBounds_toArray, List.set_cons_zero, List.set_cons_succ]
  refine' wpAnyJ_take (i := 9) (v := _) [10, 11, 12] ?hi9n8 (by kernel_rfl) (by kernel_rfl) (by kernel_rfl) (by kernel_rfl) (by kernel_rfl) (Or.inl ⟨?hw9n8, ?hy9n8⟩) HS.out ?rest9n8
  case hi9n8 => (simp only [List.getElem?_toArray, List.getElem?_cons_succ, List.getElem?_cons_zero]; rfl)
  case hw9n8 => rfl
  case hy9n8 => (intro w' hw'; go_simp; try with_reducible rfl)
  try simp only [Act.put, List.setIfInBounds_toArray, List.set_cons_zero, List.set_cons_succ]
  refine' wpAnyJ_take (i := 10) (v := _) [11, 12] ?hi10n9 (by kernel_rfl) (by kernel_rfl) (by kernel_rfl) (by kernel_rfl) (by kernel_rfl) (Or.inl ⟨?hw10n9, ?hy10n9⟩) HS.out ?rest10n9
  case hi10n9 => (simp only [List.getElem?_toArray, List.getElem?_cons_succ, List.getElem?_cons_zero]; rfl)
  case hw10n9 => rfl
  case hy10n9 => (intro w' hw'; go_simp; try with_reducible rfl)
  try simp only [Act.put, List.setIfInBounds_toArray, List.set_cons_zero, List.set_cons_succ]
  refine' wpAnyJ_step (i := 0) (o := _) (by kernel_rfl) ?ho0n10 (fun K hK => ?step0n10)
  case ho0n10 => (simp only [List.getElem?_toArray, List.getElem?_cons_succ, List.getElem?_cons_zero]; rfl)
  go_simp
  have hal := below_alloc (Below.refl ud.heap.size ud) (.cells #[] 28)
  have HE := hide (own_emptyE Mg.cells 6 28 ud.heap.size ud HS.out.size)
  have HS := hide (below_step HS.out hal)
  obtain ⟨ve, hve⟩ : ∃ ve, Value.slice (some ⟨ud.heap.size, 0, none⟩) 0 0 = ve := ⟨_, rfl⟩
  rw [hve] at HE
  try rw [hve]
  obtain ⟨u1x, hu1⟩ : ∃ u1x, ud.alloc (.cells #[] 28) = u1x := ⟨_, rfl⟩
  rw [hu1] at HE HS
  try rw [hu1]
  clear hal hve hu1
  refine hK.out _ _ HS.out ?_
  clear hK K
  try simp only [Act.put, List.setIfInBounds_toArray, List.set_cons_zero, List.set_cons_succ]
  refine' wpAnyJ_step (i := 5) (o := _) (by kernel_rfl) ?ho5n11 (fun K hK => ?step5n11)
  case ho5n11 => (simp only [List.getElem?_toArray, List.getElem?_cons_succ, List.getElem?_cons_zero]; rfl)
  refine step_app_msg rfl (.tmp 171) (.tmp 175) rfl rfl ud.heap.size ve [] rfl HE.out _ _ i (W.take i) HLT.out rfl (HRT.out _ (below_step HUD.out HS.out)) (by simp only [List.length_nil]; omega) HS.out.size ?_
  intro v2 u2x ho2 hg2 hm2
  have HS2 := hide (HS.out.grown hg2 HS.out.size (fun q hq => (OwnL.lt HE.out q hq).1))
  have HE := hide ho2
  have HS := HS2
  rw [List.nil_append] at HE
  clear ho2 hg2 hm2 HS2
  refine hK.out _ _ HS.out ?_
  clear hK K
  try simp only [Act.put, List.setIfInBounds_toArray, List.set_cons_zero, List.set_cons_succ]
  refine' wpAnyJ_step (i := 11) (o := _) (by kernel_rfl) ?ho11n12 (fun K hK => ?step11n12)
  case ho11n12 => (simp only [List.getElem?_toArray, List.getElem?_cons_succ, List.getElem?_cons_zero]; rfl)
  refine step_app_msg rfl (.tmp 176) (.tmp 181) rfl rfl ud.heap.size v2 (W.take i) rfl HE.out _ _ (n - j) (W.drop j) HLD.out rfl (HRD.out _ (below_step HUD.out HS.out)) (by rw [HLT.out]; omega) HS.out.size ?_
  intro v5 u5x ho5 hg5 hm5
  have HS5 := hide (HS.out.grown hg5 HS.out.size (fun q hq => (OwnL.lt HE.out q hq).1))
  obtain ⟨A5, c5, rfl, hr5, _, hc5, hcm5⟩ := OwnL.row Mg.cells_len ho5
  have hl5 : (W.take i ++ W.drop j).length = n - 1 := by rw [List.length_append, HLT.out, HLD.out]; omega
  rw [hl5] at ho5 hc5
  try rw [hl5]
  have HO5 := hide ho5
  have HC5 := hide (And.intro hc5 hcm5)
  have HL5 := hide hl5
  have HS := HS5
  clear ho5 hg5 hm5 HS5 hr5 HE hl5 hc5 hcm5
  refine hK.out _ _ HS.out ?_
  clear hK K
  try simp only [Act.put, List.setIfInBounds_toArray, List.set_cons_zero, List.set_cons_succ]
  refine' wpAnyJ_last (i := 12) (o := _) (by kernel_rfl) ?ho12n13 (by kernel_rfl) (fun K hK => ?step12n13)
  case ho12n13 => (simp only [List.getElem?_toArray, List.getElem?_cons_succ, List.getElem?_cons_zero]; rfl)
  obtain ⟨d7, f7, _⟩ := HC.out _ (below_step HUD.out HS.out)
  go_simp
  refine hK.out _ _ ?_
  clear hK K
  try simp only [Act.put, List.setIfInBounds_toArray, List.set_cons_zero, List.set_cons_succ]
  refine wpAnyJ_done (by kernel_rfl) ?_ _
  refine NoPanic.normal ?_
  have HPZ := hide (PlH.renew HP3.out (below_step HUD.out HS.out) HO5.out HL5.out (by rw [HUE.out]; exact Nat.le_refl _) HC5.out HER.out)
  have EZ := hide ((Below.heap_setCell u5x ⟨c6 + 1, 0, none⟩ (.slice A5 (n - 1) c5) gb (fun e => by have : gb = c6 + 1 := by simpa using e
                                                                                                    omega)).trans (((below_step HUD.out HS.out).block gb (Array.getElem?_eq_some_iff.1 EO.out).1).trans EO.out))
  obtain ⟨uz, huz⟩ : ∃ uz, u5x.setCell ⟨c6 + 1, 0, none⟩ (.slice A5 (n - 1) c5) = uz := ⟨_, rfl⟩
  rw [huz] at HPZ EZ
  rw [huz]
  generalize (if c = j then some (⟨g, off, none⟩ : Addr) else some ⟨g, off + j * 6, none⟩) = tA
  have z0 := (op_cells EZ.out).1
  clear huz HS HUD HUE HO5 HC5 HL5 HRT HRD HLT HLD HC
  go_wp2_with fail
  refine HK.out _ _ _ _ _ _ _ _ _ _ _ _ _ _ _ _ _ _ _ _ _ _ _ _ _ _ _ _ _ _ _ _ _ _ _ _ _ _ _ _ _ _ _ _ _ _ _ _ _ _ _ _ _ _ _ _ _ _ _ _ _ _ _ _ _ _ _ _ _ _ _ _ _ _ _ _ _ _ _ _ _ _ _ _ _ _ _ _ _ _ _ _ _ _ _ _ _ _ _ _ _ _ _ _ _ _ _ _ _ _ _ _ _ _ _ _ _ _ _ _ _ _ _ _ _ _ _ _ _ _ _ _ _ _ _ _ _ _ _ _ _ _ _ _ _ _ _ _ _ ⟨rb', A5, c5, W.eraseIdx i, l, s, by have := HLE.out; omega, by omega, by omega, HE5.out, ?_⟩
  have h := HPZ.out
  rw [HEE.out, map_erase] at h
  exact h
end Go.Proofs.Ytihhepojhoaacaa.netPlays
