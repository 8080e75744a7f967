/- The switch of clepsydralaw21.NetPlays: its arm Turn. Conditions: SwH. -/
import Derived.Test.YtihhepojhoaacaaNetPA
namespace Go.Proofs.Ytihhepojhoaacaa.netPlays
set_option linter.unusedVariables false
set_option linter.unusedSimpArgs false
open Go.ChangeShapes Go.WideShapes Go.ChangeAt Go.RowKit
theorem j_startS {P : Program} {ops : Array Oper} {Q : Exit → Act → World → Prop} (F : List Nat) {S : World → Prop} {id : Nat} {a : Act} {w : World} (hm : P.follows .mixedOrders = true) (h : wpAnyJ P .any ops (NoPanic Q) F S ops.size (Array.replicate ops.size false) a w.drew) : (Code.region id ops true).wp P Q a w :=
  wp_region_noPanic (wp_region_any hm (wpAny_of_J _ _ _ _ h))
set_option maxRecDepth 1000000 in
set_option maxHeartbeats 6400000 in
theorem arm_turn_miss {w u : World} {b m c6 c l s k gb : Nat} {rb : Option Nat} {A : Option Addr} {W : List Mg} {ok oi oj : Int} {x : Mg} (h : SwH w u b m c6 c l s k gb rb A W ok oi oj x) (hne : ¬ (ok = 0 ∨ ok = 1 ∨ ok = 2 ∨ ok = 3)) (hb : ¬ (hasB W.length oi = true ∧ hasB W.length oj = true))
    (q0 q1 q2 q3 q11 u4 u14 u15 u16 u17 u18 u19 u20 u21 u22 u23 u24 u25 u26 u27 u28 u29 u30 u31 u32 u33 u34 u35 u36 u37 u38 u39 u40 u41 u42 u43 u44 u45 u46 u47 u48 u49 u50 u51 u52 u53 u54 u55 u56 u57 u58 u59 u61 u62 u63 u64 u65 u66 u67 u68 u69 u70 u71 u72 u73 u74 u75 u76 u77 u78 u79 u80 u81 u82 u83 u84 u85 u86 u87 u88 u89 u90 u91 u92 u93 u94 u95 u96 u97 u98 u99 u100 u101 u102 u103 u104 u105 u106 u107 u108 u109 u110 u111 u112 u113 u114 u115 u116 u117 u118 u119 u120 u121 u122 u123 u124 u125 u126 u127 u128 u129 u130 u131 u132 u133 u134 u135 u136 u137 u138 u139 u140 u141 u142 u143 u144 u145 u146 u147 u148 u149 u150 u151 u152 u153 u154 u155 u156 u157 u158 u159 u160 u161 u162 u163 u164 u165 u166 u167 u168 u169 u170 u171 u172 u173 u174 u175 u176 u177 u178 u179 u180 u181 u182 u183 u184 u185 u186 u187 u188 u189 u190 u191 u192 u193 u194 u195 u196 u197 u198 u199 u200 u201 u202 u203 u204 u205 u206 u207 u208 u209 u210 u211 u212 u213 u214 u215 u216 u217 u218 u219 u220 u221 u222 u223 u224 u225 u226 u227 : Value) {K : Act → World → Prop} {Q : Exit → Act → World → Prop} (hK : ∀ (v4 v14 v15 v16 v17 v61 v62 v63 v64 v65 v66 v67 v68 v69 v70 v71 v72 v73 v74 v75 v76 v77 v78 v79 v80 v81 v82 v83 v84 v85 v86 v87 v88 v89 v90 v91 v92 v93 v94 v95 v96 v97 v98 v99 v100 v101 v102 v103 v104 v105 v106 v107 v108 v109 v110 v111 v112 v113 v114 v115 v116 v117 v118 v119 v120 v121 v122 v123 v124 v125 v126 v127 v128 v129 v130 v131 v132 v133 v134 v135 v136 v137 v138 v139 v140 v141 v142 v143 v144 v145 v146 v147 v148 v149 v150 v151 v152 v153 v154 v155 v156 v157 v158 v159 v160 v161 v162 v163 v164 v165 v166 v167 v168 v169 v170 v171 v172 v173 v174 v175 v176 v177 v178 v179 v180 v181 v182 v183 v184 v185 v186 v187 v188 v189 v190 v191 v192 v193 v194 v195 v196 v197 v198 v199 v200 v201 v202 v203 : Value) (W2 : World), PlR w b m c6 k W2 → K ⟨#[q0, q1, q2, q3, v4, .pointer (some ⟨b, 0, none⟩), .pointer (some ⟨c6, 0, none⟩), .pointer (some ⟨c6 + 1, 0, none⟩), .pointer (some ⟨c6 + 2, 0, none⟩), .pointer (some ⟨c6 + 3, 0, none⟩), .func (Fn.func 17) #[] #[.pointer (some ⟨c6 + 3, 0, none⟩), .pointer (some ⟨c6 + 1, 0, none⟩), .pointer (some ⟨c6, 0, none⟩), .pointer (some ⟨c6 + 2, 0, none⟩)], q11, .pointer (some ⟨gb, 0, none⟩), .bool (hasB W.length oi), v14, v15, v16, v17, u18, u19, u20, u21, u22, u23, u24, u25, u26, u27, u28, u29, u30, u31, u32, u33, u34, u35, u36, u37, u38, u39, u40, u41, u42, u43, u44, u45, u46, u47, u48, u49, u50, u51, u52, u53, u54, u55, u56, u57, u58, u59, .int .i64 ok, v61, v62, v63, v64, v65, v66, v67, v68, v69, v70, v71, v72, v73, v74, v75, v76, v77, v78, v79, v80, v81, v82, v83, v84, v85, v86, v87, v88, v89, v90, v91, v92, v93, v94, v95, v96, v97, v98, v99, v100, v101, v102, v103, v104, v105, v106, v107, v108, v109, v110, v111, v112, v113, v114, v115, v116, v117, v118, v119, v120, v121, v122, v123, v124, v125, v126, v127, v128, v129, v130, v131, v132, v133, v134, v135, v136, v137, v138, v139, v140, v141, v142, v143, v144, v145, v146, v147, v148, v149, v150, v151, v152, v153, v154, v155, v156, v157, v158, v159, v160, v161, v162, v163, v164, v165, v166, v167, v168, v169, v170, v171, v172, v173, v174, v175, v176, v177, v178, v179, v180, v181, v182, v183, v184, v185, v186, v187, v188, v189, v190, v191, v192, v193, v194, v195, v196, v197, v198, v199, v200, v201, v202, v203, u204, u205, u206, u207, u208, u209, u210, u211, u212, u213, u214, u215, u216, u217, u218, u219, u220, u221, u222, u223, u224, u225, u226, u227], []⟩ W2) :
    Code.wp Try.prog swCode (Exit.then K Q) ⟨#[q0, q1, q2, q3, u4, .pointer (some ⟨b, 0, none⟩), .pointer (some ⟨c6, 0, none⟩), .pointer (some ⟨c6 + 1, 0, none⟩), .pointer (some ⟨c6 + 2, 0, none⟩), .pointer (some ⟨c6 + 3, 0, none⟩), .func (Fn.func 17) #[] #[.pointer (some ⟨c6 + 3, 0, none⟩), .pointer (some ⟨c6 + 1, 0, none⟩), .pointer (some ⟨c6, 0, none⟩), .pointer (some ⟨c6 + 2, 0, none⟩)], q11, .pointer (some ⟨gb, 0, none⟩), .bool (hasB W.length oi), u14, u15, u16, u17, u18, u19, u20, u21, u22, u23, u24, u25, u26, u27, u28, u29, u30, u31, u32, u33, u34, u35, u36, u37, u38, u39, u40, u41, u42, u43, u44, u45, u46, u47, u48, u49, u50, u51, u52, u53, u54, u55, u56, u57, u58, u59, .int .i64 ok, u61, u62, u63, u64, u65, u66, u67, u68, u69, u70, u71, u72, u73, u74, u75, u76, u77, u78, u79, u80, u81, u82, u83, u84, u85, u86, u87, u88, u89, u90, u91, u92, u93, u94, u95, u96, u97, u98, u99, u100, u101, u102, u103, u104, u105, u106, u107, u108, u109, u110, u111, u112, u113, u114, u115, u116, u117, u118, u119, u120, u121, u122, u123, u124, u125, u126, u127, u128, u129, u130, u131, u132, u133, u134, u135, u136, u137, u138, u139, u140, u141, u142, u143, u144, u145, u146, u147, u148, u149, u150, u151, u152, u153, u154, u155, u156, u157, u158, u159, u160, u161, u162, u163, u164, u165, u166, u167, u168, u169, u170, u171, u172, u173, u174, u175, u176, u177, u178, u179, u180, u181, u182, u183, u184, u185, u186, u187, u188, u189, u190, u191, u192, u193, u194, u195, u196, u197, u198, u199, u200, u201, u202, u203, u204, u205, u206, u207, u208, u209, u210, u211, u212, u213, u214, u215, u216, u217, u218, u219, u220, u221, u222, u223, u224, u225, u226, u227], []⟩ u := by
  have HK := hide hK
  clear hK
  conv => arg 2; whnf
  have n0 : (ok == 0) = false := beq_eq_false_iff_ne.2 (fun e => hne (.inl e))
  have n1 : (ok == 1) = false := beq_eq_false_iff_ne.2 (fun e => hne (.inr (.inl e)))
  have n2 : (ok == 2) = false := beq_eq_false_iff_ne.2 (fun e => hne (.inr (.inr (.inl e))))
  have n3 : (ok == 3) = false := beq_eq_false_iff_ne.2 (fun e => hne (.inr (.inr (.inr e))))
  have m0 : ¬ ok = 0 := fun e => hne (.inl e)
  have m1 : ¬ ok = 1 := fun e => hne (.inr (.inl e))
  have m2 : ¬ ok = 2 := fun e => hne (.inr (.inr (.inl e)))
  have m3 : ¬ ok = 3 := fun e => hne (.inr (.inr (.inr e)))
  clear hne
  obtain ⟨hP, hcap, eo, ⟨hgN, hg6, hgA⟩, ⟨hxr, hx50⟩, h50, hWk, hk80, hlk, hsk⟩ := h
  have HD := hide (turn_miss hP.net.at_ oi oj (by
    rw [List.length_map]
    rintro ⟨h1, h2⟩
    exact hb ⟨by unfold hasB; simp [h1], by unfold hasB; simp [h2]⟩))
  have HPO := hide hP
  have H50 := hide h50
  obtain ⟨p0, p1, p2, p3, p4, p5, p6, p7, p8⟩ := op_cells eo
  have q7 := (cell_of_row u (c6 + 1) 0 _ _ _ hP.b7).trans rfl
  have HDN : Hid (∃ rb A c W l s, W.length ≤ k + 1 ∧ l ≤ 2 * (k + 1) ∧ s ≤ k + 1 ∧ (∀ y ∈ W, y.L.length ≤ 50) ∧ PlH w u b rb m c6 A c W l s (W.map Mg.bare) l s) := hide ⟨rb, A, c, W, l, s, by omega, by omega, by omega, h50, hP⟩
  clear hP hxr hgN hgA eo h50 p0 p3 p4 p5 p6 p7 p8 HPO H50 hWk hk80 hlk hsk hx50 hcap hg6
  cases hi : hasB W.length oi with
  | false =>
    rw [hi] at HK
    clear hb hi
    go_wp2_with fail
    refine (Calls.mono HD.out ?_); rintro e w2 ⟨rfl, rfl⟩
    go_wp2_with fail
    exact HK.out _ _ _ _ _ _ _ _ _ _ _ _ _ _ _ _ _ _ _ _ _ _ _ _ _ _ _ _ _ _ _ _ _ _ _ _ _ _ _ _ _ _ _ _ _ _ _ _ _ _ _ _ _ _ _ _ _ _ _ _ _ _ _ _ _ _ _ _ _ _ _ _ _ _ _ _ _ _ _ _ _ _ _ _ _ _ _ _ _ _ _ _ _ _ _ _ _ _ _ _ _ _ _ _ _ _ _ _ _ _ _ _ _ _ _ _ _ _ _ _ _ _ _ _ _ _ _ _ _ _ _ _ _ _ _ _ _ _ _ _ _ _ _ _ _ _ _ _ _ HDN.out
  | true =>
    rw [hi] at HK
    have hj : ¬ (0 ≤ oj ∧ oj < (W.length : Int)) := fun h => hb ⟨hi, by unfold hasB; simp [h]⟩
    obtain ⟨n, hn⟩ : ∃ n, W.length = n := ⟨_, rfl⟩
    rw [hn] at hj q7
    clear hb hi hn
    by_cases h0 : 0 ≤ oj
    · have h1 : ¬ oj < (n : Int) := fun h => hj ⟨h0, h⟩
      clear hj
      go_wp2_with fail
      refine (Calls.mono HD.out ?_); rintro e w2 ⟨rfl, rfl⟩
      go_wp2_with fail
      exact HK.out _ _ _ _ _ _ _ _ _ _ _ _ _ _ _ _ _ _ _ _ _ _ _ _ _ _ _ _ _ _ _ _ _ _ _ _ _ _ _ _ _ _ _ _ _ _ _ _ _ _ _ _ _ _ _ _ _ _ _ _ _ _ _ _ _ _ _ _ _ _ _ _ _ _ _ _ _ _ _ _ _ _ _ _ _ _ _ _ _ _ _ _ _ _ _ _ _ _ _ _ _ _ _ _ _ _ _ _ _ _ _ _ _ _ _ _ _ _ _ _ _ _ _ _ _ _ _ _ _ _ _ _ _ _ _ _ _ _ _ _ _ _ _ _ _ _ _ _ _ HDN.out
    · clear hj
      go_wp2_with fail
      refine (Calls.mono HD.out ?_); rintro e w2 ⟨rfl, rfl⟩
      go_wp2_with fail
      exact HK.out _ _ _ _ _ _ _ _ _ _ _ _ _ _ _ _ _ _ _ _ _ _ _ _ _ _ _ _ _ _ _ _ _ _ _ _ _ _ _ _ _ _ _ _ _ _ _ _ _ _ _ _ _ _ _ _ _ _ _ _ _ _ _ _ _ _ _ _ _ _ _ _ _ _ _ _ _ _ _ _ _ _ _ _ _ _ _ _ _ _ _ _ _ _ _ _ _ _ _ _ _ _ _ _ _ _ _ _ _ _ _ _ _ _ _ _ _ _ _ _ _ _ _ _ _ _ _ _ _ _ _ _ _ _ _ _ _ _ _ _ _ _ _ _ _ _ _ _ _ HDN.out
set_option maxRecDepth 1000000 in
set_option maxHeartbeats 6400000 in
theorem arm_turn_hit {w u : World} {b m c6 c l s k gb : Nat} {rb : Option Nat} {A : Option Addr} {W : List Mg} {ok oi oj : Int} {x : Mg} (h : SwH w u b m c6 c l s k gb rb A W ok oi oj x) (hne : ¬ (ok = 0 ∨ ok = 1 ∨ ok = 2 ∨ ok = 3)) (hb : hasB W.length oi = true ∧ hasB W.length oj = true)
    (q0 q1 q2 q3 q11 u4 u14 u15 u16 u17 u18 u19 u20 u21 u22 u23 u24 u25 u26 u27 u28 u29 u30 u31 u32 u33 u34 u35 u36 u37 u38 u39 u40 u41 u42 u43 u44 u45 u46 u47 u48 u49 u50 u51 u52 u53 u54 u55 u56 u57 u58 u59 u61 u62 u63 u64 u65 u66 u67 u68 u69 u70 u71 u72 u73 u74 u75 u76 u77 u78 u79 u80 u81 u82 u83 u84 u85 u86 u87 u88 u89 u90 u91 u92 u93 u94 u95 u96 u97 u98 u99 u100 u101 u102 u103 u104 u105 u106 u107 u108 u109 u110 u111 u112 u113 u114 u115 u116 u117 u118 u119 u120 u121 u122 u123 u124 u125 u126 u127 u128 u129 u130 u131 u132 u133 u134 u135 u136 u137 u138 u139 u140 u141 u142 u143 u144 u145 u146 u147 u148 u149 u150 u151 u152 u153 u154 u155 u156 u157 u158 u159 u160 u161 u162 u163 u164 u165 u166 u167 u168 u169 u170 u171 u172 u173 u174 u175 u176 u177 u178 u179 u180 u181 u182 u183 u184 u185 u186 u187 u188 u189 u190 u191 u192 u193 u194 u195 u196 u197 u198 u199 u200 u201 u202 u203 u204 u205 u206 u207 u208 u209 u210 u211 u212 u213 u214 u215 u216 u217 u218 u219 u220 u221 u222 u223 u224 u225 u226 u227 : Value) {K : Act → World → Prop} {Q : Exit → Act → World → Prop} (hK : ∀ (v4 v14 v15 v16 v17 v61 v62 v63 v64 v65 v66 v67 v68 v69 v70 v71 v72 v73 v74 v75 v76 v77 v78 v79 v80 v81 v82 v83 v84 v85 v86 v87 v88 v89 v90 v91 v92 v93 v94 v95 v96 v97 v98 v99 v100 v101 v102 v103 v104 v105 v106 v107 v108 v109 v110 v111 v112 v113 v114 v115 v116 v117 v118 v119 v120 v121 v122 v123 v124 v125 v126 v127 v128 v129 v130 v131 v132 v133 v134 v135 v136 v137 v138 v139 v140 v141 v142 v143 v144 v145 v146 v147 v148 v149 v150 v151 v152 v153 v154 v155 v156 v157 v158 v159 v160 v161 v162 v163 v164 v165 v166 v167 v168 v169 v170 v171 v172 v173 v174 v175 v176 v177 v178 v179 v180 v181 v182 v183 v184 v185 v186 v187 v188 v189 v190 v191 v192 v193 v194 v195 v196 v197 v198 v199 v200 v201 v202 v203 : Value) (W2 : World), PlR w b m c6 k W2 → K ⟨#[q0, q1, q2, q3, v4, .pointer (some ⟨b, 0, none⟩), .pointer (some ⟨c6, 0, none⟩), .pointer (some ⟨c6 + 1, 0, none⟩), .pointer (some ⟨c6 + 2, 0, none⟩), .pointer (some ⟨c6 + 3, 0, none⟩), .func (Fn.func 17) #[] #[.pointer (some ⟨c6 + 3, 0, none⟩), .pointer (some ⟨c6 + 1, 0, none⟩), .pointer (some ⟨c6, 0, none⟩), .pointer (some ⟨c6 + 2, 0, none⟩)], q11, .pointer (some ⟨gb, 0, none⟩), .bool (hasB W.length oi), v14, v15, v16, v17, u18, u19, u20, u21, u22, u23, u24, u25, u26, u27, u28, u29, u30, u31, u32, u33, u34, u35, u36, u37, u38, u39, u40, u41, u42, u43, u44, u45, u46, u47, u48, u49, u50, u51, u52, u53, u54, u55, u56, u57, u58, u59, .int .i64 ok, v61, v62, v63, v64, v65, v66, v67, v68, v69, v70, v71, v72, v73, v74, v75, v76, v77, v78, v79, v80, v81, v82, v83, v84, v85, v86, v87, v88, v89, v90, v91, v92, v93, v94, v95, v96, v97, v98, v99, v100, v101, v102, v103, v104, v105, v106, v107, v108, v109, v110, v111, v112, v113, v114, v115, v116, v117, v118, v119, v120, v121, v122, v123, v124, v125, v126, v127, v128, v129, v130, v131, v132, v133, v134, v135, v136, v137, v138, v139, v140, v141, v142, v143, v144, v145, v146, v147, v148, v149, v150, v151, v152, v153, v154, v155, v156, v157, v158, v159, v160, v161, v162, v163, v164, v165, v166, v167, v168, v169, v170, v171, v172, v173, v174, v175, v176, v177, v178, v179, v180, v181, v182, v183, v184, v185, v186, v187, v188, v189, v190, v191, v192, v193, v194, v195, v196, v197, v198, v199, v200, v201, v202, v203, u204, u205, u206, u207, u208, u209, u210, u211, u212, u213, u214, u215, u216, u217, u218, u219, u220, u221, u222, u223, u224, u225, u226, u227], []⟩ W2) :
    Code.wp Try.prog swCode (Exit.then K Q) ⟨#[q0, q1, q2, q3, u4, .pointer (some ⟨b, 0, none⟩), .pointer (some ⟨c6, 0, none⟩), .pointer (some ⟨c6 + 1, 0, none⟩), .pointer (some ⟨c6 + 2, 0, none⟩), .pointer (some ⟨c6 + 3, 0, none⟩), .func (Fn.func 17) #[] #[.pointer (some ⟨c6 + 3, 0, none⟩), .pointer (some ⟨c6 + 1, 0, none⟩), .pointer (some ⟨c6, 0, none⟩), .pointer (some ⟨c6 + 2, 0, none⟩)], q11, .pointer (some ⟨gb, 0, none⟩), .bool (hasB W.length oi), u14, u15, u16, u17, u18, u19, u20, u21, u22, u23, u24, u25, u26, u27, u28, u29, u30, u31, u32, u33, u34, u35, u36, u37, u38, u39, u40, u41, u42, u43, u44, u45, u46, u47, u48, u49, u50, u51, u52, u53, u54, u55, u56, u57, u58, u59, .int .i64 ok, u61, u62, u63, u64, u65, u66, u67, u68, u69, u70, u71, u72, u73, u74, u75, u76, u77, u78, u79, u80, u81, u82, u83, u84, u85, u86, u87, u88, u89, u90, u91, u92, u93, u94, u95, u96, u97, u98, u99, u100, u101, u102, u103, u104, u105, u106, u107, u108, u109, u110, u111, u112, u113, u114, u115, u116, u117, u118, u119, u120, u121, u122, u123, u124, u125, u126, u127, u128, u129, u130, u131, u132, u133, u134, u135, u136, u137, u138, u139, u140, u141, u142, u143, u144, u145, u146, u147, u148, u149, u150, u151, u152, u153, u154, u155, u156, u157, u158, u159, u160, u161, u162, u163, u164, u165, u166, u167, u168, u169, u170, u171, u172, u173, u174, u175, u176, u177, u178, u179, u180, u181, u182, u183, u184, u185, u186, u187, u188, u189, u190, u191, u192, u193, u194, u195, u196, u197, u198, u199, u200, u201, u202, u203, u204, u205, u206, u207, u208, u209, u210, u211, u212, u213, u214, u215, u216, u217, u218, u219, u220, u221, u222, u223, u224, u225, u226, u227], []⟩ u := by
  have HK := hide hK
  clear hK
  conv => arg 2; whnf
  have n0 : (ok == 0) = false := beq_eq_false_iff_ne.2 (fun e => hne (.inl e))
  have n1 : (ok == 1) = false := beq_eq_false_iff_ne.2 (fun e => hne (.inr (.inl e)))
  have n2 : (ok == 2) = false := beq_eq_false_iff_ne.2 (fun e => hne (.inr (.inr (.inl e))))
  have n3 : (ok == 3) = false := beq_eq_false_iff_ne.2 (fun e => hne (.inr (.inr (.inr e))))
  have m0 : ¬ ok = 0 := fun e => hne (.inl e)
  have m1 : ¬ ok = 1 := fun e => hne (.inr (.inl e))
  have m2 : ¬ ok = 2 := fun e => hne (.inr (.inr (.inl e)))
  have m3 : ¬ ok = 3 := fun e => hne (.inr (.inr (.inr e)))
  clear hne
  obtain ⟨hP, hcap, eo, ⟨hgN, hg6, hgA⟩, ⟨hxr, hx50⟩, h50, hWk, hk80, hlk, hsk⟩ := h
  have hlt := (Array.getElem?_eq_some_iff.1 eo).1
  rw [hb.1] at HK ⊢
  obtain ⟨i, rfl, hi⟩ := hasB_yes_of hb.1
  obtain ⟨j, rfl, hj⟩ := hasB_yes_of hb.2
  clear hb
  have hiC : i < (W.map Mg.bare).length := by rw [List.length_map]; exact hi
  have hjC : j < (W.map Mg.bare).length := by rw [List.length_map]; exact hj
  have HD := hide (turn_pl hP i j hiC hjC)
  obtain ⟨g, off, rfl⟩ : ∃ g off, A = some ⟨g, off, none⟩ := by
    obtain ⟨g, off, e, _⟩ := hP.row.at_ hi
    exact ⟨g, off, e⟩
  have hxi := hP.rd _ (List.getElem_mem hi)
  have hyj := hP.rd _ (List.getElem_mem hj)
  have HMEM : Hid (∀ z ∈ (W.set i (W[j]'hj)).set j (W[i]'hi), z ∈ W) := hide (fun z hz => by
    rcases List.mem_or_eq_of_mem_set hz with h1 | rfl
    · rcases List.mem_or_eq_of_mem_set h1 with h2 | rfl
      · exact h2
      · exact List.getElem_mem _
    · exact List.getElem_mem _)
  have HCC : Hid (((W.map Mg.bare).set i ((W.map Mg.bare)[j]'hjC)).set j ((W.map Mg.bare)[i]'hiC) = ((W.set i (W[j]'hj)).set j (W[i]'hi)).map Mg.bare) := hide (by simp [List.map_set])
  rw [HCC.out] at HD
  have HR6 : Hid (∀ (u' : World) (t : Nat) (ht : t < W.length), RowAt Mg.cells 6 u' (some ⟨g, off, none⟩) W → u'.cell? ⟨g, off + t * 6, none⟩ = some (.int .i64 (W[t]'ht).k) ∧ u'.cell? ⟨g, off + t * 6 + 1, none⟩ = some (.int .i64 (W[t]'ht).f) ∧ u'.cell? ⟨g, off + t * 6 + 2, none⟩ = some (.int .i64 (W[t]'ht).t) ∧ u'.cell? ⟨g, off + t * 6 + 3, none⟩ = some (.int .u64 (W[t]'ht).id) ∧ u'.cell? ⟨g, off + t * 6 + 4, none⟩ = some (.int .u64 (W[t]'ht).n) ∧ u'.cell? ⟨g, off + t * 6 + 5, none⟩ = some (.slice (W[t]'ht).A (W[t]'ht).L.length (W[t]'ht).c)) := hide (fun u' t ht hr => row6o hr ht)
  have HX6 := hide (fun u' => HR6.out u' i hi)
  have HY6 := hide (fun u' => HR6.out u' j hj)
  obtain ⟨x', hx'⟩ : ∃ x', W[i]'hi = x' := ⟨_, rfl⟩
  obtain ⟨y, hy⟩ : ∃ y, W[j]'hj = y := ⟨_, rfl⟩
  rw [hx', hy] at HMEM HD
  rw [hx'] at HX6
  rw [hy] at HY6
  have H50 := hide h50
  have EO := hide eo
  have HGN := hide hgN
  have HPO := hide hP
  obtain ⟨p0, p1, p2, p3, p4, p5, p6, p7, p8⟩ := op_cells eo
  have q7 := (cell_of_row u (c6 + 1) 0 _ _ _ hP.b7).trans rfl
  have hi0 : (0 : Int) ≤ (i : Int) := by omega
  have hj0 : (0 : Int) ≤ (j : Int) := by omega
  have hiI : (i : Int) < (W.length : Int) := by omega
  have hjI : (j : Int) < (W.length : Int) := by omega
  obtain ⟨n, hn⟩ : ∃ n, W.length = n := ⟨_, rfl⟩
  rw [hn] at hi hj hiI hjI q7
  have HN := hide hn
  clear hP hxr hgN eo h50 p0 p3 p4 p5 p6 p7 p8 hiC hjC HCC HR6 hx' hy hxi hyj hn
  go_wp2_with fail
  refine (Calls.mono HD.out ?_); rintro e w3 ⟨rfl, hP3, hS3⟩
  have e3 := (hS3.block gb hlt HGN.out).trans EO.out
  have lt3 := (Array.getElem?_eq_some_iff.1 e3).1
  obtain ⟨_, t1, t2, _⟩ := op_cells e3
  have HP3 := hide hP3
  have q3 := (cell_of_row w3 (c6 + 1) 0 _ _ _ hP3.b7).trans rfl
  rw [HN.out] at q3
  have hl7 : c6 + 1 < w3.heap.size := by have := hP3.lt; omega
  have hbk := hP3.blk _ rfl
  have hgl : g < w3.heap.size := hbk.2.1
  have hgf : ∀ o, w3.frozen? ⟨g, o, none⟩ = false := hbk.2.2.2
  have hc7 : ¬ c6 + 1 = g := by
    have h : c6 + 4 ≤ g := hbk.1
    omega
  have hgbg : ¬ gb = g := fun e => hgA _ rfl e.symm
  obtain ⟨ud, hud⟩ : ∃ ud, w3.drew = ud := ⟨_, rfl⟩
  have HUD := hide hud
  have HRU : Hid (RowAt Mg.cells 6 ud (some ⟨g, off, none⟩) W) := hide (by rw [← hud]; exact hP3.row)
  have HS : Hid ((fun W' : World => W'.cell? ⟨c6 + 1, 0, none⟩ = some (.slice (some ⟨g, off, none⟩) n c) ∧ W'.cell? ⟨gb, 1, none⟩ = some (.int .i64 i) ∧ W'.cell? ⟨gb, 2, none⟩ = some (.int .i64 j)) ud) := hide (by rw [← hud]; exact ⟨q3, t1, t2⟩)
  have HSU : Hid (Sets (fun c => c = g) w3 ud) := hide (by rw [← hud]; exact (Sets.refl w3).drew)
  have hlu : w3.heap.size = ud.heap.size := by rw [← hud]; rfl
  have hgf : ∀ o, ud.frozen? ⟨g, o, none⟩ = false := by rw [← hud]; exact hgf
  have hxx := HX6.out ud HRU.out
  have hyy := HY6.out ud HRU.out
  rw [hlu] at hl7 lt3 hgl
  obtain ⟨x, rfl⟩ : ∃ x, x = x' := ⟨_, rfl⟩
  have hr1 : RowAt Mg.cells 6 ((((((ud.setCell ⟨g, off + i * 6, none⟩ (.int .i64 y.k)).setCell ⟨g, off + i * 6 + 1, none⟩ (.int .i64 y.f)).setCell ⟨g, off + i * 6 + 2, none⟩ (.int .i64 y.t)).setCell ⟨g, off + i * 6 + 3, none⟩ (.int .u64 y.id)).setCell ⟨g, off + i * 6 + 4, none⟩ (.int .u64 y.n)).setCell ⟨g, off + i * 6 + 5, none⟩ (.slice y.A y.L.length y.c)) (some ⟨g, off, none⟩) (W.set i y) := by
    have h := row_put6 HRU.out (k := i) (by rw [HN.out]; exact hi) y
    unfold Mg.cells at h
    rw [← six_sets] at h
    exact h
  have hs1 : Sets (fun c => c = g) ud ((((((ud.setCell ⟨g, off + i * 6, none⟩ (.int .i64 y.k)).setCell ⟨g, off + i * 6 + 1, none⟩ (.int .i64 y.f)).setCell ⟨g, off + i * 6 + 2, none⟩ (.int .i64 y.t)).setCell ⟨g, off + i * 6 + 3, none⟩ (.int .u64 y.id)).setCell ⟨g, off + i * 6 + 4, none⟩ (.int .u64 y.n)).setCell ⟨g, off + i * 6 + 5, none⟩ (.slice y.A y.L.length y.c)) := ((((((Sets.refl (S := fun c => c = g) ud).set (g := g) (fun _ => rfl) (off + i * 6) _).set (g := g) (fun _ => rfl) (off + i * 6 + 1) _).set (g := g) (fun _ => rfl) (off + i * 6 + 2) _).set (g := g) (fun _ => rfl) (off + i * 6 + 3) _).set (g := g) (fun _ => rfl) (off + i * 6 + 4) _).set (g := g) (fun _ => rfl) (off + i * 6 + 5) _
  have hf1 : ∀ o, ((((((ud.setCell ⟨g, off + i * 6, none⟩ (.int .i64 y.k)).setCell ⟨g, off + i * 6 + 1, none⟩ (.int .i64 y.f)).setCell ⟨g, off + i * 6 + 2, none⟩ (.int .i64 y.t)).setCell ⟨g, off + i * 6 + 3, none⟩ (.int .u64 y.id)).setCell ⟨g, off + i * 6 + 4, none⟩ (.int .u64 y.n)).setCell ⟨g, off + i * 6 + 5, none⟩ (.slice y.A y.L.length y.c)).frozen? ⟨g, o, none⟩ = false := fun o => by simp [hgf]
  have hkM1 : j < (W.set i y).length := by rw [List.length_set, HN.out]; exact hj
  have HR1 := hide hr1
  have HS1 := hide hs1
  have HF1 := hide hf1
  have HXI := hide hxx
  have HYI := hide hyy
  clear hr1 hs1 hf1 hxx hyy hP3 hS3 e3 q7 p1 p2 hbk HX6 HY6 q3 t1 t2 hud hlu
  go_upto_region 20 with fail
  refine j_startS [19] (S := (fun W' : World => W'.cell? ⟨c6 + 1, 0, none⟩ = some (.slice (some ⟨g, off, none⟩) n c) ∧ W'.cell? ⟨gb, 1, none⟩ = some (.int .i64 i) ∧ W'.cell? ⟨gb, 2, none⟩ = some (.int .i64 j))) (by kernel_rfl) ?_
  rw [HUD.out]
  refine' wpAnyJ_take (i := 0) (v := _) [16, 17, 18, 19] ?hi0n1 (by kernel_rfl) (by kernel_rfl) (by kernel_rfl) (by kernel_rfl) (by kernel_rfl) (Or.inl ⟨?hw0n1, ?hy0n1⟩) HS.out ?rest0n1
  case hi0n1 => (simp only [List.getElem?_toArray, List.getElem?_cons_succ, List.getElem?_cons_zero]; rfl)
  case hw0n1 => rfl
  case hy0n1 => (intro w' hw'; have h0 := hw'.1; go_simp; try with_reducible rfl)
  try simp only [Act.put, List.setIfInBounds_toArray, List.set_cons_zero, List.set_cons_succ]
  refine' wpAnyJ_take (i := 1) (v := _) [2, 16, 17, 18, 19] ?hi1n2 (by kernel_rfl) (by kernel_rfl) (by kernel_rfl) (by kernel_rfl) (by kernel_rfl) (Or.inl ⟨?hw1n2, ?hy1n2⟩) HS.out ?rest1n2
  case hi1n2 => (simp only [List.getElem?_toArray, List.getElem?_cons_succ, List.getElem?_cons_zero]; rfl)
  case hw1n2 => rfl
  case hy1n2 => (intro w' hw'; go_simp; try with_reducible rfl)
  try simp only [Act.put, List.setIfInBounds_toArray, List.set_cons_zero, List.set_cons_succ]
  refine' wpAnyJ_take (i := 2) (v := _) [16, 17, 18, 19] ?hi2n3 (by kernel_rfl) (by kernel_rfl) (by kernel_rfl) (by kernel_rfl) (by kernel_rfl) (Or.inl ⟨?hw2n3, ?hy2n3⟩) HS.out ?rest2n3
  case hi2n3 => (simp only [List.getElem?_toArray, List.getElem?_cons_succ, List.getElem?_cons_zero]; rfl)
  case hw2n3 => rfl
  case hy2n3 => (intro w' hw'; have h0 := hw'.2.1; go_simp; try with_reducible rfl)
  try simp only [Act.put, List.setIfInBounds_toArray, List.set_cons_zero, List.set_cons_succ]
  refine' wpAnyJ_take (i := 3) (v := _) [18, 19] ?hi3n4 (by kernel_rfl) (by kernel_rfl) (by kernel_rfl) (by kernel_rfl) (by kernel_rfl) (Or.inl ⟨?hw3n4, ?hy3n4⟩) HS.out ?rest3n4
  case hi3n4 => (simp only [List.getElem?_toArray, List.getElem?_cons_succ, List.getElem?_cons_zero]; rfl)
  case hw3n4 => rfl
  case hy3n4 => (intro w' hw'; have h0 := hw'.1; go_simp; try with_reducible rfl)
  try simp only [Act.put, List.setIfInBounds_toArray, List.set_cons_zero, List.set_cons_succ]
  refine' wpAnyJ_take (i := 4) (v := _) [5, 18, 19] ?hi4n5 (by kernel_rfl) (by kernel_rfl) (by kernel_rfl) (by kernel_rfl) (by kernel_rfl) (Or.inl ⟨?hw4n5, ?hy4n5⟩) HS.out ?rest4n5
  case hi4n5 => (simp only [List.getElem?_toArray, List.getElem?_cons_succ, List.getElem?_cons_zero]; rfl)
  case hw4n5 => rfl
  case hy4n5 => (intro w' hw'; go_simp; try with_reducible rfl)
  try simp only [Act.put, List.setIfInBounds_toArray, List.set_cons_zero, List.set_cons_succ]
  refine' wpAnyJ_take (i := 5) (v := _) [18, 19] ?hi5n6 (by kernel_rfl) (by kernel_rfl) (by kernel_rfl) (by kernel_rfl) (by kernel_rfl) (Or.inl ⟨?hw5n6, ?hy5n6⟩) HS.out ?rest5n6
  case hi5n6 => (simp only [List.getElem?_toArray, List.getElem?_cons_succ, List.getElem?_cons_zero]; rfl)
  case hw5n6 => rfl
  case hy5n6 => (intro w' hw'; have h0 := hw'.2.2; go_simp; try with_reducible rfl)
  try simp only [Act.put, List.setIfInBounds_toArray, List.set_cons_zero, List.set_cons_succ]
  refine' wpAnyJ_take (i := 6) (v := _) [9, 10, 16, 17, 18, 19] ?hi6n7 (by kernel_rfl) (by kernel_rfl) (by kernel_rfl) (by kernel_rfl) (by kernel_rfl) (Or.inl ⟨?hw6n7, ?hy6n7⟩) HS.out ?rest6n7
  case hi6n7 => (simp only [List.getElem?_toArray, List.getElem?_cons_succ, List.getElem?_cons_zero]; rfl)
  case hw6n7 => rfl
  case hy6n7 => (intro w' hw'; have h0 := hw'.1; go_simp; try with_reducible rfl)
  try simp only [Act.put, List.setIfInBounds_toArray, List.set_cons_zero, List.set_cons_succ]
  refine' wpAnyJ_take (i := 7) (v := _) [8, 9, 10, 16, 17, 18, 19] ?hi7n8 (by kernel_rfl) (by kernel_rfl) (by kernel_rfl) (by kernel_rfl) (by kernel_rfl) (Or.inl ⟨?hw7n8, ?hy7n8⟩) HS.out ?rest7n8
  case hi7n8 => (simp only [List.getElem?_toArray, List.getElem?_cons_succ, List.getElem?_cons_zero]; rfl)
  case hw7n8 => rfl
  case hy7n8 => (intro w' hw'; go_simp; try with_reducible rfl)
  try simp only [Act.put, List.setIfInBounds_toArray, List.set_cons_zero, List.set_cons_succ]
  refine' wpAnyJ_take (i := 8) (v := _) [9, 10, 16, 17, 18, 19] ?hi8n9 (by kernel_rfl) (by kernel_rfl) (by kernel_rfl) (by kernel_rfl) (by kernel_rfl) (Or.inl ⟨?hw8n9, ?hy8n9⟩) HS.out ?rest8n9
  case hi8n9 => (simp only [List.getElem?_toArray, List.getElem?_cons_succ, List.getElem?_cons_zero]; rfl)
  case hw8n9 => rfl
  case hy8n9 => (intro w' hw'; have h0 := hw'.2.2; go_simp; try with_reducible rfl)
  try simp only [Act.put, List.setIfInBounds_toArray, List.set_cons_zero, List.set_cons_succ]
  refine' wpAnyJ_take (i := 9) (v := _) [10, 16, 17, 18, 19] ?hi9n10 (by kernel_rfl) (by kernel_rfl) (by kernel_rfl) (by kernel_rfl) (by kernel_rfl) (Or.inl ⟨?hw9n10, ?hy9n10⟩) HS.out ?rest9n10
  case hi9n10 => (simp only [List.getElem?_toArray, List.getElem?_cons_succ, List.getElem?_cons_zero]; rfl)
  case hw9n10 => rfl
  case hy9n10 => (intro w' hw'; go_simp; try with_reducible rfl)
  try simp only [Act.put, List.setIfInBounds_toArray, List.set_cons_zero, List.set_cons_succ]
  refine' wpAnyJ_take (i := 11) (v := _) [14, 15, 16, 17, 18, 19] ?hi11n11 (by kernel_rfl) (by kernel_rfl) (by kernel_rfl) (by kernel_rfl) (by kernel_rfl) (Or.inl ⟨?hw11n11, ?hy11n11⟩) HS.out ?rest11n11
  case hi11n11 => (simp only [List.getElem?_toArray, List.getElem?_cons_succ, List.getElem?_cons_zero]; rfl)
  case hw11n11 => rfl
  case hy11n11 => (intro w' hw'; have h0 := hw'.1; go_simp; try with_reducible rfl)
  try simp only [Act.put, List.setIfInBounds_toArray, List.set_cons_zero, List.set_cons_succ]
  refine' wpAnyJ_take (i := 12) (v := _) [13, 14, 15, 16, 17, 18, 19] ?hi12n12 (by kernel_rfl) (by kernel_rfl) (by kernel_rfl) (by kernel_rfl) (by kernel_rfl) (Or.inl ⟨?hw12n12, ?hy12n12⟩) HS.out ?rest12n12
  case hi12n12 => (simp only [List.getElem?_toArray, List.getElem?_cons_succ, List.getElem?_cons_zero]; rfl)
  case hw12n12 => rfl
  case hy12n12 => (intro w' hw'; go_simp; try with_reducible rfl)
  try simp only [Act.put, List.setIfInBounds_toArray, List.set_cons_zero, List.set_cons_succ]
  refine' wpAnyJ_take (i := 13) (v := _) [14, 15, 16, 17, 18, 19] ?hi13n13 (by kernel_rfl) (by kernel_rfl) (by kernel_rfl) (by kernel_rfl) (by kernel_rfl) (Or.inl ⟨?hw13n13, ?hy13n13⟩) HS.out ?rest13n13
  case hi13n13 => (simp only [List.getElem?_toArray, List.getElem?_cons_succ, List.getElem?_cons_zero]; rfl)
  case hw13n13 => rfl
  case hy13n13 => (intro w' hw'; have h0 := hw'.2.1; go_simp; try with_reducible rfl)
  try simp only [Act.put, List.setIfInBounds_toArray, List.set_cons_zero, List.set_cons_succ]
  refine' wpAnyJ_take (i := 14) (v := _) [15, 16, 17, 18, 19] ?hi14n14 (by kernel_rfl) (by kernel_rfl) (by kernel_rfl) (by kernel_rfl) (by kernel_rfl) (Or.inl ⟨?hw14n14, ?hy14n14⟩) HS.out ?rest14n14
  case hi14n14 => (simp only [List.getElem?_toArray, List.getElem?_cons_succ, List.getElem?_cons_zero]; rfl)
  case hw14n14 => rfl
  case hy14n14 => (intro w' hw'; go_simp; try with_reducible rfl)
  try simp only [Act.put, List.setIfInBounds_toArray, List.set_cons_zero, List.set_cons_succ]
  refine' wpAnyJ_step2 (i := 10) (j := 15) (oi := _) (oj := _) (by kernel_rfl) ?han15 ?hbn15 (fun K hK => ?san15) (fun K hK => ?sbn15)
  case han15 => (simp only [List.getElem?_toArray, List.getElem?_cons_succ, List.getElem?_cons_zero]; rfl)
  case hbn15 => (simp only [List.getElem?_toArray, List.getElem?_cons_succ, List.getElem?_cons_zero]; rfl)
  case san15 =>
    obtain ⟨i0, i1, i2, i3, i4, i5⟩ := HYI.out
    go_simp
    refine hK.out _ _ HS.out ?_
    clear hK K
    clear i0 i1 i2 i3 i4 i5
    try simp only [Act.put, List.setIfInBounds_toArray, List.set_cons_zero, List.set_cons_succ]
    refine' wpAnyJ_step (i := 15) (o := _) (by kernel_rfl) ?ho15n16 (fun K hK => ?step15n16)
    case ho15n16 => (simp only [List.getElem?_toArray, List.getElem?_cons_succ, List.getElem?_cons_zero]; rfl)
    obtain ⟨i0, i1, i2, i3, i4, i5⟩ := HXI.out
    go_simp
    refine hK.out _ _ HS.out ?_
    clear hK K
    clear i0 i1 i2 i3 i4 i5
    try simp only [Act.put, List.setIfInBounds_toArray, List.set_cons_zero, List.set_cons_succ]
    refine' wpAnyJ_take (i := 16) (v := _) [17, 18, 19] ?hi16n17 (by kernel_rfl) (by kernel_rfl) (by kernel_rfl) (by kernel_rfl) (by kernel_rfl) (Or.inl ⟨?hw16n17, ?hy16n17⟩) HS.out ?rest16n17
    case hi16n17 => (simp only [List.getElem?_toArray, List.getElem?_cons_succ, List.getElem?_cons_zero]; rfl)
    case hw16n17 => rfl
    case hy16n17 => (intro w' hw'; go_simp; try with_reducible rfl)
    try simp only [Act.put, List.setIfInBounds_toArray, List.set_cons_zero, List.set_cons_succ]
    refine' wpAnyJ_step (i := 17) (o := _) (by kernel_rfl) ?ho17n18 (fun K hK => ?step17n18)
    case ho17n18 => (simp only [List.getElem?_toArray, List.getElem?_cons_succ, List.getElem?_cons_zero]; rfl)
    obtain ⟨a0, a1, a2, a3, a4, a5⟩ := HXI.out
    go_simp
    obtain ⟨w4, hw4⟩ : ∃ w4, ((((((ud.setCell ⟨g, off + i * 6, none⟩ (.int .i64 y.k)).setCell ⟨g, off + i * 6 + 1, none⟩ (.int .i64 y.f)).setCell ⟨g, off + i * 6 + 2, none⟩ (.int .i64 y.t)).setCell ⟨g, off + i * 6 + 3, none⟩ (.int .u64 y.id)).setCell ⟨g, off + i * 6 + 4, none⟩ (.int .u64 y.n)).setCell ⟨g, off + i * 6 + 5, none⟩ (.slice y.A y.L.length y.c)) = w4 := ⟨_, rfl⟩
    try rw [hw4]
    have HR4 : Hid (RowAt Mg.cells 6 w4 (some ⟨g, off, none⟩) (W.set i y)) := hide (by rw [← hw4]; exact HR1.out)
    have HS4 : Hid (Sets (fun c => c = g) ud w4) := hide (by rw [← hw4]; exact HS1.out)
    have hg4 : ∀ o, w4.frozen? ⟨g, o, none⟩ = false := (by rw [← hw4]; exact HF1.out)
    have HS : Hid ((fun W' : World => W'.cell? ⟨c6 + 1, 0, none⟩ = some (.slice (some ⟨g, off, none⟩) n c) ∧ W'.cell? ⟨gb, 1, none⟩ = some (.int .i64 i) ∧ W'.cell? ⟨gb, 2, none⟩ = some (.int .i64 j)) w4) := hide ⟨HS4.out.cell hl7 hc7 HS.out.1, HS4.out.cell lt3 hgbg HS.out.2.1, HS4.out.cell lt3 hgbg HS.out.2.2⟩
    obtain ⟨b0, b1, b2, b3, b4, b5⟩ := row6o HR4.out hkM1
    refine hK.out _ _ HS.out ?_
    clear hK K
    clear hw4 HR1 HS1 HF1 a0 a1 a2 a3 a4 a5
    try simp only [Act.put, List.setIfInBounds_toArray, List.set_cons_zero, List.set_cons_succ]
    refine' wpAnyJ_take (i := 18) (v := _) [19] ?hi18n19 (by kernel_rfl) (by kernel_rfl) (by kernel_rfl) (by kernel_rfl) (by kernel_rfl) (Or.inl ⟨?hw18n19, ?hy18n19⟩) HS.out ?rest18n19
    case hi18n19 => (simp only [List.getElem?_toArray, List.getElem?_cons_succ, List.getElem?_cons_zero]; rfl)
    case hw18n19 => rfl
    case hy18n19 => (intro w' hw'; go_simp; try with_reducible rfl)
    try simp only [Act.put, List.setIfInBounds_toArray, List.set_cons_zero, List.set_cons_succ]
    refine' wpAnyJ_last (i := 19) (o := _) (by kernel_rfl) ?ho19n20 (by kernel_rfl) (fun K hK => ?step19n20)
    case ho19n20 => (simp only [List.getElem?_toArray, List.getElem?_cons_succ, List.getElem?_cons_zero]; rfl)
    go_simp
    refine hK.out _ _ ?_
    clear hK K
    try simp only [Act.put, List.setIfInBounds_toArray, List.set_cons_zero, List.set_cons_succ]
    refine wpAnyJ_done (by kernel_rfl) ?_ _
    refine NoPanic.normal ?_
    have HRF := hide (row_put6 HR4.out hkM1 x)
    have hs5 : Sets (fun c => c = g) w4 ((((((w4.setCell ⟨g, off + j * 6, none⟩ (.int .i64 x.k)).setCell ⟨g, off + j * 6 + 1, none⟩ (.int .i64 x.f)).setCell ⟨g, off + j * 6 + 2, none⟩ (.int .i64 x.t)).setCell ⟨g, off + j * 6 + 3, none⟩ (.int .u64 x.id)).setCell ⟨g, off + j * 6 + 4, none⟩ (.int .u64 x.n)).setCell ⟨g, off + j * 6 + 5, none⟩ (.slice x.A x.L.length x.c)) := ((((((Sets.refl (S := fun c => c = g) w4).set (g := g) (fun _ => rfl) (off + j * 6) _).set (g := g) (fun _ => rfl) (off + j * 6 + 1) _).set (g := g) (fun _ => rfl) (off + j * 6 + 2) _).set (g := g) (fun _ => rfl) (off + j * 6 + 3) _).set (g := g) (fun _ => rfl) (off + j * 6 + 4) _).set (g := g) (fun _ => rfl) (off + j * 6 + 5) _
    have HS5 := hide ((HSU.out.trans HS4.out (fun _ _ h => h)).trans hs5 (fun _ _ h => h))
    have HF5 : Hid (∀ o, ((((((w4.setCell ⟨g, off + j * 6, none⟩ (.int .i64 x.k)).setCell ⟨g, off + j * 6 + 1, none⟩ (.int .i64 x.f)).setCell ⟨g, off + j * 6 + 2, none⟩ (.int .i64 x.t)).setCell ⟨g, off + j * 6 + 3, none⟩ (.int .u64 x.id)).setCell ⟨g, off + j * 6 + 4, none⟩ (.int .u64 x.n)).setCell ⟨g, off + j * 6 + 5, none⟩ (.slice x.A x.L.length x.c)).frozen? ⟨g, o, none⟩ = false) := hide (fun o => by simp [hg4])
    have HR5 : Hid (RowAt Mg.cells 6 ((((((w4.setCell ⟨g, off + j * 6, none⟩ (.int .i64 x.k)).setCell ⟨g, off + j * 6 + 1, none⟩ (.int .i64 x.f)).setCell ⟨g, off + j * 6 + 2, none⟩ (.int .i64 x.t)).setCell ⟨g, off + j * 6 + 3, none⟩ (.int .u64 x.id)).setCell ⟨g, off + j * 6 + 4, none⟩ (.int .u64 x.n)).setCell ⟨g, off + j * 6 + 5, none⟩ (.slice x.A x.L.length x.c)) (some ⟨g, off, none⟩) ((W.set i y).set j x)) := hide (by
      have h := HRF.out
      unfold Mg.cells at h
      rw [← six_sets] at h
      exact h)
    have HPE := hide (HP3.out.turn rfl HS5.out (N := (W.set i y).set j x) (by rw [List.length_set, List.length_set]) HR5.out HF5.out (fun z hz => HP3.out.rd z (HMEM.out z hz)))
    clear hs5 HRF
    go_wp2_with fail
    refine HK.out _ _ _ _ _ _ _ _ _ _ _ _ _ _ _ _ _ _ _ _ _ _ _ _ _ _ _ _ _ _ _ _ _ _ _ _ _ _ _ _ _ _ _ _ _ _ _ _ _ _ _ _ _ _ _ _ _ _ _ _ _ _ _ _ _ _ _ _ _ _ _ _ _ _ _ _ _ _ _ _ _ _ _ _ _ _ _ _ _ _ _ _ _ _ _ _ _ _ _ _ _ _ _ _ _ _ _ _ _ _ _ _ _ _ _ _ _ _ _ _ _ _ _ _ _ _ _ _ _ _ _ _ _ _ _ _ _ _ _ _ _ _ _ _ _ _ _ _ _ ⟨rb, some ⟨g, off, none⟩, c, (W.set i y).set j x, l, s, by rw [List.length_set, List.length_set]; omega, by omega, by omega, fun z hz => H50.out z (HMEM.out z hz), HPE.out⟩
  case sbn15 =>
    obtain ⟨i0, i1, i2, i3, i4, i5⟩ := HXI.out
    go_simp
    refine hK.out _ _ HS.out ?_
    clear hK K
    clear i0 i1 i2 i3 i4 i5
    try simp only [Act.put, List.setIfInBounds_toArray, List.set_cons_zero, List.set_cons_succ]
    refine' wpAnyJ_step (i := 10) (o := _) (by kernel_rfl) ?ho10n21 (fun K hK => ?step10n21)
    case ho10n21 => (simp only [List.getElem?_toArray, List.getElem?_cons_succ, List.getElem?_cons_zero]; rfl)
    obtain ⟨i0, i1, i2, i3, i4, i5⟩ := HYI.out
    go_simp
    refine hK.out _ _ HS.out ?_
    clear hK K
    clear i0 i1 i2 i3 i4 i5
    try simp only [Act.put, List.setIfInBounds_toArray, List.set_cons_zero, List.set_cons_succ]
    refine' wpAnyJ_take (i := 16) (v := _) [17, 18, 19] ?hi16n22 (by kernel_rfl) (by kernel_rfl) (by kernel_rfl) (by kernel_rfl) (by kernel_rfl) (Or.inl ⟨?hw16n22, ?hy16n22⟩) HS.out ?rest16n22
    case hi16n22 => (simp only [List.getElem?_toArray, List.getElem?_cons_succ, List.getElem?_cons_zero]; rfl)
    case hw16n22 => rfl
    case hy16n22 => (intro w' hw'; go_simp; try with_reducible rfl)
    try simp only [Act.put, List.setIfInBounds_toArray, List.set_cons_zero, List.set_cons_succ]
    refine' wpAnyJ_step (i := 17) (o := _) (by kernel_rfl) ?ho17n23 (fun K hK => ?step17n23)
    case ho17n23 => (simp only [List.getElem?_toArray, List.getElem?_cons_succ, List.getElem?_cons_zero]; rfl)
    obtain ⟨a0, a1, a2, a3, a4, a5⟩ := HXI.out
    go_simp
    obtain ⟨w4, hw4⟩ : ∃ w4, ((((((ud.setCell ⟨g, off + i * 6, none⟩ (.int .i64 y.k)).setCell ⟨g, off + i * 6 + 1, none⟩ (.int .i64 y.f)).setCell ⟨g, off + i * 6 + 2, none⟩ (.int .i64 y.t)).setCell ⟨g, off + i * 6 + 3, none⟩ (.int .u64 y.id)).setCell ⟨g, off + i * 6 + 4, none⟩ (.int .u64 y.n)).setCell ⟨g, off + i * 6 + 5, none⟩ (.slice y.A y.L.length y.c)) = w4 := ⟨_, rfl⟩
    try rw [hw4]
    have HR4 : Hid (RowAt Mg.cells 6 w4 (some ⟨g, off, none⟩) (W.set i y)) := hide (by rw [← hw4]; exact HR1.out)
    have HS4 : Hid (Sets (fun c => c = g) ud w4) := hide (by rw [← hw4]; exact HS1.out)
    have hg4 : ∀ o, w4.frozen? ⟨g, o, none⟩ = false := (by rw [← hw4]; exact HF1.out)
    have HS : Hid ((fun W' : World => W'.cell? ⟨c6 + 1, 0, none⟩ = some (.slice (some ⟨g, off, none⟩) n c) ∧ W'.cell? ⟨gb, 1, none⟩ = some (.int .i64 i) ∧ W'.cell? ⟨gb, 2, none⟩ = some (.int .i64 j)) w4) := hide ⟨HS4.out.cell hl7 hc7 HS.out.1, HS4.out.cell lt3 hgbg HS.out.2.1, HS4.out.cell lt3 hgbg HS.out.2.2⟩
    obtain ⟨b0, b1, b2, b3, b4, b5⟩ := row6o HR4.out hkM1
    refine hK.out _ _ HS.out ?_
    clear hK K
    clear hw4 HR1 HS1 HF1 a0 a1 a2 a3 a4 a5
    try simp only [Act.put, List.setIfInBounds_toArray, List.set_cons_zero, List.set_cons_succ]
    refine' wpAnyJ_take (i := 18) (v := _) [19] ?hi18n24 (by kernel_rfl) (by kernel_rfl) (by kernel_rfl) (by kernel_rfl) (by kernel_rfl) (Or.inl ⟨?hw18n24, ?hy18n24⟩) HS.out ?rest18n24
    case hi18n24 => (simp only [List.getElem?_toArray, List.getElem?_cons_succ, List.getElem?_cons_zero]; rfl)
    case hw18n24 => rfl
    case hy18n24 => (intro w' hw'; go_simp; try with_reducible rfl)
    try simp only [Act.put, List.setIfInBounds_toArray, List.set_cons_zero, List.set_cons_succ]
    refine' wpAnyJ_last (i := 19) (o := _) (by kernel_rfl) ?ho19n25 (by kernel_rfl) (fun K hK => ?step19n25)
    case ho19n25 => (simp only [List.getElem?_toArray, List.getElem?_cons_succ, List.getElem?_cons_zero]; rfl)
    go_simp
    refine hK.out _ _ ?_
    clear hK K
    try simp only [Act.put, List.setIfInBounds_toArray, List.set_cons_zero, List.set_cons_succ]
    refine wpAnyJ_done (by kernel_rfl) ?_ _
    refine NoPanic.normal ?_
    have HRF := hide (row_put6 HR4.out hkM1 x)
    have hs5 : Sets (fun c => c = g) w4 ((((((w4.setCell ⟨g, off + j * 6, none⟩ (.int .i64 x.k)).setCell ⟨g, off + j * 6 + 1, none⟩ (.int .i64 x.f)).setCell ⟨g, off + j * 6 + 2, none⟩ (.int .i64 x.t)).setCell ⟨g, off + j * 6 + 3, none⟩ (.int .u64 x.id)).setCell ⟨g, off + j * 6 + 4, none⟩ (.int .u64 x.n)).setCell ⟨g, off + j * 6 + 5, none⟩ (.slice x.A x.L.length x.c)) := ((((((Sets.refl (S := fun c => c = g) w4).set (g := g) (fun _ => rfl) (off + j * 6) _).set (g := g) (fun _ => rfl) (off + j * 6 + 1) _).set (g := g) (fun _ => rfl) (off + j * 6 + 2) _).set (g := g) (fun _ => rfl) (off + j * 6 + 3) _).set (g := g) (fun _ => rfl) (off + j * 6 + 4) _).set (g := g) (fun _ => rfl) (off + j * 6 + 5) _
    have HS5 := hide ((HSU.out.trans HS4.out (fun _ _ h => h)).trans hs5 (fun _ _ h => h))
    have HF5 : Hid (∀ o, ((((((w4.setCell ⟨g, off + j * 6, none⟩ (.int .i64 x.k)).setCell ⟨g, off + j * 6 + 1, none⟩ (.int .i64 x.f)).setCell ⟨g, off + j * 6 + 2, none⟩ (.int .i64 x.t)).setCell ⟨g, off + j * 6 + 3, none⟩ (.int .u64 x.id)).setCell ⟨g, off + j * 6 + 4, none⟩ (.int .u64 x.n)).setCell ⟨g, off + j * 6 + 5, none⟩ (.slice x.A x.L.length x.c)).frozen? ⟨g, o, none⟩ = false) := hide (fun o => by simp [hg4])
    have HR5 : Hid (RowAt Mg.cells 6 ((((((w4.setCell ⟨g, off + j * 6, none⟩ (.int .i64 x.k)).setCell ⟨g, off + j * 6 + 1, none⟩ (.int .i64 x.f)).setCell ⟨g, off + j * 6 + 2, none⟩ (.int .i64 x.t)).setCell ⟨g, off + j * 6 + 3, none⟩ (.int .u64 x.id)).setCell ⟨g, off + j * 6 + 4, none⟩ (.int .u64 x.n)).setCell ⟨g, off + j * 6 + 5, none⟩ (.slice x.A x.L.length x.c)) (some ⟨g, off, none⟩) ((W.set i y).set j x)) := hide (by
      have h := HRF.out
      unfold Mg.cells at h
      rw [← six_sets] at h
      exact h)
    have HPE := hide (HP3.out.turn rfl HS5.out (N := (W.set i y).set j x) (by rw [List.length_set, List.length_set]) HR5.out HF5.out (fun z hz => HP3.out.rd z (HMEM.out z hz)))
    clear hs5 HRF
    go_wp2_with fail
    refine HK.out _ _ _ _ _ _ _ _ _ _ _ _ _ _ _ _ _ _ _ _ _ _ _ _ _ _ _ _ _ _ _ _ _ _ _ _ _ _ _ _ _ _ _ _ _ _ _ _ _ _ _ _ _ _ _ _ _ _ _ _ _ _ _ _ _ _ _ _ _ _ _ _ _ _ _ _ _ _ _ _ _ _ _ _ _ _ _ _ _ _ _ _ _ _ _ _ _ _ _ _ _ _ _ _ _ _ _ _ _ _ _ _ _ _ _ _ _ _ _ _ _ _ _ _ _ _ _ _ _ _ _ _ _ _ _ _ _ _ _ _ _ _ _ _ _ _ _ _ _ ⟨rb, some ⟨g, off, none⟩, c, (W.set i y).set j x, l, s, by rw [List.length_set, List.length_set]; omega, by omega, by omega, fun z hz => H50.out z (HMEM.out z hz), HPE.out⟩
end Go.Proofs.Ytihhepojhoaacaa.netPlays
