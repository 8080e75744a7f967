/- The switch of clepsydralaw21.NetPlays: what it keeps; its arms Send and Double. Conditions: SwH. -/
import Derived.Test.YtihhepojhoaacaaNetR
import Derived.Test.YtihhepojhoaacaaDecMg
import Derived.Test.YtihhepojhoaacaaBits
import Derived.Test.YtihhepojhoaacaaMsg2
namespace Go.Proofs.Ytihhepojhoaacaa.netPlays
set_option linter.unusedVariables false
set_option linter.unusedSimpArgs false
open Go.ChangeShapes Go.WideShapes Go.ChangeAt Go.RowKit
/-- The block of that number. -/
def findBlock (n : Nat) : Code → Option Code
  | .block m c => bif m == n then some (.block m c) else findBlock n c
  | .seq a b => match findBlock n a with
    | some c => some c
    | none => findBlock n b
  | .cond _ a b => match findBlock n a with
    | some c => some c
    | none => findBlock n b
  | .loop c => findBlock n c
  | .scope c => findBlock n c
  | _ => none
/-- The switch. -/
noncomputable def swCode : Code := (Try.f6.body.bind (findBlock 2)).getD .skip
/-- What stands behind the switch. -/
def PlR (w : World) (b m c6 k : Nat) (W2 : World) : Prop := ∃ (rb : Option Nat) (A : Option Addr) (c : Nat) (W : List Mg) (l s : Nat), W.length ≤ k + 1 ∧ l ≤ 2 * (k + 1) ∧ s ≤ k + 1 ∧ (∀ y ∈ W, y.L.length ≤ 50) ∧ PlH w W2 b rb m c6 A c W l s (W.map Mg.bare) l s
/-- What stands at the switch. -/
structure SwH (w u : World) (b m c6 c l s k gb : Nat) (rb : Option Nat) (A : Option Addr) (W : List Mg) (ok oi oj : Int) (x : Mg) : Prop where
  pl : PlH w u b rb m c6 A c W l s (W.map Mg.bare) l s
  cap : m ≤ 1000 ∧ 1 ≤ m
  box : u.heap[gb]? = some (.cells #[.int .i64 ok, .int .i64 oi, .int .i64 oj, .int .i64 x.k, .int .i64 x.f, .int .i64 x.t, .int .u64 x.id, .int .u64 x.n, .slice x.A x.L.length x.c] 39)
  far : ¬ NBlk b rb gb ∧ c6 + 4 ≤ gb ∧ ∀ a, A = some a → a.block ≠ gb
  x : x.rd w ∧ x.L.length ≤ 50
  its : ∀ y ∈ W, y.L.length ≤ 50
  num : W.length ≤ k ∧ k < 80 ∧ l ≤ 2 * k ∧ s ≤ k
theorem hasB_yes_of {n : Nat} {i : Int} (h : hasB n i = true) : ∃ j : Nat, i = (j : Int) ∧ j < n := by
  unfold hasB at h
  simp at h
  exact ⟨i.toNat, by omega, by omega⟩
theorem hasB_no_of {n : Nat} {i : Int} (h : hasB n i = false) : ¬ (0 ≤ i ∧ i < (n : Int)) := by
  unfold hasB at h
  simp at h
  omega
set_option maxRecDepth 1000000 in
set_option maxHeartbeats 6400000 in
theorem arm_send {w u : World} {b m c6 c l s k gb : Nat} {rb : Option Nat} {A : Option Addr} {W : List Mg} {ok oi oj : Int} {x : Mg} (h : SwH w u b m c6 c l s k gb rb A W ok oi oj x) (e0 : ok = 0)
    (q0 q1 q2 q3 q11 u4 u14 u15 u16 u17 u18 u19 u20 u21 u22 u23 u24 u25 u26 u27 u28 u29 u30 u31 u32 u33 u34 u35 u36 u37 u38 u39 u40 u41 u42 u43 u44 u45 u46 u47 u48 u49 u50 u51 u52 u53 u54 u55 u56 u57 u58 u59 u61 u62 u63 u64 u65 u66 u67 u68 u69 u70 u71 u72 u73 u74 u75 u76 u77 u78 u79 u80 u81 u82 u83 u84 u85 u86 u87 u88 u89 u90 u91 u92 u93 u94 u95 u96 u97 u98 u99 u100 u101 u102 u103 u104 u105 u106 u107 u108 u109 u110 u111 u112 u113 u114 u115 u116 u117 u118 u119 u120 u121 u122 u123 u124 u125 u126 u127 u128 u129 u130 u131 u132 u133 u134 u135 u136 u137 u138 u139 u140 u141 u142 u143 u144 u145 u146 u147 u148 u149 u150 u151 u152 u153 u154 u155 u156 u157 u158 u159 u160 u161 u162 u163 u164 u165 u166 u167 u168 u169 u170 u171 u172 u173 u174 u175 u176 u177 u178 u179 u180 u181 u182 u183 u184 u185 u186 u187 u188 u189 u190 u191 u192 u193 u194 u195 u196 u197 u198 u199 u200 u201 u202 u203 u204 u205 u206 u207 u208 u209 u210 u211 u212 u213 u214 u215 u216 u217 u218 u219 u220 u221 u222 u223 u224 u225 u226 u227 : Value) {K : Act → World → Prop} {Q : Exit → Act → World → Prop} (hK : ∀ (v4 v14 v15 v16 v17 v61 v62 v63 v64 v65 v66 v67 v68 v69 v70 v71 v72 v73 v74 v75 v76 v77 v78 v79 v80 v81 v82 v83 v84 v85 v86 v87 v88 v89 v90 v91 v92 v93 v94 v95 v96 v97 v98 v99 v100 v101 v102 v103 v104 v105 v106 v107 v108 v109 v110 v111 v112 v113 v114 v115 v116 v117 v118 v119 v120 v121 v122 v123 v124 v125 v126 v127 v128 v129 v130 v131 v132 v133 v134 v135 v136 v137 v138 v139 v140 v141 v142 v143 v144 v145 v146 v147 v148 v149 v150 v151 v152 v153 v154 v155 v156 v157 v158 v159 v160 v161 v162 v163 v164 v165 v166 v167 v168 v169 v170 v171 v172 v173 v174 v175 v176 v177 v178 v179 v180 v181 v182 v183 v184 v185 v186 v187 v188 v189 v190 v191 v192 v193 v194 v195 v196 v197 v198 v199 v200 v201 v202 v203 : Value) (W2 : World), PlR w b m c6 k W2 → K ⟨#[q0, q1, q2, q3, v4, .pointer (some ⟨b, 0, none⟩), .pointer (some ⟨c6, 0, none⟩), .pointer (some ⟨c6 + 1, 0, none⟩), .pointer (some ⟨c6 + 2, 0, none⟩), .pointer (some ⟨c6 + 3, 0, none⟩), .func (Fn.func 17) #[] #[.pointer (some ⟨c6 + 3, 0, none⟩), .pointer (some ⟨c6 + 1, 0, none⟩), .pointer (some ⟨c6, 0, none⟩), .pointer (some ⟨c6 + 2, 0, none⟩)], q11, .pointer (some ⟨gb, 0, none⟩), .bool (hasB W.length oi), v14, v15, v16, v17, u18, u19, u20, u21, u22, u23, u24, u25, u26, u27, u28, u29, u30, u31, u32, u33, u34, u35, u36, u37, u38, u39, u40, u41, u42, u43, u44, u45, u46, u47, u48, u49, u50, u51, u52, u53, u54, u55, u56, u57, u58, u59, .int .i64 ok, v61, v62, v63, v64, v65, v66, v67, v68, v69, v70, v71, v72, v73, v74, v75, v76, v77, v78, v79, v80, v81, v82, v83, v84, v85, v86, v87, v88, v89, v90, v91, v92, v93, v94, v95, v96, v97, v98, v99, v100, v101, v102, v103, v104, v105, v106, v107, v108, v109, v110, v111, v112, v113, v114, v115, v116, v117, v118, v119, v120, v121, v122, v123, v124, v125, v126, v127, v128, v129, v130, v131, v132, v133, v134, v135, v136, v137, v138, v139, v140, v141, v142, v143, v144, v145, v146, v147, v148, v149, v150, v151, v152, v153, v154, v155, v156, v157, v158, v159, v160, v161, v162, v163, v164, v165, v166, v167, v168, v169, v170, v171, v172, v173, v174, v175, v176, v177, v178, v179, v180, v181, v182, v183, v184, v185, v186, v187, v188, v189, v190, v191, v192, v193, v194, v195, v196, v197, v198, v199, v200, v201, v202, v203, u204, u205, u206, u207, u208, u209, u210, u211, u212, u213, u214, u215, u216, u217, u218, u219, u220, u221, u222, u223, u224, u225, u226, u227], []⟩ W2) :
    Code.wp Try.prog swCode (Exit.then K Q) ⟨#[q0, q1, q2, q3, u4, .pointer (some ⟨b, 0, none⟩), .pointer (some ⟨c6, 0, none⟩), .pointer (some ⟨c6 + 1, 0, none⟩), .pointer (some ⟨c6 + 2, 0, none⟩), .pointer (some ⟨c6 + 3, 0, none⟩), .func (Fn.func 17) #[] #[.pointer (some ⟨c6 + 3, 0, none⟩), .pointer (some ⟨c6 + 1, 0, none⟩), .pointer (some ⟨c6, 0, none⟩), .pointer (some ⟨c6 + 2, 0, none⟩)], q11, .pointer (some ⟨gb, 0, none⟩), .bool (hasB W.length oi), u14, u15, u16, u17, u18, u19, u20, u21, u22, u23, u24, u25, u26, u27, u28, u29, u30, u31, u32, u33, u34, u35, u36, u37, u38, u39, u40, u41, u42, u43, u44, u45, u46, u47, u48, u49, u50, u51, u52, u53, u54, u55, u56, u57, u58, u59, .int .i64 ok, u61, u62, u63, u64, u65, u66, u67, u68, u69, u70, u71, u72, u73, u74, u75, u76, u77, u78, u79, u80, u81, u82, u83, u84, u85, u86, u87, u88, u89, u90, u91, u92, u93, u94, u95, u96, u97, u98, u99, u100, u101, u102, u103, u104, u105, u106, u107, u108, u109, u110, u111, u112, u113, u114, u115, u116, u117, u118, u119, u120, u121, u122, u123, u124, u125, u126, u127, u128, u129, u130, u131, u132, u133, u134, u135, u136, u137, u138, u139, u140, u141, u142, u143, u144, u145, u146, u147, u148, u149, u150, u151, u152, u153, u154, u155, u156, u157, u158, u159, u160, u161, u162, u163, u164, u165, u166, u167, u168, u169, u170, u171, u172, u173, u174, u175, u176, u177, u178, u179, u180, u181, u182, u183, u184, u185, u186, u187, u188, u189, u190, u191, u192, u193, u194, u195, u196, u197, u198, u199, u200, u201, u202, u203, u204, u205, u206, u207, u208, u209, u210, u211, u212, u213, u214, u215, u216, u217, u218, u219, u220, u221, u222, u223, u224, u225, u226, u227], []⟩ u := by
  have HK := hide hK
  clear hK
  conv => arg 2; whnf
  subst e0
  obtain ⟨hP, hcap, eo, ⟨hgN, hg6, hgA⟩, ⟨hxr, hx50⟩, h50, hWk, hk80, hlk, hsk⟩ := h
  have HXR := hide hxr
  have HGN := hide hgN
  have H50 := hide h50
  have HPO := hide hP
  have EO := hide eo
  have hlt := (Array.getElem?_eq_some_iff.1 eo).1
  have HRM := hide (rmok_any x u (hxr.below hP.net.low).1)
  obtain ⟨p0, p1, p2, p3, p4, p5, p6, p7, p8⟩ := op_cells eo
  clear hP hxr hgN hgA eo h50
  go_wp2_with fail
  refine (Calls.mono HRM.out ?_); rintro e w2 ⟨rfl, hb2⟩
  have e2 := (hb2.block gb hlt).trans EO.out
  have HP2 := hide (HPO.out.below hb2)
  have EO2 := hide e2
  obtain ⟨r0, r1, r2, r3, r4, r5, r6, r7, r8⟩ := op_cells e2
  have hlt2 := (Array.getElem?_eq_some_iff.1 e2).1
  clear hb2 e2 HRM p0 p1 p2 p3 p4 p5 p6 p7 p8
  cases hmk : mokB x with
  | true =>
    have HSD := hide (send_pl HP2.out x HXR.out hmk (by rw [List.length_map]; omega) (by omega) (by omega))
    go_wp2_with fail
    refine (Calls.mono HSD.out ?_); rintro e w3 ⟨rb', rfl, hP3, hS3⟩
    have e3 := (hS3.block gb hlt2 HGN.out).trans EO2.out
    have HP3 := hide hP3
    obtain ⟨t0, t1, t2, t3, t4, t5, t6, t7, t8⟩ := op_cells e3
    clear hP3 hS3 e3 HSD r0 r1 r2 r3 r4 r5 r6 r7 r8
    have HSC := hide (sendc_pl HP3.out hcap.2 x HXR.out (by omega) (by omega) (by omega))
    go_wp2_with fail
    refine (Calls.mono HSC.out ?_); rintro e w4 ⟨rfl, A', c', q, hq, hP4⟩
    have HP4 := hide hP4
    have HQ := hide hq
    clear hP4 hq HSC
    go_wp2_with fail
    refine HK.out _ _ _ _ _ _ _ _ _ _ _ _ _ _ _ _ _ _ _ _ _ _ _ _ _ _ _ _ _ _ _ _ _ _ _ _ _ _ _ _ _ _ _ _ _ _ _ _ _ _ _ _ _ _ _ _ _ _ _ _ _ _ _ _ _ _ _ _ _ _ _ _ _ _ _ _ _ _ _ _ _ _ _ _ _ _ _ _ _ _ _ _ _ _ _ _ _ _ _ _ _ _ _ _ _ _ _ _ _ _ _ _ _ _ _ _ _ _ _ _ _ _ _ _ _ _ _ _ _ _ _ _ _ _ _ _ _ _ _ _ _ _ _ _ _ _ _ _ _ ?_
    have h1 := sendC_le m W x
    have h2 := sendL_le m W
    have h3 := HQ.out
    refine ⟨rb', A', c', sendC m W x, l + q, s + 1, by omega, by omega, by omega, fun y hy => ?_, ?_⟩
    · rcases sendC_mem hy with h1 | rfl
      · exact H50.out y h1
      · exact hx50
    · have h5 := HP4.out
      rw [sendL_map, ← h3, ← sendC_map] at h5
      exact h5
  | false =>
    have HSB := hide (send_bad (b := b) x (HXR.out.below HP2.out.net.low) (by omega) hmk)
    go_wp2_with fail
    refine (Calls.mono HSB.out ?_); rintro e w3 ⟨rfl, hb3⟩
    have HP3 := hide (HP2.out.below hb3)
    clear hb3 HSB
    go_wp2_with fail
    exact HK.out _ _ _ _ _ _ _ _ _ _ _ _ _ _ _ _ _ _ _ _ _ _ _ _ _ _ _ _ _ _ _ _ _ _ _ _ _ _ _ _ _ _ _ _ _ _ _ _ _ _ _ _ _ _ _ _ _ _ _ _ _ _ _ _ _ _ _ _ _ _ _ _ _ _ _ _ _ _ _ _ _ _ _ _ _ _ _ _ _ _ _ _ _ _ _ _ _ _ _ _ _ _ _ _ _ _ _ _ _ _ _ _ _ _ _ _ _ _ _ _ _ _ _ _ _ _ _ _ _ _ _ _ _ _ _ _ _ _ _ _ _ _ _ _ _ _ _ _ _ ⟨rb, A, c, W, l, s, by omega, by omega, by omega, H50.out, HP3.out⟩
set_option maxRecDepth 1000000 in
set_option maxHeartbeats 6400000 in
theorem arm_double {w u : World} {b m c6 c l s k gb : Nat} {rb : Option Nat} {A : Option Addr} {W : List Mg} {ok oi oj : Int} {x : Mg} (h : SwH w u b m c6 c l s k gb rb A W ok oi oj x) (e0 : ok = 3)
    (q0 q1 q2 q3 q11 u4 u14 u15 u16 u17 u18 u19 u20 u21 u22 u23 u24 u25 u26 u27 u28 u29 u30 u31 u32 u33 u34 u35 u36 u37 u38 u39 u40 u41 u42 u43 u44 u45 u46 u47 u48 u49 u50 u51 u52 u53 u54 u55 u56 u57 u58 u59 u61 u62 u63 u64 u65 u66 u67 u68 u69 u70 u71 u72 u73 u74 u75 u76 u77 u78 u79 u80 u81 u82 u83 u84 u85 u86 u87 u88 u89 u90 u91 u92 u93 u94 u95 u96 u97 u98 u99 u100 u101 u102 u103 u104 u105 u106 u107 u108 u109 u110 u111 u112 u113 u114 u115 u116 u117 u118 u119 u120 u121 u122 u123 u124 u125 u126 u127 u128 u129 u130 u131 u132 u133 u134 u135 u136 u137 u138 u139 u140 u141 u142 u143 u144 u145 u146 u147 u148 u149 u150 u151 u152 u153 u154 u155 u156 u157 u158 u159 u160 u161 u162 u163 u164 u165 u166 u167 u168 u169 u170 u171 u172 u173 u174 u175 u176 u177 u178 u179 u180 u181 u182 u183 u184 u185 u186 u187 u188 u189 u190 u191 u192 u193 u194 u195 u196 u197 u198 u199 u200 u201 u202 u203 u204 u205 u206 u207 u208 u209 u210 u211 u212 u213 u214 u215 u216 u217 u218 u219 u220 u221 u222 u223 u224 u225 u226 u227 : Value) {K : Act → World → Prop} {Q : Exit → Act → World → Prop} (hK : ∀ (v4 v14 v15 v16 v17 v61 v62 v63 v64 v65 v66 v67 v68 v69 v70 v71 v72 v73 v74 v75 v76 v77 v78 v79 v80 v81 v82 v83 v84 v85 v86 v87 v88 v89 v90 v91 v92 v93 v94 v95 v96 v97 v98 v99 v100 v101 v102 v103 v104 v105 v106 v107 v108 v109 v110 v111 v112 v113 v114 v115 v116 v117 v118 v119 v120 v121 v122 v123 v124 v125 v126 v127 v128 v129 v130 v131 v132 v133 v134 v135 v136 v137 v138 v139 v140 v141 v142 v143 v144 v145 v146 v147 v148 v149 v150 v151 v152 v153 v154 v155 v156 v157 v158 v159 v160 v161 v162 v163 v164 v165 v166 v167 v168 v169 v170 v171 v172 v173 v174 v175 v176 v177 v178 v179 v180 v181 v182 v183 v184 v185 v186 v187 v188 v189 v190 v191 v192 v193 v194 v195 v196 v197 v198 v199 v200 v201 v202 v203 : Value) (W2 : World), PlR w b m c6 k W2 → K ⟨#[q0, q1, q2, q3, v4, .pointer (some ⟨b, 0, none⟩), .pointer (some ⟨c6, 0, none⟩), .pointer (some ⟨c6 + 1, 0, none⟩), .pointer (some ⟨c6 + 2, 0, none⟩), .pointer (some ⟨c6 + 3, 0, none⟩), .func (Fn.func 17) #[] #[.pointer (some ⟨c6 + 3, 0, none⟩), .pointer (some ⟨c6 + 1, 0, none⟩), .pointer (some ⟨c6, 0, none⟩), .pointer (some ⟨c6 + 2, 0, none⟩)], q11, .pointer (some ⟨gb, 0, none⟩), .bool (hasB W.length oi), v14, v15, v16, v17, u18, u19, u20, u21, u22, u23, u24, u25, u26, u27, u28, u29, u30, u31, u32, u33, u34, u35, u36, u37, u38, u39, u40, u41, u42, u43, u44, u45, u46, u47, u48, u49, u50, u51, u52, u53, u54, u55, u56, u57, u58, u59, .int .i64 ok, v61, v62, v63, v64, v65, v66, v67, v68, v69, v70, v71, v72, v73, v74, v75, v76, v77, v78, v79, v80, v81, v82, v83, v84, v85, v86, v87, v88, v89, v90, v91, v92, v93, v94, v95, v96, v97, v98, v99, v100, v101, v102, v103, v104, v105, v106, v107, v108, v109, v110, v111, v112, v113, v114, v115, v116, v117, v118, v119, v120, v121, v122, v123, v124, v125, v126, v127, v128, v129, v130, v131, v132, v133, v134, v135, v136, v137, v138, v139, v140, v141, v142, v143, v144, v145, v146, v147, v148, v149, v150, v151, v152, v153, v154, v155, v156, v157, v158, v159, v160, v161, v162, v163, v164, v165, v166, v167, v168, v169, v170, v171, v172, v173, v174, v175, v176, v177, v178, v179, v180, v181, v182, v183, v184, v185, v186, v187, v188, v189, v190, v191, v192, v193, v194, v195, v196, v197, v198, v199, v200, v201, v202, v203, u204, u205, u206, u207, u208, u209, u210, u211, u212, u213, u214, u215, u216, u217, u218, u219, u220, u221, u222, u223, u224, u225, u226, u227], []⟩ W2) :
    Code.wp Try.prog swCode (Exit.then K Q) ⟨#[q0, q1, q2, q3, u4, .pointer (some ⟨b, 0, none⟩), .pointer (some ⟨c6, 0, none⟩), .pointer (some ⟨c6 + 1, 0, none⟩), .pointer (some ⟨c6 + 2, 0, none⟩), .pointer (some ⟨c6 + 3, 0, none⟩), .func (Fn.func 17) #[] #[.pointer (some ⟨c6 + 3, 0, none⟩), .pointer (some ⟨c6 + 1, 0, none⟩), .pointer (some ⟨c6, 0, none⟩), .pointer (some ⟨c6 + 2, 0, none⟩)], q11, .pointer (some ⟨gb, 0, none⟩), .bool (hasB W.length oi), u14, u15, u16, u17, u18, u19, u20, u21, u22, u23, u24, u25, u26, u27, u28, u29, u30, u31, u32, u33, u34, u35, u36, u37, u38, u39, u40, u41, u42, u43, u44, u45, u46, u47, u48, u49, u50, u51, u52, u53, u54, u55, u56, u57, u58, u59, .int .i64 ok, u61, u62, u63, u64, u65, u66, u67, u68, u69, u70, u71, u72, u73, u74, u75, u76, u77, u78, u79, u80, u81, u82, u83, u84, u85, u86, u87, u88, u89, u90, u91, u92, u93, u94, u95, u96, u97, u98, u99, u100, u101, u102, u103, u104, u105, u106, u107, u108, u109, u110, u111, u112, u113, u114, u115, u116, u117, u118, u119, u120, u121, u122, u123, u124, u125, u126, u127, u128, u129, u130, u131, u132, u133, u134, u135, u136, u137, u138, u139, u140, u141, u142, u143, u144, u145, u146, u147, u148, u149, u150, u151, u152, u153, u154, u155, u156, u157, u158, u159, u160, u161, u162, u163, u164, u165, u166, u167, u168, u169, u170, u171, u172, u173, u174, u175, u176, u177, u178, u179, u180, u181, u182, u183, u184, u185, u186, u187, u188, u189, u190, u191, u192, u193, u194, u195, u196, u197, u198, u199, u200, u201, u202, u203, u204, u205, u206, u207, u208, u209, u210, u211, u212, u213, u214, u215, u216, u217, u218, u219, u220, u221, u222, u223, u224, u225, u226, u227], []⟩ u := by
  have HK := hide hK
  clear hK
  conv => arg 2; whnf
  subst e0
  obtain ⟨hP, hcap, eo, ⟨hgN, hg6, hgA⟩, ⟨hxr, hx50⟩, h50, hWk, hk80, hlk, hsk⟩ := h
  have hlt := (Array.getElem?_eq_some_iff.1 eo).1
  cases hb : hasB W.length oi with
  | false =>
    rw [hb] at HK
    have HD := hide (double_miss hP.net.at_ oi (by rw [List.length_map]; exact hasB_no_of hb))
    have HPO := hide hP
    have H50 := hide h50
    obtain ⟨p0, p1, p2, p3, p4, p5, p6, p7, p8⟩ := op_cells eo
    clear hP hxr hgN hgA eo h50 p2 p3 p4 p5 p6 p7 p8 hb
    go_wp2_with fail
    refine (Calls.mono HD.out ?_); rintro e w2 ⟨rfl, rfl⟩
    go_wp2_with fail
    exact HK.out _ _ _ _ _ _ _ _ _ _ _ _ _ _ _ _ _ _ _ _ _ _ _ _ _ _ _ _ _ _ _ _ _ _ _ _ _ _ _ _ _ _ _ _ _ _ _ _ _ _ _ _ _ _ _ _ _ _ _ _ _ _ _ _ _ _ _ _ _ _ _ _ _ _ _ _ _ _ _ _ _ _ _ _ _ _ _ _ _ _ _ _ _ _ _ _ _ _ _ _ _ _ _ _ _ _ _ _ _ _ _ _ _ _ _ _ _ _ _ _ _ _ _ _ _ _ _ _ _ _ _ _ _ _ _ _ _ _ _ _ _ _ _ _ _ _ _ _ _ ⟨rb, A, c, W, l, s, by omega, by omega, by omega, H50.out, HPO.out⟩
  | true =>
    rw [hb] at HK
    obtain ⟨i, rfl, hi⟩ := hasB_yes_of hb
    have hiC : i < (W.map Mg.bare).length := by rw [List.length_map]; exact hi
    have HD := hide (double_pl hP i hiC (by rw [List.length_map]; omega) (by omega) (by omega))
    have H50 := hide h50
    have HWI : Hid ((W[i]'hi).rd w) := hide (hP.rd _ (List.getElem_mem _))
    have HW5 : Hid ((W[i]'hi).L.length ≤ 50) := hide (h50 _ (List.getElem_mem _))
    have hCi : (W.map Mg.bare)[i]'hiC = (W[i]'hi).bare := by simp
    rw [hCi] at HD
    obtain ⟨y, hy⟩ : ∃ y, W[i]'hi = y := ⟨_, rfl⟩
    rw [hy] at HD HWI HW5
    have HY := hide hy
    obtain ⟨p0, p1, p2, p3, p4, p5, p6, p7, p8⟩ := op_cells eo
    have EO := hide eo
    have HGN := hide hgN
    clear hP hxr hgN hgA eo h50 p2 p3 p4 p5 p6 p7 p8 hb hCi hy
    go_wp2_with fail
    refine (Calls.mono HD.out ?_); rintro e w3 ⟨rb', rfl, hP3, hS3⟩
    have e3 := (hS3.block gb hlt HGN.out).trans EO.out
    have HP3 := hide hP3
    obtain ⟨t0, t1, t2, t3, t4, t5, t6, t7, t8⟩ := op_cells e3
    have q7 := (cell_of_row w3 (c6 + 1) 0 _ _ _ hP3.b7).trans rfl
    have hl3 := hP3.lt
    have hg3 : ∀ (t : Nat) (ht : t < W.length), ∃ g off, A = some ⟨g, off, none⟩ := fun t ht => by
      obtain ⟨g, off, e, _⟩ := hP3.row.at_ ht
      exact ⟨g, off, e⟩
    obtain ⟨g, off, rfl⟩ := hg3 i hi
    obtain ⟨y0, y1, y2, y3, y4, y5⟩ := row6o hP3.row hi
    rw [HY.out] at y0 y1 y2 y3 y4 y5
    clear hg3 hP3 hS3 e3 HD t2 t3 t4 t5 t6 t7 t8 p0 p1
    have hiI : (i : Int) < (W.length : Int) := by omega
    have hi0 : (0 : Int) ≤ (i : Int) := by omega
    obtain ⟨n, hn⟩ : ∃ n, W.length = n := ⟨_, rfl⟩
    have HSC := hide (sendc_pl HP3.out hcap.2 y HWI.out (by omega) (by omega) (by omega))
    rw [hn] at q7 hiI hi hWk
    have HN := hide hn
    clear hn
    go_wp2_with fail
    refine (Calls.mono HSC.out ?_); rintro e w4 ⟨rfl, A', c', q, hq, hP4⟩
    have HP4 := hide hP4
    have HQ := hide hq
    clear hP4 hq HSC y0 y1 y2 y3 y4 y5 q7
    go_wp2_with fail
    refine HK.out _ _ _ _ _ _ _ _ _ _ _ _ _ _ _ _ _ _ _ _ _ _ _ _ _ _ _ _ _ _ _ _ _ _ _ _ _ _ _ _ _ _ _ _ _ _ _ _ _ _ _ _ _ _ _ _ _ _ _ _ _ _ _ _ _ _ _ _ _ _ _ _ _ _ _ _ _ _ _ _ _ _ _ _ _ _ _ _ _ _ _ _ _ _ _ _ _ _ _ _ _ _ _ _ _ _ _ _ _ _ _ _ _ _ _ _ _ _ _ _ _ _ _ _ _ _ _ _ _ _ _ _ _ _ _ _ _ _ _ _ _ _ _ _ _ _ _ _ _ ?_
    have h1 := sendC_le m W y
    have h2 := sendL_le m W
    have h3 := HQ.out
    have h4 := HN.out
    refine ⟨rb', A', c', sendC m W y, l + q, s + 1, by omega, by omega, by omega, fun z hz => ?_, ?_⟩
    · rcases sendC_mem hz with h1 | rfl
      · exact H50.out z h1
      · exact HW5.out
    · have h5 := HP4.out
      rw [sendL_map, ← h3, ← sendC_map] at h5
      exact h5
end Go.Proofs.Ytihhepojhoaacaa.netPlays
