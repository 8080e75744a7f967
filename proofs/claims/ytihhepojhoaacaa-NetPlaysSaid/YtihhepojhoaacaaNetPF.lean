/- The check of clepsydralaw21.NetPlays behind its switch. Conditions: PlR. -/
import Derived.Test.YtihhepojhoaacaaNetPA
namespace Go.Proofs.Ytihhepojhoaacaa.netPlays
set_option linter.unusedVariables false
set_option linter.unusedSimpArgs false
open Go.ChangeShapes Go.WideShapes Go.ChangeAt Go.RowKit
/-- The statements from that region on. -/
def findFrom (n : Nat) : Code → Option Code
  | .block _ c => findFrom n c
  | .seq (.region m o d) b => bif m == n then some (.seq (.region m o d) b) else findFrom n b
  | .seq a b => match findFrom n a with
    | some c => some c
    | none => findFrom n b
  | .cond _ a b => match findFrom n a with
    | some c => some c
    | none => findFrom n b
  | .loop c => findFrom n c
  | .scope c => findFrom n c
  | _ => none
/-- The check behind the switch. -/
noncomputable def finCode : Code := (Try.f6.body.bind (findFrom 45)).getD .skip
set_option maxRecDepth 1000000 in
set_option maxHeartbeats 6400000 in
theorem fin_check {w u : World} {b m c6 k : Nat} (h : PlR w b m c6 k u) (hk : k < 80)
    (q0 q1 q2 q3 q11 u4 u10 u12 u13 u14 u15 u16 u17 u18 u19 u20 u21 u22 u23 u24 u25 u26 u27 u28 u29 u30 u31 u32 u33 u34 u35 u36 u37 u38 u39 u40 u41 u42 u43 u44 u45 u46 u47 u48 u49 u50 u51 u52 u53 u54 u55 u56 u57 u58 u59 u60 u61 u62 u63 u64 u65 u66 u67 u68 u69 u70 u71 u72 u73 u74 u75 u76 u77 u78 u79 u80 u81 u82 u83 u84 u85 u86 u87 u88 u89 u90 u91 u92 u93 u94 u95 u96 u97 u98 u99 u100 u101 u102 u103 u104 u105 u106 u107 u108 u109 u110 u111 u112 u113 u114 u115 u116 u117 u118 u119 u120 u121 u122 u123 u124 u125 u126 u127 u128 u129 u130 u131 u132 u133 u134 u135 u136 u137 u138 u139 u140 u141 u142 u143 u144 u145 u146 u147 u148 u149 u150 u151 u152 u153 u154 u155 u156 u157 u158 u159 u160 u161 u162 u163 u164 u165 u166 u167 u168 u169 u170 u171 u172 u173 u174 u175 u176 u177 u178 u179 u180 u181 u182 u183 u184 u185 u186 u187 u188 u189 u190 u191 u192 u193 u194 u195 u196 u197 u198 u199 u200 u201 u202 u203 u204 u205 u206 u207 u208 u209 u210 u211 u212 u213 u214 u215 u216 u217 u218 u219 u220 u221 u222 u223 u224 u225 u226 u227 : Value) {K : Act → World → Prop} {Q : Exit → Act → World → Prop} (hK : ∀ (v4 v204 v205 v206 v207 v208 v209 v210 v211 v212 v213 v214 v215 v216 v217 v218 v219 v220 v221 v222 v223 v224 v225 v226 v227 : Value) (W2 : World), PlR w b m c6 k W2 → K ⟨#[q0, q1, q2, q3, v4, .pointer (some ⟨b, 0, none⟩), .pointer (some ⟨c6, 0, none⟩), .pointer (some ⟨c6 + 1, 0, none⟩), .pointer (some ⟨c6 + 2, 0, none⟩), .pointer (some ⟨c6 + 3, 0, none⟩), u10, q11, u12, u13, u14, u15, u16, u17, u18, u19, u20, u21, u22, u23, u24, u25, u26, u27, u28, u29, u30, u31, u32, u33, u34, u35, u36, u37, u38, u39, u40, u41, u42, u43, u44, u45, u46, u47, u48, u49, u50, u51, u52, u53, u54, u55, u56, u57, u58, u59, u60, u61, u62, u63, u64, u65, u66, u67, u68, u69, u70, u71, u72, u73, u74, u75, u76, u77, u78, u79, u80, u81, u82, u83, u84, u85, u86, u87, u88, u89, u90, u91, u92, u93, u94, u95, u96, u97, u98, u99, u100, u101, u102, u103, u104, u105, u106, u107, u108, u109, u110, u111, u112, u113, u114, u115, u116, u117, u118, u119, u120, u121, u122, u123, u124, u125, u126, u127, u128, u129, u130, u131, u132, u133, u134, u135, u136, u137, u138, u139, u140, u141, u142, u143, u144, u145, u146, u147, u148, u149, u150, u151, u152, u153, u154, u155, u156, u157, u158, u159, u160, u161, u162, u163, u164, u165, u166, u167, u168, u169, u170, u171, u172, u173, u174, u175, u176, u177, u178, u179, u180, u181, u182, u183, u184, u185, u186, u187, u188, u189, u190, u191, u192, u193, u194, u195, u196, u197, u198, u199, u200, u201, u202, u203, v204, v205, v206, v207, v208, v209, v210, v211, v212, v213, v214, v215, v216, v217, v218, v219, v220, v221, v222, v223, v224, v225, v226, v227], []⟩ W2) :
    Code.wp Try.prog finCode (Exit.inBlock 1 (Exit.then K Q)) ⟨#[q0, q1, q2, q3, u4, .pointer (some ⟨b, 0, none⟩), .pointer (some ⟨c6, 0, none⟩), .pointer (some ⟨c6 + 1, 0, none⟩), .pointer (some ⟨c6 + 2, 0, none⟩), .pointer (some ⟨c6 + 3, 0, none⟩), u10, q11, u12, u13, u14, u15, u16, u17, u18, u19, u20, u21, u22, u23, u24, u25, u26, u27, u28, u29, u30, u31, u32, u33, u34, u35, u36, u37, u38, u39, u40, u41, u42, u43, u44, u45, u46, u47, u48, u49, u50, u51, u52, u53, u54, u55, u56, u57, u58, u59, u60, u61, u62, u63, u64, u65, u66, u67, u68, u69, u70, u71, u72, u73, u74, u75, u76, u77, u78, u79, u80, u81, u82, u83, u84, u85, u86, u87, u88, u89, u90, u91, u92, u93, u94, u95, u96, u97, u98, u99, u100, u101, u102, u103, u104, u105, u106, u107, u108, u109, u110, u111, u112, u113, u114, u115, u116, u117, u118, u119, u120, u121, u122, u123, u124, u125, u126, u127, u128, u129, u130, u131, u132, u133, u134, u135, u136, u137, u138, u139, u140, u141, u142, u143, u144, u145, u146, u147, u148, u149, u150, u151, u152, u153, u154, u155, u156, u157, u158, u159, u160, u161, u162, u163, u164, u165, u166, u167, u168, u169, u170, u171, u172, u173, u174, u175, u176, u177, u178, u179, u180, u181, u182, u183, u184, u185, u186, u187, u188, u189, u190, u191, u192, u193, u194, u195, u196, u197, u198, u199, u200, u201, u202, u203, u204, u205, u206, u207, u208, u209, u210, u211, u212, u213, u214, u215, u216, u217, u218, u219, u220, u221, u222, u223, u224, u225, u226, u227], []⟩ u := by
  have HK := hide hK
  clear hK
  conv => arg 2; whnf
  obtain ⟨rb, A, c, W, l, s, hW, hl, hs, h50, hP⟩ := h
  have hC : (W.map Mg.bare).length ≤ 100000 := by rw [List.length_map]; omega
  have HC : Hid (∀ W' : World, Below u.heap.size u W' → W'.cell? ⟨c6 + 1, 0, none⟩ = some (.slice A W.length c) ∧ W'.cell? ⟨c6 + 2, 0, none⟩ = some (.int .i64 l) ∧ W'.cell? ⟨c6 + 3, 0, none⟩ = some (.int .i64 s)) := hide (fun W' hW' => by
    have h := hP.below hW'
    exact ⟨(cell_of_row _ _ 0 _ _ _ h.b7).trans rfl, (cell_of_row _ _ 0 _ _ _ h.b8).trans rfl, (cell_of_row _ _ 0 _ _ _ h.b9).trans rfl⟩)
  have HLN : Hid (∀ W' : World, Below u.heap.size u W' → Calls Try.prog 9 #[.pointer (some ⟨b, 0, none⟩)] W' fun e w' => e = .returned (.int .i64 W.length) ∧ Below W'.heap.size W' w') := hide (fun W' hW' => by
    have h := nlen_any (hP.below hW').net.at_
    rw [List.length_map] at h
    exact Calls.mono h (by rintro e w' ⟨rfl, rfl⟩; exact ⟨rfl, Below.refl _ _⟩))
  have HLO : Hid (∀ W' : World, Below u.heap.size u W' → Calls Try.prog 11 #[.pointer (some ⟨b, 0, none⟩)] W' fun e w' => e = .returned (.int .i64 l) ∧ Below W'.heap.size W' w') := hide (fun W' hW' => Calls.mono (nlost_any (hP.below hW').net.at_) (by rintro e w' ⟨rfl, rfl⟩; exact ⟨rfl, Below.refl _ _⟩))
  have HSN : Hid (∀ W' : World, Below u.heap.size u W' → Calls Try.prog 13 #[.pointer (some ⟨b, 0, none⟩)] W' fun e w' => e = .returned (.int .i64 s) ∧ Below W'.heap.size W' w') := hide (fun W' hW' => Calls.mono (nsent_any (hP.below hW').net.at_) (by rintro e w' ⟨rfl, rfl⟩; exact ⟨rfl, Below.refl _ _⟩))
  have HLS : Hid (∀ W' : World, Below u.heap.size u W' → Calls Try.prog 21 #[.pointer (some ⟨b, 0, none⟩)] W' fun e w' => ∃ (A2 : Option Addr) (c2 : Nat) (N2 : List Mg), e = .returned (.slice A2 N2.length c2) ∧ RowAt Mg.cells 6 w' A2 N2 ∧ N2.map Mg.bare = W.map Mg.bare ∧ (∀ x ∈ N2, x.rd w') ∧ Below W'.heap.size W' w') := hide (fun W' hW' => nlist_any (hP.below hW').net.at_ hC)
  have HSE : Hid (∀ W' : World, Below u.heap.size u W' → ∀ (A2 : Option Addr) (c2 : Nat) (N2 : List Mg), RowAt Mg.cells 6 W' A2 N2 → N2.map Mg.bare = W.map Mg.bare → (∀ x ∈ N2, x.rd W') → Calls Try.prog 20 #[.slice A2 N2.length c2, .slice A W.length c] W' fun e w' => e = .returned (.bool true) ∧ Below W'.heap.size W' w') := hide (fun W' hW' A2 c2 N2 hr he hd => by
    have hPW := hP.below hW'
    have hln : N2.length = W.length := by
      have := congrArg List.length he
      simpa using this
    refine samems_eq A2 A c2 c N2 W W' hr hPW.row hd (fun x hx => (hPW.rd x hx).below hPW.net.low) he (by omega) (fun x hx => ?_)
    have hm : x.bare ∈ W.map Mg.bare := by rw [← he]; exact List.mem_map_of_mem hx
    obtain ⟨y, hy, hyx⟩ := List.mem_map.1 hm
    have h1 := congrArg (fun z => z.L.length) hyx
    have h2 : y.L.length = x.L.length := h1
    have := h50 y hy
    omega)
  have HPR : Hid (∀ W' : World, Below u.heap.size u W' → PlR w b m c6 k W') := hide (fun W' hW' => ⟨rb, A, c, W, l, s, hW, hl, hs, h50, hP.below hW'⟩)
  have HX : Hid (Below u.heap.size u u.drew) := hide (Below.refl _ _).drew
  clear hP h50 hW hl hs hC
  go_upto_region 45 with fail
  refine j_start [] (by kernel_rfl) ?_
  refine' j_take (i := 0) (v := _) [] ?hi0 (by kernel_rfl) (by kernel_rfl) (by kernel_rfl) (by kernel_rfl) (by kernel_rfl) (Or.inl ⟨?hw0, ?hy0⟩) ?rest0
  case hi0 => (simp only [List.getElem?_toArray, List.getElem?_cons_succ, List.getElem?_cons_zero]; rfl)
  case hw0 => rfl
  case hy0 => (intro w' hw'; go_simp; try with_reducible rfl)
  try simp only [Act.put, List.setIfInBounds_toArray, List.set_cons_zero, List.set_cons_succ]
  refine' j_take (i := 2) (v := _) [] ?hi2 (by kernel_rfl) (by kernel_rfl) (by kernel_rfl) (by kernel_rfl) (by kernel_rfl) (Or.inl ⟨?hw2, ?hy2⟩) ?rest2
  case hi2 => (simp only [List.getElem?_toArray, List.getElem?_cons_succ, List.getElem?_cons_zero]; rfl)
  case hw2 => rfl
  case hy2 => (intro w' hw'; have h0 := (HC.out _ (below_step HX.out hw')).1; go_simp; try with_reducible rfl)
  try simp only [Act.put, List.setIfInBounds_toArray, List.set_cons_zero, List.set_cons_succ]
  refine' j_take (i := 3) (v := _) [] ?hi3 (by kernel_rfl) (by kernel_rfl) (by kernel_rfl) (by kernel_rfl) (by kernel_rfl) (Or.inl ⟨?hw3, ?hy3⟩) ?rest3
  case hi3 => (simp only [List.getElem?_toArray, List.getElem?_cons_succ, List.getElem?_cons_zero]; rfl)
  case hw3 => rfl
  case hy3 => (intro w' hw'; go_simp; try with_reducible rfl)
  try simp only [Act.put, List.setIfInBounds_toArray, List.set_cons_zero, List.set_cons_succ]
  refine' wpAnyJ_step (i := 1) (o := _) (by kernel_rfl) ?ho1 (fun K hK => ?step1)
  case ho1 => (simp only [List.getElem?_toArray, List.getElem?_cons_succ, List.getElem?_cons_zero]; rfl)
  go_simp
  refine (Calls.mono (HLN.out _ HX.out) ?_); rintro e u1 ⟨rfl, gg⟩
  have HX := hide (below_step HX.out gg)
  refine hK.out _ _ gg (j_switch gg ?_)
  clear hK K gg
  try simp only [Act.put, List.setIfInBounds_toArray, List.set_cons_zero, List.set_cons_succ]
  refine' j_take (i := 4) (v := _) [] ?hi4 (by kernel_rfl) (by kernel_rfl) (by kernel_rfl) (by kernel_rfl) (by kernel_rfl) (Or.inl ⟨?hw4, ?hy4⟩) ?rest4
  case hi4 => (simp only [List.getElem?_toArray, List.getElem?_cons_succ, List.getElem?_cons_zero]; rfl)
  case hw4 => rfl
  case hy4 => (intro w' hw'; go_simp; try with_reducible rfl)
  try simp only [Act.put, List.setIfInBounds_toArray, List.set_cons_zero, List.set_cons_succ]
  refine' j_take (i := 5) (v := _) [] ?hi5 (by kernel_rfl) (by kernel_rfl) (by kernel_rfl) (by kernel_rfl) (by kernel_rfl) (Or.inl ⟨?hw5, ?hy5⟩) ?rest5
  case hi5 => (simp only [List.getElem?_toArray, List.getElem?_cons_succ, List.getElem?_cons_zero]; rfl)
  case hw5 => rfl
  case hy5 => (intro w' hw'; go_simp; try with_reducible rfl)
  try simp only [Act.put, List.setIfInBounds_toArray, List.set_cons_zero, List.set_cons_succ]
  refine' j_take (i := 6) (v := _) [] ?hi6 (by kernel_rfl) (by kernel_rfl) (by kernel_rfl) (by kernel_rfl) (by kernel_rfl) (Or.inl ⟨?hw6, ?hy6⟩) ?rest6
  case hi6 => (simp only [List.getElem?_toArray, List.getElem?_cons_succ, List.getElem?_cons_zero]; rfl)
  case hw6 => rfl
  case hy6 => (intro w' hw'; go_simp; try with_reducible rfl)
  try simp only [Act.put, List.setIfInBounds_toArray, List.set_cons_zero, List.set_cons_succ]
  refine' j_take (i := 8) (v := _) [] ?hi8 (by kernel_rfl) (by kernel_rfl) (by kernel_rfl) (by kernel_rfl) (by kernel_rfl) (Or.inl ⟨?hw8, ?hy8⟩) ?rest8
  case hi8 => (simp only [List.getElem?_toArray, List.getElem?_cons_succ, List.getElem?_cons_zero]; rfl)
  case hw8 => rfl
  case hy8 => (intro w' hw'; have h0 := (HC.out _ (below_step HX.out hw')).1; go_simp; try with_reducible rfl)
  try simp only [Act.put, List.setIfInBounds_toArray, List.set_cons_zero, List.set_cons_succ]
  refine' wpAnyJ_step (i := 7) (o := _) (by kernel_rfl) ?ho7 (fun K hK => ?step7)
  case ho7 => (simp only [List.getElem?_toArray, List.getElem?_cons_succ, List.getElem?_cons_zero]; rfl)
  go_simp
  refine (Calls.mono (HLS.out _ HX.out) ?_); rintro e u2 ⟨A2, c2, N2, rfl, hr2, he2, hd2, gg⟩
  have HR2 := hide hr2
  have HE2 := hide he2
  have HD2 := hide hd2
  clear hr2 he2 hd2
  have HX := hide (below_step HX.out gg)
  refine hK.out _ _ gg (j_switch gg ?_)
  clear hK K gg
  try simp only [Act.put, List.setIfInBounds_toArray, List.set_cons_zero, List.set_cons_succ]
  refine' wpAnyJ_step (i := 9) (o := _) (by kernel_rfl) ?ho9 (fun K hK => ?step9)
  case ho9 => (simp only [List.getElem?_toArray, List.getElem?_cons_succ, List.getElem?_cons_zero]; rfl)
  go_simp
  refine (Calls.mono (HSE.out _ HX.out A2 c2 N2 HR2.out HE2.out HD2.out) ?_); rintro e u3 ⟨rfl, gg⟩
  have HX := hide (below_step HX.out gg)
  refine hK.out _ _ gg (j_switch gg ?_)
  clear hK K gg
  try simp only [Act.put, List.setIfInBounds_toArray, List.set_cons_zero, List.set_cons_succ]
  refine' j_take (i := 10) (v := _) [] ?hi10 (by kernel_rfl) (by kernel_rfl) (by kernel_rfl) (by kernel_rfl) (by kernel_rfl) (Or.inl ⟨?hw10, ?hy10⟩) ?rest10
  case hi10 => (simp only [List.getElem?_toArray, List.getElem?_cons_succ, List.getElem?_cons_zero]; rfl)
  case hw10 => rfl
  case hy10 => (intro w' hw'; go_simp; try with_reducible rfl)
  try simp only [Act.put, List.setIfInBounds_toArray, List.set_cons_zero, List.set_cons_succ]
  refine' j_take (i := 11) (v := _) [] ?hi11 (by kernel_rfl) (by kernel_rfl) (by kernel_rfl) (by kernel_rfl) (by kernel_rfl) (Or.inl ⟨?hw11, ?hy11⟩) ?rest11
  case hi11 => (simp only [List.getElem?_toArray, List.getElem?_cons_succ, List.getElem?_cons_zero]; rfl)
  case hw11 => rfl
  case hy11 => (intro w' hw'; go_simp; try with_reducible rfl)
  try simp only [Act.put, List.setIfInBounds_toArray, List.set_cons_zero, List.set_cons_succ]
  refine' j_take (i := 12) (v := _) [] ?hi12 (by kernel_rfl) (by kernel_rfl) (by kernel_rfl) (by kernel_rfl) (by kernel_rfl) (Or.inl ⟨?hw12, ?hy12⟩) ?rest12
  case hi12 => (simp only [List.getElem?_toArray, List.getElem?_cons_succ, List.getElem?_cons_zero]; rfl)
  case hw12 => rfl
  case hy12 => (intro w' hw'; go_simp; try with_reducible rfl)
  try simp only [Act.put, List.setIfInBounds_toArray, List.set_cons_zero, List.set_cons_succ]
  refine' j_take (i := 13) (v := _) [] ?hi13 (by kernel_rfl) (by kernel_rfl) (by kernel_rfl) (by kernel_rfl) (by kernel_rfl) (Or.inl ⟨?hw13, ?hy13⟩) ?rest13
  case hi13 => (simp only [List.getElem?_toArray, List.getElem?_cons_succ, List.getElem?_cons_zero]; rfl)
  case hw13 => rfl
  case hy13 => (intro w' hw'; go_simp; try with_reducible rfl)
  try simp only [Act.put, List.setIfInBounds_toArray, List.set_cons_zero, List.set_cons_succ]
  refine' j_take (i := 15) (v := _) [] ?hi15 (by kernel_rfl) (by kernel_rfl) (by kernel_rfl) (by kernel_rfl) (by kernel_rfl) (Or.inl ⟨?hw15, ?hy15⟩) ?rest15
  case hi15 => (simp only [List.getElem?_toArray, List.getElem?_cons_succ, List.getElem?_cons_zero]; rfl)
  case hw15 => rfl
  case hy15 => (intro w' hw'; have h0 := (HC.out _ (below_step HX.out hw')).2.1; go_simp; try with_reducible rfl)
  try simp only [Act.put, List.setIfInBounds_toArray, List.set_cons_zero, List.set_cons_succ]
  refine' wpAnyJ_step (i := 14) (o := _) (by kernel_rfl) ?ho14 (fun K hK => ?step14)
  case ho14 => (simp only [List.getElem?_toArray, List.getElem?_cons_succ, List.getElem?_cons_zero]; rfl)
  go_simp
  refine (Calls.mono (HLO.out _ HX.out) ?_); rintro e u4 ⟨rfl, gg⟩
  have HX := hide (below_step HX.out gg)
  refine hK.out _ _ gg (j_switch gg ?_)
  clear hK K gg
  try simp only [Act.put, List.setIfInBounds_toArray, List.set_cons_zero, List.set_cons_succ]
  refine' j_take (i := 16) (v := _) [] ?hi16 (by kernel_rfl) (by kernel_rfl) (by kernel_rfl) (by kernel_rfl) (by kernel_rfl) (Or.inl ⟨?hw16, ?hy16⟩) ?rest16
  case hi16 => (simp only [List.getElem?_toArray, List.getElem?_cons_succ, List.getElem?_cons_zero]; rfl)
  case hw16 => rfl
  case hy16 => (intro w' hw'; go_simp; try with_reducible rfl)
  try simp only [Act.put, List.setIfInBounds_toArray, List.set_cons_zero, List.set_cons_succ]
  refine' j_take (i := 17) (v := _) [] ?hi17 (by kernel_rfl) (by kernel_rfl) (by kernel_rfl) (by kernel_rfl) (by kernel_rfl) (Or.inl ⟨?hw17, ?hy17⟩) ?rest17
  case hi17 => (simp only [List.getElem?_toArray, List.getElem?_cons_succ, List.getElem?_cons_zero]; rfl)
  case hw17 => rfl
  case hy17 => (intro w' hw'; go_simp; try with_reducible rfl)
  try simp only [Act.put, List.setIfInBounds_toArray, List.set_cons_zero, List.set_cons_succ]
  refine' j_take (i := 18) (v := _) [] ?hi18 (by kernel_rfl) (by kernel_rfl) (by kernel_rfl) (by kernel_rfl) (by kernel_rfl) (Or.inl ⟨?hw18, ?hy18⟩) ?rest18
  case hi18 => (simp only [List.getElem?_toArray, List.getElem?_cons_succ, List.getElem?_cons_zero]; rfl)
  case hw18 => rfl
  case hy18 => (intro w' hw'; go_simp; try with_reducible rfl)
  try simp only [Act.put, List.setIfInBounds_toArray, List.set_cons_zero, List.set_cons_succ]
  refine' j_take (i := 19) (v := _) [] ?hi19 (by kernel_rfl) (by kernel_rfl) (by kernel_rfl) (by kernel_rfl) (by kernel_rfl) (Or.inl ⟨?hw19, ?hy19⟩) ?rest19
  case hi19 => (simp only [List.getElem?_toArray, List.getElem?_cons_succ, List.getElem?_cons_zero]; rfl)
  case hw19 => rfl
  case hy19 => (intro w' hw'; go_simp; try with_reducible rfl)
  try simp only [Act.put, List.setIfInBounds_toArray, List.set_cons_zero, List.set_cons_succ]
  refine' j_take (i := 21) (v := _) [] ?hi21 (by kernel_rfl) (by kernel_rfl) (by kernel_rfl) (by kernel_rfl) (by kernel_rfl) (Or.inl ⟨?hw21, ?hy21⟩) ?rest21
  case hi21 => (simp only [List.getElem?_toArray, List.getElem?_cons_succ, List.getElem?_cons_zero]; rfl)
  case hw21 => rfl
  case hy21 => (intro w' hw'; have h0 := (HC.out _ (below_step HX.out hw')).2.2; go_simp; try with_reducible rfl)
  try simp only [Act.put, List.setIfInBounds_toArray, List.set_cons_zero, List.set_cons_succ]
  refine' wpAnyJ_step (i := 20) (o := _) (by kernel_rfl) ?ho20 (fun K hK => ?step20)
  case ho20 => (simp only [List.getElem?_toArray, List.getElem?_cons_succ, List.getElem?_cons_zero]; rfl)
  go_simp
  refine (Calls.mono (HSN.out _ HX.out) ?_); rintro e u5 ⟨rfl, gg⟩
  have HX := hide (below_step HX.out gg)
  refine hK.out _ _ gg (j_switch gg ?_)
  clear hK K gg
  try simp only [Act.put, List.setIfInBounds_toArray, List.set_cons_zero, List.set_cons_succ]
  refine' j_take (i := 22) (v := _) [] ?hi22 (by kernel_rfl) (by kernel_rfl) (by kernel_rfl) (by kernel_rfl) (by kernel_rfl) (Or.inl ⟨?hw22, ?hy22⟩) ?rest22
  case hi22 => (simp only [List.getElem?_toArray, List.getElem?_cons_succ, List.getElem?_cons_zero]; rfl)
  case hw22 => rfl
  case hy22 => (intro w' hw'; go_simp; try with_reducible rfl)
  try simp only [Act.put, List.setIfInBounds_toArray, List.set_cons_zero, List.set_cons_succ]
  refine' j_take (i := 23) (v := _) [] ?hi23 (by kernel_rfl) (by kernel_rfl) (by kernel_rfl) (by kernel_rfl) (by kernel_rfl) (Or.inl ⟨?hw23, ?hy23⟩) ?rest23
  case hi23 => (simp only [List.getElem?_toArray, List.getElem?_cons_succ, List.getElem?_cons_zero]; rfl)
  case hw23 => rfl
  case hy23 => (intro w' hw'; go_simp; try with_reducible rfl)
  try simp only [Act.put, List.setIfInBounds_toArray, List.set_cons_zero, List.set_cons_succ]
  refine wpAnyJ_done (by kernel_rfl) ?_ _
  refine NoPanic.normal ?_
  go_wp2_with fail
  exact HK.out _ _ _ _ _ _ _ _ _ _ _ _ _ _ _ _ _ _ _ _ _ _ _ _ _ _ (HPR.out _ HX.out)
end Go.Proofs.Ytihhepojhoaacaa.netPlays
