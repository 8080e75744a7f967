/- round.Round: On behind its test: the arms. Conditions: OnH. -/
import Derived.Test.YtikecafblampeaaRndX
namespace Go.Proofs.Ytikecafblampeaa
set_option linter.unusedVariables false
set_option linter.unusedSimpArgs false
open Go.ChangeShapes Go.WideShapes Go.ChangeAt Go.RowKit
/-- The block of that number. -/
def findBlock (n : Nat) : Code → Option Code
  | .block m c => bif m == n then some (.block m c) else findBlock n c
  | .seq a b => match findBlock n a with
    | some c => some c
    | none => findBlock n b
  | .cond _ a b => match findBlock n a with
    | some c => some c
    | none => findBlock n b
  | .loop c => findBlock n c
  | .scope c => findBlock n c
  | _ => none
/-- The statements from that region on. -/
def findFrom (n : Nat) : Code → Option Code
  | .block _ c => findFrom n c
  | .seq (.region m o d) b => bif m == n then some (.seq (.region m o d) b) else findFrom n b
  | .seq a b => match findFrom n a with
    | some c => some c
    | none => findFrom n b
  | .cond _ a b => match findFrom n a with
    | some c => some c
    | none => findFrom n b
  | .loop c => findFrom n c
  | .scope c => findFrom n c
  | _ => none
/-- The switch, and what stands behind it. -/
noncomputable def onCode : Code := (Try.f10.body.bind (findBlock 0)).getD .skip
noncomputable def onTail : Code := (Try.f10.body.bind (findFrom 12)).getD .skip
/-- What stands behind the test. -/
structure OnH (w0 w u : World) (b gx : Nat) (R : Rs) (m : Mg) : Prop where
  rnd : RndO w0 u b R
  box : u.heap[gx]? = some (.cells #[.int .i64 m.k, .int .i64 m.f, .int .i64 m.t, .int .u64 m.id, .int .u64 m.n, .slice m.A m.L.length m.c] 30 (0, 0))
  gx : w.heap.size ≤ gx ∧ b < w.heap.size
  rd : m.rd w0
  low : Sets (fun g => g = b) w u
/-- What On leaves. -/
def OnP (w0 w : World) (b : Nat) (R : Rs) (M : List Mg) (e : Ending) (w' : World) : Prop := ∃ v N, e = .returned v ∧ RndO w0 w' b R ∧ MsO w.heap.size w' v N ∧ N.map Mg.bare = M ∧ Sets (fun g => g = b) w w'
set_option maxRecDepth 1000000 in
set_option maxHeartbeats 3200000 in
theorem on_old {w0 w u : World} {b gx : Nat} {R : Rs} {m : Mg} (h : OnH w0 w u b gx R m) (hk : m.k = 3) (u1 u2 u4 u5 u6 u7 u8 u9 u10 u11 u12 u13 u14 u15 u16 u17 u18 u19 u20 u21 u22 u23 u24 u25 u26 u27 u28 u29 u30 u31 u32 u33 u34 u35 u36 u37 u38 u39 u40 u41 u42 u43 u44 u45 u46 u47 u48 u49 u50 u51 u52 u53 u54 u56 u57 u58 u59 u60 u61 u62 u63 u64 u65 u66 u67 u68 u69 u70 u71 u72 u73 u74 u75 u76 u77 u78 u79 u80 u81 u82 u83 u84 u85 u86 u87 u88 u89 u90 u91 u92 u93 u94 u95 u96 u97 u98 u99 u100 u101 u102 u103 u104 u105 u106 u107 u108 u109 u110 u111 u112 u113 u114 u115 u116 u117 u118 u119 u120 u121 u122 u123 u124 u125 u126 u127 : Value) {K : Act → World → Prop} :
    Code.wp Try.prog onCode (Exit.then K (bodyPost Try.prog Try.f10 (OnP w0 w b (end1R R 21 m.n) ([])))) ⟨#[.pointer (some ⟨b, 0, none⟩), u1, u2, .pointer (some ⟨gx, 0, none⟩), u4, u5, u6, u7, u8, u9, u10, u11, u12, u13, u14, u15, u16, u17, u18, u19, u20, u21, u22, u23, u24, u25, u26, u27, u28, u29, u30, u31, u32, u33, u34, u35, u36, u37, u38, u39, u40, u41, u42, u43, u44, u45, u46, u47, u48, u49, u50, u51, u52, u53, u54, .bool false, u56, u57, u58, u59, u60, u61, u62, u63, u64, u65, u66, u67, u68, u69, u70, u71, u72, u73, u74, u75, u76, u77, u78, u79, u80, u81, u82, u83, u84, u85, u86, u87, u88, u89, u90, u91, u92, u93, u94, u95, u96, u97, u98, u99, u100, u101, u102, u103, u104, u105, u106, u107, u108, u109, u110, u111, u112, u113, u114, u115, u116, u117, u118, u119, u120, u121, u122, u123, u124, u125, u126, u127], []⟩ u := by
  obtain ⟨hr, hb, hgx, hm, hbx⟩ := h
  obtain ⟨m0, m1, m2, m3, m4, m5⟩ := six_cells hb
  have lgx := (Array.getElem?_eq_some_iff.1 hb).1
  obtain ⟨v, hbo, ho⟩ := hr.row
  have lb := hr.lt
  have r0 : u.cell? ⟨b, 0, none⟩ = some (.int .i64 R.n) := (cell_of_list (o := 0) hbo).trans rfl
  have r4 : u.cell? ⟨b, 4, none⟩ = some (.int .i64 R.ph) := (cell_of_list (o := 4) hbo).trans rfl
  conv => arg 2; whnf
  have HE := hide (rend_any hr 21 m.n)
  have HBX := hide hbx
  rw [hk] at m0
  clear hr hb hgx hm hbx hbo ho m1 m2 m3 m5 r0 r4 hk
  go_wp2_with fail
  refine (Calls.mono HE.out ?_); rintro e w1 ⟨rfl, h1, h2⟩
  have H1 := hide h1
  have H2 := hide (HBX.out.trans h2 (fun _ _ h => h))
  clear h1 h2 HE
  go_wp2_with fail
  go_ret
  exact ⟨_, [], rfl, H1.out, MsO.nil_ _ _, rfl, H2.out⟩
set_option maxRecDepth 1000000 in
set_option maxHeartbeats 3200000 in
theorem on_again {w0 w u : World} {b gx : Nat} {R : Rs} {m : Mg} (h : OnH w0 w u b gx R m) (hk : ¬ m.k = 3) (hf : 0 ≤ m.f ∧ m.f < 7) (hc : R.C m.f.toNat = true) (u1 u2 u4 u5 u6 u7 u8 u9 u10 u11 u12 u13 u14 u15 u16 u17 u18 u19 u20 u21 u22 u23 u24 u25 u26 u27 u28 u29 u30 u31 u32 u33 u34 u35 u36 u37 u38 u39 u40 u41 u42 u43 u44 u45 u46 u47 u48 u49 u50 u51 u52 u53 u54 u56 u57 u58 u59 u60 u61 u62 u63 u64 u65 u66 u67 u68 u69 u70 u71 u72 u73 u74 u75 u76 u77 u78 u79 u80 u81 u82 u83 u84 u85 u86 u87 u88 u89 u90 u91 u92 u93 u94 u95 u96 u97 u98 u99 u100 u101 u102 u103 u104 u105 u106 u107 u108 u109 u110 u111 u112 u113 u114 u115 u116 u117 u118 u119 u120 u121 u122 u123 u124 u125 u126 u127 : Value) {K : Act → World → Prop} :
    Code.wp Try.prog onCode (Exit.then K (bodyPost Try.prog Try.f10 (OnP w0 w b (R) ([])))) ⟨#[.pointer (some ⟨b, 0, none⟩), u1, u2, .pointer (some ⟨gx, 0, none⟩), u4, u5, u6, u7, u8, u9, u10, u11, u12, u13, u14, u15, u16, u17, u18, u19, u20, u21, u22, u23, u24, u25, u26, u27, u28, u29, u30, u31, u32, u33, u34, u35, u36, u37, u38, u39, u40, u41, u42, u43, u44, u45, u46, u47, u48, u49, u50, u51, u52, u53, u54, .bool false, u56, u57, u58, u59, u60, u61, u62, u63, u64, u65, u66, u67, u68, u69, u70, u71, u72, u73, u74, u75, u76, u77, u78, u79, u80, u81, u82, u83, u84, u85, u86, u87, u88, u89, u90, u91, u92, u93, u94, u95, u96, u97, u98, u99, u100, u101, u102, u103, u104, u105, u106, u107, u108, u109, u110, u111, u112, u113, u114, u115, u116, u117, u118, u119, u120, u121, u122, u123, u124, u125, u126, u127], []⟩ u := by
  obtain ⟨hr, hb, hgx, hm, hbx⟩ := h
  obtain ⟨m0, m1, m2, m3, m4, m5⟩ := six_cells hb
  have lgx := (Array.getElem?_eq_some_iff.1 hb).1
  obtain ⟨v, hbo, ho⟩ := hr.row
  have lb := hr.lt
  have r0 : u.cell? ⟨b, 0, none⟩ = some (.int .i64 R.n) := (cell_of_list (o := 0) hbo).trans rfl
  have r4 : u.cell? ⟨b, 4, none⟩ = some (.int .i64 R.ph) := (cell_of_list (o := 4) hbo).trans rfl
  conv => arg 2; whnf
  obtain ⟨i, hi⟩ : ∃ i : Nat, m.f = (i : Int) := ⟨m.f.toNat, by omega⟩
  have hi7 : i < 7 := by omega
  rw [hi] at m1
  have hit : m.f.toNat = i := by omega
  have hi0 : (0 : Int) ≤ (i : Int) := by omega
  have hiI : (i : Int) < 7 := by omega
  have rc : u.cell? ⟨b, 5 + i, none⟩ = some (.bool (R.C i)) := (cell_of_list hbo).trans (rsL_C R 0 v hi7)
  have qm0 := fun s : Near u => s.cell m0 lgx
  have qm1 := fun s : Near u => s.cell m1 lgx
  have qrc := fun s : Near u => s.cell rc lb
  rw [hit] at hc
  rw [hc] at rc qrc
  have HR := hide hr
  have HBX : Hid (Sets (fun g => g = b) w u) := hide hbx
  have hk3 : (m.k == 3) = false := beq_eq_false_iff_ne.2 hk
  clear hr hb hgx hm hbx hbo ho m2 m3 m4 m5 r0 r4 hi hit hc hk hf
  go_upto_region 6 with fail
  refine wp_region_near (by kernel_rfl) (by kernel_rfl) ?_
  repeat (go_big_quiet_step (fail))
  refine wpQuiet_nil ?_
  intro _ hw'
  obtain ⟨s1, rfl⟩ := hw'
  have HR := hide (HR.out.below s1.is)
  have HBX := hide (HBX.out.trans (Sets.of (S := fun _ => False) s1.is) (fun _ _ h => h.elim))
  go_wp2_with fail
  go_ret
  exact ⟨_, [], rfl, HR.out, MsO.nil_ _ _, rfl, HBX.out⟩
set_option maxRecDepth 1000000 in
set_option maxHeartbeats 3200000 in
theorem on_none {w0 w u : World} {b gx : Nat} {R : Rs} {m : Mg} (h : OnH w0 w u b gx R m) (hk : ¬ m.k = 3) (hf : 0 ≤ m.f ∧ m.f < 7) (hc : R.C m.f.toNat = false) (hno : ¬ ((R.ph = 1 ∧ m.k = 7) ∨ (R.ph = 2 ∧ m.k = 9))) (u1 u2 u4 u5 u6 u7 u8 u9 u10 u11 u12 u13 u14 u15 u16 u17 u18 u19 u20 u21 u22 u23 u24 u25 u26 u27 u28 u29 u30 u31 u32 u33 u34 u35 u36 u37 u38 u39 u40 u41 u42 u43 u44 u45 u46 u47 u48 u49 u50 u51 u52 u53 u54 u56 u57 u58 u59 u60 u61 u62 u63 u64 u65 u66 u67 u68 u69 u70 u71 u72 u73 u74 u75 u76 u77 u78 u79 u80 u81 u82 u83 u84 u85 u86 u87 u88 u89 u90 u91 u92 u93 u94 u95 u96 u97 u98 u99 u100 u101 u102 u103 u104 u105 u106 u107 u108 u109 u110 u111 u112 u113 u114 u115 u116 u117 u118 u119 u120 u121 u122 u123 u124 u125 u126 u127 : Value) {K : Act → World → Prop} :
    Code.wp Try.prog onCode (Exit.then K (bodyPost Try.prog Try.f10 (OnP w0 w b (R) ([])))) ⟨#[.pointer (some ⟨b, 0, none⟩), u1, u2, .pointer (some ⟨gx, 0, none⟩), u4, u5, u6, u7, u8, u9, u10, u11, u12, u13, u14, u15, u16, u17, u18, u19, u20, u21, u22, u23, u24, u25, u26, u27, u28, u29, u30, u31, u32, u33, u34, u35, u36, u37, u38, u39, u40, u41, u42, u43, u44, u45, u46, u47, u48, u49, u50, u51, u52, u53, u54, .bool false, u56, u57, u58, u59, u60, u61, u62, u63, u64, u65, u66, u67, u68, u69, u70, u71, u72, u73, u74, u75, u76, u77, u78, u79, u80, u81, u82, u83, u84, u85, u86, u87, u88, u89, u90, u91, u92, u93, u94, u95, u96, u97, u98, u99, u100, u101, u102, u103, u104, u105, u106, u107, u108, u109, u110, u111, u112, u113, u114, u115, u116, u117, u118, u119, u120, u121, u122, u123, u124, u125, u126, u127], []⟩ u := by
  obtain ⟨hr, hb, hgx, hm, hbx⟩ := h
  obtain ⟨m0, m1, m2, m3, m4, m5⟩ := six_cells hb
  have lgx := (Array.getElem?_eq_some_iff.1 hb).1
  obtain ⟨v, hbo, ho⟩ := hr.row
  have lb := hr.lt
  have r0 : u.cell? ⟨b, 0, none⟩ = some (.int .i64 R.n) := (cell_of_list (o := 0) hbo).trans rfl
  have r4 : u.cell? ⟨b, 4, none⟩ = some (.int .i64 R.ph) := (cell_of_list (o := 4) hbo).trans rfl
  conv => arg 2; whnf
  obtain ⟨i, hi⟩ : ∃ i : Nat, m.f = (i : Int) := ⟨m.f.toNat, by omega⟩
  have hi7 : i < 7 := by omega
  rw [hi] at m1
  have hit : m.f.toNat = i := by omega
  have hi0 : (0 : Int) ≤ (i : Int) := by omega
  have hiI : (i : Int) < 7 := by omega
  have rc : u.cell? ⟨b, 5 + i, none⟩ = some (.bool (R.C i)) := (cell_of_list hbo).trans (rsL_C R 0 v hi7)
  have qm0 := fun s : Near u => s.cell m0 lgx
  have qm1 := fun s : Near u => s.cell m1 lgx
  have qrc := fun s : Near u => s.cell rc lb
  rw [hit] at hc
  rw [hc] at rc qrc
  have HR := hide hr
  have HBX : Hid (Sets (fun g => g = b) w u) := hide hbx
  have hk3 : (m.k == 3) = false := beq_eq_false_iff_ne.2 hk
  clear hr hb hgx hm hbx hbo ho m2 m3 m4 m5 r0 hi hit hc hk hf
  go_upto_region 6 with fail
  refine wp_region_near (by kernel_rfl) (by kernel_rfl) ?_
  repeat (go_big_quiet_step (fail))
  refine wpQuiet_nil ?_
  intro _ hw'
  obtain ⟨s1, rfl⟩ := hw'
  have HR := hide (HR.out.below s1.is)
  have HBX := hide (HBX.out.trans (Sets.of (S := fun _ => False) s1.is) (fun _ _ h => h.elim))
  have HSB := hide s1.is
  have m0 := keep_cell s1.is m0 lgx
  have m1 := keep_cell s1.is m1 lgx
  have r4 := keep_cell s1.is r4 lb
  have lgx := Nat.lt_of_lt_of_le lgx s1.is.size
  obtain ⟨wv, hwv⟩ : ∃ wv, s1.at_ = wv := ⟨_, rfl⟩
  rw [hwv] at HR HBX HSB m0 m1 r4 lgx ⊢
  clear hwv rc qm0 qm1 qrc lb
  by_cases h1 : R.ph = 1
  · have d1 : (R.ph == 1) = true := beq_iff_eq.2 h1
    have d7 : (m.k == 7) = false := beq_eq_false_iff_ne.2 (fun e => hno (.inl ⟨h1, e⟩))
    have d2 : (R.ph != 2) = true := by simp [h1]
    clear h1 hno
    go_wp2_with fail
    go_ret
    exact ⟨_, [], rfl, HR.out, MsO.nil_ _ _, rfl, HBX.out⟩
  have d1 : (R.ph == 1) = false := beq_eq_false_iff_ne.2 h1
  clear h1
  by_cases h1 : R.ph = 2
  · have d1 : (R.ph == 1) = false := by simp [h1]
    have d2 : (R.ph != 2) = false := by simp [h1]
    have d9 : (m.k != 9) = true := by simpa using (fun e => hno (.inr ⟨h1, e⟩))
    clear h1 hno
    go_wp2_with fail
    go_ret
    exact ⟨_, [], rfl, HR.out, MsO.nil_ _ _, rfl, HBX.out⟩
  have d2 : (R.ph != 2) = true := by simpa using h1
  clear h1 hno
  go_wp2_with fail
  go_ret
  exact ⟨_, [], rfl, HR.out, MsO.nil_ _ _, rfl, HBX.out⟩
set_option maxRecDepth 1000000 in
set_option maxHeartbeats 3200000 in
theorem on_filled {w0 w u : World} {b gx : Nat} {R : Rs} {m : Mg} (h : OnH w0 w u b gx R m) (hk : ¬ m.k = 3) (hf : 0 ≤ m.f ∧ m.f < 7) (hc : R.C m.f.toNat = false) (h2 : R.ph = 2) (h9 : m.k = 9) (u1 u2 u4 u5 u6 u7 u8 u9 u10 u11 u12 u13 u14 u15 u16 u17 u18 u19 u20 u21 u22 u23 u24 u25 u26 u27 u28 u29 u30 u31 u32 u33 u34 u35 u36 u37 u38 u39 u40 u41 u42 u43 u44 u45 u46 u47 u48 u49 u50 u51 u52 u53 u54 u56 u57 u58 u59 u60 u61 u62 u63 u64 u65 u66 u67 u68 u69 u70 u71 u72 u73 u74 u75 u76 u77 u78 u79 u80 u81 u82 u83 u84 u85 u86 u87 u88 u89 u90 u91 u92 u93 u94 u95 u96 u97 u98 u99 u100 u101 u102 u103 u104 u105 u106 u107 u108 u109 u110 u111 u112 u113 u114 u115 u116 u117 u118 u119 u120 u121 u122 u123 u124 u125 u126 u127 : Value) {K : Act → World → Prop} {Q : Exit → Act → World → Prop} (hK : ∀ (v4 v56 v57 v58 v59 v60 v61 v62 v63 v64 v65 v66 v67 v68 v69 v70 v71 v72 v73 v74 v75 v76 v77 v78 v79 v80 v81 v82 v83 v84 v85 v86 v87 v88 v89 v90 v91 v92 v93 v94 v95 v96 v97 v98 v99 v100 v101 v102 v103 : Value) (W2 : World), OnH w0 w W2 b gx R m → K ⟨#[.pointer (some ⟨b, 0, none⟩), u1, u2, .pointer (some ⟨gx, 0, none⟩), v4, u5, u6, u7, u8, u9, u10, u11, u12, u13, u14, u15, u16, u17, u18, u19, u20, u21, u22, u23, u24, u25, u26, u27, u28, u29, u30, u31, u32, u33, u34, u35, u36, u37, u38, u39, u40, u41, u42, u43, u44, u45, u46, u47, u48, u49, u50, u51, u52, u53, u54, .bool false, v56, v57, v58, v59, v60, v61, v62, v63, v64, v65, v66, v67, v68, v69, v70, v71, v72, v73, v74, v75, v76, v77, v78, v79, v80, v81, v82, v83, v84, v85, v86, v87, v88, v89, v90, v91, v92, v93, v94, v95, v96, v97, v98, v99, v100, v101, v102, v103, u104, u105, u106, u107, u108, u109, u110, u111, u112, u113, u114, u115, u116, u117, u118, u119, u120, u121, u122, u123, u124, u125, u126, u127], []⟩ W2) :
    Code.wp Try.prog onCode (Exit.then K Q) ⟨#[.pointer (some ⟨b, 0, none⟩), u1, u2, .pointer (some ⟨gx, 0, none⟩), u4, u5, u6, u7, u8, u9, u10, u11, u12, u13, u14, u15, u16, u17, u18, u19, u20, u21, u22, u23, u24, u25, u26, u27, u28, u29, u30, u31, u32, u33, u34, u35, u36, u37, u38, u39, u40, u41, u42, u43, u44, u45, u46, u47, u48, u49, u50, u51, u52, u53, u54, .bool false, u56, u57, u58, u59, u60, u61, u62, u63, u64, u65, u66, u67, u68, u69, u70, u71, u72, u73, u74, u75, u76, u77, u78, u79, u80, u81, u82, u83, u84, u85, u86, u87, u88, u89, u90, u91, u92, u93, u94, u95, u96, u97, u98, u99, u100, u101, u102, u103, u104, u105, u106, u107, u108, u109, u110, u111, u112, u113, u114, u115, u116, u117, u118, u119, u120, u121, u122, u123, u124, u125, u126, u127], []⟩ u := by
  have HK := hide hK
  clear hK
  obtain ⟨hr, hb, hgx, hm, hbx⟩ := h
  have HBOX := hide hb
  have HGX := hide hgx
  have HRD := hide hm
  obtain ⟨m0, m1, m2, m3, m4, m5⟩ := six_cells hb
  have lgx := (Array.getElem?_eq_some_iff.1 hb).1
  obtain ⟨v, hbo, ho⟩ := hr.row
  have lb := hr.lt
  have r0 : u.cell? ⟨b, 0, none⟩ = some (.int .i64 R.n) := (cell_of_list (o := 0) hbo).trans rfl
  have r4 : u.cell? ⟨b, 4, none⟩ = some (.int .i64 R.ph) := (cell_of_list (o := 4) hbo).trans rfl
  conv => arg 2; whnf
  obtain ⟨i, hi⟩ : ∃ i : Nat, m.f = (i : Int) := ⟨m.f.toNat, by omega⟩
  have hi7 : i < 7 := by omega
  rw [hi] at m1
  have hit : m.f.toNat = i := by omega
  have hi0 : (0 : Int) ≤ (i : Int) := by omega
  have hiI : (i : Int) < 7 := by omega
  have rc : u.cell? ⟨b, 5 + i, none⟩ = some (.bool (R.C i)) := (cell_of_list hbo).trans (rsL_C R 0 v hi7)
  have qm0 := fun s : Near u => s.cell m0 lgx
  have qm1 := fun s : Near u => s.cell m1 lgx
  have qrc := fun s : Near u => s.cell rc lb
  rw [hit] at hc
  rw [hc] at rc qrc
  have HR := hide hr
  have HBX : Hid (Sets (fun g => g = b) w u) := hide hbx
  have hk3 : (m.k == 3) = false := beq_eq_false_iff_ne.2 hk
  clear hr hb hgx hm hbx hbo ho m2 m3 m4 m5 r0 hi hit hc hk hf
  go_upto_region 6 with fail
  refine wp_region_near (by kernel_rfl) (by kernel_rfl) ?_
  repeat (go_big_quiet_step (fail))
  refine wpQuiet_nil ?_
  intro _ hw'
  obtain ⟨s1, rfl⟩ := hw'
  have HR := hide (HR.out.below s1.is)
  have HBX := hide (HBX.out.trans (Sets.of (S := fun _ => False) s1.is) (fun _ _ h => h.elim))
  have HSB := hide s1.is
  have LG := hide lgx
  have m0 := keep_cell s1.is m0 lgx
  have m1 := keep_cell s1.is m1 lgx
  have r4 := keep_cell s1.is r4 lb
  have lgx := Nat.lt_of_lt_of_le lgx s1.is.size
  obtain ⟨wv, hwv⟩ : ∃ wv, s1.at_ = wv := ⟨_, rfl⟩
  rw [hwv] at HR HBX HSB m0 m1 r4 lgx ⊢
  have HBOX := hide ((HSB.out.block gx LG.out).trans HBOX.out)
  clear hwv rc qm0 qm1 qrc lb
  have d1 : (R.ph == 1) = false := by simp [h2]
  have d2 : (R.ph != 2) = false := by simp [h2]
  have d9 : (m.k != 9) = false := by simp [h9]
  clear h2 h9
  go_wp2_with fail
  exact HK.out _ _ _ _ _ _ _ _ _ _ _ _ _ _ _ _ _ _ _ _ _ _ _ _ _ _ _ _ _ _ _ _ _ _ _ _ _ _ _ _ _ _ _ _ _ _ _ _ _ _ ⟨HR.out, HBOX.out, HGX.out, HRD.out, HBX.out⟩
set_option maxRecDepth 1000000 in
set_option maxHeartbeats 3200000 in
theorem on_sealed {w0 w u : World} {b gx : Nat} {R : Rs} {m : Mg} (h : OnH w0 w u b gx R m) (hk : ¬ m.k = 3) (hf : 0 ≤ m.f ∧ m.f < 7) (hc : R.C m.f.toNat = false) (h1 : R.ph = 1) (h7 : m.k = 7) (hL : R.L.length ≤ 274877906944) (hM : m.L.length ≤ 274877906944) (u1 u2 u4 u5 u6 u7 u8 u9 u10 u11 u12 u13 u14 u15 u16 u17 u18 u19 u20 u21 u22 u23 u24 u25 u26 u27 u28 u29 u30 u31 u32 u33 u34 u35 u36 u37 u38 u39 u40 u41 u42 u43 u44 u45 u46 u47 u48 u49 u50 u51 u52 u53 u54 u56 u57 u58 u59 u60 u61 u62 u63 u64 u65 u66 u67 u68 u69 u70 u71 u72 u73 u74 u75 u76 u77 u78 u79 u80 u81 u82 u83 u84 u85 u86 u87 u88 u89 u90 u91 u92 u93 u94 u95 u96 u97 u98 u99 u100 u101 u102 u103 u104 u105 u106 u107 u108 u109 u110 u111 u112 u113 u114 u115 u116 u117 u118 u119 u120 u121 u122 u123 u124 u125 u126 u127 : Value) {K : Act → World → Prop} {Q : Exit → Act → World → Prop} (hK : ∀ (v4 v56 v57 v58 v59 v60 v61 v62 v63 v64 v65 v66 v67 v68 v69 v70 v71 v72 v73 v74 v75 v76 v77 v78 v79 v80 v81 v82 v83 v84 v85 v86 v87 v88 v89 v90 v91 v92 v93 v94 v95 v96 v97 v98 v99 v100 v101 v102 v103 : Value) (W2 : World), OnH w0 w W2 b gx { R with L := joinL R.L m.L } m → K ⟨#[.pointer (some ⟨b, 0, none⟩), u1, u2, .pointer (some ⟨gx, 0, none⟩), v4, u5, u6, u7, u8, u9, u10, u11, u12, u13, u14, u15, u16, u17, u18, u19, u20, u21, u22, u23, u24, u25, u26, u27, u28, u29, u30, u31, u32, u33, u34, u35, u36, u37, u38, u39, u40, u41, u42, u43, u44, u45, u46, u47, u48, u49, u50, u51, u52, u53, u54, .bool false, v56, v57, v58, v59, v60, v61, v62, v63, v64, v65, v66, v67, v68, v69, v70, v71, v72, v73, v74, v75, v76, v77, v78, v79, v80, v81, v82, v83, v84, v85, v86, v87, v88, v89, v90, v91, v92, v93, v94, v95, v96, v97, v98, v99, v100, v101, v102, v103, u104, u105, u106, u107, u108, u109, u110, u111, u112, u113, u114, u115, u116, u117, u118, u119, u120, u121, u122, u123, u124, u125, u126, u127], []⟩ W2) :
    Code.wp Try.prog onCode (Exit.then K Q) ⟨#[.pointer (some ⟨b, 0, none⟩), u1, u2, .pointer (some ⟨gx, 0, none⟩), u4, u5, u6, u7, u8, u9, u10, u11, u12, u13, u14, u15, u16, u17, u18, u19, u20, u21, u22, u23, u24, u25, u26, u27, u28, u29, u30, u31, u32, u33, u34, u35, u36, u37, u38, u39, u40, u41, u42, u43, u44, u45, u46, u47, u48, u49, u50, u51, u52, u53, u54, .bool false, u56, u57, u58, u59, u60, u61, u62, u63, u64, u65, u66, u67, u68, u69, u70, u71, u72, u73, u74, u75, u76, u77, u78, u79, u80, u81, u82, u83, u84, u85, u86, u87, u88, u89, u90, u91, u92, u93, u94, u95, u96, u97, u98, u99, u100, u101, u102, u103, u104, u105, u106, u107, u108, u109, u110, u111, u112, u113, u114, u115, u116, u117, u118, u119, u120, u121, u122, u123, u124, u125, u126, u127], []⟩ u := by
  have HK := hide hK
  clear hK
  obtain ⟨hr, hb, hgx, hm, hbx⟩ := h
  have HBOX := hide hb
  have HGX := hide hgx
  have HRD := hide hm
  obtain ⟨m0, m1, m2, m3, m4, m5⟩ := six_cells hb
  have lgx := (Array.getElem?_eq_some_iff.1 hb).1
  obtain ⟨v, hbo, ho⟩ := hr.row
  have lb := hr.lt
  have r0 : u.cell? ⟨b, 0, none⟩ = some (.int .i64 R.n) := (cell_of_list (o := 0) hbo).trans rfl
  have r4 : u.cell? ⟨b, 4, none⟩ = some (.int .i64 R.ph) := (cell_of_list (o := 4) hbo).trans rfl
  conv => arg 2; whnf
  obtain ⟨i, hi⟩ : ∃ i : Nat, m.f = (i : Int) := ⟨m.f.toNat, by omega⟩
  have hi7 : i < 7 := by omega
  rw [hi] at m1
  have hit : m.f.toNat = i := by omega
  have hi0 : (0 : Int) ≤ (i : Int) := by omega
  have hiI : (i : Int) < 7 := by omega
  have rc : u.cell? ⟨b, 5 + i, none⟩ = some (.bool (R.C i)) := (cell_of_list hbo).trans (rsL_C R 0 v hi7)
  have qm0 := fun s : Near u => s.cell m0 lgx
  have qm1 := fun s : Near u => s.cell m1 lgx
  have qrc := fun s : Near u => s.cell rc lb
  rw [hit] at hc
  rw [hc] at rc qrc
  have HR := hide hr
  have HBX : Hid (Sets (fun g => g = b) w u) := hide hbx
  have hk3 : (m.k == 3) = false := beq_eq_false_iff_ne.2 hk
  clear hr hb hgx hm hbx hbo ho m2 m3 m4 m5 r0 hi hit hc hk hf
  go_upto_region 6 with fail
  refine wp_region_near (by kernel_rfl) (by kernel_rfl) ?_
  repeat (go_big_quiet_step (fail))
  refine wpQuiet_nil ?_
  intro _ hw'
  obtain ⟨s1, rfl⟩ := hw'
  have HR := hide (HR.out.below s1.is)
  have HBX := hide (HBX.out.trans (Sets.of (S := fun _ => False) s1.is) (fun _ _ h => h.elim))
  have HSB := hide s1.is
  have LG := hide lgx
  have m0 := keep_cell s1.is m0 lgx
  have m1 := keep_cell s1.is m1 lgx
  have r4 := keep_cell s1.is r4 lb
  have lgx := Nat.lt_of_lt_of_le lgx s1.is.size
  obtain ⟨wv, hwv⟩ : ∃ wv, s1.at_ = wv := ⟨_, rfl⟩
  rw [hwv] at HR HBX HSB m0 m1 r4 lgx ⊢
  have HBOX := hide ((HSB.out.block gx LG.out).trans HBOX.out)
  clear hwv rc qm0 qm1 qrc lb
  have d1 : (R.ph == 1) = true := by simp [h1]
  have d7 : (m.k == 7) = true := by simp [h7]
  clear h1 h7
  obtain ⟨vv, hbv, hov⟩ := HR.out.row
  obtain ⟨Av, cv, rfl, hsv, hs1, hs2⟩ := hov.sl
  have lbv := HR.out.lt
  have HBR := hide hbv
  have HOV := hide hov
  have k13 : wv.cell? ⟨b, 13, none⟩ = some (.slice Av R.L.length cv) := (cell_of_list (o := 13) hbv).trans rfl
  obtain ⟨_, _, _, _, _, m5⟩ := six_cells HBOX.out
  have HC : Hid (∀ W : World, Below wv.heap.size wv W → W.cell? ⟨b, 13, none⟩ = some (.slice Av R.L.length cv) ∧ W.cell? ⟨gx, 5, none⟩ = some (.slice m.A m.L.length m.c)) := hide (fun W hW => ⟨keep_cell hW k13 lbv, keep_cell hW m5 lgx⟩)
  have hmr := HRD.out.below HR.out.low
  have hsl := Sl.mk_ hsv hs1 hs2
  have HJ := hide (fun (W : World) (hW : Below wv.heap.size wv W) => pjoin_sl (hsl.below hW) ((Sl.mk_ hmr.1 hmr.2.1 hmr.2.2).below hW) hL hM)
  clear hbv hov hsv hs1 hs2 k13 m5 hmr hsl
  go_upto_region 9 with fail
  obtain ⟨ud, hud⟩ : ∃ ud, wv.drew = ud := ⟨_, rfl⟩
  have HUD : Hid (Below wv.heap.size wv ud) := hide (by rw [← hud]; exact (Below.refl _ _).drew)
  refine j_startD [10] hud (by kernel_rfl) ?_
  clear hud
  refine' j_take (i := 0) (v := _) [8, 9, 10] ?hi0 (by kernel_rfl) (by kernel_rfl) (by kernel_rfl) (by kernel_rfl) (by kernel_rfl) (Or.inl ⟨?hw0, ?hy0⟩) ?rest0
  case hi0 => (simp only [List.getElem?_toArray, List.getElem?_cons_succ, List.getElem?_cons_zero]; rfl)
  case hw0 => rfl
  case hy0 => (intro w' hw'; go_simp; try with_reducible rfl)
  try simp only [Act.put, List.setIfInBounds_toArray, List.set_cons_zero, List.set_cons_succ]
  refine' j_take (i := 1) (v := _) [2, 3, 4, 7, 8, 9, 10] ?hi1 (by kernel_rfl) (by kernel_rfl) (by kernel_rfl) (by kernel_rfl) (by kernel_rfl) (Or.inl ⟨?hw1, ?hy1⟩) ?rest1
  case hi1 => (simp only [List.getElem?_toArray, List.getElem?_cons_succ, List.getElem?_cons_zero]; rfl)
  case hw1 => rfl
  case hy1 => (intro w' hw'; go_simp; try with_reducible rfl)
  try simp only [Act.put, List.setIfInBounds_toArray, List.set_cons_zero, List.set_cons_succ]
  refine' j_take (i := 2) (v := _) [3, 4, 7, 8, 9, 10] ?hi2 (by kernel_rfl) (by kernel_rfl) (by kernel_rfl) (by kernel_rfl) (by kernel_rfl) (Or.inl ⟨?hw2, ?hy2⟩) ?rest2
  case hi2 => (simp only [List.getElem?_toArray, List.getElem?_cons_succ, List.getElem?_cons_zero]; rfl)
  case hw2 => rfl
  case hy2 => (intro w' hw'; go_simp; try with_reducible rfl)
  try simp only [Act.put, List.setIfInBounds_toArray, List.set_cons_zero, List.set_cons_succ]
  refine' j_take (i := 3) (v := _) [4, 7, 8, 9, 10] ?hi3 (by kernel_rfl) (by kernel_rfl) (by kernel_rfl) (by kernel_rfl) (by kernel_rfl) (Or.inl ⟨?hw3, ?hy3⟩) ?rest3
  case hi3 => (simp only [List.getElem?_toArray, List.getElem?_cons_succ, List.getElem?_cons_zero]; rfl)
  case hw3 => rfl
  case hy3 => (intro w' hw'; go_simp; try with_reducible rfl)
  try simp only [Act.put, List.setIfInBounds_toArray, List.set_cons_zero, List.set_cons_succ]
  refine' j_take (i := 4) (v := _) [7, 8, 9, 10] ?hi4 (by kernel_rfl) (by kernel_rfl) (by kernel_rfl) (by kernel_rfl) (by kernel_rfl) (Or.inl ⟨?hw4, ?hy4⟩) ?rest4
  case hi4 => (simp only [List.getElem?_toArray, List.getElem?_cons_succ, List.getElem?_cons_zero]; rfl)
  case hw4 => rfl
  case hy4 => (intro w' hw'; obtain ⟨j13, j5⟩ := HC.out _ (below_step HUD.out hw'); go_simp; try with_reducible rfl)
  try simp only [Act.put, List.setIfInBounds_toArray, List.set_cons_zero, List.set_cons_succ]
  refine' j_take (i := 5) (v := _) [6, 7, 8, 9, 10] ?hi5 (by kernel_rfl) (by kernel_rfl) (by kernel_rfl) (by kernel_rfl) (by kernel_rfl) (Or.inl ⟨?hw5, ?hy5⟩) ?rest5
  case hi5 => (simp only [List.getElem?_toArray, List.getElem?_cons_succ, List.getElem?_cons_zero]; rfl)
  case hw5 => rfl
  case hy5 => (intro w' hw'; go_simp; try with_reducible rfl)
  try simp only [Act.put, List.setIfInBounds_toArray, List.set_cons_zero, List.set_cons_succ]
  refine' j_take (i := 6) (v := _) [7, 8, 9, 10] ?hi6 (by kernel_rfl) (by kernel_rfl) (by kernel_rfl) (by kernel_rfl) (by kernel_rfl) (Or.inl ⟨?hw6, ?hy6⟩) ?rest6
  case hi6 => (simp only [List.getElem?_toArray, List.getElem?_cons_succ, List.getElem?_cons_zero]; rfl)
  case hw6 => rfl
  case hy6 => (intro w' hw'; obtain ⟨j13, j5⟩ := HC.out _ (below_step HUD.out hw'); go_simp; try with_reducible rfl)
  try simp only [Act.put, List.setIfInBounds_toArray, List.set_cons_zero, List.set_cons_succ]
  refine' wpAnyJ_step (i := 7) (o := _) (by kernel_rfl) ?ho7 (fun K hK => ?step7)
  case ho7 => (simp only [List.getElem?_toArray, List.getElem?_cons_succ, List.getElem?_cons_zero]; rfl)
  go_simp
  refine (Calls.mono (HJ.out _ HUD.out) ?_); rintro e u1 ⟨vj, rfl, hoj, gg⟩
  obtain ⟨Aj, cj, rfl, _, _, _⟩ := hoj.sl
  have HOJ := hide hoj
  have HGG := hide gg
  have kb := (gg.block b (Nat.lt_of_lt_of_le lbv HUD.out.size)).trans ((HUD.out.block b lbv).trans HBR.out)
  have k13 := (cell_of_list (o := 13) kb).trans rfl
  have z13 : u1.frozen? ⟨b, 13, none⟩ = false := (by simp [World.frozen?, kb])
  have KB := hide kb
  clear hoj kb
  refine hK.out _ _ gg (j_switch gg ?_)
  clear hK K gg
  try simp only [Act.put, List.setIfInBounds_toArray, List.set_cons_zero, List.set_cons_succ]
  refine' j_take (i := 8) (v := _) [9, 10] ?hi8 (by kernel_rfl) (by kernel_rfl) (by kernel_rfl) (by kernel_rfl) (by kernel_rfl) (Or.inl ⟨?hw8, ?hy8⟩) ?rest8
  case hi8 => (simp only [List.getElem?_toArray, List.getElem?_cons_succ, List.getElem?_cons_zero]; rfl)
  case hw8 => rfl
  case hy8 => (intro w' hw'; go_simp; try with_reducible rfl)
  try simp only [Act.put, List.setIfInBounds_toArray, List.set_cons_zero, List.set_cons_succ]
  refine' j_take (i := 9) (v := _) [10] ?hi9 (by kernel_rfl) (by kernel_rfl) (by kernel_rfl) (by kernel_rfl) (by kernel_rfl) (Or.inl ⟨?hw9, ?hy9⟩) ?rest9
  case hi9 => (simp only [List.getElem?_toArray, List.getElem?_cons_succ, List.getElem?_cons_zero]; rfl)
  case hw9 => rfl
  case hy9 => (intro w' hw'; go_simp; try with_reducible rfl)
  try simp only [Act.put, List.setIfInBounds_toArray, List.set_cons_zero, List.set_cons_succ]
  refine' wpAnyJ_last (i := 10) (o := _) (by kernel_rfl) ?ho10 (by kernel_rfl) (fun K hK => ?step10)
  case ho10 => (simp only [List.getElem?_toArray, List.getElem?_cons_succ, List.getElem?_cons_zero]; rfl)
  have k13 : u1.cell? ⟨b, 13, none⟩ = some (.slice Av R.L.length cv) := k13
  go_simp
  refine hK.out _ _ ?_
  clear hK K k13 z13
  try simp only [Act.put, List.setIfInBounds_toArray, List.set_cons_zero, List.set_cons_succ]
  refine wpAnyJ_done (by kernel_rfl) ?_ _
  refine NoPanic.normal ?_
  have hs5 : Sets (fun g => g = b) u1 (u1.setCell ⟨b, 13, none⟩ (.slice Aj (joinL R.L m.L).length cj)) := (Sets.refl (S := fun g => g = b) u1).set (g := b) (fun _ => rfl) 13 _
  have hb5 := set_of_list (o := 13) KB.out (.slice Aj (joinL R.L m.L).length cj)
  have hlow1 := below_step HUD.out HGG.out
  have hgxb := HGX.out
  have hsz := HBX.out.size
  have HF : Hid (OnH w0 w (u1.setCell ⟨b, 13, none⟩ (.slice Aj (joinL R.L m.L).length cj)) b gx { R with L := joinL R.L m.L } m) := hide
    ⟨⟨⟨_, hb5, (HOJ.out.base_ (by have := HUD.out.size; omega)).sets_ hs5 (fun g hg e => by omega)⟩, Sets.below (below_step HR.out.low hlow1) hs5 (fun g e => by rw [e]; exact HR.out.old) (below_step HR.out.low hlow1).size, HR.out.old⟩,
      (hs5.block gx (Nat.lt_of_lt_of_le lgx hlow1.size) (by omega)).trans ((hlow1.block gx lgx).trans HBOX.out), HGX.out, HRD.out, (HBX.out.trans (Sets.of (S := fun _ => False) hlow1) (fun _ _ h => h.elim)).trans hs5 (fun _ _ h => h)⟩
  clear hs5 hb5 hlow1 hgxb hsz
  go_wp2_with fail
  exact HK.out _ _ _ _ _ _ _ _ _ _ _ _ _ _ _ _ _ _ _ _ _ _ _ _ _ _ _ _ _ _ _ _ _ _ _ _ _ _ _ _ _ _ _ _ _ _ _ _ _ _ HF.out
end Go.Proofs.Ytikecafblampeaa
