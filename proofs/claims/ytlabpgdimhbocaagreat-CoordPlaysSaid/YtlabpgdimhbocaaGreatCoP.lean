/- coord.Call: On behind its test: the arms. Conditions: COnH. -/
import Derived.Test.YtlabpgdimhbocaaGreatCoT
namespace Go.Proofs.YtlabpgdimhbocaaGreat
set_option linter.unusedVariables false
set_option linter.unusedSimpArgs false
open Go.ChangeShapes Go.WideShapes Go.ChangeAt Go.RowKit
/-- The block of that number. -/
def findBlock (n : Nat) : Code → Option Code
  | .block m c => bif m == n then some (.block m c) else findBlock n c
  | .seq a b => match findBlock n a with
    | some c => some c
    | none => findBlock n b
  | .cond _ a b => match findBlock n a with
    | some c => some c
    | none => findBlock n b
  | .loop c => findBlock n c
  | .scope c => findBlock n c
  | _ => none
/-- The statements from that region on. -/
def findFrom (n : Nat) : Code → Option Code
  | .block _ c => findFrom n c
  | .seq (.region m o d) b => bif m == n then some (.seq (.region m o d) b) else findFrom n b
  | .seq a b => match findFrom n a with
    | some c => some c
    | none => findFrom n b
  | .cond _ a b => match findFrom n a with
    | some c => some c
    | none => findFrom n b
  | .loop c => findFrom n c
  | .scope c => findFrom n c
  | _ => none
/-- The switch, and what stands behind it. -/
noncomputable def conCode : Code := (Tryz.f14.body.bind (findBlock 0)).getD .skip
noncomputable def conTail : Code := (Tryz.f14.body.bind (findFrom 11)).getD .skip
theorem app_got (u : World) (base : Nat) (v : Value) (L : List Gt) (hown : OwnL Gt.cells 2 75 base u v L) (A : Option Addr) (c : Nat) (M : List Gt) (hr : RowAt Gt.cells 2 u A M) (hA : A = none → M = []) (hn : L.length + M.length ≤ 1000000) (hbase : base ≤ u.heap.size) :
    ∃ v' w', (Builtin.append_ #[54, 54] 54 #[v, .slice A M.length c]).run Tryz.prog u = .ok v' w' ∧ OwnL Gt.cells 2 75 base w' v' (L ++ M) ∧ u.grownBy w' v.ownBlock ∧ (v'.ownBlock = v.ownBlock ∨ v'.ownBlock = some u.heap.size) := by
  obtain ⟨i0, hi, hz0, hz1, hz2⟩ := info_parts Tryz.infoGot
  exact run_append_row (P := Tryz.prog) u base 54 54 75 i0 _ 2 32 Tryz.underlying54 hi hz0 hz1 hz2 rfl (by omega) Gt.cells_len v L hown A c M hr hA (fun m _ => Gt.cells_one m) (by simp only [maxLen]; omega) (by omega) hbase
theorem step_app_got {ops : Array Oper} {o : Oper} {a : Act} {u : World} {K : Act → World → Prop} {Q : Exit → Act → World → Prop} {E : Prop} (hgd : o.guard = none) (s x : Operand)
    (ho : o.op = .call { callee := .builtin .append, args := #[s, x], argTypes := #[54, 54] }) (hty : o.type = 54)
    (base : Nat) (v : Value) (L : List Gt) (hs : a.eval s = v) (hown : OwnL Gt.cells 2 75 base u v L) (A : Option Addr) (c n : Nat) (M : List Gt) (hM : M.length = n) (hx : a.eval x = .slice A n c) (hr : RowAt Gt.cells 2 u A M) (hn : L.length + n ≤ 1000000) (hbase : base ≤ u.heap.size)
    (h : ∀ v' w', OwnL Gt.cells 2 75 base w' v' (L ++ M) → u.grownBy w' v.ownBlock → (v'.ownBlock = v.ownBlock ∨ v'.ownBlock = some u.heap.size) → K (a.put o.dst v') w') : if Region.wanted o (yielded ops a.tmps) = true then Oper.wp Tryz.prog o a u K Q else E := by
  subst hM
  have hw : Region.wanted o (yielded ops a.tmps) = true := by simp [Region.wanted, hgd]
  rw [if_pos hw]
  obtain ⟨v', w', hrun, h2, h3, h4⟩ := app_got u base v L hown A c M hr (fun e => by
    subst e
    cases M with
    | nil => rfl
    | cons a M => obtain ⟨b, off, e, _⟩ := hr (by simp); cases e) hn hbase
  unfold Oper.wp execOp
  simp only [ho, hty, resolve, invoke, builtin, Sem.run_bind, Sem.run_pure, Result.andThen_ok, List.map_toArray, List.map_cons, List.map_nil, hs, hx, hrun]
  exact h v' w' h2 h3 h4
theorem field_msg (a0 a1 a2 a3 a4 a5 : Value) (w : World) : (Instr.field 39 (.agg #[a0, a1, a2, a3, a4, a5]) 5).run Tryz.prog w = .ok a5 w := by kernel_rfl
/-- What On leaves. -/
def COnP (w0 w : World) (b : Nat) (X : Nat → Prop) (R : Co) (B : Bool) (e : Ending) (w' : World) : Prop := e = .returned (.bool B) ∧ CoO w0 w' b (Xn X w w') R ∧ Sets X w w'
/-- What stands ahead of the switch, and behind it. -/
structure COnH (w0 w u : World) (b gx : Nat) (X Y : Nat → Prop) (R : Co) (m : Mg) : Prop where
  co : CoO w0 u b Y R
  box : u.heap[gx]? = some (.cells #[.int .i64 m.k, .int .i64 m.f, .int .i64 m.t, .int .u64 m.id, .int .u64 m.n, .slice m.A m.L.length m.c] 39 (0, 0))
  gxl : w.heap.size ≤ gx
  rd : m.rd w0
  low : Sets X w u
  y : ∀ g, Y g → Xn X w u g
  xo : ∀ g, X g → w0.heap.size ≤ g ∧ g < w.heap.size
  yo : ∀ g, Y g → g ≠ gx
  w0l : w0.heap.size ≤ w.heap.size
theorem COnH.done {w0 w u w' : World} {b gx : Nat} {X Y : Nat → Prop} {R R' : Co} {m : Mg} (h : COnH w0 w u b gx X Y R m) (k : CoO w0 w' b (Xn Y u w') R') (hs : Sets Y u w') : CoO w0 w' b (Xn X w w') R' ∧ Sets X w w' := by
  refine ⟨k.more (fun g hg => ?_) (fun g hg => ?_), h.low.trans hs (fun g hg hy => ?_)⟩
  · rcases hg with hg | hg
    · rcases h.y g hg with h1 | h1
      · exact .inl h1
      · exact .inr ⟨h1.1, Nat.lt_of_lt_of_le h1.2 hs.size⟩
    · exact .inr ⟨Nat.le_trans h.low.size hg.1, hg.2⟩
  · rcases hg with hg | hg
    · have := h.xo g hg
      exact ⟨this.1, Nat.lt_of_lt_of_le (Nat.lt_of_lt_of_le this.2 h.low.size) hs.size⟩
    · exact ⟨Nat.le_trans h.w0l hg.1, hg.2⟩
  · rcases h.y g hy with h1 | h1
    · exact h1
    · omega
/-- Behind the switch. -/
def COnT (w0 w u : World) (b gx : Nat) (X : Nat → Prop) (R : Co) (m : Mg) : Prop := ∃ Y, COnH w0 w u b gx X Y R m
theorem COnH.same {w0 w u u' : World} {b gx : Nat} {X Y : Nat → Prop} {R : Co} {m : Mg} (h : COnH w0 w u b gx X Y R m) (hb : Below u.heap.size u u') : COnH w0 w u' b gx X Y R m :=
  ⟨h.co.below hb, (hb.block gx (Array.getElem?_eq_some_iff.1 h.box).1).trans h.box, h.gxl, h.rd, h.low.trans (Sets.of (S := fun _ => False) hb) (fun _ _ h => h.elim), fun g hg => by
    rcases h.y g hg with h1 | h1
    · exact .inl h1
    · exact .inr ⟨h1.1, Nat.lt_of_lt_of_le h1.2 hb.size⟩, h.xo, h.yo, h.w0l⟩
set_option maxRecDepth 1000000 in
set_option maxHeartbeats 3200000 in
theorem con_old {w0 w u : World} {b gx : Nat} {X Y : Nat → Prop} {R : Co} {m : Mg} (h : COnH w0 w u b gx X Y R m) (hg : ¬ R.ck = 3) (hk : m.k = 3) (hd : R.d = 0) (u1 u2 u6 u7 u8 u9 u10 u11 u12 u13 u14 u15 u16 u17 u18 u19 u20 u21 u22 u23 u24 u25 u26 u27 u28 u29 u30 u31 u32 u33 u34 u35 u36 u37 u38 u39 u40 u41 u42 u43 u44 u45 u46 u47 u48 u49 u51 u52 u53 u54 u55 u56 u57 u58 u59 u60 u61 u62 u63 u64 u65 u66 u67 u68 u69 u70 u71 u72 u73 u74 u75 u76 u77 u78 u79 u80 u81 u82 u83 u84 u85 u86 u87 u88 u89 u90 u91 u92 u93 u94 u95 u96 u97 u98 u99 u100 u101 u102 u103 u104 u105 u106 u107 u108 u109 u110 u111 u112 u113 u114 u115 u116 u117 u118 u119 u120 u121 u122 u123 u124 u125 u126 : Value) {K : Act → World → Prop} :
    Code.wp Tryz.prog conCode (Exit.then K (bodyPost Tryz.prog Tryz.f14 (COnP w0 w b X (end1C R 21 m.n []) true))) ⟨#[.pointer (some ⟨b, 0, none⟩), u1, u2, .pointer (some ⟨gx, 0, none⟩), .bool false, .bool false, u6, u7, u8, u9, u10, u11, u12, u13, u14, u15, u16, u17, u18, u19, u20, u21, u22, u23, u24, u25, u26, u27, u28, u29, u30, u31, u32, u33, u34, u35, u36, u37, u38, u39, u40, u41, u42, u43, u44, u45, u46, u47, u48, u49, .bool false, u51, u52, u53, u54, u55, u56, u57, u58, u59, u60, u61, u62, u63, u64, u65, u66, u67, u68, u69, u70, u71, u72, u73, u74, u75, u76, u77, u78, u79, u80, u81, u82, u83, u84, u85, u86, u87, u88, u89, u90, u91, u92, u93, u94, u95, u96, u97, u98, u99, u100, u101, u102, u103, u104, u105, u106, u107, u108, u109, u110, u111, u112, u113, u114, u115, u116, u117, u118, u119, u120, u121, u122, u123, u124, u125, u126], []⟩ u := by
  obtain ⟨m0, m1, m2, m3, m4, m5⟩ := six_cells h.box
  have lgx := (Array.getElem?_eq_some_iff.1 h.box).1
  have lb := h.co.lt
  conv => arg 2; whnf
  have HE := hide (cend_any (LI := []) h.co hd 21 m.n (fun e => by omega))
  have HH := hide h
  have HXB : Hid (Y b) := hide h.co.xb
  rw [hk] at m0
  clear h m1 m2 m3 m5 hk hd hg
  go_wp2_with fail
  refine (Calls.mono HE.out ?_); rintro e w1 ⟨rfl, h1, h2⟩
  have hd := HH.out.done h1 ((⟨h2.os, h2.tape, h2.output, h2.size, fun g hg hn => h2.block g hg (fun e => hn (by rw [e]; exact HXB.out))⟩ : Sets Y u w1))
  have H1 := hide hd.1
  have H2 := hide hd.2
  clear h1 h2 HE hd
  go_wp2_with fail
  go_ret
  exact ⟨rfl, H1.out, H2.out⟩
set_option maxRecDepth 1000000 in
set_option maxHeartbeats 3200000 in
theorem con_none_get {w0 w u : World} {b gx : Nat} {X Y : Nat → Prop} {R : Co} {m : Mg} (h : COnH w0 w u b gx X Y R m) (hk : ¬ m.k = 5) (u1 u2 u6 u7 u8 u9 u10 u11 u12 u13 u14 u15 u16 u17 u18 u19 u20 u21 u22 u23 u24 u25 u26 u27 u28 u29 u30 u31 u32 u33 u34 u35 u36 u37 u38 u39 u40 u41 u42 u43 u44 u45 u46 u47 u48 u49 u51 u52 u53 u54 u55 u56 u57 u58 u59 u60 u61 u62 u63 u64 u65 u66 u67 u68 u69 u70 u71 u72 u73 u74 u75 u76 u77 u78 u79 u80 u81 u82 u83 u84 u85 u86 u87 u88 u89 u90 u91 u92 u93 u94 u95 u96 u97 u98 u99 u100 u101 u102 u103 u104 u105 u106 u107 u108 u109 u110 u111 u112 u113 u114 u115 u116 u117 u118 u119 u120 u121 u122 u123 u124 u125 u126 : Value) {K : Act → World → Prop} :
    Code.wp Tryz.prog conCode (Exit.then K (bodyPost Tryz.prog Tryz.f14 (COnP w0 w b X (R) false))) ⟨#[.pointer (some ⟨b, 0, none⟩), u1, u2, .pointer (some ⟨gx, 0, none⟩), .bool false, .bool true, u6, u7, u8, u9, u10, u11, u12, u13, u14, u15, u16, u17, u18, u19, u20, u21, u22, u23, u24, u25, u26, u27, u28, u29, u30, u31, u32, u33, u34, u35, u36, u37, u38, u39, u40, u41, u42, u43, u44, u45, u46, u47, u48, u49, .bool false, u51, u52, u53, u54, u55, u56, u57, u58, u59, u60, u61, u62, u63, u64, u65, u66, u67, u68, u69, u70, u71, u72, u73, u74, u75, u76, u77, u78, u79, u80, u81, u82, u83, u84, u85, u86, u87, u88, u89, u90, u91, u92, u93, u94, u95, u96, u97, u98, u99, u100, u101, u102, u103, u104, u105, u106, u107, u108, u109, u110, u111, u112, u113, u114, u115, u116, u117, u118, u119, u120, u121, u122, u123, u124, u125, u126], []⟩ u := by
  obtain ⟨m0, m1, m2, m3, m4, m5⟩ := six_cells h.box
  have lgx := (Array.getElem?_eq_some_iff.1 h.box).1
  have lb := h.co.lt
  conv => arg 2; whnf
  have HH := hide h
  have h5 : (m.k == 5) = false := beq_eq_false_iff_ne.2 hk
  clear h m1 m2 m3 m5 hk
  go_wp2_with fail
  go_ret
  exact ⟨rfl, (HH.out.done (HH.out.co.wide (Below.refl _ _)) (Sets.refl _)).1, (HH.out.done (HH.out.co.wide (Below.refl _ _)) (Sets.refl _)).2⟩
set_option maxRecDepth 1000000 in
set_option maxHeartbeats 3200000 in
theorem con_none_put {w0 w u : World} {b gx : Nat} {X Y : Nat → Prop} {R : Co} {m : Mg} (h : COnH w0 w u b gx X Y R m) (hk : ¬ m.k = 3) (hk2 : ¬ m.k = 2) (u1 u2 u6 u7 u8 u9 u10 u11 u12 u13 u14 u15 u16 u17 u18 u19 u20 u21 u22 u23 u24 u25 u26 u27 u28 u29 u30 u31 u32 u33 u34 u35 u36 u37 u38 u39 u40 u41 u42 u43 u44 u45 u46 u47 u48 u49 u51 u52 u53 u54 u55 u56 u57 u58 u59 u60 u61 u62 u63 u64 u65 u66 u67 u68 u69 u70 u71 u72 u73 u74 u75 u76 u77 u78 u79 u80 u81 u82 u83 u84 u85 u86 u87 u88 u89 u90 u91 u92 u93 u94 u95 u96 u97 u98 u99 u100 u101 u102 u103 u104 u105 u106 u107 u108 u109 u110 u111 u112 u113 u114 u115 u116 u117 u118 u119 u120 u121 u122 u123 u124 u125 u126 : Value) {K : Act → World → Prop} :
    Code.wp Tryz.prog conCode (Exit.then K (bodyPost Tryz.prog Tryz.f14 (COnP w0 w b X (R) false))) ⟨#[.pointer (some ⟨b, 0, none⟩), u1, u2, .pointer (some ⟨gx, 0, none⟩), .bool false, .bool false, u6, u7, u8, u9, u10, u11, u12, u13, u14, u15, u16, u17, u18, u19, u20, u21, u22, u23, u24, u25, u26, u27, u28, u29, u30, u31, u32, u33, u34, u35, u36, u37, u38, u39, u40, u41, u42, u43, u44, u45, u46, u47, u48, u49, .bool false, u51, u52, u53, u54, u55, u56, u57, u58, u59, u60, u61, u62, u63, u64, u65, u66, u67, u68, u69, u70, u71, u72, u73, u74, u75, u76, u77, u78, u79, u80, u81, u82, u83, u84, u85, u86, u87, u88, u89, u90, u91, u92, u93, u94, u95, u96, u97, u98, u99, u100, u101, u102, u103, u104, u105, u106, u107, u108, u109, u110, u111, u112, u113, u114, u115, u116, u117, u118, u119, u120, u121, u122, u123, u124, u125, u126], []⟩ u := by
  obtain ⟨m0, m1, m2, m3, m4, m5⟩ := six_cells h.box
  have lgx := (Array.getElem?_eq_some_iff.1 h.box).1
  have lb := h.co.lt
  conv => arg 2; whnf
  have HH := hide h
  have h3 : (m.k == 3) = false := beq_eq_false_iff_ne.2 hk
  have h2 : (m.k != 2) = true := by simpa using hk2
  clear h m1 m2 m3 m5 hk hk2
  go_wp2_with fail
  go_ret
  exact ⟨rfl, (HH.out.done (HH.out.co.wide (Below.refl _ _)) (Sets.refl _)).1, (HH.out.done (HH.out.co.wide (Below.refl _ _)) (Sets.refl _)).2⟩
set_option maxRecDepth 1000000 in
set_option maxHeartbeats 3200000 in
theorem con_done {w0 w u : World} {b gx : Nat} {X Y : Nat → Prop} {R : Co} {m : Mg} (h : COnH w0 w u b gx X Y R m) (hk : m.k = 2) (u1 u2 u6 u7 u8 u9 u10 u11 u12 u13 u14 u15 u16 u17 u18 u19 u20 u21 u22 u23 u24 u25 u26 u27 u28 u29 u30 u31 u32 u33 u34 u35 u36 u37 u38 u39 u40 u41 u42 u43 u44 u45 u46 u47 u48 u49 u51 u52 u53 u54 u55 u56 u57 u58 u59 u60 u61 u62 u63 u64 u65 u66 u67 u68 u69 u70 u71 u72 u73 u74 u75 u76 u77 u78 u79 u80 u81 u82 u83 u84 u85 u86 u87 u88 u89 u90 u91 u92 u93 u94 u95 u96 u97 u98 u99 u100 u101 u102 u103 u104 u105 u106 u107 u108 u109 u110 u111 u112 u113 u114 u115 u116 u117 u118 u119 u120 u121 u122 u123 u124 u125 u126 : Value) {K : Act → World → Prop} {Q : Exit → Act → World → Prop} (hK : ∀ (v57 v58 v59 v60 v61 v62 v63 v64 v65 v66 v67 v68 v69 v70 v71 v72 v73 v74 v75 v76 v77 v78 v79 v80 v81 v82 v83 v84 v85 v86 v87 v88 v89 v90 v91 v92 v93 v94 v95 v96 v97 : Value) (W2 : World), COnT w0 w W2 b gx X R m → K ⟨#[.pointer (some ⟨b, 0, none⟩), u1, u2, .pointer (some ⟨gx, 0, none⟩), .bool false, .bool false, u6, u7, u8, u9, u10, u11, u12, u13, u14, u15, u16, u17, u18, u19, u20, u21, u22, u23, u24, u25, u26, u27, u28, u29, u30, u31, u32, u33, u34, u35, u36, u37, u38, u39, u40, u41, u42, u43, u44, u45, u46, u47, u48, u49, .bool false, u51, u52, u53, u54, u55, u56, v57, v58, v59, v60, v61, v62, v63, v64, v65, v66, v67, v68, v69, v70, v71, v72, v73, v74, v75, v76, v77, v78, v79, v80, v81, v82, v83, v84, v85, v86, v87, v88, v89, v90, v91, v92, v93, v94, v95, v96, v97, u98, u99, u100, u101, u102, u103, u104, u105, u106, u107, u108, u109, u110, u111, u112, u113, u114, u115, u116, u117, u118, u119, u120, u121, u122, u123, u124, u125, u126], []⟩ W2) :
    Code.wp Tryz.prog conCode (Exit.then K Q) ⟨#[.pointer (some ⟨b, 0, none⟩), u1, u2, .pointer (some ⟨gx, 0, none⟩), .bool false, .bool false, u6, u7, u8, u9, u10, u11, u12, u13, u14, u15, u16, u17, u18, u19, u20, u21, u22, u23, u24, u25, u26, u27, u28, u29, u30, u31, u32, u33, u34, u35, u36, u37, u38, u39, u40, u41, u42, u43, u44, u45, u46, u47, u48, u49, .bool false, u51, u52, u53, u54, u55, u56, u57, u58, u59, u60, u61, u62, u63, u64, u65, u66, u67, u68, u69, u70, u71, u72, u73, u74, u75, u76, u77, u78, u79, u80, u81, u82, u83, u84, u85, u86, u87, u88, u89, u90, u91, u92, u93, u94, u95, u96, u97, u98, u99, u100, u101, u102, u103, u104, u105, u106, u107, u108, u109, u110, u111, u112, u113, u114, u115, u116, u117, u118, u119, u120, u121, u122, u123, u124, u125, u126], []⟩ u := by
  have HK := hide hK
  clear hK
  obtain ⟨m0, m1, m2, m3, m4, m5⟩ := six_cells h.box
  have lgx := (Array.getElem?_eq_some_iff.1 h.box).1
  have lb := h.co.lt
  conv => arg 2; whnf
  have HH := hide h
  rw [hk] at m0
  clear h m1 m2 m3 m5 hk
  go_wp2_with fail
  exact HK.out _ _ _ _ _ _ _ _ _ _ _ _ _ _ _ _ _ _ _ _ _ _ _ _ _ _ _ _ _ _ _ _ _ _ _ _ _ _ _ _ _ _ ⟨_, HH.out⟩
set_option maxRecDepth 1000000 in
set_option maxHeartbeats 3200000 in
theorem con_got {w0 w u : World} {b gx : Nat} {X Y : Nat → Prop} {R : Co} {m : Mg} (h : COnH w0 w u b gx X Y R m) (hk : m.k = 5) (hG : R.G.length ≤ 1000) (hM : m.L.length ≤ 1099511627776) (u1 u2 u6 u7 u8 u9 u10 u11 u12 u13 u14 u15 u16 u17 u18 u19 u20 u21 u22 u23 u24 u25 u26 u27 u28 u29 u30 u31 u32 u33 u34 u35 u36 u37 u38 u39 u40 u41 u42 u43 u44 u45 u46 u47 u48 u49 u51 u52 u53 u54 u55 u56 u57 u58 u59 u60 u61 u62 u63 u64 u65 u66 u67 u68 u69 u70 u71 u72 u73 u74 u75 u76 u77 u78 u79 u80 u81 u82 u83 u84 u85 u86 u87 u88 u89 u90 u91 u92 u93 u94 u95 u96 u97 u98 u99 u100 u101 u102 u103 u104 u105 u106 u107 u108 u109 u110 u111 u112 u113 u114 u115 u116 u117 u118 u119 u120 u121 u122 u123 u124 u125 u126 : Value) {K : Act → World → Prop} {Q : Exit → Act → World → Prop} (hK : ∀ (v57 v58 v59 v60 v61 v62 v63 v64 v65 v66 v67 v68 v69 v70 v71 v72 v73 v74 v75 v76 v77 v78 v79 v80 v81 v82 v83 v84 v85 v86 v87 v88 v89 v90 v91 v92 v93 v94 v95 v96 v97 : Value) (W2 : World), COnT w0 w W2 b gx X { R with G := R.G ++ [⟨m.n, none, 0, m.L⟩] } m → K ⟨#[.pointer (some ⟨b, 0, none⟩), u1, u2, .pointer (some ⟨gx, 0, none⟩), .bool false, .bool true, u6, u7, u8, u9, u10, u11, u12, u13, u14, u15, u16, u17, u18, u19, u20, u21, u22, u23, u24, u25, u26, u27, u28, u29, u30, u31, u32, u33, u34, u35, u36, u37, u38, u39, u40, u41, u42, u43, u44, u45, u46, u47, u48, u49, .bool false, u51, u52, u53, u54, u55, u56, v57, v58, v59, v60, v61, v62, v63, v64, v65, v66, v67, v68, v69, v70, v71, v72, v73, v74, v75, v76, v77, v78, v79, v80, v81, v82, v83, v84, v85, v86, v87, v88, v89, v90, v91, v92, v93, v94, v95, v96, v97, u98, u99, u100, u101, u102, u103, u104, u105, u106, u107, u108, u109, u110, u111, u112, u113, u114, u115, u116, u117, u118, u119, u120, u121, u122, u123, u124, u125, u126], []⟩ W2) :
    Code.wp Tryz.prog conCode (Exit.then K Q) ⟨#[.pointer (some ⟨b, 0, none⟩), u1, u2, .pointer (some ⟨gx, 0, none⟩), .bool false, .bool true, u6, u7, u8, u9, u10, u11, u12, u13, u14, u15, u16, u17, u18, u19, u20, u21, u22, u23, u24, u25, u26, u27, u28, u29, u30, u31, u32, u33, u34, u35, u36, u37, u38, u39, u40, u41, u42, u43, u44, u45, u46, u47, u48, u49, .bool false, u51, u52, u53, u54, u55, u56, u57, u58, u59, u60, u61, u62, u63, u64, u65, u66, u67, u68, u69, u70, u71, u72, u73, u74, u75, u76, u77, u78, u79, u80, u81, u82, u83, u84, u85, u86, u87, u88, u89, u90, u91, u92, u93, u94, u95, u96, u97, u98, u99, u100, u101, u102, u103, u104, u105, u106, u107, u108, u109, u110, u111, u112, u113, u114, u115, u116, u117, u118, u119, u120, u121, u122, u123, u124, u125, u126], []⟩ u := by
  have HK := hide hK
  clear hK
  obtain ⟨m0, m1, m2, m3, m4, m5⟩ := six_cells h.box
  have lgx := (Array.getElem?_eq_some_iff.1 h.box).1
  have lb := h.co.lt
  conv => arg 2; whnf
  have HH := hide h
  rw [hk] at m0
  obtain ⟨vg, va, hbr, hcg, hca⟩ := h.co.row
  obtain ⟨N, hN, how, hrd, hfar⟩ := hcg.row
  have hNl : N.length ≤ 1000 := by
    have h1 := congrArg List.length hN
    rw [List.length_map] at h1
    omega
  have HVB : Hid (vg.ownBlock ≠ some b) := hide (fun e => by have := (OwnL.lt how b e).1; omega)
  obtain ⟨Ag, cg, rfl, _, _, _, _⟩ := OwnL.row Gt.cells_len how
  have k16 : u.cell? ⟨b, 16, none⟩ = some (.slice Ag N.length cg) := (cell_of_list (o := 16) hbr).trans rfl
  have HC : Hid (∀ W : World, Below u.heap.size u W → W.cell? ⟨b, 16, none⟩ = some (.slice Ag N.length cg) ∧ W.cell? ⟨gx, 0, none⟩ = some (.int .i64 5) ∧ W.cell? ⟨gx, 1, none⟩ = some (.int .i64 m.f) ∧ W.cell? ⟨gx, 2, none⟩ = some (.int .i64 m.t) ∧ W.cell? ⟨gx, 3, none⟩ = some (.int .u64 m.id) ∧ W.cell? ⟨gx, 4, none⟩ = some (.int .u64 m.n) ∧ W.cell? ⟨gx, 5, none⟩ = some (.slice m.A m.L.length m.c)) := hide (fun W hW =>
    ⟨keep_cell hW k16 lb, keep_cell hW m0 lgx, keep_cell hW m1 lgx, keep_cell hW m2 lgx, keep_cell hW m3 lgx, keep_cell hW m4 lgx, keep_cell hW m5 lgx⟩)
  have hmr := h.rd.below h.co.low
  have hcp := fun (W : World) (hW : Below u.heap.size u W) => mcopy_any m W (hmr.below hW) hM
  unfold Mg.val at hcp
  rw [hk] at hcp
  have HCP := hide hcp
  have HBR := hide hbr
  have HCG := hide hcg
  have HCA := hide hca
  have HNN := hide hN
  have HOW := hide how
  have HRDN := hide hrd
  have HFAR := hide hfar
  clear h hbr hcg hca hN how hrd hfar hmr hcp k16 hk hG hM m1 m2 m3 m4 m5
  go_upto_region 8 with fail
  obtain ⟨ud, hud⟩ : ∃ ud, u.drew = ud := ⟨_, rfl⟩
  have HUD : Hid (Below u.heap.size u ud) := hide (by rw [← hud]; exact (Below.refl _ _).drew)
  clear m0
  refine j_startD [12, 13, 14, 15, 0] hud (by kernel_rfl) ?_
  clear hud
  refine' wpAnyJ_takeW (i := 0) (v := _) ?hi0 (by kernel_rfl) (by kernel_rfl) (by kernel_rfl) (by kernel_rfl) (Or.inl ⟨?hw0, ?hy0⟩) ?rest0
  case hi0 => (simp only [List.getElem?_toArray, List.getElem?_cons_succ, List.getElem?_cons_zero]; rfl)
  case hw0 => rfl
  case hy0 => (intro w' hw'; go_simp; try with_reducible rfl)
  try simp only [Act.put, List.setIfInBounds_toArray, List.set_cons_zero, List.set_cons_succ]
  refine' j_take (i := 1) (v := _) [2, 3, 4, 12, 13, 14, 15] ?hi1 (by kernel_rfl) (by kernel_rfl) (by kernel_rfl) (by kernel_rfl) (by kernel_rfl) (Or.inl ⟨?hw1, ?hy1⟩) ?rest1
  case hi1 => (simp only [List.getElem?_toArray, List.getElem?_cons_succ, List.getElem?_cons_zero]; rfl)
  case hw1 => rfl
  case hy1 => (intro w' hw'; go_simp; try with_reducible rfl)
  try simp only [Act.put, List.setIfInBounds_toArray, List.set_cons_zero, List.set_cons_succ]
  refine' j_take (i := 2) (v := _) [3, 4, 12, 13, 14, 15] ?hi2 (by kernel_rfl) (by kernel_rfl) (by kernel_rfl) (by kernel_rfl) (by kernel_rfl) (Or.inl ⟨?hw2, ?hy2⟩) ?rest2
  case hi2 => (simp only [List.getElem?_toArray, List.getElem?_cons_succ, List.getElem?_cons_zero]; rfl)
  case hw2 => rfl
  case hy2 => (intro w' hw'; go_simp; try with_reducible rfl)
  try simp only [Act.put, List.setIfInBounds_toArray, List.set_cons_zero, List.set_cons_succ]
  refine' j_take (i := 3) (v := _) [4, 12, 13, 14, 15] ?hi3 (by kernel_rfl) (by kernel_rfl) (by kernel_rfl) (by kernel_rfl) (by kernel_rfl) (Or.inl ⟨?hw3, ?hy3⟩) ?rest3
  case hi3 => (simp only [List.getElem?_toArray, List.getElem?_cons_succ, List.getElem?_cons_zero]; rfl)
  case hw3 => rfl
  case hy3 => (intro w' hw'; go_simp; try with_reducible rfl)
  try simp only [Act.put, List.setIfInBounds_toArray, List.set_cons_zero, List.set_cons_succ]
  refine' j_take (i := 4) (v := _) [12, 13, 14, 15] ?hi4 (by kernel_rfl) (by kernel_rfl) (by kernel_rfl) (by kernel_rfl) (by kernel_rfl) (Or.inl ⟨?hw4, ?hy4⟩) ?rest4
  case hi4 => (simp only [List.getElem?_toArray, List.getElem?_cons_succ, List.getElem?_cons_zero]; rfl)
  case hw4 => rfl
  case hy4 => (intro w' hw'; have jg := (HC.out _ (below_step HUD.out hw')).1; go_simp; try with_reducible rfl)
  try simp only [Act.put, List.setIfInBounds_toArray, List.set_cons_zero, List.set_cons_succ]
  refine' j_take (i := 5) (v := _) [6, 10, 11, 12, 13, 14, 15] ?hi5 (by kernel_rfl) (by kernel_rfl) (by kernel_rfl) (by kernel_rfl) (by kernel_rfl) (Or.inl ⟨?hw5, ?hy5⟩) ?rest5
  case hi5 => (simp only [List.getElem?_toArray, List.getElem?_cons_succ, List.getElem?_cons_zero]; rfl)
  case hw5 => rfl
  case hy5 => (intro w' hw'; go_simp; try with_reducible rfl)
  try simp only [Act.put, List.setIfInBounds_toArray, List.set_cons_zero, List.set_cons_succ]
  refine' j_take (i := 6) (v := _) [10, 11, 12, 13, 14, 15] ?hi6 (by kernel_rfl) (by kernel_rfl) (by kernel_rfl) (by kernel_rfl) (by kernel_rfl) (Or.inl ⟨?hw6, ?hy6⟩) ?rest6
  case hi6 => (simp only [List.getElem?_toArray, List.getElem?_cons_succ, List.getElem?_cons_zero]; rfl)
  case hw6 => rfl
  case hy6 => (intro w' hw'; have jn := (HC.out _ (below_step HUD.out hw')).2.2.2.2.2.1; go_simp; try with_reducible rfl)
  try simp only [Act.put, List.setIfInBounds_toArray, List.set_cons_zero, List.set_cons_succ]
  refine' j_take (i := 7) (v := _) [8, 9, 10, 11, 12, 13, 14, 15] ?hi7 (by kernel_rfl) (by kernel_rfl) (by kernel_rfl) (by kernel_rfl) (by kernel_rfl) (Or.inl ⟨?hw7, ?hy7⟩) ?rest7
  case hi7 => (simp only [List.getElem?_toArray, List.getElem?_cons_succ, List.getElem?_cons_zero]; rfl)
  case hw7 => rfl
  case hy7 => (intro w' hw'; obtain ⟨_, i0, i1, i2, i3, i4, i5⟩ := HC.out _ (below_step HUD.out hw'); go_simp; try with_reducible rfl)
  try simp only [Act.put, List.setIfInBounds_toArray, List.set_cons_zero, List.set_cons_succ]
  refine' wpAnyJ_step (i := 8) (o := _) (by kernel_rfl) ?ho8 (fun K hK => ?step8)
  case ho8 => (simp only [List.getElem?_toArray, List.getElem?_cons_succ, List.getElem?_cons_zero]; rfl)
  go_simp
  refine (Calls.mono (HCP.out _ HUD.out) ?_); rintro e u1 ⟨A1, c1, rfl, hoc, gg⟩
  have HOC := hide hoc
  have HGG := hide gg
  clear hoc
  refine hK.out _ _ gg (j_switch gg ?_)
  clear hK K gg
  try simp only [Act.put, List.setIfInBounds_toArray, List.set_cons_zero, List.set_cons_succ]
  refine' j_take (i := 9) (v := _) [10, 11, 12, 13, 14, 15] ?hi9 (by kernel_rfl) (by kernel_rfl) (by kernel_rfl) (by kernel_rfl) (by kernel_rfl) (Or.inl ⟨?hw9, ?hy9⟩) ?rest9
  case hi9 => (simp only [List.getElem?_toArray, List.getElem?_cons_succ, List.getElem?_cons_zero]; rfl)
  case hw9 => rfl
  case hy9 => (intro w' hw'; have jf := field_msg (.int .i64 5) (.int .i64 m.f) (.int .i64 m.t) (.int .u64 m.id) (.int .u64 m.n) (.slice A1 m.L.length c1) w'; go_simp; try with_reducible rfl)
  try simp only [Act.put, List.setIfInBounds_toArray, List.set_cons_zero, List.set_cons_succ]
  refine' j_take (i := 10) (v := _) [11, 12, 13, 14, 15] ?hi10 (by kernel_rfl) (by kernel_rfl) (by kernel_rfl) (by kernel_rfl) (by kernel_rfl) (Or.inl ⟨?hw10, ?hy10⟩) ?rest10
  case hi10 => (simp only [List.getElem?_toArray, List.getElem?_cons_succ, List.getElem?_cons_zero]; rfl)
  case hw10 => rfl
  case hy10 => (intro w' hw'; go_simp; try with_reducible rfl)
  try simp only [Act.put, List.setIfInBounds_toArray, List.set_cons_zero, List.set_cons_succ]
  refine' wpAnyJ_step (i := 11) (o := _) (by kernel_rfl) ?ho11 (fun K hK => ?step11)
  case ho11 => (simp only [List.getElem?_toArray, List.getElem?_cons_succ, List.getElem?_cons_zero]; rfl)
  go_simp
  have ha := below_alloc (Below.refl u1.heap.size u1) (.cells #[.int .u64 m.n, .slice A1 m.L.length c1] 75)
  have hz := heap_alloc_new u1 (.cells #[.int .u64 m.n, .slice A1 m.L.length c1] 75)
  obtain ⟨u2, hu2⟩ : ∃ u2, u1.alloc (.cells #[.int .u64 m.n, .slice A1 m.L.length c1] 75) = u2 := ⟨_, rfl⟩
  obtain ⟨g8, hg8⟩ : ∃ g8, u1.heap.size = g8 := ⟨_, rfl⟩
  refine hK.out _ _ ha (j_switch ha ?_)
  clear hK K
  rw [hu2] at ha hz
  rw [hg8] at hz
  try rw [hu2]
  try rw [hg8]
  have HU2 := hide ha
  have HN2 := hide (RowAt.new_one (cells := Gt.cells) (sz := 2) (y := (⟨m.n, A1, c1, m.L⟩ : Gt)) hz)
  have HG8 := hide hg8
  have HBU := hide (below_step (below_step HUD.out HGG.out) ha)
  clear ha hz hu2 hg8
  try simp only [Act.put, List.setIfInBounds_toArray, List.set_cons_zero, List.set_cons_succ]
  refine' wpAnyJ_last (i := 12) (o := _) (by kernel_rfl) ?ho12 (by kernel_rfl) (fun K hK => ?step12)
  case ho12 => (simp only [List.getElem?_toArray, List.getElem?_cons_succ, List.getElem?_cons_zero]; rfl)
  refine step_app_got rfl (.tmp 80) (.tmp 87) rfl rfl (b + 1) _ N rfl (OwnL.below HOW.out HBU.out) (some ⟨g8, 0, none⟩) 1 1 [(⟨m.n, A1, c1, m.L⟩ : Gt)] rfl rfl HN2.out (by omega) (Nat.le_trans lb HBU.out.size) ?_
  intro v3 u3 ho3 hg3 hm3
  obtain ⟨A3, c3, rfl, _, _, _, _⟩ := OwnL.row Gt.cells_len ho3
  have hl3 : (N ++ [(⟨m.n, A1, c1, m.L⟩ : Gt)]).length = N.length + 1 := by simp
  rw [hl3] at ho3 hm3
  rw [hl3]
  have hkb := (hg3.block b (Nat.lt_of_lt_of_le lb HBU.out.size) (fun e => HVB.out e.symm)).trans ((HBU.out.block b lb).trans HBR.out)
  have k16 := (cell_of_list (o := 16) hkb).trans rfl
  have z16 : u3.frozen? ⟨b, 16, none⟩ = false := (by simp [World.frozen?, hkb])
  have HKB := hide hkb
  have HO3 := hide ho3
  have HG3 := hide hg3
  have HM3 := hide hm3
  clear ho3 hg3 hm3 hkb hl3
  refine hK.out _ _ ?_
  clear hK K
  try simp only [Act.put, List.setIfInBounds_toArray, List.set_cons_zero, List.set_cons_succ]
  refine' wpAnyJ_last (i := 13) (o := _) (by kernel_rfl) ?ho13 (by kernel_rfl) (fun K hK => ?step13)
  case ho13 => (simp only [List.getElem?_toArray, List.getElem?_cons_succ, List.getElem?_cons_zero]; rfl)
  go_simp
  refine hK.out _ _ ?_
  clear hK K
  try simp only [Act.put, List.setIfInBounds_toArray, List.set_cons_zero, List.set_cons_succ]
  refine' wpAnyJ_last (i := 14) (o := _) (by kernel_rfl) ?ho14 (by kernel_rfl) (fun K hK => ?step14)
  case ho14 => (simp only [List.getElem?_toArray, List.getElem?_cons_succ, List.getElem?_cons_zero]; rfl)
  go_simp
  refine hK.out _ _ ?_
  clear hK K
  try simp only [Act.put, List.setIfInBounds_toArray, List.set_cons_zero, List.set_cons_succ]
  refine' wpAnyJ_last (i := 15) (o := _) (by kernel_rfl) ?ho15 (by kernel_rfl) (fun K hK => ?step15)
  case ho15 => (simp only [List.getElem?_toArray, List.getElem?_cons_succ, List.getElem?_cons_zero]; rfl)
  have k16 : u3.cell? ⟨b, 16, none⟩ = some (.slice Ag N.length cg) := k16
  go_simp
  refine hK.out _ _ ?_
  clear hK K k16 z16
  try simp only [Act.put, List.setIfInBounds_toArray, List.set_cons_zero, List.set_cons_succ]
  refine wpAnyJ_done (by kernel_rfl) ?_ _
  refine NoPanic.normal ?_
  obtain ⟨u4, hu4⟩ : ∃ u4, (u3.setCell ⟨b, 16, none⟩ (.slice A3 (N.length + 1) c3)) = u4 := ⟨_, rfl⟩
  have hs4 : Sets (fun g => g = b) u3 u4 := by rw [← hu4]; exact (Sets.refl (S := fun g => g = b) u3).set (g := b) (fun _ => rfl) 16 _
  have hb4 : u4.heap[b]? = some (.cells (coL { R with G := R.G ++ [⟨m.n, none, 0, m.L⟩] } 0 (.slice A3 (N.length + 1) c3) va).toArray 68 (0, 0)) := by rw [← hu4]; exact set_of_list (o := 16) HKB.out _
  have HF : Hid (COnT w0 w u4 b gx X { R with G := R.G ++ [⟨m.n, none, 0, m.L⟩] } m) := hide (by
    have hbu := HBU.out
    have hco := HH.out.co
    have hg3 := HG3.out
    have hY : ∀ g, Y g → g < u.heap.size := fun g hg => (hco.xs g hg).2
    have hvY : ∀ g, (Value.slice Ag N.length cg).ownBlock = some g → Y g := HCG.out.x
    have hs3 : Sets (fun g => (Value.slice Ag N.length cg).ownBlock = some g) u2 u3 := ⟨hg3.os, hg3.tape, hg3.output, hg3.size, fun i hi hn => hg3.block i hi (fun e => hn e.symm)⟩
    have hs03 : Sets Y u u3 := (Sets.of (S := Y) hbu).trans hs3 (fun g _ hg => hvY g hg)
    have hs04 : Sets Y u u4 := hs03.trans hs4 (fun g _ e => by rw [e]; exact hco.xb)
    have hsz := hs04.size
    have hsu := hbu.size
    have hgx : gx < u.heap.size := lgx
    have hdn : CoO w0 u4 b (Xn Y u u4) { R with G := R.G ++ [⟨m.n, none, 0, m.L⟩] } := by
      refine ⟨⟨_, va, hb4, ⟨⟨N ++ [⟨m.n, A1, c1, m.L⟩], ?_, ?_, ?_, ?_⟩, ?_⟩, ?_⟩, ?_, .inl hco.xb, ?_⟩
      · rw [List.map_append, HNN.out]; rfl
      · have := OwnL.sets HO3.out hs4 (fun g hg e => by have := (OwnL.lt HO3.out g hg).1; omega)
        simpa using this
      · intro y hy
        rcases List.mem_append.1 hy with h1 | h1
        · have := HRDN.out y h1
          exact ⟨(((this.1.below hbu).sets hs3 (fun a ha hn e => (HFAR.out y h1 a ha hn).2.2 e))).sets hs4 (fun a ha hn e => (HFAR.out y h1 a ha hn).2.1 e), this.2⟩
        · rw [List.mem_singleton] at h1
          subst h1
          obtain ⟨Aq, cq, he, hr1, hlo, hc1, hc2⟩ := OwnL.row It.cells_len HOC.out
          injection he with he1 _ he2
          subst he1 he2
          have hlo' : ∀ a, A1 = some a → ud.heap.size ≤ a.block := fun a ha => (hlo a.block a.off a.spot (by rw [ha])).1
          refine ⟨((hr1.below HU2.out).sets hs3 (fun a ha hn e => by have := hlo' a ha; have := hY _ (hvY _ e); have := HUD.out.size; omega)).sets hs4 (fun a ha hn e => by have := hlo' a ha; have := HUD.out.size; have := hY _ hco.xb; omega), hc1, hc2⟩
      · intro y hy a ha hn
        have key : Xn Y u u2 a.block ∧ a.block < u2.heap.size ∧ a.block ≠ b ∧ (Value.slice Ag N.length cg).ownBlock ≠ some a.block := by
          rcases List.mem_append.1 hy with h1 | h1
          · have h2 := HFAR.out y h1 a ha hn
            exact ⟨.inl h2.1, Nat.lt_of_lt_of_le (hY _ h2.1) hsu, h2.2⟩
          · rw [List.mem_singleton] at h1
            subst h1
            obtain ⟨Aq, cq, he, hr1, hlo, hc1, hc2⟩ := OwnL.row It.cells_len HOC.out
            injection he with he1 _ he2
            subst he1 he2
            have hl := hlo a.block a.off a.spot (by rw [show A1 = some a from ha])
            have h3 := HUD.out.size
            have h4 := HU2.out.size
            have h5 := hY _ hco.xb
            exact ⟨.inr ⟨by omega, by omega⟩, by omega, by omega, fun e => by have := hY _ (hvY _ e); omega⟩
        have h3z := hs3.size
        have h4z := hs4.size
        refine ⟨?_, key.2.2.1, fun e => ?_⟩
        · rcases key.1 with h1 | h1
          · exact .inl h1
          · exact .inr ⟨h1.1, by omega⟩
        · rcases HM3.out with h1 | h1
          · exact key.2.2.2 (h1.symm.trans e)
          · rw [h1] at e
            have := Option.some.inj e
            have := key.2.1
            omega
      · intro g hg
        rcases HM3.out with h1 | h1
        · exact .inl (hvY g (h1.symm.trans hg))
        · rw [h1] at hg
          have := Option.some.inj hg
          have h6 := (OwnL.lt HO3.out g (by rw [h1]; exact hg)).2
          have h4z := hs4.size
          exact .inr ⟨by omega, by omega⟩
      · refine ⟨sl_sets_ (sl_sets_ (HCA.out.1.below hbu) hs3 (fun g hg e => (HCA.out.2 g hg).2.2 e)) hs4 (fun g hg e => (HCA.out.2 g hg).2.1 e), fun g hg => ⟨.inl (HCA.out.2 g hg).1, (HCA.out.2 g hg).2.1, fun e => ?_⟩⟩
        rcases HM3.out with h1 | h1
        · exact (HCA.out.2 g hg).2.2 (h1.symm.trans e)
        · rw [h1] at e
          have := Option.some.inj e
          have := hY g (HCA.out.2 g hg).1
          omega
      · exact Sets.below hco.low hs04 (fun g hg => (hco.xs g hg).1) hco.low.size
      · intro g hg
        rcases hg with hg | hg
        · exact ⟨(hco.xs g hg).1, Nat.lt_of_lt_of_le (hco.xs g hg).2 hsz⟩
        · exact ⟨Nat.le_trans hco.low.size hg.1, hg.2⟩
    have hd := HH.out.done hdn hs04
    refine ⟨Xn Y u u4, hdn, ?_, HH.out.gxl, HH.out.rd, hd.2, ?_, HH.out.xo, ?_, HH.out.w0l⟩
    · exact (hs04.block gx hgx (fun e => HH.out.yo gx e rfl)).trans HH.out.box
    · intro g hg
      rcases hg with hg | hg
      · rcases HH.out.y g hg with h1 | h1
        · exact .inl h1
        · exact .inr ⟨h1.1, by omega⟩
      · exact .inr ⟨Nat.le_trans HH.out.low.size hg.1, hg.2⟩
    · intro g hg
      rcases hg with hg | hg
      · exact HH.out.yo g hg
      · omega)
  rw [hu4]
  clear hs4 hb4 hu4
  go_wp2_with fail
  exact HK.out _ _ _ _ _ _ _ _ _ _ _ _ _ _ _ _ _ _ _ _ _ _ _ _ _ _ _ _ _ _ _ _ _ _ _ _ _ _ _ _ _ _ HF.out
end Go.Proofs.YtlabpgdimhbocaaGreat
