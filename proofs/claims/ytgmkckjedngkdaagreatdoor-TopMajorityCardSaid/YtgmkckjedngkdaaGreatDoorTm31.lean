/- A part of the proof that TopMajorityLaw holds: XCoN, XCoL, XCoI. Conditions: as typed. -/
import Derived.Test.YtgmkckjedngkdaaGreatDoorTm21
import Derived.Test.YtgmkckjedngkdaaGreatDoorTm28
set_option linter.unusedVariables false
set_option linter.unusedSimpArgs false
namespace Go.Proofs.YtgmkckjedngkdaaGreatDoor
open Go.ChangeShapes Go.WideShapes Go.ChangeAt Go.RowKit
def certG (G:List Gt):Int:=G.foldl (fun c g=>max c g.n) 0
def takeG (c:Int) (g:Gt):List It:=if g.n < c then g.L.filter (fun x=>decide (c < x.v)) else g.L
noncomputable def joinG (c:Int) (G:List Gt):List It:=G.foldl (fun o g=>joinL o (takeG c g)) []
noncomputable def itemsC (G:List Gt) (s:Int):List It:=(joinG (certG G) G).filter (serP s)
def ItemsH (b:Nat) (G:List Gt) (s:Int):Prop:=∀ (W:World) (m:Int) (X:Nat→Prop) (vg:Value) (R:Co),R.G=G→R.cs=s→W.heap[b]? = some (.cells (coL R m vg (.slice none 0 0)).toArray 190 (0,0))→CoG W b X vg G→Calls Tryz.prog 419 #[.pointer (some ⟨b,0,none⟩)] W fun e w'=>∃ v,e=.returned v∧Og W.heap.size w' v (itemsC G s)∧Below W.heap.size W w'
def markC (R:Co) (i:Nat):Co:={ R with C:=fun k=>if k=i then true else R.C k }
def countC (R:Co) (i:Nat):Co:={ markC R i with cnt:=R.cnt+1 }
theorem coL_mark (R:Co) (m:Int) (vg va:Value) {k:Nat} (hk:k < 7):(coL R m vg va).set (8+k) (.bool true)=coL (markC R k) m vg va:=by
 match k,hk with
 | 0,_=>rfl
 | 1,_=>rfl
 | 2,_=>rfl
 | 3,_=>rfl
 | 4,_=>rfl
 | 5,_=>rfl
 | 6,_=>rfl
noncomputable def goC (R:Co) (i:Nat):Co:=if R.cnt+1=R.n / 2+1 then end1C (countC R i) 0 R.ver (itemsC R.G R.cs) else countC R i
set_option maxRecDepth 1000000 in
set_option maxHeartbeats 3200000 in
theorem con_tail {w0 w u:World} {b gx:Nat} {X Y:Nat→Prop} {R:Co} {m:Mg} (h:COnH w0 w u b gx X Y R m) (hf:0≤m.f∧m.f < 7) (hn:1≤R.n∧R.n≤7) (hc0:0≤R.cnt∧R.cnt≤1000) (hd:R.d=0) (hI:R.cnt+1=R.n / 2+1→ItemsH b R.G R.cs) (u1 u2 u4 u5 u6 u7 u8 u9 u10 u11 u12 u13 u14 u15 u16 u17 u18 u19 u20 u21 u22 u23 u24 u25 u26 u27 u28 u29 u30 u31 u32 u33 u34 u35 u36 u37 u38 u39 u40 u41 u42 u43 u44 u45 u46 u47 u48 u49 u50 u51 u52 u53 u54 u55 u56 u57 u58 u59 u60 u61 u62 u63 u64 u65 u66 u67 u68 u69 u70 u71 u72 u73 u74 u75 u76 u77 u78 u79 u80 u81 u82 u83 u84 u85 u86 u87 u88 u89 u90 u91 u92 u93 u94 u95 u96 u97 u98 u99 u100 u101 u102 u103 u104 u105 u106 u107 u108 u109 u110 u111 u112 u113 u114 u115 u116 u117 u118 u119 u120 u121 u122 u123 u124 u125 u126:Value) :
 Code.wp Tryz.prog conTail (bodyPost Tryz.prog Tryz.f421 (COnP w0 w b X (goC R m.f.toNat) true)) ⟨#[.pointer (some ⟨b,0,none⟩),u1,u2,.pointer (some ⟨gx,0,none⟩),u4,u5,u6,u7,u8,u9,u10,u11,u12,u13,u14,u15,u16,u17,u18,u19,u20,u21,u22,u23,u24,u25,u26,u27,u28,u29,u30,u31,u32,u33,u34,u35,u36,u37,u38,u39,u40,u41,u42,u43,u44,u45,u46,u47,u48,u49,u50,u51,u52,u53,u54,u55,u56,u57,u58,u59,u60,u61,u62,u63,u64,u65,u66,u67,u68,u69,u70,u71,u72,u73,u74,u75,u76,u77,u78,u79,u80,u81,u82,u83,u84,u85,u86,u87,u88,u89,u90,u91,u92,u93,u94,u95,u96,u97,u98,u99,u100,u101,u102,u103,u104,u105,u106,u107,u108,u109,u110,u111,u112,u113,u114,u115,u116,u117,u118,u119,u120,u121,u122,u123,u124,u125,u126],[]⟩ u:=by
 obtain ⟨vg,va,hbo,hcg,hca⟩:=h.co.row
 have lb:=h.co.lt
 have lgx:=(Array.getElem?_eq_some_iff.1 h.box).1
 obtain ⟨_,m1,_,_,_,_⟩:=six_cells h.box
 obtain ⟨i,hi⟩:∃ i:Nat,m.f=(i:Int):=⟨m.f.toNat,by omega⟩
 have hi7:i < 7:=by omega
 have hit:m.f.toNat=i:=by omega
 rw [hit]
 rw [hi] at m1
 have hi0:(0:Int)≤(i:Int):=by omega
 have hiI:(i:Int) < 7:=by omega
 have HC:Hid (∀ W:World,Below u.heap.size u W→W.cell? ⟨gx,1,none⟩=some (.int .i64 (i:Int))∧W.cell? ⟨b,8+i,none⟩=some (.bool (R.C i))):=hide (fun W hW=>⟨keep_cell hW m1 lgx,keep_cell hW ((cell_of_list hbo).trans (coL_C R 0 vg va hi7)) lb⟩)
 obtain ⟨ud,hud⟩:∃ ud,u.drew=ud:=⟨_,rfl⟩
 have HUD:Hid (Below u.heap.size u ud):=hide (by rw [← hud];exact (Below.refl _ _).drew)
 have hbd:=(HUD.out.block b lb).trans hbo
 have K5:=hide (HC.out _ HUD.out).2
 have Z5:Hid (ud.frozen? ⟨b,8+i,none⟩=false):=hide (by simp [World.frozen?,hbd])
 have hb1:(ud.setCell ⟨b,8+i,none⟩ (.bool true)).heap[b]? = some (.cells (coL (markC R i) 0 vg va).toArray 190 (0,0)):=by rw [← coL_mark R 0 vg va hi7];exact set_of_list hbd _
 have hs1:Sets (fun g=>g=b) ud (ud.setCell ⟨b,8+i,none⟩ (.bool true)):=(Sets.refl (S:=fun g=>g=b) ud).set (g:=b) (fun _=>rfl) _ _
 obtain ⟨u1,hu1⟩:∃ u1,ud.setCell ⟨b,8+i,none⟩ (.bool true)=u1:=⟨_,rfl⟩
 rw [hu1] at hb1 hs1
 have k15:u1.cell? ⟨b,15,none⟩=some (.int .i64 R.cnt):=(cell_of_list (o:=15) hb1).trans rfl
 have z15:u1.frozen? ⟨b,15,none⟩=false:=by simp [World.frozen?,hb1]
 have hb2:(u1.setCell ⟨b,15,none⟩ (.int .i64 (R.cnt+1))).heap[b]? = some (.cells (coL (countC R i) 0 vg va).toArray 190 (0,0)):=set_of_list hb1 _
 have hs2:Sets (fun g=>g=b) u (u1.setCell ⟨b,15,none⟩ (.int .i64 (R.cnt+1))):=((Sets.of (S:=fun g=>g=b) HUD.out).trans hs1 (fun _ _ h=>h)).set (g:=b) (fun _=>rfl) 15 _
 obtain ⟨u2,hu2⟩:∃ u2,u1.setCell ⟨b,15,none⟩ (.int .i64 (R.cnt+1))=u2:=⟨_,rfl⟩
 rw [hu2] at hb2 hs2
 have hr2:=h.co.put (R':=countC R i) hcg hca hb2 rfl rfl hs2
 have hcw:IntKind.i64.wrap (R.cnt+1)=R.cnt+1:=by rw [IntKind.wrap_i64];omega
 have d0:u2.cell? ⟨b,0,none⟩=some (.int .i64 R.n):=(cell_of_list (o:=0) hb2).trans rfl
 have d7:u2.cell? ⟨b,7,none⟩=some (.int .u64 R.ver):=(cell_of_list (o:=7) hb2).trans rfl
 have d15:u2.cell? ⟨b,15,none⟩=some (.int .i64 (R.cnt+1)):=(cell_of_list (o:=15) hb2).trans rfl
 have HND:=hide (fun (W:World)=>cneed_any R.n W (by omega) (by omega))
 have HE:=hide (fun (hq:R.cnt+1=R.n / 2+1) (W:World) (hW:CoO w0 W b Y (countC R i))=>cend_any (LI:=itemsC R.G R.cs) hW (show (countC R i).d=0 from hd) 0 R.ver (fun _ W m X vg h1 h2=>hI hq W m X vg (midC (countC R i) 0 R.ver) rfl rfl h1 h2))
 have HR2:=hide hr2
 have HS2:=hide hs2
 have HU1:=hide hu1
 have HU2:=hide hu2
 have HUW:=hide hud
 have HH:=hide h
 have HSY:Hid (Sets Y u u2):=hide ⟨hs2.os,hs2.tape,hs2.output,hs2.size,fun g hg hn=>hs2.block g hg (fun e=>hn (by rw [e];exact h.co.xb))⟩
 have HXB:Hid (Y b):=hide h.co.xb
 have lb2:=hr2.lt
 clear h hbo hcg hca hi hit hf hn hc0 hd hI hbd hb1 hs1 hu1 hb2 hs2 hu2 hr2 hud m1 lgx hi7
 conv=>arg 2;whnf
 go_upto_region 11 with fail
 refine j_startD [6] HUW.out (by kernel_rfl) ?_
 refine' j_t 0 [3,4,5,6] rfl (by kernel_rfl) rfl ?y0 ?r0
 case y0=>(intro w' hw';go_simp;try with_reducible rfl)
 try go_frame
 refine' j_t 1 [2,5,6] rfl (by kernel_rfl) rfl ?y1 ?r1
 case y1=>(intro w' hw';go_simp;try with_reducible rfl)
 try go_frame
 refine' j_t 2 [5,6] rfl (by kernel_rfl) rfl ?y2 ?r2
 case y2=>(intro w' hw';obtain ⟨j1,j5⟩:=HC.out _ (below_step HUD.out hw');go_simp;try with_reducible rfl)
 try go_frame
 refine' j_t 3 [4,5,6] rfl (by kernel_rfl) rfl ?y3 ?r3
 case y3=>(intro w' hw';go_simp;try with_reducible rfl)
 try go_frame
 refine' j_t 4 [5,6] rfl (by kernel_rfl) rfl ?y4 ?r4
 case y4=>(intro w' hw';go_simp;try with_reducible rfl)
 try go_frame
 refine' j_t 5 [6] rfl (by kernel_rfl) rfl ?y5 ?r5
 case y5=>(intro w' hw';go_simp;try with_reducible rfl)
 try go_frame
 refine' j_l 6 (by kernel_rfl) rfl (by kernel_rfl) (fun K hK=>?s6)
 have k5:=K5.out
 have z5:=Z5.out
 go_simp
 refine hK.out _ _ ?_
 clear hK K k5 z5
 try go_frame
 refine wpAnyJ_done (by kernel_rfl) ?_ _
 refine NoPanic.normal ?_
 go_upto_region 12 with fail
 try rw [HU1.out]
 go_upto_region 13 with fail
 try rw [HU2.out]
 clear k15 z15
 have lb2:b < u2.heap.size:=lb2
 have q0:=fun s:Near u2=>s.cell d0 lb2
 have q15:=fun s:Near u2=>s.cell d15 lb2
 by_cases hq:R.cnt+1=R.n / 2+1
 ·have HG:Hid (goC R i=end1C (countC R i) 0 R.ver (itemsC R.G R.cs)):=hide (by unfold goC;rw [if_pos hq])
  have hqI:(R.cnt+1 == R.n / 2+1)=true:=beq_iff_eq.2 hq
  have HE1:=hide (HE.out hq)
  clear hq HE
  refine wp_region_near (by kernel_rfl) (by kernel_rfl) ?_
  repeat (go_big_quiet_step ((first | (go_at_call 422;exact near_of (HND.out _)))))
  refine wpQuiet_nil ?_
  intro _ hw'
  obtain ⟨s1,rfl⟩:=hw'
  have HR3:=hide (HR2.out.below s1.is)
  have HS3:=hide (HSY.out.trans (Sets.of (S:=fun _=>False) s1.is) (fun _ _ h=>h.elim))
  have e7:=keep_cell s1.is d7 lb2
  have lb3:=HR3.out.lt
  obtain ⟨u3,hu3⟩:∃ u3,s1.at_=u3:=⟨_,rfl⟩
  rw [hu3] at HR3 HS3 e7 lb3 ⊢
  clear hu3 d0 d7 d15 q0 q15 s1 lb2
  go_wp2_with fail
  refine (Calls.mono (HE1.out _ HR3.out) ?_);rintro e w3 ⟨rfl,h1,h2⟩
  have hs3:Sets Y u w3:=HS3.out.trans h2 (fun g _ e=>by rw [e];exact HXB.out)
  have hx:CoO w0 w3 b (Xn Y u w3) (end1C (countC R i) 0 R.ver (itemsC R.G R.cs)):=h1.more (fun g hg=>by
   rcases hg with hg | hg
   ·exact .inl hg
   ·exact .inr ⟨Nat.le_trans HS3.out.size hg.1,hg.2⟩) (fun g hg=>by
   rcases hg with hg | hg
   ·exact h1.xs g (.inl hg)
   ·exact ⟨Nat.le_trans HH.out.co.low.size hg.1,hg.2⟩)
  have hdn:=HH.out.done hx hs3
  have H1:=hide hdn.1
  have H2:=hide hdn.2
  clear h1 h2 hs3 hx hdn
  go_wp2_with fail
  go_ret
  exact ⟨rfl,by rw [HG.out];exact H1.out,H2.out⟩
 ·have HG:Hid (goC R i=countC R i):=hide (by unfold goC;rw [if_neg hq])
  have hqI:(R.cnt+1 == R.n / 2+1)=false:=beq_eq_false_iff_ne.2 hq
  clear hq HE
  refine wp_region_near (by kernel_rfl) (by kernel_rfl) ?_
  repeat (go_big_quiet_step ((first | (go_at_call 422;exact near_of (HND.out _)))))
  refine wpQuiet_nil ?_
  intro _ hw'
  obtain ⟨s1,rfl⟩:=hw'
  have HR3:=hide (HR2.out.below s1.is)
  have HS3:=hide (HSY.out.trans (Sets.of (S:=fun _=>False) s1.is) (fun _ _ h=>h.elim))
  have hx:CoO w0 s1.at_ b (Xn Y u s1.at_) (countC R i):=HR3.out.more (fun g hg=>.inl hg) (fun g hg=>by
   rcases hg with hg | hg
   ·exact HR3.out.xs g hg
   ·exact ⟨Nat.le_trans HH.out.co.low.size hg.1,hg.2⟩)
  have hdn:=HH.out.done hx HS3.out
  have H1:=hide hdn.1
  have H2:=hide hdn.2
  clear hx hdn
  go_wp2_with fail
  go_ret
  exact ⟨rfl,by rw [HG.out];exact H1.out,H2.out⟩
def refC (R:Co) (m:Mg):Bool:=R.dn || !mokB m || !(m.t == R.at_) || !(m.id == R.id) || decide (R.n≤m.f) || R.C m.f.toNat
def gotC (R:Co) (m:Mg):Co:=if R.ck=3 then { R with G:=R.G ++ [⟨m.n,none,0,m.L⟩] } else R
def oldB (R:Co) (m:Mg):Prop:=¬ R.ck=3∧m.k=3
def hitC (R:Co) (m:Mg):Prop:=(R.ck=3∧m.k=5) ∨ (¬ R.ck=3∧m.k=2)
instance (R:Co) (m:Mg):Decidable (oldB R m):=by unfold oldB;exact inferInstance
instance (R:Co) (m:Mg):Decidable (hitC R m):=by unfold hitC;exact inferInstance
noncomputable def swC (R:Co) (m:Mg):Co:=if oldB R m then end1C R 21 m.n [] else if hitC R m then goC (gotC R m) m.f.toNat else R
def swB (R:Co) (m:Mg):Bool:=decide (oldB R m) || decide (hitC R m)
noncomputable def conR (R:Co) (m:Mg):Co:=if refC R m=true then R else swC R m
def conB (R:Co) (m:Mg):Bool:=!refC R m && swB R m
theorem mokBf {m:Mg} (h:mokB m=true):0≤m.f∧m.f < 7∧m.L.length≤1500:=by
 unfold mokB nodeB at h
 simp only [Bool.and_eq_true,decide_eq_true_eq] at h
 obtain ⟨⟨⟨⟨⟨⟨⟨⟨_,_⟩,h1⟩,_⟩,_⟩,_⟩,h2⟩,_⟩,_⟩:=h
 omega
theorem refC_false {R:Co} {m:Mg} (h:refC R m=false):R.dn=false∧mokB m=true:=by
 unfold refC at h
 simp only [Bool.or_eq_false_iff,Bool.not_eq_false'] at h
 exact ⟨h.1.1.1.1.1,h.1.1.1.1.2⟩
structure CoK (R:Co):Prop where
 n:1≤R.n∧R.n≤7
 cs:0≤R.cs∧R.cs≤255
 cnt:0≤R.cnt∧R.cnt≤1000
 tk:0≤R.tk∧R.tk≤1000000
 d:R.dn=false→R.d=0
 G:R.G.length≤1000
theorem con_all {w0 w u:World} {b gx:Nat} {X Y:Nat→Prop} {R:Co} {m:Mg} (h:COnH w0 w u b gx X Y R m) (hM:m.L.length≤1500) (k:CoK R) (hd:R.d=0) (u1 u2 u6 u7 u8 u9 u10 u11 u12 u13 u14 u15 u16 u17 u18 u19 u20 u21 u22 u23 u24 u25 u26 u27 u28 u29 u30 u31 u32 u33 u34 u35 u36 u37 u38 u39 u40 u41 u42 u43 u44 u45 u46 u47 u48 u49 u51 u52 u53 u54 u55 u56 u57 u58 u59 u60 u61 u62 u63 u64 u65 u66 u67 u68 u69 u70 u71 u72 u73 u74 u75 u76 u77 u78 u79 u80 u81 u82 u83 u84 u85 u86 u87 u88 u89 u90 u91 u92 u93 u94 u95 u96 u97 u98 u99 u100 u101 u102 u103 u104 u105 u106 u107 u108 u109 u110 u111 u112 u113 u114 u115 u116 u117 u118 u119 u120 u121 u122 u123 u124 u125 u126:Value) {K:Act→World→Prop}
 (hK:hitC R m→∀ (v57 v58 v59 v60 v61 v62 v63 v64 v65 v66 v67 v68 v69 v70 v71 v72 v73 v74 v75 v76 v77 v78 v79 v80 v81 v82 v83 v84 v85 v86 v87 v88 v89 v90 v91 v92 v93 v94 v95 v96 v97:Value) (W2:World),COnT w0 w W2 b gx X (gotC R m) m→K ⟨#[.pointer (some ⟨b,0,none⟩),u1,u2,.pointer (some ⟨gx,0,none⟩),.bool false,.bool (R.ck == 3),u6,u7,u8,u9,u10,u11,u12,u13,u14,u15,u16,u17,u18,u19,u20,u21,u22,u23,u24,u25,u26,u27,u28,u29,u30,u31,u32,u33,u34,u35,u36,u37,u38,u39,u40,u41,u42,u43,u44,u45,u46,u47,u48,u49,.bool false,u51,u52,u53,u54,u55,u56,v57,v58,v59,v60,v61,v62,v63,v64,v65,v66,v67,v68,v69,v70,v71,v72,v73,v74,v75,v76,v77,v78,v79,v80,v81,v82,v83,v84,v85,v86,v87,v88,v89,v90,v91,v92,v93,v94,v95,v96,v97,u98,u99,u100,u101,u102,u103,u104,u105,u106,u107,u108,u109,u110,u111,u112,u113,u114,u115,u116,u117,u118,u119,u120,u121,u122,u123,u124,u125,u126],[]⟩ W2) :
 Code.wp Tryz.prog conCode (Exit.then K (bodyPost Tryz.prog Tryz.f421 (COnP w0 w b X (swC R m) (swB R m)))) ⟨#[.pointer (some ⟨b,0,none⟩),u1,u2,.pointer (some ⟨gx,0,none⟩),.bool false,.bool (R.ck == 3),u6,u7,u8,u9,u10,u11,u12,u13,u14,u15,u16,u17,u18,u19,u20,u21,u22,u23,u24,u25,u26,u27,u28,u29,u30,u31,u32,u33,u34,u35,u36,u37,u38,u39,u40,u41,u42,u43,u44,u45,u46,u47,u48,u49,.bool false,u51,u52,u53,u54,u55,u56,u57,u58,u59,u60,u61,u62,u63,u64,u65,u66,u67,u68,u69,u70,u71,u72,u73,u74,u75,u76,u77,u78,u79,u80,u81,u82,u83,u84,u85,u86,u87,u88,u89,u90,u91,u92,u93,u94,u95,u96,u97,u98,u99,u100,u101,u102,u103,u104,u105,u106,u107,u108,u109,u110,u111,u112,u113,u114,u115,u116,u117,u118,u119,u120,u121,u122,u123,u124,u125,u126],[]⟩ u:=by
 by_cases hg:R.ck=3
 ·have ho:¬ oldB R m:=fun e=>e.1 hg
  rw [show (R.ck == 3)=true from beq_iff_eq.2 hg] at hK ⊢
  by_cases h5:m.k=5
  ·have hh:hitC R m:=.inl ⟨hg,h5⟩
   rw [show gotC R m={ R with G:=R.G ++ [⟨m.n,none,0,m.L⟩] } by unfold gotC;rw [if_pos hg]] at hK
   exact con_got h h5 k.G (by omega) u1 u2 u6 u7 u8 u9 u10 u11 u12 u13 u14 u15 u16 u17 u18 u19 u20 u21 u22 u23 u24 u25 u26 u27 u28 u29 u30 u31 u32 u33 u34 u35 u36 u37 u38 u39 u40 u41 u42 u43 u44 u45 u46 u47 u48 u49 u51 u52 u53 u54 u55 u56 u57 u58 u59 u60 u61 u62 u63 u64 u65 u66 u67 u68 u69 u70 u71 u72 u73 u74 u75 u76 u77 u78 u79 u80 u81 u82 u83 u84 u85 u86 u87 u88 u89 u90 u91 u92 u93 u94 u95 u96 u97 u98 u99 u100 u101 u102 u103 u104 u105 u106 u107 u108 u109 u110 u111 u112 u113 u114 u115 u116 u117 u118 u119 u120 u121 u122 u123 u124 u125 u126 (hK hh)
  ·have hh:¬ hitC R m:=fun e=>by rcases e with e | e;exact h5 e.2;exact e.1 hg
   rw [show swC R m=R by unfold swC;rw [if_neg ho,if_neg hh],show swB R m=false by unfold swB;simp [ho,hh]]
   exact con_none_get h h5 u1 u2 u6 u7 u8 u9 u10 u11 u12 u13 u14 u15 u16 u17 u18 u19 u20 u21 u22 u23 u24 u25 u26 u27 u28 u29 u30 u31 u32 u33 u34 u35 u36 u37 u38 u39 u40 u41 u42 u43 u44 u45 u46 u47 u48 u49 u51 u52 u53 u54 u55 u56 u57 u58 u59 u60 u61 u62 u63 u64 u65 u66 u67 u68 u69 u70 u71 u72 u73 u74 u75 u76 u77 u78 u79 u80 u81 u82 u83 u84 u85 u86 u87 u88 u89 u90 u91 u92 u93 u94 u95 u96 u97 u98 u99 u100 u101 u102 u103 u104 u105 u106 u107 u108 u109 u110 u111 u112 u113 u114 u115 u116 u117 u118 u119 u120 u121 u122 u123 u124 u125 u126
 ·rw [show (R.ck == 3)=false from beq_eq_false_iff_ne.2 hg] at hK ⊢
  by_cases h3:m.k=3
  ·have ho:oldB R m:=⟨hg,h3⟩
   rw [show swC R m=end1C R 21 m.n [] by unfold swC;rw [if_pos ho],show swB R m=true by unfold swB;simp [ho]]
   exact con_old h hg h3 hd u1 u2 u6 u7 u8 u9 u10 u11 u12 u13 u14 u15 u16 u17 u18 u19 u20 u21 u22 u23 u24 u25 u26 u27 u28 u29 u30 u31 u32 u33 u34 u35 u36 u37 u38 u39 u40 u41 u42 u43 u44 u45 u46 u47 u48 u49 u51 u52 u53 u54 u55 u56 u57 u58 u59 u60 u61 u62 u63 u64 u65 u66 u67 u68 u69 u70 u71 u72 u73 u74 u75 u76 u77 u78 u79 u80 u81 u82 u83 u84 u85 u86 u87 u88 u89 u90 u91 u92 u93 u94 u95 u96 u97 u98 u99 u100 u101 u102 u103 u104 u105 u106 u107 u108 u109 u110 u111 u112 u113 u114 u115 u116 u117 u118 u119 u120 u121 u122 u123 u124 u125 u126
  ·have ho:¬ oldB R m:=fun e=>h3 e.2
   by_cases h2:m.k=2
   ·have hh:hitC R m:=.inr ⟨hg,h2⟩
    rw [show gotC R m=R by unfold gotC;rw [if_neg hg]] at hK
    exact con_done h h2 u1 u2 u6 u7 u8 u9 u10 u11 u12 u13 u14 u15 u16 u17 u18 u19 u20 u21 u22 u23 u24 u25 u26 u27 u28 u29 u30 u31 u32 u33 u34 u35 u36 u37 u38 u39 u40 u41 u42 u43 u44 u45 u46 u47 u48 u49 u51 u52 u53 u54 u55 u56 u57 u58 u59 u60 u61 u62 u63 u64 u65 u66 u67 u68 u69 u70 u71 u72 u73 u74 u75 u76 u77 u78 u79 u80 u81 u82 u83 u84 u85 u86 u87 u88 u89 u90 u91 u92 u93 u94 u95 u96 u97 u98 u99 u100 u101 u102 u103 u104 u105 u106 u107 u108 u109 u110 u111 u112 u113 u114 u115 u116 u117 u118 u119 u120 u121 u122 u123 u124 u125 u126 (hK hh)
   ·have hh:¬ hitC R m:=fun e=>by rcases e with e | e;exact hg e.1;exact h2 e.2
    rw [show swC R m=R by unfold swC;rw [if_neg ho,if_neg hh],show swB R m=false by unfold swB;simp [ho,hh]]
    exact con_none_put h h3 h2 u1 u2 u6 u7 u8 u9 u10 u11 u12 u13 u14 u15 u16 u17 u18 u19 u20 u21 u22 u23 u24 u25 u26 u27 u28 u29 u30 u31 u32 u33 u34 u35 u36 u37 u38 u39 u40 u41 u42 u43 u44 u45 u46 u47 u48 u49 u51 u52 u53 u54 u55 u56 u57 u58 u59 u60 u61 u62 u63 u64 u65 u66 u67 u68 u69 u70 u71 u72 u73 u74 u75 u76 u77 u78 u79 u80 u81 u82 u83 u84 u85 u86 u87 u88 u89 u90 u91 u92 u93 u94 u95 u96 u97 u98 u99 u100 u101 u102 u103 u104 u105 u106 u107 u108 u109 u110 u111 u112 u113 u114 u115 u116 u117 u118 u119 u120 u121 u122 u123 u124 u125 u126
set_option maxRecDepth 100000 in
set_option maxHeartbeats 600000 in
theorem con_at {w0 w:World} {b:Nat} {X:Nat→Prop} {R:Co} (h:CoO w0 w b X R) (m:Mg) (hm:m.rd w) (hmx:∀ a,m.A=some a→m.L ≠ []→¬ X a.block) (hml:m.L.length≤9223372036854775807) (k:CoK R) (hI:refC R m=false→hitC R m→R.cnt+1=R.n / 2+1→ItemsH b (gotC R m).G R.cs) :
 Calls Tryz.prog 421 #[.pointer (some ⟨b,0,none⟩),m.val] w (COnP w0 w b X (conR R m) (conB R m)):=by
 have HRD:=hide hm
 have HRX:=hide hmx
 have HH:=hide h
 have HK:=hide k
 have HIT:=hide hI
 obtain ⟨vg,va,hb0,_,_⟩:=h.row
 have hba:=below_alloc (Below.refl w.heap.size w) (.cells #[.int .i64 m.k,.int .i64 m.f,.int .i64 m.t,.int .u64 m.id,.int .u64 m.n,.slice m.A m.L.length m.c] 33)
 have hz:=heap_alloc_new w (.cells #[.int .i64 m.k,.int .i64 m.f,.int .i64 m.t,.int .u64 m.id,.int .u64 m.n,.slice m.A m.L.length m.c] 33)
 obtain ⟨wb,hwb⟩:∃ wb,w.alloc (.cells #[.int .i64 m.k,.int .i64 m.f,.int .i64 m.t,.int .u64 m.id,.int .u64 m.n,.slice m.A m.L.length m.c] 33)=wb:=⟨_,rfl⟩
 rw [hwb] at hba hz
 obtain ⟨gx,hgx⟩:∃ gx,w.heap.size=gx:=⟨_,rfl⟩
 rw [hgx] at hz
 have hb:=(hba.block b h.lt).trans hb0
 have lb:=(Array.getElem?_eq_some_iff.1 hb).1
 have lgx:=(Array.getElem?_eq_some_iff.1 hz).1
 obtain ⟨m0,m1,m2,m3,m4,m5⟩:=six_cells hz
 have r0:wb.cell? ⟨b,0,none⟩=some (.int .i64 R.n):=(cell_of_list (o:=0) hb).trans rfl
 have r1:wb.cell? ⟨b,1,none⟩=some (.int .i64 R.at_):=(cell_of_list (o:=1) hb).trans rfl
 have r2:wb.cell? ⟨b,2,none⟩=some (.int .u64 R.id):=(cell_of_list (o:=2) hb).trans rfl
 have r29:wb.cell? ⟨b,29,none⟩=some (.bool R.dn):=(cell_of_list (o:=29) hb).trans rfl
 have r3:wb.cell? ⟨b,3,none⟩=some (.int .i64 R.ck):=(cell_of_list (o:=3) hb).trans rfl
 have HMK:Hid (∀ s:Near wb,Calls Tryz.prog 25 #[m.val] s.at_ fun e w'=>e=.returned (.bool (mokB m))∧Below s.at_.heap.size s.at_ w'):=hide (fun s=>mok_any m s.at_ ((hm.below hba).below s.is).1 hml)
 unfold Mg.val at HMK
 have HWB:=hide hwb
 have HZ:=hide hz
 have HGX:=hide hgx
 have HBA:=hide hba
 have HR3:=hide r3
 clear h hba hz hwb hgx hm hmx k hI r3
 go_enter Tryz.func421,Tryz.ntmps421
 go_upto_region 1 with fail
 try rw [HWB.out]
 try rw [HGX.out]
 go_cut [50] (fun v W=>v=.bool (refC R m)∧Below wb.heap.size wb W)
 case first =>
  have rm0:=fun s:Near wb=>s.cell m0 lgx
  have rm1:=fun s:Near wb=>s.cell m1 lgx
  have rm2:=fun s:Near wb=>s.cell m2 lgx
  have rm3:=fun s:Near wb=>s.cell m3 lgx
  have rm4:=fun s:Near wb=>s.cell m4 lgx
  have rm5:=fun s:Near wb=>s.cell m5 lgx
  have rm1b:=rm1
  have rr0:=fun s:Near wb=>s.cell r0 lb
  have rr1:=fun s:Near wb=>s.cell r1 lb
  have rr2:=fun s:Near wb=>s.cell r2 lb
  by_cases hA:R.dn=true
  ·rw [hA] at r29
   have r29q:=fun s:Near wb=>s.cell r29 lb
   have HV:Hid (refC R m=true):=hide (by unfold refC;simp [*])
   clear hb hb0 hA
   refine wp_region_near (by kernel_rfl) (by kernel_rfl) ?_
   repeat (go_big_quiet_step ((first | (go_at_call 25;exact near_of (HMK.out _)))))
   refine wpQuiet_nil ?_
   intro _ hw'
   obtain ⟨s1,rfl⟩:=hw'
   go_wp2_with fail
   go_meet
   exact ⟨by rw [HV.out],s1.is⟩
  ·have hA:R.dn=false:=by simpa using hA
   rw [hA] at r29
   have r29q:=fun s:Near wb=>s.cell r29 lb
   by_cases hB:mokB m=false
   ·rw [hB] at HMK
    have HV:Hid (refC R m=true):=hide (by unfold refC;simp [*])
    clear hb hb0 hA hB
    refine wp_region_near (by kernel_rfl) (by kernel_rfl) ?_
    repeat (go_big_quiet_step ((first | (go_at_call 25;exact near_of (HMK.out _)))))
    refine wpQuiet_nil ?_
    intro _ hw'
    obtain ⟨s1,rfl⟩:=hw'
    go_wp2_with fail
    go_meet
    exact ⟨by rw [HV.out],s1.is⟩
   ·have hB:mokB m=true:=by simpa using hB
    rw [hB] at HMK
    by_cases hC:m.t=R.at_
    ·have dC:(m.t != R.at_)=false:=by simp [hC]
     by_cases hD:m.id=R.id
     ·have dD:(m.id != R.id)=false:=by simp [hD]
      by_cases hE:R.n≤m.f
      ·have dE:decide (R.n≤m.f)=true:=decide_eq_true hE
       have HV:Hid (refC R m=true):=hide (by unfold refC;simp [*])
       clear hb hb0 hA hB hC hD hE
       refine wp_region_near (by kernel_rfl) (by kernel_rfl) ?_
       repeat (go_big_quiet_step ((first | (go_at_call 25;exact near_of (HMK.out _)))))
       refine wpQuiet_nil ?_
       intro _ hw'
       obtain ⟨s1,rfl⟩:=hw'
       go_wp2_with fail
       go_meet
       exact ⟨by rw [HV.out],s1.is⟩
      ·have dE:decide (R.n≤m.f)=false:=decide_eq_false hE
       by_cases hF:R.C m.f.toNat=true
       ·have hV0:refC R m=true:=by unfold refC;simp [*]
        have HV:Hid (refC R m=true):=hide hV0
        obtain ⟨i,hi⟩:∃ i:Nat,m.f=(i:Int):=⟨m.f.toNat,by have:=(mokBf hB).1;omega⟩
        have hi7:i < 7:=by have:=(mokBf hB).2.1;omega
        have hit:m.f.toNat=i:=by omega
        rw [hit] at hF
        have rc:=(cell_of_list hb).trans (coL_C R 0 vg va hi7)
        rw [hF] at rc
        have rcq:=fun s:Near wb=>s.cell rc lb
        rw [hi] at HMK m1 rm1 rm1b dE
        have hi0:(0:Int)≤(i:Int):=by omega
        have hiI:(i:Int) < 7:=by omega
        clear hV0 hit hi hi7 rc
        clear hb hb0 hA hB hC hD hE hF
        refine wp_region_near (by kernel_rfl) (by kernel_rfl) ?_
        repeat (go_big_quiet_step ((first | (go_at_call 25;exact near_of (HMK.out _)))))
        refine wpQuiet_nil ?_
        intro _ hw'
        obtain ⟨s1,rfl⟩:=hw'
        go_wp2_with fail
        go_meet
        exact ⟨by rw [HV.out],s1.is⟩
       ·have hF:R.C m.f.toNat=false:=by simpa using hF
        have hV0:refC R m=false:=by unfold refC;simp [*]
        have HV:Hid (refC R m=false):=hide hV0
        obtain ⟨i,hi⟩:∃ i:Nat,m.f=(i:Int):=⟨m.f.toNat,by have:=(mokBf hB).1;omega⟩
        have hi7:i < 7:=by have:=(mokBf hB).2.1;omega
        have hit:m.f.toNat=i:=by omega
        rw [hit] at hF
        have rc:=(cell_of_list hb).trans (coL_C R 0 vg va hi7)
        rw [hF] at rc
        have rcq:=fun s:Near wb=>s.cell rc lb
        rw [hi] at HMK m1 rm1 rm1b dE
        have hi0:(0:Int)≤(i:Int):=by omega
        have hiI:(i:Int) < 7:=by omega
        clear hV0 hit hi hi7 rc
        clear hb hb0 hA hB hC hD hE hF
        refine wp_region_near (by kernel_rfl) (by kernel_rfl) ?_
        repeat (go_big_quiet_step ((first | (go_at_call 25;exact near_of (HMK.out _)))))
        refine wpQuiet_nil ?_
        intro _ hw'
        obtain ⟨s1,rfl⟩:=hw'
        go_wp2_with fail
        go_meet
        exact ⟨by rw [HV.out],s1.is⟩
     ·have dD:(m.id != R.id)=true:=by simp [hD]
      have HV:Hid (refC R m=true):=hide (by unfold refC;simp [*])
      clear hb hb0 hA hB hC hD
      refine wp_region_near (by kernel_rfl) (by kernel_rfl) ?_
      repeat (go_big_quiet_step ((first | (go_at_call 25;exact near_of (HMK.out _)))))
      refine wpQuiet_nil ?_
      intro _ hw'
      obtain ⟨s1,rfl⟩:=hw'
      go_wp2_with fail
      go_meet
      exact ⟨by rw [HV.out],s1.is⟩
    ·have dC:(m.t != R.at_)=true:=by simp [hC]
     have HV:Hid (refC R m=true):=hide (by unfold refC;simp [*])
     clear hb hb0 hA hB hC
     refine wp_region_near (by kernel_rfl) (by kernel_rfl) ?_
     repeat (go_big_quiet_step ((first | (go_at_call 25;exact near_of (HMK.out _)))))
     refine wpQuiet_nil ?_
     intro _ hw'
     obtain ⟨s1,rfl⟩:=hw'
     go_wp2_with fail
     go_meet
     exact ⟨by rw [HV.out],s1.is⟩
 case rest =>
  obtain ⟨rfl,hbw⟩:=hcut
  clear m0 m1 m2 m3 m4 m5 r0 r1 r2 r29 HMK hb0 hb
  have hr3:=keep_cell hbw HR3.out lb
  have lbc:=Nat.lt_of_lt_of_le lb hbw.size
  have HLOW:=hide (below_step HBA.out hbw)
  have HBO:Hid (wc.heap[gx]? = some (.cells #[.int .i64 m.k,.int .i64 m.f,.int .i64 m.t,.int .u64 m.id,.int .u64 m.n,.slice m.A m.L.length m.c] 33 (0,0))):=hide ((hbw.block gx lgx).trans HZ.out)
  clear hbw lb lgx
  cases hrb:refC R m with
  | true =>
   have HE:Hid (conR R m=R∧conB R m=false):=hide ⟨by unfold conR;rw [if_pos hrb],by unfold conB;rw [hrb];rfl⟩
   clear hrb
   go_wp2_with fail
   go_ret
   exact ⟨by rw [HE.out.2];rfl,by rw [HE.out.1];exact HH.out.wide HLOW.out,Sets.of (S:=X) HLOW.out⟩
  | false =>
   have HRB:=hide (refC_false hrb)
   have HE1:Hid (conR R m=swC R m):=hide (by unfold conR;rw [if_neg (by simp [hrb])])
   have HE2:Hid (conB R m=swB R m):=hide (by unfold conB;rw [hrb];rfl)
   have HIT:=hide (HIT.out hrb)
   clear hrb
   go_upto_block 0 with fail
   rw [HE1.out,HE2.out]
   obtain ⟨h1,h2⟩:=HRB.out
   obtain ⟨k1,k2,k3⟩:=mokBf h2
   have hxs:=HH.out.xs
   refine con_all (Y:=X) ⟨HH.out.below HLOW.out,HBO.out,Nat.le_of_eq HGX.out,HRD.out.below HLOW.out,HRX.out,Sets.of (S:=X) HLOW.out,fun g hg=>.inl hg,hxs,fun g hg e=>by have:=(hxs g hg).2;have:=HGX.out;omega,HH.out.low.size⟩ k3 HK.out (HK.out.d h1) _ _ _ _ _ _ _ _ _ _ _ _ _ _ _ _ _ _ _ _ _ _ _ _ _ _ _ _ _ _ _ _ _ _ _ _ _ _ _ _ _ _ _ _ _ _ _ _ _ _ _ _ _ _ _ _ _ _ _ _ _ _ _ _ _ _ _ _ _ _ _ _ _ _ _ _ _ _ _ _ _ _ _ _ _ _ _ _ _ _ _ _ _ _ _ _ _ _ _ _ _ _ _ _ _ _ _ _ _ _ _ _ _ _ _ _ _ _ _ _ _ _ ?_
   intro hh v57 v58 v59 v60 v61 v62 v63 v64 v65 v66 v67 v68 v69 v70 v71 v72 v73 v74 v75 v76 v77 v78 v79 v80 v81 v82 v83 v84 v85 v86 v87 v88 v89 v90 v91 v92 v93 v94 v95 v96 v97 W2 h
   obtain ⟨Y,h⟩:=h
   have e1:(gotC R m).n=R.n:=by unfold gotC;split <;> rfl
   have e2:(gotC R m).cnt=R.cnt:=by unfold gotC;split <;> rfl
   have e3:(gotC R m).d=R.d:=by unfold gotC;split <;> rfl
   have e4:(gotC R m).cs=R.cs:=by unfold gotC;split <;> rfl
   have ho:¬ oldB R m:=fun e=>by
    rcases hh with hq | hq
    ·exact e.1 hq.1
    ·have:=e.2;have:=hq.2;omega
   have g1:goC (gotC R m) m.f.toNat=conR R m:=by rw [HE1.out];unfold swC;rw [if_neg ho,if_pos hh]
   have g2:true=conB R m:=by rw [HE2.out];unfold swB;simp [hh]
   rename_i hKK
   refine hKK _ _ ?_
   rw [← g1,← g2]
   exact con_tail h ⟨k1,k2⟩ (by rw [e1];exact HK.out.n) (by rw [e2];exact HK.out.cnt) (by rw [e3];exact HK.out.d h1) (by rw [e1,e2,e4];exact HIT.out hh) _ _ _ _ _ _ _ _ _ _ _ _ _ _ _ _ _ _ _ _ _ _ _ _ _ _ _ _ _ _ _ _ _ _ _ _ _ _ _ _ _ _ _ _ _ _ _ _ _ _ _ _ _ _ _ _ _ _ _ _ _ _ _ _ _ _ _ _ _ _ _ _ _ _ _ _ _ _ _ _ _ _ _ _ _ _ _ _ _ _ _ _ _ _ _ _ _ _ _ _ _ _ _ _ _ _ _ _ _ _ _ _ _ _ _ _ _ _ _ _ _ _ _ _ _
end Go.Proofs.YtgmkckjedngkdaaGreatDoor
namespace Go.Proofs.YtgmkckjedngkdaaGreatDoor
open Go.ChangeShapes Go.WideShapes Go.ChangeAt Go.RowKit
def cntC (C:Nat→Bool):Nat→Nat
 | 0=>0
 | n+1=>cntC C n+(if C n=true then 1 else 0)
def setC (C:Nat→Bool) (i:Nat):Nat→Bool:=fun k=>if k=i then true else C k
theorem cntC_le (C:Nat→Bool):∀ n,cntC C n≤n
 | 0=>Nat.le_refl _
 | n+1=>by
  have:=cntC_le C n
  unfold cntC
  split <;> omega
theorem cntC_full {C:Nat→Bool}:∀ {n},(∀ j,j < n→C j=true)→cntC C n=n
 | 0,_=>rfl
 | n+1,h=>by
  unfold cntC
  rw [cntC_full (fun j hj=>h j (by omega)),if_pos (h n (by omega))]
theorem cntC_none (n:Nat):cntC (fun _=>false) n=0:=by
 induction n with
 | zero=>rfl
 | succ n ih=>unfold cntC;rw [ih];rfl
theorem cntC_far {C:Nat→Bool} {i:Nat}:∀ {n},n≤i→cntC (setC C i) n=cntC C n
 | 0,_=>rfl
 | n+1,h=>by
  unfold cntC
  rw [cntC_far (by omega)]
  have e:setC C i n=C n:=by unfold setC;rw [if_neg (by omega)]
  rw [e]
theorem cntC_set {C:Nat→Bool} {i:Nat}:∀ {n},i < n→C i=false→cntC (setC C i) n=cntC C n+1
 | n+1,hi,h=>by
  unfold cntC
  by_cases e:i=n
  ·subst e
   have e1:setC C i i=true:=by unfold setC;rw [if_pos rfl]
   rw [cntC_far (Nat.le_refl _),e1,h]
   simp
  ·rw [cntC_set (by omega) h]
   have e2:setC C i n=C n:=by unfold setC;rw [if_neg (fun h=>e h.symm)]
   rw [e2]
   omega
def coG (n:Nat) (a id k s t x v:Int) (C:Nat→Bool) (G:List Gt) (tk:Int):Co:=⟨n,a,id,k,s,t,x,v,C,cntC C n,G,tk,0,0,0,0,0,0,0,0,[],false⟩
theorem co0_coG (n:Nat) (a id k s t x v:Int):co0 n a id k s t x v=coG n a id k s t x v (fun _=>false) [] 0:=by
 unfold co0 coG
 rw [cntC_none]
 rfl
section
variable {n:Nat} {a id k s t x v:Int} {C:Nat→Bool} {G:List Gt} {tk:Int} {m:Mg} {i:Nat}
theorem coG_k (hn:1≤n∧n≤7) (hs:0≤s∧s≤255) (ht:0≤tk∧tk≤1000000) (hG:G.length≤1000):CoK (coG n a id k s t x v C G tk):=by
 have:=cntC_le C n
 exact ⟨show 1≤(n:Int)∧(n:Int)≤7 by omega,hs,show 0≤(cntC C n:Int)∧(cntC C n:Int)≤1000 by omega,ht,fun _=>rfl,hG⟩
theorem refC_hit (hm:mokB m=true) (ht:m.t=a) (hid:m.id=id) (hf:m.f=(i:Int)) (hi:i < n) (hc:C i=false):refC (coG n a id k s t x v C G tk) m=false:=by
 unfold refC coG
 have hit:m.f.toNat=i:=by omega
 simp only [Bool.or_eq_false_iff,Bool.not_eq_false',beq_iff_eq,decide_eq_false_iff_not]
 refine ⟨⟨⟨⟨⟨trivial,hm⟩,ht⟩,hid⟩,by rw [hf];omega⟩,by rw [hit];exact hc⟩
def gotL (k:Int) (G:List Gt) (m:Mg):List Gt:=if k=3 then G ++ [⟨m.n,none,0,m.L⟩] else G
theorem con_more (hk:(k=3∧m.k=5) ∨ (¬ k=3∧m.k=2)) (hm:mokB m=true) (ht:m.t=a) (hid:m.id=id) (hf:m.f=(i:Int)) (hi:i < n) (hc:C i=false) (hq:cntC C n+1 ≠ n / 2+1) :
 conR (coG n a id k s t x v C G tk) m=coG n a id k s t x v (setC C i) (gotL k G m) tk∧conB (coG n a id k s t x v C G tk) m=true:=by
 have hr:=refC_hit (k:=k) (s:=s) (t:=t) (x:=x) (v:=v) (G:=G) (tk:=tk) hm ht hid hf hi hc
 have hit:m.f.toNat=i:=by omega
 have hh:hitC (coG n a id k s t x v C G tk) m:=hk
 have ho:¬ oldB (coG n a id k s t x v C G tk) m:=fun e=>by
  have e1:¬ k=3:=e.1
  have e2:=e.2
  rcases hk with h | h
  ·exact e1 h.1
  ·omega
 refine ⟨?_,?_⟩
 ·unfold conR
  rw [if_neg (by simp [hr])]
  unfold swC
  rw [if_neg ho,if_pos hh,hit]
  have e0:gotC (coG n a id k s t x v C G tk) m=coG n a id k s t x v C (gotL k G m) tk:=by
   unfold gotC gotL
   by_cases h3:k=3
   ·rw [if_pos (show (coG n a id k s t x v C G tk).ck=3 from h3),if_pos h3];rfl
   ·rw [if_neg (show ¬ (coG n a id k s t x v C G tk).ck=3 from h3),if_neg h3]
  rw [e0]
  unfold goC
  rw [if_neg (show ¬ ((coG n a id k s t x v C (gotL k G m) tk).cnt+1=(coG n a id k s t x v C (gotL k G m) tk).n / 2+1) from by show ¬ ((cntC C n:Int)+1=(n:Int) / 2+1);omega)]
  unfold countC markC coG
  rw [cntC_set hi hc]
  rfl
 ·unfold conB swB
  rw [hr]
  simp [hh]
theorem con_ends (hk:(k=3∧m.k=5) ∨ (¬ k=3∧m.k=2)) (hm:mokB m=true) (ht:m.t=a) (hid:m.id=id) (hf:m.f=(i:Int)) (hi:i < n) (hc:C i=false) (hq:cntC C n+1=n / 2+1) :
 conR (coG n a id k s t x v C G tk) m=end1C (coG n a id k s t x v (setC C i) (gotL k G m) tk) 0 v (itemsC (gotL k G m) s)∧conB (coG n a id k s t x v C G tk) m=true:=by
 have hr:=refC_hit (k:=k) (s:=s) (t:=t) (x:=x) (v:=v) (G:=G) (tk:=tk) hm ht hid hf hi hc
 have hit:m.f.toNat=i:=by omega
 have hh:hitC (coG n a id k s t x v C G tk) m:=hk
 have ho:¬ oldB (coG n a id k s t x v C G tk) m:=fun e=>by
  have e1:¬ k=3:=e.1
  have e2:=e.2
  rcases hk with h | h
  ·exact e1 h.1
  ·omega
 refine ⟨?_,?_⟩
 ·unfold conR
  rw [if_neg (by simp [hr])]
  unfold swC
  rw [if_neg ho,if_pos hh,hit]
  have e0:gotC (coG n a id k s t x v C G tk) m=coG n a id k s t x v C (gotL k G m) tk:=by
   unfold gotC gotL
   by_cases h3:k=3
   ·rw [if_pos (show (coG n a id k s t x v C G tk).ck=3 from h3),if_pos h3];rfl
   ·rw [if_neg (show ¬ (coG n a id k s t x v C G tk).ck=3 from h3),if_neg h3]
  rw [e0]
  unfold goC
  rw [if_pos (show ((coG n a id k s t x v C (gotL k G m) tk).cnt+1=(coG n a id k s t x v C (gotL k G m) tk).n / 2+1) from by show ((cntC C n:Int)+1=(n:Int) / 2+1);omega)]
  have e1:countC (coG n a id k s t x v C (gotL k G m) tk) i=coG n a id k s t x v (setC C i) (gotL k G m) tk:=by
   unfold countC markC coG
   rw [cntC_set hi hc]
   rfl
  rw [e1]
  rfl
 ·unfold conB swB
  rw [hr]
  simp [hh]
theorem con_else (hk:¬ ((k=3∧m.k=5) ∨ (¬ k=3∧m.k=2))) (hk3:¬ (¬ k=3∧m.k=3)):conR (coG n a id k s t x v C G tk) m=coG n a id k s t x v C G tk∧conB (coG n a id k s t x v C G tk) m=false:=by
 have hh:¬ hitC (coG n a id k s t x v C G tk) m:=hk
 have ho:¬ oldB (coG n a id k s t x v C G tk) m:=hk3
 refine ⟨?_,?_⟩
 ·unfold conR swC
  rw [if_neg ho,if_neg hh]
  split <;> rfl
 ·unfold conB swB
  simp [hh,ho]
theorem ctick_more (h:tk+1 ≠ 20):ctickR (coG n a id k s t x v C G tk)=coG n a id k s t x v C G (tk+1):=by
 unfold ctickR
 rw [if_neg (by simp [coG]),if_neg (show ¬ ((coG n a id k s t x v C G tk).tk+1=20) from h)]
 rfl
theorem ctick_late (h:tk+1=20):ctickR (coG n a id k s t x v C G tk)=end1C (coG n a id k s t x v C G (tk+1)) 20 v []:=by
 unfold ctickR
 rw [if_neg (by simp [coG]),if_pos (show ((coG n a id k s t x v C G tk).tk+1=20) from h)]
 rfl
theorem filter_cnt (C:Nat→Bool):∀ n,((List.range n).filter fun j=>!C j).length+cntC C n=n
 | 0=>rfl
 | n+1=>by
  have h:=filter_cnt C n
  rw [List.range_succ,List.filter_append,List.length_append]
  unfold cntC
  cases hc:C n <;> simp [hc] <;> omega
end
def CoE (w0 w:World) (b:Nat) (R:Co):Prop:=∃ X,CoO w0 w b X R
theorem CoO.from {w00 w0 w:World} {b:Nat} {X:Nat→Prop} {R:Co} (h:CoO w0 w b X R) (hb:Below w00.heap.size w00 w0):CoO w00 w b X R :=
 ⟨h.row,⟨h.low.os.trans hb.os,h.low.tape.trans hb.tape,h.low.output.trans hb.output,Nat.le_trans hb.size h.low.size,fun i hi=>(h.low.block i (Nat.lt_of_lt_of_le hi hb.size)).trans (hb.block i hi)⟩,h.xb,fun g hg=>⟨Nat.le_trans hb.size (h.xs g hg).1,(h.xs g hg).2⟩⟩
theorem CoE.below {w0 w w':World} {b:Nat} {R:Co} (h:CoE w0 w b R) (hb:Below w.heap.size w w'):CoE w0 w' b R:=by
 obtain ⟨X,h⟩:=h
 exact ⟨X,h.below hb⟩
theorem CoE.low {w0 w:World} {b:Nat} {R:Co} (h:CoE w0 w b R):Below w0.heap.size w0 w:=by
 obtain ⟨X,h⟩:=h
 exact h.low
end Go.Proofs.YtgmkckjedngkdaaGreatDoor
namespace Go.Proofs.YtgmkckjedngkdaaGreatDoor
open Go.ChangeShapes Go.WideShapes Go.ChangeAt Go.RowKit
def CutO (base:Nat) (w:World) (v:Value) (L:List It):Prop:=Ow base w v L ∨ (L=[]∧∃ b:Addr,v=.slice (some b) 0 0)
theorem CutO.below {base:Nat} {w w':World} {v:Value} {L:List It} (h:CutO base w v L) (hb:Below w.heap.size w w'):CutO base w' v L:=h.imp (fun k=>OwnL.below k hb) id
theorem CutO.sl {base:Nat} {w:World} {v:Value} {L:List It} (h:CutO base w v L):Sl w v L:=by
 rcases h with h | ⟨rfl,b,rfl⟩
 ·exact h.og.sl
 ·exact ⟨some b,0,rfl,fun hne=>absurd rfl hne,Nat.le_refl _,Nat.zero_le _⟩
theorem append_cut (w:World) (b a:Addr) (y:It) (ha:∀ j v,(It.cells y)[j]? = some v→w.cell? (a.add j)=some v) :
 (Builtin.append_ #[31,31] 31 #[.slice (some b) 0 0,.slice (some a) 1 1]).run Tryz.prog w=(Builtin.append_ #[31,31] 31 #[.slice none 0 0,.slice (some a) 1 1]).run Tryz.prog w:=by
 obtain ⟨i0,hi,hz0,hz1,hz2⟩:=info_parts Tryz.infoItem
 rw [run_append_nil (P:=Tryz.prog) w 31 31 54 i0 _ Tryz.underlying31 hi hz0 a 1 1 (It.cells y) (by rw [hz1];rfl) ha (by omega) (by omega) (by rw [hz2];omega)]
 rw [run_append_grow (P:=Tryz.prog) w 31 31 54 i0 _ Tryz.underlying31 hi hz0 b 0 0 [] (by simp) (by simp) a 1 1 (It.cells y) (by rw [hz1];rfl) ha (by omega) (by omega) (by rw [hz2,show 0+1=1 from rfl,nextslicecap_zero (by omega)];omega)]
 simp
theorem wpList_append_cut {ops:Array Oper} {rest:List Oper} {o:Oper} {a:Act} {Q:Exit→Act→World→Prop} (hgd:o.guard=none) (s x:Operand)
 (ho:o.op=.call { callee:=.builtin .append,args:=#[s,x],argTypes:=#[31,31] }) (hty:o.type=31)
 (B base:Nat) (w0 w W:World) (v:Value) (L:List It) (y:It) (hs:a.eval s=v) (hx:a.eval x=.slice (some ⟨w.heap.size,0,none⟩) 1 1) (hW:W=w.alloc (.cells y.cells.toArray 54))
 (hown:CutO base w v L) (hb:Below B w0 w) (hB:B≤base) (hbase:base≤w.heap.size) (hn:L.length≤2199023255552)
 (h:∀ v' w',Ow base w' v' (L ++ [y])→Below B w0 w'→wpList Tryz.prog ops Q rest (a.put o.dst v') w'):wpList Tryz.prog ops Q (o :: rest) a W:=by
 rcases hown with hown | ⟨rfl,b,rfl⟩
 ·exact wpList_append_item hgd s x ho B base w0 w W v L y hs hx hW hown hb hB hbase hn (fun v' w' h1 h2 _=>h v' w' h1 h2)
 ·subst hW
  refine wpList_plain hgd fun K hK=>?_
  obtain ⟨i0,hi,hz0,hz1,hz2⟩:=info_parts Tryz.infoItem
  have hrow:RowAt It.cells 5 (w.alloc (.cells y.cells.toArray 54)) (some ⟨w.heap.size,0,none⟩) [y]:=RowAt.new_one (t:=54) (fr:=(0,0)) (heap_alloc_new w _)
  obtain ⟨v',w',hrun,h2,h3,h4⟩:=run_append_row (P:=Tryz.prog) (w.alloc (.cells y.cells.toArray 54)) base 31 31 54 i0 _ 5 40 Tryz.underlying31 hi hz0 hz1 hz2 rfl (by omega) It.cells_len (.slice none 0 0) [] (OwnL.nil_ _ _ _ _ _) (some ⟨w.heap.size,0,none⟩) 1 [y] hrow (by simp) (fun m _=>It.cells_one m) (by simp [maxLen]) (by simp) (by simp;omega)
  have hrun':(Builtin.append_ #[31,31] 31 #[.slice (some b) 0 0,.slice (some ⟨w.heap.size,0,none⟩) 1 1]).run Tryz.prog (w.alloc (.cells y.cells.toArray 54))=.ok v' w':=by
   rw [append_cut _ b ⟨w.heap.size,0,none⟩ y (fun j u hu=>by
    rw [Addr.add_lit,Nat.zero_add]
    exact (cell_of_row _ _ j _ _ _ (heap_alloc_new w (.cells y.cells.toArray 54))).trans (by simpa using hu))]
   exact hrun
  unfold Oper.wp execOp
  simp only [ho,hty,resolve,invoke,builtin,Sem.run_bind,Sem.run_pure,Result.andThen_ok,List.map_toArray,List.map_cons,List.map_nil,hs,hx,hrun']
  refine hK _ _ (h v' w' h2 ?_)
  have hb2:Below B w0 (w.alloc (.cells y.cells.toArray 54)):=hb.alloc (Nat.le_trans hB hbase) _
  exact hb2.grown h3 (by simp;omega) (fun k hk=>by cases hk)
theorem cert_snoc {N:List Gt} {k:Nat} (hk:k < N.length):certG ((N.map Gt.bare).take (k+1))=max (certG ((N.map Gt.bare).take k)) N[k].n:=by
 unfold certG
 have hk2:k < (N.map Gt.bare).length:=by simpa using hk
 rw [List.take_succ_eq_append_getElem hk2,List.foldl_append]
 simp [Gt.bare]
theorem take_bare (c:Int) (y:Gt):takeG c y.bare=takeG c y:=rfl
theorem join_snoc {N:List Gt} {k:Nat} (c:Int) (hk:k < N.length):joinG c ((N.map Gt.bare).take (k+1))=joinL (joinG c ((N.map Gt.bare).take k)) (takeG c N[k]):=by
 unfold joinG
 have hk2:k < (N.map Gt.bare).length:=by simpa using hk
 rw [List.take_succ_eq_append_getElem hk2,List.foldl_append]
 simp [take_bare]
theorem take_len (c:Int) (y:Gt):(takeG c y).length≤y.L.length:=by
 unfold takeG
 split
 ·exact List.length_filter_le _ _
 ·exact Nat.le_refl _
theorem joinG_len (c:Int):∀ (G:List Gt) (m:Nat),(∀ g ∈ G,g.L.length≤m)→(joinG c G).length≤G.length * m:=by
 intro G m
 unfold joinG
 suffices h:∀ (G:List Gt) (o:List It),(∀ g ∈ G,g.L.length≤m)→(G.foldl (fun o g=>joinL o (takeG c g)) o).length≤o.length+G.length * m by
  intro hG
  have:=h G [] hG
  simpa using this
 intro G
 induction G with
 | nil=>intro o _;simp
 | cons g G ih =>
  intro o hG
  rw [List.foldl_cons]
  have h1:=ih (joinL o (takeG c g)) (fun x hx=>hG x (List.mem_cons_of_mem _ hx))
  have h2:=joinL_len o (takeG c g)
  have h3:=take_len c g
  have h4:=hG g (List.mem_cons_self ..)
  rw [List.length_cons,Nat.succ_mul]
  omega
theorem gt_row {w w':World} {A:Option Addr} {M:List Gt} (h:RowAt Gt.cells 2 w A M) (hb:Below w.heap.size w w') {k:Nat} (hk:k < M.length) :
 ∃ g off,A=some ⟨g,off,none⟩∧g < w.heap.size∧w'.cell? ⟨g,off+k * 2,none⟩=some (.int .u64 (M[k]).n)∧w'.cell? ⟨g,off+k * 2+1,none⟩=some (.slice (M[k]).A (M[k]).L.length (M[k]).c):=by
 obtain ⟨g,off,rfl,hlt,hc⟩:=h.at_ hk
 have hx:∀ j u,(Gt.cells M[k])[j]? = some u→w'.cell? ⟨g,off+k * 2+j,none⟩=some u:=fun j u hu=>keep_cell hb (hc k hk j u hu) hlt
 exact ⟨g,off,rfl,hlt,by simpa using hx 0 _ rfl,hx 1 _ rfl⟩
set_option maxRecDepth 100000 in
set_option maxHeartbeats 6400000 in
theorem citems_any {b:Nat} {G:List Gt} {s:Int} (hG:G.length≤1000) (hL:∀ g ∈ G,g.L.length≤1000000):ItemsH b G s:=by
 intro w m X vg R hRG hRs hb hcg
 have lb:=(Array.getElem?_eq_some_iff.1 hb).1
 obtain ⟨N,hN,how,hrd,_⟩:=hcg.row
 obtain ⟨Ag,cg,rfl,hrow,_,_,_⟩:=OwnL.row Gt.cells_len how
 have c16:w.cell? ⟨b,16,none⟩=some (.slice Ag N.length cg):=(cell_of_list (o:=16) hb).trans rfl
 have c4:w.cell? ⟨b,4,none⟩=some (.int .i64 s):=by rw [← hRs];exact (cell_of_list (o:=4) hb).trans rfl
 obtain ⟨n,hn⟩:∃ n,N.length=n:=⟨_,rfl⟩
 have hn1000:n≤1000:=by
  have h1:=congrArg List.length hN
  rw [List.length_map] at h1
  omega
 have HNL:=hide hn
 have HN:=hide hN
 have HROW:=hide hrow
 have HRD:=hide hrd
 have HLL:Hid (∀ y ∈ N,y.L.length≤1000000):=hide (fun y hy=>hL y.bare (by rw [← hN];exact List.mem_map_of_mem hy))
 have HLG:=hide hL
 have HCC:Hid (∀ W,Below w.heap.size w W→W.cell? ⟨b,16,none⟩=some (.slice Ag N.length cg)∧W.cell? ⟨b,4,none⟩=some (.int .i64 s)∧b < W.heap.size):=hide (fun W hW=>⟨keep_cell hW c16 lb,keep_cell hW c4 lb,Nat.lt_of_lt_of_le lb hW.size⟩)
 rw [hn] at c16 HCC
 clear hRG hRs hb hcg hN how hrd hrow hG hL hn
 go_enter Tryz.func419,Tryz.ntmps419
 go_upto_block 0 with fail
 go_cut [3] (fun v W=>v=.int .u64 (certG G)∧Below w.heap.size w W)
 case first =>
  go_wp2_with fail
  go_loopw [3,17] (fun v i wr=>∃ k:Nat,k≤n∧i=.int .i64 k∧v=.int .u64 (certG (G.take k))∧Below w.heap.size w wr) (fun _ i _=>n - (intOf i).toNat)
  case atStart=>exact ⟨0,by omega,rfl,rfl,Below.refl _ _⟩
  case round =>
   obtain ⟨k,hk,rfl,rfl,hbr⟩:=hrel
   have HB:=hide hbr
   clear hbr
   by_cases hlt:k < n
   ·have hkI:(k:Int) < (n:Int):=by omega
    have hk0:(0:Int)≤(k:Int):=by omega
    have hkN:k < N.length:=by rw [HNL.out];exact hlt
    obtain ⟨g,off,rfl,hgl,y0,y1⟩:=gt_row HROW.out HB.out hkN
    have hsn:=cert_snoc hkN
    rw [HN.out] at hsn
    have lgr:g < wr.heap.size:=Nat.lt_of_lt_of_le hgl HB.out.size
    generalize N[k]=y at *
    obtain ⟨ce,hce⟩:∃ ce,certG (G.take k)=ce:=⟨_,rfl⟩
    rw [hce] at hsn ⊢
    clear hce
    by_cases hc:y.n < ce
    ·have hc2:¬ ce < y.n:=by omega
     have HS:Hid (certG (G.take (k+1))=ce):=hide (by rw [hsn];omega)
     clear hsn
     go_wp2_with fail
     go_roundw
     case rel=>exact ⟨k+1,by omega,by go_num,by rw [HS.out];try (congr 1;omega),below_alloc HB.out _⟩
     case measure=>(simp [intOf] <;> omega)
    ·have HS:Hid (certG (G.take (k+1))=y.n):=hide (by rw [hsn];omega)
     clear hsn
     by_cases hc2:ce < y.n
     ·go_wp2_with fail
      go_roundw
      case rel=>exact ⟨k+1,by omega,by go_num,by rw [HS.out];try (congr 1;omega),below_alloc HB.out _⟩
      case measure=>(simp [intOf] <;> omega)
     ·obtain rfl:ce=y.n:=by omega
      go_wp2_with fail
      go_roundw
      case rel=>exact ⟨k+1,by omega,by go_num,by rw [HS.out];try (congr 1;omega),below_alloc HB.out _⟩
      case measure=>(simp [intOf] <;> omega)
   ·obtain rfl:n=k:=by omega
    have hkI:¬ (n:Int) < (n:Int):=by omega
    have HS:Hid (G.take n=G):=hide (by rw [← HN.out];rw [← HNL.out];exact List.take_of_length_le (by simp))
    go_wp2_with fail
    go_meet
    exact ⟨by rw [HS.out],HB.out⟩
 case rest =>
 obtain ⟨rfl,hbw⟩:=hcut
 obtain ⟨ce,hce⟩:∃ ce,certG G=ce:=⟨_,rfl⟩
 have HCE:=hide hce
 have HBW:=hide hbw
 rw [hce]
 obtain ⟨d16,d4,lb2⟩:=HCC.out _ hbw
 clear hce hbw c16 c4 lb
 go_upto_block 2 with fail
 go_cut [6] (fun v W=>Sl W v (joinG ce G)∧Below w.heap.size w W)
 case first =>
  go_wp2_with fail
  go_loopw [6,31] (fun v i wr=>∃ k:Nat,k≤n∧i=.int .i64 k∧Sl wr v (joinG ce (G.take k))∧Below w.heap.size w wr) (fun _ i _=>n - (intOf i).toNat)
  case atStart=>exact ⟨0,by omega,rfl,Sl.nil_ _,HBW.out⟩
  case round =>
   obtain ⟨k,hk,rfl,hsl,hbr⟩:=hrel
   have HB:=hide hbr
   have HSL:=hide hsl
   clear hbr hsl d16 d4 lb2
   by_cases hlt:k < n
   ·have hkI:(k:Int) < (n:Int):=by omega
    have hk0:(0:Int)≤(k:Int):=by omega
    have hkN:k < N.length:=by rw [HNL.out];exact hlt
    obtain ⟨g,off,rfl,hgl,y0,y1⟩:=gt_row HROW.out HB.out hkN
    have HSN:=hide (join_snoc ce hkN)
    rw [HN.out] at HSN
    have lgr:g < wr.heap.size:=Nat.lt_of_lt_of_le hgl HB.out.size
    have HYR:=hide ((HRD.out N[k] (List.getElem_mem _)).below HB.out)
    have HYL:=hide (HLL.out N[k] (List.getElem_mem _))
    have HJL:Hid ((joinG ce (G.take k)).length≤1000000000):=hide (by
     have h1:=joinG_len ce (G.take k) 1000000 (fun x hx=>HLG.out x (List.mem_of_mem_take hx))
     have h2:(G.take k).length≤1000:=by rw [List.length_take];omega
     have h3:=Nat.mul_le_mul_right 1000000 h2
     omega)
    generalize N[k]=y at *
    generalize joinG ce (G.take k)=J at *
    have hza:=heap_alloc_new wr (.cells #[.int .u64 y.n,.slice y.A y.L.length y.c] 486)
    have hba:=below_alloc (Below.refl wr.heap.size wr) (.cells #[.int .u64 y.n,.slice y.A y.L.length y.c] 486)
    obtain ⟨wa,hwa⟩:∃ wa,wr.alloc (.cells #[.int .u64 y.n,.slice y.A y.L.length y.c] 486)=wa:=⟨_,rfl⟩
    rw [hwa] at hza hba
    obtain ⟨ga,hga⟩:∃ ga,wr.heap.size=ga:=⟨_,rfl⟩
    rw [hga] at hza
    have HWA:=hide hwa
    have HGA:=hide hga
    have HBA:=hide hba
    have lga:=(Array.getElem?_eq_some_iff.1 hza).1
    have x0:wa.cell? ⟨ga,0,none⟩=some (.int .u64 y.n):=(cell_of_row _ _ 0 _ _ _ hza).trans rfl
    have x1:wa.cell? ⟨ga,1,none⟩=some (.slice y.A y.L.length y.c):=(cell_of_row _ _ 1 _ _ _ hza).trans rfl
    clear hwa hba hga hza
    go_upto_region 11 with fail
    try rw [HWA.out]
    try rw [HGA.out]
    clear y0 y1
    go_upto_if 40 with fail
    go_cut [9] (fun v W=>Sl W v (takeG ce y)∧Below wa.heap.size wa W)
    case first =>
     by_cases hc:y.n < ce
     ·have HT:Hid (takeG ce y=y.L.filter (fun z=>decide (ce < z.v))):=hide (by unfold takeG;rw [if_pos hc])
      have hcI:decide (y.n < ce)=true:=decide_eq_true hc
      rw [hcI]
      have HYA:=hide (HYR.out.1.below HBA.out)
      have hyl:y.L.length≤1000000:=HYL.out
      obtain ⟨A,hA⟩:∃ A,y.A=A:=⟨_,rfl⟩
      obtain ⟨cc,hcc⟩:∃ cc,y.c=cc:=⟨_,rfl⟩
      rw [hA,hcc] at x1
      rw [hA] at HYA
      try rw [hA]
      try rw [hcc]
      have hcc2:y.L.length≤cc:=by rw [← hcc];exact HYR.out.2.1
      have HCUT:Hid (CutO wa.heap.size wa (.slice A 0 0) []):=hide (by
       cases A with
       | none=>exact .inl (Ow.nil_ _ _)
       | some a=>exact .inr ⟨rfl,a,rfl⟩)
      generalize y.L=L at *
      clear hA hcc
      have hcc0:(0:Int)≤(cc:Int):=by omega
      go_wp2_with fail
      obtain ⟨wo,rfl⟩:∃ wo,wo=wr:=⟨_,rfl⟩
      go_loopw [9,46] (fun v j ww=>∃ q:Nat,q≤L.length∧j=.int .i64 q∧CutO wa.heap.size ww v ((L.take q).filter (fun z=>decide (ce < z.v)))∧Below wa.heap.size wa ww) (fun _ j _=>L.length - (intOf j).toNat)
      case atStart=>exact ⟨0,by omega,rfl,HCUT.out,Below.refl _ _⟩
      case round =>
       obtain ⟨q,hq,rfl,hcu,hbq⟩:=hrel
       obtain ⟨ww,rfl⟩:∃ ww,ww=wr:=⟨_,rfl⟩
       have HCU:=hide hcu
       have HBQ:=hide hbq
       clear hcu hbq HCUT
       by_cases hql:q < L.length
       ·have hqI:(q:Int) < (L.length:Int):=by omega
        have hq0:(0:Int)≤(q:Int):=by omega
        obtain ⟨bl,ofs,rfl,hbb,z0,z1,z2,z3,z4⟩:=ItemsAt.item HYA.out HBQ.out hql
        have HF1:=hide (filt_in (p:=fun z=>decide (ce < z.v)) hql)
        have HF2:=hide (filt_out (p:=fun z=>decide (ce < z.v)) hql)
        have hNl:((L.take q).filter (fun z=>decide (ce < z.v))).length≤q:=filt_len _ _ _
        have lbl:bl < ww.heap.size:=Nat.lt_of_lt_of_le hbb HBQ.out.size
        generalize L[q]=z at *
        generalize (L.take q).filter (fun z=>decide (ce < z.v))=Nq at *
        have hzi:=heap_alloc_new ww (.cells #[.int .i64 z.s,.int .i64 z.k,.int .u64 z.t,.int .u64 z.v,.int .i64 z.x] 54)
        have hbi:=below_alloc (Below.refl ww.heap.size ww) (.cells #[.int .i64 z.s,.int .i64 z.k,.int .u64 z.t,.int .u64 z.v,.int .i64 z.x] 54)
        obtain ⟨wi,hwi⟩:∃ wi,ww.alloc (.cells #[.int .i64 z.s,.int .i64 z.k,.int .u64 z.t,.int .u64 z.v,.int .i64 z.x] 54)=wi:=⟨_,rfl⟩
        rw [hwi] at hzi hbi
        obtain ⟨gi,hgi⟩:∃ gi,ww.heap.size=gi:=⟨_,rfl⟩
        rw [hgi] at hzi
        have HWI:=hide hwi
        have HGI:=hide hgi
        have HBI:=hide (below_step HBQ.out hbi)
        have HCI:=hide (HCU.out.below hbi)
        have lgi:=(Array.getElem?_eq_some_iff.1 hzi).1
        obtain ⟨v0,v1,v2,v3,v4⟩:=box_item (x:=z) hzi
        clear hwi hbi hgi hzi
        by_cases hv:ce < z.v
        ·have HN:=hide (HF1.out (decide_eq_true hv))
         have hvI:decide (ce < z.v)=true:=decide_eq_true hv
         go_upto_region 17 with fail
         try rw [HWI.out]
         try rw [HGI.out]
         clear z0 z1 z2 z3 z4
         go_wp2_with (at_builtin;refine wpList_append_cut rfl (.tmp 54) (.tmp 56) rfl rfl _ _ _ _ _ _ Nq z rfl rfl rfl HCI.out HBI.out (Nat.le_refl _) HBI.out.size (by omega) ?_;intro v1 u1 ho1 hbu1;have HO1:=hide ho1;have HBU1:=hide hbu1;clear ho1 hbu1)
         go_roundw
         case rel=>exact ⟨q+1,by omega,by go_num,.inl (by rw [HN.out];exact HO1.out),HBU1.out⟩
         case measure=>(simp [intOf] <;> omega)
        ·have HN:=hide (HF2.out (decide_eq_false hv))
         have hvI:decide (ce < z.v)=false:=decide_eq_false hv
         go_upto_region 17 with fail
         try rw [HWI.out]
         try rw [HGI.out]
         clear z0 z1 z2 z3 z4
         go_wp2_with fail
         go_roundw
         case rel=>exact ⟨q+1,by omega,by go_num,by rw [HN.out];exact HCI.out,HBI.out⟩
         case measure=>(simp [intOf] <;> omega)
       ·obtain rfl:q=L.length:=by omega
        have hqI:¬ (L.length:Int) < (L.length:Int):=by omega
        have HF:=hide (filt_all (fun z=>decide (ce < z.v)) L)
        go_wp2_with fail
        go_meet
        exact ⟨by rw [HT.out,← HF.out];exact HCU.out.sl,HBQ.out⟩
     ·have HT:Hid (takeG ce y=y.L):=hide (by unfold takeG;rw [if_neg hc])
      go_wp2_with fail
      go_meet
      exact ⟨by rw [HT.out];exact Sl.mk_ (HYR.out.1.below HBA.out) HYR.out.2.1 HYR.out.2.2,Below.refl _ _⟩
    case rest =>
     obtain ⟨hs9,hb9⟩:=hcut
     have hb9r:=below_step HBA.out hb9
     have hJN:=HJL.out
     have htl:=take_len ce y
     have hyl:=HYL.out
     have HJ:=hide (pjoin_sl (HSL.out.below hb9r) hs9 (by omega) (by omega))
     have HB9:=hide (below_step HB.out hb9r)
     clear hs9 hb9 hb9r x0 x1 lga
     go_wp2_with fail
     refine (Calls.mono HJ.out ?_);rintro e w5 ⟨v5,rfl,ho5,hb5⟩
     have HS5:=hide ho5.sl
     have HB5:=hide (below_step HB9.out hb5)
     clear ho5 hb5 HJ
     go_wp2_with fail
     go_roundw
     case rel=>exact ⟨k+1,by omega,by go_num,by rw [HSN.out];exact HS5.out,HB5.out⟩
     case measure=>(simp [intOf] <;> omega)
   ·obtain rfl:n=k:=by omega
    have hkI:¬ (n:Int) < (n:Int):=by omega
    have HS:Hid (G.take n=G):=hide (by rw [← HN.out];rw [← HNL.out];exact List.take_of_length_le (by simp))
    rw [HS.out] at HSL
    go_wp2_with fail
    go_meet
    exact ⟨HSL.out,HB.out⟩
 case rest =>
 obtain ⟨hsl,hb2⟩:=hcut
 have HB2:=hide hb2
 obtain ⟨e16,e4,lb3⟩:=HCC.out _ hb2
 have hJl:(joinG ce G).length≤1000000000:=by
  have h1:=joinG_len ce G 1000000 HLG.out
  have h2:G.length≤1000:=by rw [← HN.out,List.length_map,HNL.out];exact hn1000
  have h3:=Nat.mul_le_mul_right 1000000 h2
  omega
 have HIC:Hid (itemsC G s=(joinG ce G).filter (serP s)):=hide (by unfold itemsC;rw [HCE.out])
 generalize joinG ce G=J at *
 obtain ⟨A,c,rfl,hr,h1,h2⟩:=hsl
 have HSE:=hide (pseries_any A c J s _ hr (by omega))
 clear hr h1 h2 hb2 d16 d4 lb2 e16
 go_wp2_with fail
 refine (Calls.mono HSE.out ?_);rintro e w5 ⟨v5,rfl,ho5,hb5⟩
 obtain ⟨A5,c5,rfl,_,_,_⟩:=ho5.sl
 have HO5:=hide ho5
 have HB5:=hide (below_step HB2.out hb5)
 clear ho5 hb5 HSE
 go_wp2_with fail
 go_ret
 exact ⟨_,rfl,by rw [HIC.out];exact HO5.out.base_ HB2.out.size,HB5.out⟩
end Go.Proofs.YtgmkckjedngkdaaGreatDoor
