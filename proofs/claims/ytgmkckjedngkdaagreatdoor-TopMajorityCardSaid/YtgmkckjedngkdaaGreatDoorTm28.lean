/- A part of the proof that TopMajorityLaw holds: XCoE, XCoT, XCoP. Conditions: as typed. -/
import Derived.Test.YtgmkckjedngkdaaGreatDoorTm13
import Derived.Test.YtgmkckjedngkdaaGreatDoorTm27
set_option linter.unusedVariables false
set_option linter.unusedSimpArgs false
namespace Go.Proofs.YtgmkckjedngkdaaGreatDoor
open Go.ChangeShapes Go.WideShapes Go.ChangeAt Go.RowKit
theorem al3r (w:World) (o1 o2 o3:Obj) (w4:World) (h4:((w.alloc o1).alloc o2).alloc o3=w4):w4.heap[w.heap.size]? = some o1∧w4.heap[w.heap.size+1]? = some o2∧w4.heap[w.heap.size+2]? = some o3∧Below w.heap.size w w4:=by
 have s1:(w.alloc o1).heap.size=w.heap.size+1:=by simp
 have g1:=heap_alloc_new w o1
 have b1:=below_alloc (Below.refl w.heap.size w) o1
 generalize w.alloc o1=w1 at *
 have s2:(w1.alloc o2).heap.size=w1.heap.size+1:=by simp
 have g2:=heap_alloc_new w1 o2
 have b2:=below_alloc (Below.refl w1.heap.size w1) o2
 generalize w1.alloc o2=w2 at *
 have g3:=heap_alloc_new w2 o3
 have b3:=below_alloc (Below.refl w2.heap.size w2) o3
 generalize w2.alloc o3=w3 at *
 subst h4
 rw [s2,s1] at g3
 rw [s1] at g2
 exact ⟨(b3.block _ (by omega)).trans ((b2.block _ (by omega)).trans g1),(b3.block _ (by omega)).trans g2,g3,below_step (below_step b1 b2) b3⟩
def midC (R:Co) (ee ver:Int):Co:={ R with aid:=R.id,ack:=R.ck,acs:=R.cs,act:=R.ct,acv:=R.cv,ae:=ee,av:=ver,AL:=[] }
def endC (R:Co) (ee ver:Int) (L:List It):Co:={ midC R ee ver with AL:=L,dn:=true }
def endA (ee:Int) (LI:List It):List It:=if ee=0 then LI else []
theorem mid_set {w:World} {b:Nat} {R:Co} {m:Int} {vg va:Value} (ee ver:Int) (h:w.heap[b]? = some (.cells (coL R m vg va).toArray 190 (0,0))) :
 ((((((((w.setCell ⟨b,21,none⟩ (.int .u64 R.id)).setCell ⟨b,22,none⟩ (.int .i64 R.ck)).setCell ⟨b,23,none⟩ (.int .i64 R.cs)).setCell ⟨b,24,none⟩ (.int .u64 R.ct)).setCell ⟨b,25,none⟩ (.int .i64 R.cv)).setCell ⟨b,26,none⟩ (.int .i64 ee)).setCell ⟨b,27,none⟩ (.int .u64 ver)).setCell ⟨b,28,none⟩ (.slice none 0 0)).heap[b]? = some (.cells (coL (midC R ee ver) m vg (.slice none 0 0)).toArray 190 (0,0)) :=
 set_of_list (o:=28) (set_of_list (o:=27) (set_of_list (o:=26) (set_of_list (o:=25) (set_of_list (o:=24) (set_of_list (o:=23) (set_of_list (o:=22) (set_of_list (o:=21) h (.int .u64 R.id)) (.int .i64 R.ck)) (.int .i64 R.cs)) (.int .u64 R.ct)) (.int .i64 R.cv)) (.int .i64 ee)) (.int .u64 ver)) (.slice none 0 0)
set_option maxRecDepth 100000 in
set_option maxHeartbeats 3200000 in
theorem cend_clos {w:World} {b x:Nat} {X:Nat→Prop} {R:Co} {vg va:Value} {LI:List It} {m:Int} (ee ver:Int) (hb:w.heap[b]? = some (.cells (coL R m vg va).toArray 190 (0,0))) (hx0:w.heap[x]? = some (.cells #[.pointer (some ⟨b,0,none⟩)] 111 (0,0))) (hx1:w.heap[x+1]? = some (.cells #[.int .i64 ee] 26 (0,0))) (hx2:w.heap[x+2]? = some (.cells #[.int .u64 ver] 29 (0,0))) (hbx:b < x) (hg:CoG w b X vg R.G) (hI:ee=0→∀ (W:World) (m:Int),W.heap[b]? = some (.cells (coL (midC R ee ver) m vg (.slice none 0 0)).toArray 190 (0,0))→CoG W b X vg R.G→Calls Tryz.prog 419 #[.pointer (some ⟨b,0,none⟩)] W fun e w'=>∃ v,e=.returned v∧Og W.heap.size w' v LI∧Below W.heap.size W w') :
 Calls Tryz.prog 418 #[.pointer (some ⟨x,0,none⟩),.pointer (some ⟨x+1,0,none⟩),.pointer (some ⟨x+2,0,none⟩)] w fun e w'=>e=.returned (.tuple #[])∧(∃ va',w'.heap[b]? = some (.cells (coL (endC R ee ver (endA ee LI)) m vg va').toArray 190 (0,0))∧Sl w' va' (endA ee LI)∧∀ g,va'.ownBlock=some g→w.heap.size≤g∧g < w'.heap.size)∧Sets (fun g=>g=b) w w':=by
 have l0:=(Array.getElem?_eq_some_iff.1 hx0).1
 have l1:=(Array.getElem?_eq_some_iff.1 hx1).1
 have l2:=(Array.getElem?_eq_some_iff.1 hx2).1
 have lb:=(Array.getElem?_eq_some_iff.1 hb).1
 have HC:Hid (∀ W:World,Below w.heap.size w W→W.cell? ⟨x,0,none⟩=some (.pointer (some ⟨b,0,none⟩))∧W.cell? ⟨x+1,0,none⟩=some (.int .i64 ee)∧W.cell? ⟨x+2,0,none⟩=some (.int .u64 ver)∧W.cell? ⟨b,2,none⟩=some (.int .u64 R.id)∧W.cell? ⟨b,3,none⟩=some (.int .i64 R.ck)∧W.cell? ⟨b,4,none⟩=some (.int .i64 R.cs)∧W.cell? ⟨b,5,none⟩=some (.int .u64 R.ct)∧W.cell? ⟨b,6,none⟩=some (.int .i64 R.cv)):=hide (fun W hW=>by
  have hk:=(hW.block _ lb).trans hb
  exact ⟨(cell_of_row _ _ 0 _ _ _ ((hW.block _ l0).trans hx0)).trans rfl,(cell_of_row _ _ 0 _ _ _ ((hW.block _ l1).trans hx1)).trans rfl,(cell_of_row _ _ 0 _ _ _ ((hW.block _ l2).trans hx2)).trans rfl,(cell_of_list (o:=2) hk).trans rfl,(cell_of_list (o:=3) hk).trans rfl,(cell_of_list (o:=4) hk).trans rfl,(cell_of_list (o:=5) hk).trans rfl,(cell_of_list (o:=6) hk).trans rfl⟩)
 obtain ⟨ud,hud⟩:∃ ud,w.drew=ud:=⟨_,rfl⟩
 have HUD:Hid (Below w.heap.size w ud):=hide (by rw [← hud];exact (Below.refl _ _).drew)
 have hbu:ud.heap[b]? = some (.cells (coL R m vg va).toArray 190 (0,0)):=by rw [← hud];exact hb
 have HCL:Hid (ud.cell? ⟨b,21,none⟩=some (.int .u64 R.aid)∧ud.cell? ⟨b,22,none⟩=some (.int .i64 R.ack)∧ud.cell? ⟨b,23,none⟩=some (.int .i64 R.acs)∧ud.cell? ⟨b,24,none⟩=some (.int .u64 R.act)∧ud.cell? ⟨b,25,none⟩=some (.int .i64 R.acv)∧ud.cell? ⟨b,26,none⟩=some (.int .i64 R.ae)∧ud.cell? ⟨b,27,none⟩=some (.int .u64 R.av)∧ud.cell? ⟨b,28,none⟩=some (va)):=hide
  ⟨(cell_of_list (o:=21) hbu).trans rfl,(cell_of_list (o:=22) hbu).trans rfl,(cell_of_list (o:=23) hbu).trans rfl,(cell_of_list (o:=24) hbu).trans rfl,(cell_of_list (o:=25) hbu).trans rfl,(cell_of_list (o:=26) hbu).trans rfl,(cell_of_list (o:=27) hbu).trans rfl,(cell_of_list (o:=28) hbu).trans rfl⟩
 have HFZ:Hid (∀ o,ud.frozen? ⟨b,o,none⟩=false):=hide (fun o=>by simp [World.frozen?,hbu])
 have HBU:=hide hbu
 have HUW:=hide hud
 have HXL:Hid (x < ud.heap.size):=hide (Nat.lt_of_lt_of_le l0 HUD.out.size)
 have HXL1:Hid (x+1 < ud.heap.size):=hide (Nat.lt_of_lt_of_le l1 HUD.out.size)
 have HG:=hide (hg.sets (Sets.of (S:=fun _=>False) HUD.out) (fun g _ _ h=>h))
 have HIT:=hide hI
 have HLB0:=hide lb
 clear hb hx0 hx1 hx2 l0 l1 l2 lb hbu hud hg hI
 go_enter Tryz.func418,Tryz.ntmps418
 go_upto_region 0 with fail
 refine j_startD [14] HUW.out (by kernel_rfl) ?_
 refine' j_t 0 [12,13,14] rfl (by kernel_rfl) rfl ?y0 ?r0
 case y0=>(intro w' hw';obtain ⟨j0,j1,j2,j3,j4,j5,j6,j7⟩:=HC.out _ (below_step HUD.out hw');go_simp;try with_reducible rfl)
 try go_frame
 refine' j_t 1 [2,3,4,11,12,13,14] rfl (by kernel_rfl) rfl ?y1 ?r1
 case y1=>(intro w' hw';obtain ⟨j0,j1,j2,j3,j4,j5,j6,j7⟩:=HC.out _ (below_step HUD.out hw');go_simp;try with_reducible rfl)
 try go_frame
 refine' j_t 2 [3,4,11,12,13,14] rfl (by kernel_rfl) rfl ?y2 ?r2
 case y2=>(intro w' hw';go_simp;try with_reducible rfl)
 try go_frame
 refine' j_t 3 [4,11,12,13,14] rfl (by kernel_rfl) rfl ?y3 ?r3
 case y3=>(intro w' hw';go_simp;try with_reducible rfl)
 try go_frame
 refine' j_t 4 [11,12,13,14] rfl (by kernel_rfl) rfl ?y4 ?r4
 case y4=>(intro w' hw';obtain ⟨j0,j1,j2,j3,j4,j5,j6,j7⟩:=HC.out _ (below_step HUD.out hw');go_simp;try with_reducible rfl)
 try go_frame
 refine' j_t 5 [6,7,8,11,12,13,14] rfl (by kernel_rfl) rfl ?y5 ?r5
 case y5=>(intro w' hw';obtain ⟨j0,j1,j2,j3,j4,j5,j6,j7⟩:=HC.out _ (below_step HUD.out hw');go_simp;try with_reducible rfl)
 try go_frame
 refine' j_t 6 [7,8,11,12,13,14] rfl (by kernel_rfl) rfl ?y6 ?r6
 case y6=>(intro w' hw';go_simp;try with_reducible rfl)
 try go_frame
 refine' j_t 7 [8,11,12,13,14] rfl (by kernel_rfl) rfl ?y7 ?r7
 case y7=>(intro w' hw';go_simp;try with_reducible rfl)
 try go_frame
 refine' j_t 8 [11,12,13,14] rfl (by kernel_rfl) rfl ?y8 ?r8
 case y8=>(intro w' hw';obtain ⟨j0,j1,j2,j3,j4,j5,j6,j7⟩:=HC.out _ (below_step HUD.out hw');go_simp;try with_reducible rfl)
 try go_frame
 refine' j_t 9 [11,12,13,14] rfl (by kernel_rfl) rfl ?y9 ?r9
 case y9=>(intro w' hw';obtain ⟨j0,j1,j2,j3,j4,j5,j6,j7⟩:=HC.out _ (below_step HUD.out hw');go_simp;try with_reducible rfl)
 try go_frame
 refine' j_t 10 [11,12,13,14] rfl (by kernel_rfl) rfl ?y10 ?r10
 case y10=>(intro w' hw';obtain ⟨j0,j1,j2,j3,j4,j5,j6,j7⟩:=HC.out _ (below_step HUD.out hw');go_simp;try with_reducible rfl)
 try go_frame
 refine' j_t 11 [12,13,14] rfl (by kernel_rfl) rfl ?y11 ?r11
 case y11=>(intro w' hw';go_simp;try with_reducible rfl)
 try go_frame
 refine' j_t 12 [13,14] rfl (by kernel_rfl) rfl ?y12 ?r12
 case y12=>(intro w' hw';go_simp;try with_reducible rfl)
 try go_frame
 refine' j_t 13 [14] rfl (by kernel_rfl) rfl ?y13 ?r13
 case y13=>(intro w' hw';go_simp;try with_reducible rfl)
 try go_frame
 refine' j_l 14 (by kernel_rfl) rfl (by kernel_rfl) (fun K hK=>?s14)
 obtain ⟨s0,s1,s2,s3,s4,s5,s6,s7⟩:=HCL.out
 have sf:=HFZ.out
 go_simp
 refine hK.out _ _ ?_
 clear hK K s0 s1 s2 s3 s4 s5 s6 s7 sf
 try go_frame
 refine wpAnyJ_done (by kernel_rfl) ?_ _
 refine NoPanic.normal ?_
 have hb8:=mid_set ee ver HBU.out
 have hs8:Sets (fun g=>g=b) ud ((((((((ud.setCell ⟨b,21,none⟩ (.int .u64 R.id)).setCell ⟨b,22,none⟩ (.int .i64 R.ck)).setCell ⟨b,23,none⟩ (.int .i64 R.cs)).setCell ⟨b,24,none⟩ (.int .u64 R.ct)).setCell ⟨b,25,none⟩ (.int .i64 R.cv)).setCell ⟨b,26,none⟩ (.int .i64 ee)).setCell ⟨b,27,none⟩ (.int .u64 ver)).setCell ⟨b,28,none⟩ (.slice none 0 0)):=((((((((Sets.refl (S:=fun g=>g=b) ud).set (g:=b) (fun _=>rfl) 21 (.int .u64 R.id)).set (g:=b) (fun _=>rfl) 22 (.int .i64 R.ck)).set (g:=b) (fun _=>rfl) 23 (.int .i64 R.cs)).set (g:=b) (fun _=>rfl) 24 (.int .u64 R.ct)).set (g:=b) (fun _=>rfl) 25 (.int .i64 R.cv)).set (g:=b) (fun _=>rfl) 26 (.int .i64 ee)).set (g:=b) (fun _=>rfl) 27 (.int .u64 ver)).set (g:=b) (fun _=>rfl) 28 (.slice none 0 0)
 obtain ⟨u8,hu8⟩:∃ u8,((((((((ud.setCell ⟨b,21,none⟩ (.int .u64 R.id)).setCell ⟨b,22,none⟩ (.int .i64 R.ck)).setCell ⟨b,23,none⟩ (.int .i64 R.cs)).setCell ⟨b,24,none⟩ (.int .u64 R.ct)).setCell ⟨b,25,none⟩ (.int .i64 R.cv)).setCell ⟨b,26,none⟩ (.int .i64 ee)).setCell ⟨b,27,none⟩ (.int .u64 ver)).setCell ⟨b,28,none⟩ (.slice none 0 0))=u8:=⟨_,rfl⟩
 rw [hu8] at hb8 hs8
 rw [hu8]
 have HB8:=hide hb8
 have HS8:=hide hs8
 have HG8:=hide (HG.out.sets hs8 (fun g _ hn=>hn))
 have kx:u8.cell? ⟨x,0,none⟩=some (.pointer (some ⟨b,0,none⟩)):=hs8.cell HXL.out (by omega) (HC.out ud HUD.out).1
 have kx1:u8.cell? ⟨x+1,0,none⟩=some (.int .i64 ee):=hs8.cell HXL1.out (by omega) (HC.out ud HUD.out).2.1
 have HKX:=hide kx
 have HX8:Hid (x < u8.heap.size):=hide (Nat.lt_of_lt_of_le HXL.out hs8.size)
 clear hb8 hs8 hu8 HC HCL HFZ HG
 by_cases he:ee=0
 ·subst he
  have HIT0:=hide (HIT.out rfl)
  have HEA:Hid (endA 0 LI=LI):=hide (by unfold endA;rw [if_pos rfl])
  clear HIT
  go_upto_region 2 with fail
  clear kx kx1
  obtain ⟨vd,hvd⟩:∃ vd,u8.drew=vd:=⟨_,rfl⟩
  have HVD:Hid (Below u8.heap.size u8 vd):=hide (by rw [← hvd];exact (Below.refl _ _).drew)
  have HLB8:b < u8.heap.size:=(Array.getElem?_eq_some_iff.1 HB8.out).1
  have HVB:=hide ((HVD.out.block b HLB8).trans HB8.out)
  have HVG:=hide (HG8.out.sets (Sets.of (S:=fun _=>False) HVD.out) (fun g _ _ h=>h))
  have HLB:Hid (b < vd.heap.size):=hide (Nat.lt_of_lt_of_le HLB8 HVD.out.size)
  have HCX:Hid (∀ W:World,Below u8.heap.size u8 W→W.cell? ⟨x,0,none⟩=some (.pointer (some ⟨b,0,none⟩))):=hide (fun W hW=>keep_cell hW HKX.out HX8.out)
  have HIT:=hide (fun (W:World)=>HIT0.out W m)
  clear HIT0 HLB8
  refine j_startD [6] hvd (by kernel_rfl) ?_
  clear hvd
  refine' j_t 0 [3,4,5,6] rfl (by kernel_rfl) rfl ?y0b ?r0b
  case y0b=>(intro w' hw';have jx:=HCX.out _ (below_step HVD.out hw');go_simp;try with_reducible rfl)
  try go_frame
  refine' j_t 1 [2,3,4,5,6] rfl (by kernel_rfl) rfl ?y1b ?r1b
  case y1b=>(intro w' hw';have jx:=HCX.out _ (below_step HVD.out hw');go_simp;try with_reducible rfl)
  try go_frame
  refine' j_s 2 (by kernel_rfl) rfl (fun K hK=>?s2b)
  go_simp
  refine (Calls.mono (HIT.out _ HVB.out HVG.out) ?_);rintro e u1 ⟨vi,rfl,hoi,gg⟩
  obtain ⟨Ai,ci,rfl,_,_,_⟩:=hoi.sl
  have HOI:=hide hoi
  have HGG:=hide gg
  have kb:=(gg.block b HLB.out).trans HVB.out
  have k28:=(cell_of_list (o:=28) kb).trans rfl
  have z28:u1.frozen? ⟨b,28,none⟩=false:=(by simp [World.frozen?,kb])
  have KB:=hide kb
  clear hoi kb
  refine hK.out _ _ gg (j_switch gg ?_)
  clear hK K gg
  try go_frame
  refine' j_t 3 [4,5,6] rfl (by kernel_rfl) rfl ?y3b ?r3b
  case y3b=>(intro w' hw';go_simp;try with_reducible rfl)
  try go_frame
  refine' j_t 4 [5,6] rfl (by kernel_rfl) rfl ?y4b ?r4b
  case y4b=>(intro w' hw';go_simp;try with_reducible rfl)
  try go_frame
  refine' j_t 5 [6] rfl (by kernel_rfl) rfl ?y5b ?r5b
  case y5b=>(intro w' hw';go_simp;try with_reducible rfl)
  try go_frame
  refine' j_l 6 (by kernel_rfl) rfl (by kernel_rfl) (fun K hK=>?s6b)
  have k28:u1.cell? ⟨b,28,none⟩=some (.slice none 0 0):=k28
  go_simp
  refine hK.out _ _ ?_
  clear hK K k28 z28
  try go_frame
  refine wpAnyJ_done (by kernel_rfl) ?_ _
  refine NoPanic.normal ?_
  have hb9:=set_of_list (o:=28) KB.out (.slice Ai LI.length ci)
  have hs9:Sets (fun g=>g=b) u1 (u1.setCell ⟨b,28,none⟩ (.slice Ai LI.length ci)):=(Sets.refl (S:=fun g=>g=b) u1).set (g:=b) (fun _=>rfl) 28 _
  have hu1:=((HS8.out.trans (Sets.of (S:=fun g=>g=b) HVD.out) (fun _ _ h=>h)).trans (Sets.of (S:=fun g=>g=b) HGG.out) (fun _ _ h=>h))
  have hsz:w.heap.size≤vd.heap.size:=Nat.le_trans (Nat.le_trans HUD.out.size HS8.out.size) HVD.out.size
  have HO9:Hid (Sl (u1.setCell ⟨b,28,none⟩ (.slice Ai LI.length ci)) (.slice Ai LI.length ci) LI∧∀ g,(Value.slice Ai LI.length ci).ownBlock=some g→w.heap.size≤g∧g < (u1.setCell ⟨b,28,none⟩ (.slice Ai LI.length ci)).heap.size):=hide
   ⟨sl_sets_ HOI.out.sl hs9 (fun g hg e=>by have:=(HOI.out.lt g hg).1;have:=HLB.out;omega),fun g hg=>⟨by have:=(HOI.out.lt g hg).1;omega,Nat.lt_of_lt_of_le (HOI.out.lt g hg).2 hs9.size⟩⟩
  have HKX9:Hid ((u1.setCell ⟨b,28,none⟩ (.slice Ai LI.length ci)).cell? ⟨x,0,none⟩=some (.pointer (some ⟨b,0,none⟩))):=hide (hs9.cell (Nat.lt_of_lt_of_le (Nat.lt_of_lt_of_le HX8.out HVD.out.size) HGG.out.size) (by omega) (HCX.out u1 (below_step HVD.out HGG.out)))
  have HB9:=hide hb9
  have HS9:=hide ((Sets.of (S:=fun g=>g=b) HUD.out).trans (hu1.trans hs9 (fun _ _ h=>h)) (fun _ _ h=>h))
  obtain ⟨u9,hu9⟩:∃ u9,u1.setCell ⟨b,28,none⟩ (.slice Ai LI.length ci)=u9:=⟨_,rfl⟩
  rw [hu9] at HB9 HS9 HO9 HKX9
  rw [hu9]
  clear hb9 hs9 hu1 hsz hu9 HCX HIT
  have k29:u9.cell? ⟨b,29,none⟩=some (.bool R.dn):=(cell_of_list (o:=29) HB9.out).trans rfl
  have z29:u9.frozen? ⟨b,29,none⟩=false:=by simp [World.frozen?,HB9.out]
  have kx:=HKX9.out
  have HB10:=hide (set_of_list (o:=29) HB9.out (.bool true))
  have hs10:Sets (fun g=>g=b) u9 (u9.setCell ⟨b,29,none⟩ (.bool true)):=(Sets.refl (S:=fun g=>g=b) u9).set (g:=b) (fun _=>rfl) 29 _
  have HO10:Hid (Sl (u9.setCell ⟨b,29,none⟩ (.bool true)) (.slice Ai LI.length ci) LI):=hide (sl_sets_ HO9.out.1 hs10 (fun g hg e=>by have:=(HO9.out.2 g hg).1;have:=HLB0.out;omega))
  have HF10:=hide (fun g hg=>And.intro (HO9.out.2 g hg).1 (Nat.lt_of_lt_of_le (HO9.out.2 g hg).2 hs10.size))
  have HS10:=hide (HS9.out.trans hs10 (fun _ _ h=>h))
  clear hs10
  go_wp2_with fail
  go_end0
  rw [HEA.out]
  exact ⟨rfl,⟨_,HB10.out,HO10.out,HF10.out⟩,HS10.out⟩
 ·have heI:(ee == 0)=false:=beq_eq_false_iff_ne.2 he
  have HEA:Hid (endA ee LI=[]):=hide (by unfold endA;rw [if_neg he])
  have k29:u8.cell? ⟨b,29,none⟩=some (.bool R.dn):=(cell_of_list (o:=29) HB8.out).trans rfl
  have z29:u8.frozen? ⟨b,29,none⟩=false:=by simp [World.frozen?,HB8.out]
  have HB10:=hide (set_of_list (o:=29) HB8.out (.bool true))
  have hs10:Sets (fun g=>g=b) u8 (u8.setCell ⟨b,29,none⟩ (.bool true)):=(Sets.refl (S:=fun g=>g=b) u8).set (g:=b) (fun _=>rfl) 29 _
  have HS10:=hide ((Sets.of (S:=fun g=>g=b) HUD.out).trans (HS8.out.trans hs10 (fun _ _ h=>h)) (fun _ _ h=>h))
  clear hs10 he HIT
  go_wp2_with fail
  go_end0
  rw [HEA.out]
  exact ⟨rfl,⟨.slice none 0 0,HB10.out,Sl.nil_ _,fun g hg=>by cases hg⟩,HS10.out⟩
set_option maxRecDepth 100000 in
set_option maxHeartbeats 3200000 in
theorem cslow {w:World} {b x:Nat} {X:Nat→Prop} {R:Co} {vg va:Value} {LI:List It} (ee ver:Int) (hb:w.heap[b]? = some (.cells (coL R 0 vg va).toArray 190 (0,0))) (hd:R.d=0) (hx0:w.heap[x]? = some (.cells #[.pointer (some ⟨b,0,none⟩)] 111 (0,0))) (hx1:w.heap[x+1]? = some (.cells #[.int .i64 ee] 26 (0,0))) (hx2:w.heap[x+2]? = some (.cells #[.int .u64 ver] 29 (0,0))) (hbx:b < x) (hg:CoG w b X vg R.G) (hI:ee=0→∀ (W:World) (m:Int),W.heap[b]? = some (.cells (coL (midC R ee ver) m vg (.slice none 0 0)).toArray 190 (0,0))→CoG W b X vg R.G→Calls Tryz.prog 419 #[.pointer (some ⟨b,0,none⟩)] W fun e w'=>∃ v,e=.returned v∧Og W.heap.size w' v LI∧Below W.heap.size W w') :
 Calls Tryz.prog 286 #[.pointer (some ⟨b,18,none⟩),.func (.func 418) #[] #[.pointer (some ⟨x,0,none⟩),.pointer (some ⟨x+1,0,none⟩),.pointer (some ⟨x+2,0,none⟩)]] w fun e w'=>e=.returned (.tuple #[])∧(∃ va',w'.heap[b]? = some (.cells (coL ({ endC R ee ver (endA ee LI) with d:=1 }) 0 vg va').toArray 190 (0,0))∧Sl w' va' (endA ee LI)∧∀ g,va'.ownBlock=some g→w.heap.size≤g∧g < w'.heap.size)∧Sets (fun g=>g=b) w w':=by
 have l0:=(Array.getElem?_eq_some_iff.1 hx0).1
 have l1:=(Array.getElem?_eq_some_iff.1 hx1).1
 have l2:=(Array.getElem?_eq_some_iff.1 hx2).1
 have h0:w.cell? ⟨b,18,none⟩=some (.int .u32 R.d):=(cell_of_list (o:=18) hb).trans rfl
 have h1:w.cell? ⟨b,19,none⟩=some (.int .i32 0):=(cell_of_list (o:=19) hb).trans rfl
 have hz:w.frozen? ⟨b,19,none⟩=false:=by simp [World.frozen?,hb]
 obtain ⟨w1,hw1⟩:∃ w1,w.setCell ⟨b,19,none⟩ (.int .i32 1)=w1:=⟨_,rfl⟩
 have hbx1:w1.heap[b]? = some (.cells (coL R 1 vg va).toArray 190 (0,0)):=by rw [← hw1];exact set_of_list hb _
 have hs1:Sets (fun g=>g=b) w w1:=by rw [← hw1];exact (Sets.refl (S:=fun g=>g=b) w).set (g:=b) (fun _=>rfl) 19 _
 have hsz1:w1.heap.size=w.heap.size:=by rw [← hw1];simp [World.setCell]
 have HCLO:=hide (cend_clos ee ver hbx1 ((hs1.block _ l0 (by omega)).trans hx0) ((hs1.block _ l1 (by omega)).trans hx1) ((hs1.block _ l2 (by omega)).trans hx2) hbx (hg.sets hs1 (fun g _ hn=>hn)) hI)
 have g0:w1.cell? ⟨b,18,none⟩=some (.int .u32 0):=by rw [← hd];exact (cell_of_list (o:=18) hbx1).trans rfl
 have hl:=run_call_load (P:=Tryz.prog) Tryz.func324 (by kernel_rfl) (by kernel_rfl) (by kernel_rfl) .u32 (by kernel_rfl) (w:=w1) (a:=⟨b,18,none⟩) (x:=0) g0
 have hnot:∀ (x:Bool) (w:World),(Op.unary .not (.bool x)).run Tryz.prog w=.ok (.bool (!x)) w:=fun _ _=>rfl
 have HS1:=hide hs1
 have HW1:=hide hw1
 have HD:=hide hd
 have HSZ1:=hide hsz1
 have HLB:Hid (b < w.heap.size):=hide (Array.getElem?_eq_some_iff.1 hb).1
 clear hb hbx1 hs1 hx0 hx1 hx2 l0 l1 l2 h0 hd hg hI hsz1
 go_enter_defers Tryz.func286,Tryz.ntmps286
 go_wp2_with (first | (go_at_call 285;go_in) | (go_at_call 325;refine (lock_free ⟨b,19,none⟩ _ h1 hz).mono ?_;rintro e w' ⟨rfl,rfl⟩;rw [HW1.out]) | (go_at_call 418;refine (Calls.mono HCLO.out ?_);rintro e w3 ⟨rfl,⟨va3,hbx3,hsl3,hfa3⟩,hS3⟩;have HB3:=hide hbx3;have HS3:=hide hS3;have HSL:=hide hsl3;have HFA:=hide hfa3;clear hbx3 hS3 hsl3 hfa3))
 have k0:w3.cell? ⟨b,18,none⟩=some (.int .u32 R.d):=(cell_of_list (o:=18) HB3.out).trans rfl
 have hz3:∀ o,w3.frozen? ⟨b,o,none⟩=false:=fun o=>by simp [World.frozen?,HB3.out]
 have hb4:(w3.drew.setCell ⟨b,18,none⟩ (.int .u32 1)).heap[b]? = some (.cells (coL { endC R ee ver (endA ee LI) with d:=1 } 1 vg va3).toArray 190 (0,0)):=set_of_list (w:=w3.drew) HB3.out _
 have m1:(w3.drew.setCell ⟨b,18,none⟩ (.int .u32 1)).cell? ⟨b,19,none⟩=some (.int .i32 1):=(cell_of_list (o:=19) hb4).trans rfl
 unfold bodyPostD
 refine leaves_cons (f:=327) (args:=#[.pointer (some ⟨b,18,none⟩),.bool true]) (by simp) (by simp [go_sem]) ?_
 refine (store_deferred ⟨b,18,none⟩ (.int .u32 R.d) .returning _ k0 (hz3 18)).mono ?_
 rintro e u' w'' ⟨rfl,rfl,rfl⟩
 refine leaves_cons (f:=326) (args:=#[.pointer (some ⟨b,19,none⟩)]) (by simp [settle]) (by simp [go_sem]) ?_
 refine (unlock_deferred ⟨b,19,none⟩ _ _ m1 (by simp [World.frozen?,hb4])).mono ?_
 rintro e u' w'' ⟨rfl,rfl,rfl⟩
 have hb5:((w3.drew.setCell ⟨b,18,none⟩ (.int .u32 1)).setCell ⟨b,19,none⟩ (.int .i32 0)).heap[b]? = some (.cells (coL { endC R ee ver (endA ee LI) with d:=1 } 0 vg va3).toArray 190 (0,0)):=set_of_list hb4 _
 have hs5:Sets (fun g=>g=b) w3 ((w3.drew.setCell ⟨b,18,none⟩ (.int .u32 1)).setCell ⟨b,19,none⟩ (.int .i32 0)):=((Sets.refl (S:=fun g=>g=b) w3).drew.set (g:=b) (fun _=>rfl) 18 _).set (g:=b) (fun _=>rfl) 19 _
 have hS5:=(HS1.out.trans HS3.out (fun _ _ h=>h)).trans hs5 (fun _ _ h=>h)
 have hfa:∀ g,va3.ownBlock=some g→w.heap.size≤g∧g < ((w3.drew.setCell ⟨b,18,none⟩ (.int .u32 1)).setCell ⟨b,19,none⟩ (.int .i32 0)).heap.size:=fun g hg=>by have:=HFA.out g hg;rw [HSZ1.out] at this;exact ⟨this.1,Nat.lt_of_lt_of_le this.2 hs5.size⟩
 have hsl:=sl_sets_ HSL.out hs5 (fun g hg e=>by have:=(hfa g hg).1;have:=HLB.out;omega)
 simp [Leaves,settle,results,Tryz.results286]
 refine ⟨⟨va3,hb5,hsl,fun g hg=>?_⟩,hS5⟩
 have h7:=hfa g hg
 simpa using h7
set_option maxRecDepth 100000 in
set_option maxHeartbeats 1600000 in
theorem cdo_first {w:World} {b x:Nat} {X:Nat→Prop} {R:Co} {vg va:Value} {LI:List It} (ee ver:Int) (hb:w.heap[b]? = some (.cells (coL R 0 vg va).toArray 190 (0,0))) (hd:R.d=0) (hx0:w.heap[x]? = some (.cells #[.pointer (some ⟨b,0,none⟩)] 111 (0,0))) (hx1:w.heap[x+1]? = some (.cells #[.int .i64 ee] 26 (0,0))) (hx2:w.heap[x+2]? = some (.cells #[.int .u64 ver] 29 (0,0))) (hbx:b < x) (hg:CoG w b X vg R.G) (hI:ee=0→∀ (W:World) (m:Int),W.heap[b]? = some (.cells (coL (midC R ee ver) m vg (.slice none 0 0)).toArray 190 (0,0))→CoG W b X vg R.G→Calls Tryz.prog 419 #[.pointer (some ⟨b,0,none⟩)] W fun e w'=>∃ v,e=.returned v∧Og W.heap.size w' v LI∧Below W.heap.size W w') :
 Calls Tryz.prog 230 #[.pointer (some ⟨b,18,none⟩),.func (.func 418) #[] #[.pointer (some ⟨x,0,none⟩),.pointer (some ⟨x+1,0,none⟩),.pointer (some ⟨x+2,0,none⟩)]] w fun e w'=>e=.returned (.tuple #[])∧(∃ va',w'.heap[b]? = some (.cells (coL ({ endC R ee ver (endA ee LI) with d:=1 }) 0 vg va').toArray 190 (0,0))∧Sl w' va' (endA ee LI)∧∀ g,va'.ownBlock=some g→w.heap.size≤g∧g < w'.heap.size)∧Sets (fun g=>g=b) w w':=by
 have h0:w.cell? ⟨b,18,none⟩=some (.int .u32 0):=by rw [← hd];exact (cell_of_list (o:=18) hb).trans rfl
 have hl:=run_call_load (P:=Tryz.prog) Tryz.func324 (by kernel_rfl) (by kernel_rfl) (by kernel_rfl) .u32 (by kernel_rfl) h0
 have hnot:∀ (x:Bool) (w:World),(Op.unary .not (.bool x)).run Tryz.prog w=.ok (.bool (!x)) w:=fun _ _=>rfl
 have HSL:=hide (cslow ee ver hb hd hx0 hx1 hx2 hbx hg hI)
 clear hb hx0 hx1 hx2 hd hg hI
 go_enter Tryz.func230,Tryz.ntmps230
 go_wp2_with (first | (go_at_call 286;refine (Calls.mono HSL.out ?_);rintro e w' ⟨rfl,h1,h2⟩;have H1:=hide h1;have H2:=hide h2;clear h1 h2) | (go_at_call 285;go_in))
 go_end0
 exact ⟨rfl,H1.out,H2.out⟩
def end1C (R:Co) (ee ver:Int) (LI:List It):Co:={ endC R ee ver (endA ee LI) with d:=1 }
set_option maxRecDepth 100000 in
set_option maxHeartbeats 1600000 in
theorem cend_any {w0 w:World} {b:Nat} {X:Nat→Prop} {R:Co} {LI:List It} (h:CoO w0 w b X R) (hd:R.d=0) (ee ver:Int) (hI:ee=0→∀ (W:World) (m:Int) (X:Nat→Prop) (vg:Value),W.heap[b]? = some (.cells (coL (midC R ee ver) m vg (.slice none 0 0)).toArray 190 (0,0))→CoG W b X vg R.G→Calls Tryz.prog 419 #[.pointer (some ⟨b,0,none⟩)] W fun e w'=>∃ v,e=.returned v∧Og W.heap.size w' v LI∧Below W.heap.size W w') :
 Calls Tryz.prog 417 #[.pointer (some ⟨b,0,none⟩),.int .i64 ee,.int .u64 ver] w fun e w'=>e=.returned (.tuple #[])∧CoO w0 w' b (Xn X w w') (end1C R ee ver LI)∧Sets (fun g=>g=b) w w':=by
 obtain ⟨w4,hw4⟩:∃ w4,(((w.alloc (.cells #[.pointer (some ⟨b,0,none⟩)] 111)).alloc (.cells #[.int .i64 ee] 26)).alloc (.cells #[.int .u64 ver] 29))=w4:=⟨_,rfl⟩
 obtain ⟨q0,q1,q2,hb4⟩:=al3r w _ _ _ w4 hw4
 obtain ⟨x,hx⟩:∃ x,w.heap.size=x:=⟨_,rfl⟩
 rw [hx] at q0 q1 q2
 have hbl:=h.lt
 have h4:=h.below hb4
 obtain ⟨vg,va,hb,hg,ha⟩:=h4.row
 have HDO:Hid (Calls Tryz.prog 230 #[.pointer (some ⟨b,18,none⟩),.func (.func 418) #[] #[.pointer (some ⟨x,0,none⟩),.pointer (some ⟨x+1,0,none⟩),.pointer (some ⟨x+2,0,none⟩)]] w4 fun e w'=>e=.returned (.tuple #[])∧CoO w0 w' b (Xn X w w') (end1C R ee ver LI)∧Sets (fun g=>g=b) w4 w'):=hide (by
  refine Calls.mono (cdo_first ee ver hb hd q0 q1 q2 (by omega) hg (fun e W m=>hI e W m X vg)) ?_
  rintro e w' ⟨rfl,⟨va',h1,h2,h3⟩,h5⟩
  have hxs:∀ g,X g→g < w.heap.size:=fun g hg=>(h.xs g hg).2
  have hs4:=hb4.size
  refine ⟨rfl,⟨⟨vg,va',h1,(hg.sets h5 (fun g _ hn=>hn)).up (fun g hg=>.inl hg),h2,fun g hgo=>?_⟩,Sets.below h4.low h5 (fun g e=>by rw [e];exact h4.old) h4.low.size,.inl h4.xb,fun g hgx=>?_⟩,h5⟩
  ·have h6:=h3 g hgo
   exact ⟨.inr ⟨Nat.le_trans hs4 h6.1,h6.2⟩,by omega,fun e=>by have:=hxs g (hg.x g e);omega⟩
  ·rcases hgx with hgx | hgx
   ·have:=h.xs g hgx
    exact ⟨this.1,Nat.lt_of_lt_of_le (Nat.lt_of_lt_of_le this.2 hs4) h5.size⟩
   ·exact ⟨Nat.le_trans h.low.size hgx.1,hgx.2⟩)
 have k0:w4.cell? ⟨x,0,none⟩=some (.pointer (some ⟨b,0,none⟩)):=(cell_of_row _ _ 0 _ _ _ q0).trans rfl
 have HW4:=hide hw4
 have HX:=hide hx
 have HB4:=hide hb4
 clear h h4 hb hg ha q0 q1 q2 hb4 hw4 hx hbl hI hd
 go_enter Tryz.func417,Tryz.ntmps417
 go_upto_region 1 with fail
 try rw [HW4.out]
 try rw [HX.out]
 simp only [Nat.add_assoc,Nat.reduceAdd]
 go_wp2_with fail
 refine (Calls.mono HDO.out ?_);rintro e w5 ⟨rfl,h1,h2⟩
 have H1:=hide h1
 have H2:=hide ((Sets.of (S:=fun g=>g=b) HB4.out).trans h2 (fun _ _ h=>h))
 clear h1 h2
 go_wp2_with fail
 go_end0
 exact ⟨rfl,H1.out,H2.out⟩
end Go.Proofs.YtgmkckjedngkdaaGreatDoor
namespace Go.Proofs.YtgmkckjedngkdaaGreatDoor
open Go.ChangeShapes Go.WideShapes Go.ChangeAt Go.RowKit
theorem CoO.wide {w0 w w':World} {b:Nat} {X:Nat→Prop} {R:Co} (h:CoO w0 w b X R) (hb:Below w.heap.size w w'):CoO w0 w' b (Xn X w w') R :=
 (h.below hb).more (fun _ hg=>.inl hg) (fun g hg=>by
  rcases hg with hg | hg
  ·exact (h.below hb).xs g hg
  ·exact ⟨Nat.le_trans h.low.size hg.1,hg.2⟩)
theorem CoO.xn {w0 w w1 w':World} {b:Nat} {X:Nat→Prop} {R:Co} (h:CoO w0 w' b (Xn X w1 w') R) (hz:w1.heap.size=w.heap.size):CoO w0 w' b (Xn X w w') R:=by
 unfold Xn at h ⊢
 rw [hz] at h
 exact h
def tick1C (R:Co):Co:={ R with tk:=R.tk+1 }
def ctickR (R:Co):Co:=if R.dn=true then R else if R.tk+1=20 then end1C (tick1C R) 20 R.ver [] else tick1C R
def ctickM (R:Co):List Mg:=if R.dn=true then [] else if R.tk+1=20 then [] else if (R.tk+1) % 3=0 then csendTo (tick1C R) R.n.toNat else []
set_option maxRecDepth 100000 in
set_option maxHeartbeats 3200000 in
theorem ctick_any {w0 w:World} {b:Nat} {X:Nat→Prop} {R:Co} (h:CoO w0 w b X R) (hn:1≤R.n∧R.n≤7) (hcs:0≤R.cs∧R.cs≤255) (ht:0≤R.tk∧R.tk≤1000000) (hd:R.dn=false→R.d=0) :
 Calls Tryz.prog 416 #[.pointer (some ⟨b,0,none⟩)] w fun e w'=>∃ v N,e=.returned v∧CoO w0 w' b (Xn X w w') (ctickR R)∧MsO w.heap.size w' v N∧N.map Mg.bare=ctickM R∧Sets (fun g=>g=b) w w':=by
 obtain ⟨vg,va,hb,hg,ha⟩:=h.row
 have c4:w.cell? ⟨b,29,none⟩=some (.bool R.dn):=(cell_of_list (o:=29) hb).trans rfl
 have c14:w.cell? ⟨b,17,none⟩=some (.int .i64 R.tk):=(cell_of_list (o:=17) hb).trans rfl
 have z14:w.frozen? ⟨b,17,none⟩=false:=by simp [World.frozen?,hb]
 have htw:IntKind.i64.wrap (R.tk+1)=R.tk+1:=by rw [IntKind.wrap_i64];omega
 have HH:=hide h
 by_cases h3:R.dn=true
 ·rw [h3] at c4
  have HT:Hid (ctickR R=R∧ctickM R=[]):=hide ⟨by unfold ctickR;rw [if_pos h3],by unfold ctickM;rw [if_pos h3]⟩
  clear h hb hg ha h3
  go_enter Tryz.func416,Tryz.ntmps416
  go_wp2_with fail
  go_ret
  exact ⟨_,[],rfl,by rw [HT.out.1];exact HH.out.wide (Below.refl _ _),MsO.nil_ _ _,by rw [HT.out.2];rfl,Sets.refl _⟩
 rw [show R.dn=false by simpa using h3] at c4
 have hb1:(w.setCell ⟨b,17,none⟩ (.int .i64 (R.tk+1))).heap[b]? = some (.cells (coL (tick1C R) 0 vg va).toArray 190 (0,0)):=set_of_list hb _
 have hs1:Sets (fun g=>g=b) w (w.setCell ⟨b,17,none⟩ (.int .i64 (R.tk+1))):=(Sets.refl (S:=fun g=>g=b) w).set (g:=b) (fun _=>rfl) 17 _
 have hr1:=h.put (R':=tick1C R) hg ha hb1 rfl rfl hs1
 have hz1:(w.setCell ⟨b,17,none⟩ (.int .i64 (R.tk+1))).heap.size=w.heap.size:=by simp [World.setCell]
 obtain ⟨w1,hw1⟩:∃ w1,w.setCell ⟨b,17,none⟩ (.int .i64 (R.tk+1))=w1:=⟨_,rfl⟩
 rw [hw1] at hb1 hs1 hr1 hz1
 have d14:w1.cell? ⟨b,17,none⟩=some (.int .i64 (R.tk+1)):=(cell_of_list (o:=17) hb1).trans rfl
 have d3:w1.cell? ⟨b,7,none⟩=some (.int .u64 R.ver):=(cell_of_list (o:=7) hb1).trans rfl
 have HE:=hide (cend_any (LI:=[]) hr1 (show (tick1C R).d=0 from hd (by simpa using h3)) 20 R.ver (fun e=>by omega))
 have HSN:=hide (csend_any hr1 (show 1≤(tick1C R).n∧_ from hn) (show 0≤(tick1C R).cs∧_ from hcs))
 rw [hz1] at HSN
 have HZS:=hide hz1
 have HR1:=hide hr1
 have HS1:=hide hs1
 have HW1:=hide hw1
 have HH3:=hide h3
 clear h hb hg ha hb1 hs1 hr1 hw1 h3
 obtain ⟨t,htt⟩:∃ t,R.tk+1=t:=⟨_,rfl⟩
 have HTT:=hide htt
 rw [htt] at d14
 have ht0:0≤t:=by omega
 by_cases h40:R.tk+1=20
 ·obtain rfl:t=20:=by omega
  have HT:Hid (ctickR R=end1C (tick1C R) 20 R.ver []∧ctickM R=[]):=hide ⟨by unfold ctickR;rw [if_neg HH3.out,if_pos h40],by unfold ctickM;rw [if_neg HH3.out,if_pos h40]⟩
  clear h40 htt
  go_enter Tryz.func416,Tryz.ntmps416
  go_upto_region 4 with fail
  try rw [HW1.out]
  go_wp2_with fail
  refine (Calls.mono HE.out ?_);rintro e w2 ⟨rfl,h1,h2⟩
  have H1:=hide h1
  have H2:=hide (HS1.out.trans h2 (fun _ _ h=>h))
  clear h1 h2 HE HSN
  go_wp2_with fail
  go_ret
  exact ⟨_,[],rfl,by rw [HT.out.1];exact H1.out.xn HZS.out,MsO.nil_ _ _,by rw [HT.out.2];rfl,H2.out⟩
 have h40t:¬ t=20:=by omega
 have h40I:(t == 20)=false:=beq_eq_false_iff_ne.2 h40t
 have HTR:Hid (ctickR R=tick1C R):=hide (by unfold ctickR;rw [if_neg HH3.out,if_neg h40])
 by_cases hm:t % 3=0
 ·have hmI:(t % 3 == 0)=true:=beq_iff_eq.2 hm
  have HTM:Hid (ctickM R=csendTo (tick1C R) R.n.toNat):=hide (by unfold ctickM;rw [if_neg HH3.out,if_neg h40,HTT.out,if_pos hm])
  clear h40 htt
  go_enter Tryz.func416,Tryz.ntmps416
  go_upto_region 4 with fail
  try rw [HW1.out]
  go_wp2_with fail
  refine (Calls.mono HSN.out ?_);rintro e w2 ⟨v2,N,rfl,h1,h2,hb2⟩
  obtain ⟨A,c,rfl,_,_⟩:=OwnL.row Mg.cells_len h1.own
  have H1:=hide h1
  have H2:=hide h2
  have HB:Hid (Below w1.heap.size w1 w2):=hide (by rw [HZS.out];exact hb2)
  clear h1 h2 hb2 HE HSN
  go_wp2_with fail
  go_ret
  exact ⟨_,N,rfl,by rw [HTR.out];exact (HR1.out.wide HB.out).xn HZS.out,H1.out,by rw [HTM.out];exact H2.out,HS1.out.trans (Sets.of (S:=fun _=>False) HB.out) (fun _ _ h=>h.elim)⟩
 ·have hmI:(t % 3 == 0)=false:=beq_eq_false_iff_ne.2 hm
  have HTM:Hid (ctickM R=[]):=hide (by unfold ctickM;rw [if_neg HH3.out,if_neg h40,HTT.out,if_neg hm])
  clear h40 htt
  go_enter Tryz.func416,Tryz.ntmps416
  go_upto_region 4 with fail
  try rw [HW1.out]
  go_wp2_with fail
  go_ret
  exact ⟨_,[],rfl,by rw [HTR.out];exact (HR1.out.wide (Below.refl _ _)).xn HZS.out,MsO.nil_ _ _,by rw [HTM.out];rfl,HS1.out⟩
theorem j_startS {P:Program} {ops:Array Oper} {Q:Exit→Act→World→Prop} (F:List Nat) {S:World→Prop} {id:Nat} {a:Act} {w:World} (hm:P.follows .mixedOrders=true) (h:wpAnyJ P .any ops (NoPanic Q) F S ops.size (Array.replicate ops.size false) a w.drew):(Code.region id ops true).wp P Q a w :=
 wp_region_noPanic (wp_region_any hm (wpAny_of_J _ _ _ _ h))
abbrev ansC (R:Co) (v:Value):Value:=.agg #[.int .u64 R.aid,.int .i64 R.ack,.int .i64 R.acs,.int .u64 R.act,.int .i64 R.acv,.int .i64 R.ae,.int .u64 R.av,v]
set_option maxRecDepth 100000 in
set_option maxHeartbeats 3200000 in
theorem cdone_any {w0 w:World} {b:Nat} {X:Nat→Prop} {R:Co} (h:CoO w0 w b X R) (hl:R.AL.length≤1099511627776):Calls Tryz.prog 415 #[.pointer (some ⟨b,0,none⟩)] w fun e w'=>∃ v,e=.returned (.tuple #[ansC R v,.bool R.dn])∧Ow w.heap.size w' v R.AL∧Below w.heap.size w w':=by
 have hba:=below_alloc (Below.refl w.heap.size w) (.cells #[.int .u64 0,.int .i64 0,.int .i64 0,.int .u64 0,.int .i64 0,.int .i64 0,.int .u64 0,.slice none 0 0] 50)
 have hz1:=heap_alloc_new w (.cells #[.int .u64 0,.int .i64 0,.int .i64 0,.int .u64 0,.int .i64 0,.int .i64 0,.int .u64 0,.slice none 0 0] 50)
 obtain ⟨w1,hw1⟩:∃ w1,w.alloc (.cells #[.int .u64 0,.int .i64 0,.int .i64 0,.int .u64 0,.int .i64 0,.int .i64 0,.int .u64 0,.slice none 0 0] 50)=w1:=⟨_,rfl⟩
 rw [hw1] at hba hz1
 have h1:=h.below hba
 obtain ⟨vg,va,hb,hg,ha⟩:=h1.row
 have hbl:=h1.lt
 have c0:w1.cell? ⟨b,21,none⟩=some (.int .u64 R.aid):=(cell_of_list (o:=21) hb).trans rfl
 have c1:w1.cell? ⟨b,22,none⟩=some (.int .i64 R.ack):=(cell_of_list (o:=22) hb).trans rfl
 have c2:w1.cell? ⟨b,23,none⟩=some (.int .i64 R.acs):=(cell_of_list (o:=23) hb).trans rfl
 have c3:w1.cell? ⟨b,24,none⟩=some (.int .u64 R.act):=(cell_of_list (o:=24) hb).trans rfl
 have c4:w1.cell? ⟨b,25,none⟩=some (.int .i64 R.acv):=(cell_of_list (o:=25) hb).trans rfl
 have c5:w1.cell? ⟨b,26,none⟩=some (.int .i64 R.ae):=(cell_of_list (o:=26) hb).trans rfl
 have c6:w1.cell? ⟨b,27,none⟩=some (.int .u64 R.av):=(cell_of_list (o:=27) hb).trans rfl
 have c7:w1.cell? ⟨b,28,none⟩=some va:=(cell_of_list (o:=28) hb).trans rfl
 obtain ⟨A,cA,rfl,hr,_,_⟩:=ha.1
 have hb2:=below_alloc (Below.refl w1.heap.size w1) (.cells #[.int .u64 R.aid,.int .i64 R.ack,.int .i64 R.acs,.int .u64 R.act,.int .i64 R.acv,.int .i64 R.ae,.int .u64 R.av,.slice A R.AL.length cA] 50)
 have hz2:=heap_alloc_new w1 (.cells #[.int .u64 R.aid,.int .i64 R.ack,.int .i64 R.acs,.int .u64 R.act,.int .i64 R.acv,.int .i64 R.ae,.int .u64 R.av,.slice A R.AL.length cA] 50)
 obtain ⟨w2,hw2⟩:∃ w2,w1.alloc (.cells #[.int .u64 R.aid,.int .i64 R.ack,.int .i64 R.acs,.int .u64 R.act,.int .i64 R.acv,.int .i64 R.ae,.int .u64 R.av,.slice A R.AL.length cA] 50)=w2:=⟨_,rfl⟩
 rw [hw2] at hb2 hz2
 obtain ⟨g2,hg2⟩:∃ g2,w.heap.size=g2:=⟨_,rfl⟩
 obtain ⟨g4,hg4⟩:∃ g4,w1.heap.size=g4:=⟨_,rfl⟩
 rw [hg2] at hz1
 rw [hg4] at hz2
 have k7:w2.cell? ⟨g4,7,none⟩=some (.slice A R.AL.length cA):=(cell_of_row _ _ 7 _ _ _ hz2).trans rfl
 have HBA:=hide hba
 have HB2:=hide hb2
 have HB0:=hide (below_step hba hb2)
 have HZ1:=hide ((hb2.block g2 (Array.getElem?_eq_some_iff.1 hz1).1).trans hz1)
 have HZ2:=hide hz2
 have HBB:=hide ((hb2.block b hbl).trans hb)
 have HR:=hide (hr.below hb2)
 have HW1:=hide hw1
 have HW2:=hide hw2
 have HG2:=hide hg2
 have HG4:=hide hg4
 have HLT:Hid (b < g2∧g2 < g4):=hide ⟨by rw [← hg2];exact h.lt,by rw [← hg4];exact (Array.getElem?_eq_some_iff.1 hz1).1⟩
 clear h h1 hb hg ha hba hz1 hb2 hz2 hw1 hw2 hg2 hg4 hr
 go_enter Tryz.func415,Tryz.ntmps415
 go_upto_region 1 with fail
 try rw [HW1.out]
 try rw [HG2.out]
 go_upto_region 2 with fail
 try rw [HW2.out]
 try rw [HG4.out]
 clear c0 c1 c2 c3 c4 c5 c6 c7 hbl
 go_wp2_with (at_builtin;refine wpList_append_items rfl (.const (.slice none 0 0)) (.tmp 10) rfl w2.heap.size w2.heap.size w2 w2 _ [] A R.AL.length cA R.AL rfl rfl rfl HR.out (Ow.nil_ _ _) (Below.refl _ _) (Nat.le_refl _) (Nat.le_refl _) (by simp only [List.length_nil];omega) ?_;intro v3 w3 ho3 hb3 hg3;rw [List.nil_append] at ho3;obtain ⟨A2,c2,rfl,hr3,hlo3,hc3,hc4⟩:=OwnL.row It.cells_len ho3;have HO3:=hide ho3;have HB3:=hide hb3;have hk4:=(hb3.block g4 (Array.getElem?_eq_some_iff.1 HZ2.out).1).trans HZ2.out;have m7:=(cell_of_row _ _ 7 _ _ _ hk4).trans rfl;have mz:∀ o,w3.frozen? ⟨g4,o,none⟩=false:=(fun o=>by simp [World.frozen?,hk4]);have HK4:=hide hk4;have hf4:∀ q,(Value.slice A2 R.AL.length c2).ownBlock=some q→w2.heap.size≤q:=(fun q hq=>(OwnL.lt ho3 q hq).1);have HF4:=hide hf4;clear ho3 hb3 hg3 hk4 hr3 hlo3 k7 hf4)
 have hz4:=set_of_list (o:=7) HK4.out (.slice A2 R.AL.length c2)
 have hs3:Sets (fun c=>c=g4) w3 (w3.setCell ⟨g4,7,none⟩ (.slice A2 R.AL.length c2)):=(Sets.refl (S:=fun c=>c=g4) w3).set (g:=g4) (fun _=>rfl) 7 _
 have hzg2:=(hs3.block g2 (Nat.lt_of_lt_of_le (Array.getElem?_eq_some_iff.1 HZ1.out).1 HB3.out.size) (by have:=HLT.out;omega)).trans ((HB3.out.block g2 (Array.getElem?_eq_some_iff.1 HZ1.out).1).trans HZ1.out)
 have hzb:=(hs3.block b (Nat.lt_of_lt_of_le (Array.getElem?_eq_some_iff.1 HBB.out).1 HB3.out.size) (by have:=HLT.out;omega)).trans ((HB3.out.block b (Array.getElem?_eq_some_iff.1 HBB.out).1).trans HBB.out)
 have HO4:=hide (OwnL.sets HO3.out hs3 (fun q hq e=>by have:=HF4.out q hq;have:=(Array.getElem?_eq_some_iff.1 HZ2.out).1;omega))
 have HBV:=hide (Sets.below (below_step HB0.out HB3.out) hs3 (fun c e=>by rw [e,← HG4.out];exact HBA.out.size) (below_step HB0.out HB3.out).size)
 obtain ⟨wv,hwv⟩:∃ wv,w3.setCell ⟨g4,7,none⟩ (.slice A2 R.AL.length c2)=wv:=⟨_,rfl⟩
 rw [hwv] at hz4 hzg2 hzb HO4 HBV
 rw [hwv]
 obtain ⟨ud,hud⟩:∃ ud,wv.drew=ud:=⟨_,rfl⟩
 have HUD:Hid (Below wv.heap.size wv ud):=hide (by rw [← hud];exact (Below.refl _ _).drew)
 have hz4d:=(HUD.out.block g4 (Array.getElem?_eq_some_iff.1 hz4).1).trans hz4
 have hzbd:=(HUD.out.block b (Array.getElem?_eq_some_iff.1 hzb).1).trans hzb
 have hzd:ud.heap[g2]? = some (.cells [.int .u64 0,.int .i64 0,.int .i64 0,.int .u64 0,.int .i64 0,.int .i64 0,.int .u64 0,.slice none 0 0].toArray 50 (0,0)):=(HUD.out.block g2 (Array.getElem?_eq_some_iff.1 hzg2).1).trans hzg2
 have HC:Hid (∀ W:World,Sets (fun c=>c=g2) ud W→W.cell? ⟨g4,0,none⟩=some (.int .u64 R.aid)∧W.cell? ⟨g4,1,none⟩=some (.int .i64 R.ack)∧W.cell? ⟨g4,2,none⟩=some (.int .i64 R.acs)∧W.cell? ⟨g4,3,none⟩=some (.int .u64 R.act)∧W.cell? ⟨g4,4,none⟩=some (.int .i64 R.acv)∧W.cell? ⟨g4,5,none⟩=some (.int .i64 R.ae)∧W.cell? ⟨g4,6,none⟩=some (.int .u64 R.av)∧W.cell? ⟨g4,7,none⟩=some (.slice A2 R.AL.length c2)∧W.cell? ⟨b,29,none⟩=some (.bool R.dn)):=hide (fun W hW=>by
  have hk4:=(hW.block g4 (Array.getElem?_eq_some_iff.1 hz4d).1 (by have:=HLT.out;omega)).trans hz4d
  have hk:=(hW.block b (Array.getElem?_eq_some_iff.1 hzbd).1 (by have:=HLT.out;omega)).trans hzbd
  exact ⟨(cell_of_list (o:=0) hk4).trans rfl,(cell_of_list (o:=1) hk4).trans rfl,(cell_of_list (o:=2) hk4).trans rfl,(cell_of_list (o:=3) hk4).trans rfl,(cell_of_list (o:=4) hk4).trans rfl,(cell_of_list (o:=5) hk4).trans rfl,(cell_of_list (o:=6) hk4).trans rfl,(cell_of_list (o:=7) hk4).trans rfl,(cell_of_list (o:=29) hk).trans rfl⟩)
 have HZU:Hid (ud.cell? ⟨g2,0,none⟩=some (.int .u64 0)∧ud.cell? ⟨g2,1,none⟩=some (.int .i64 0)∧ud.cell? ⟨g2,2,none⟩=some (.int .i64 0)∧ud.cell? ⟨g2,3,none⟩=some (.int .u64 0)∧ud.cell? ⟨g2,4,none⟩=some (.int .i64 0)∧ud.cell? ⟨g2,5,none⟩=some (.int .i64 0)∧ud.cell? ⟨g2,6,none⟩=some (.int .u64 0)∧ud.cell? ⟨g2,7,none⟩=some (.slice none 0 0)):=hide
  ⟨(cell_of_list (o:=0) hzd).trans rfl,(cell_of_list (o:=1) hzd).trans rfl,(cell_of_list (o:=2) hzd).trans rfl,(cell_of_list (o:=3) hzd).trans rfl,(cell_of_list (o:=4) hzd).trans rfl,(cell_of_list (o:=5) hzd).trans rfl,(cell_of_list (o:=6) hzd).trans rfl,(cell_of_list (o:=7) hzd).trans rfl⟩
 have HFZ:Hid (∀ o,ud.frozen? ⟨g2,o,none⟩=false):=hide (fun o=>by simp [World.frozen?,hzd])
 have HZL:=hide hzd
 have HUW:=hide hud
 have HOD:=hide (OwnL.below HO4.out HUD.out)
 have HBD:=hide (below_step HBV.out HUD.out)
 clear hz4 hs3 hzg2 hzb hwv hz4d hzbd hzd hud m7 mz HO3 HO4 HBV HK4
 refine j_startS [] (S:=fun W=>Sets (fun c=>c=g2) ud W) (by kernel_rfl) ?_
 rw [HUW.out]
 have HS:Hid (Sets (fun c=>c=g2) ud ud):=hide (Sets.refl _)
 refine' j_th 0 [] rfl (by kernel_rfl) rfl ?y0n1 HS.out ?r0n1
 case y0n1=>(intro w' hw';obtain ⟨j0,j1,j2,j3,j4,j5,j6,j7,j8⟩:=HC.out _ hw';go_simp;try with_reducible rfl)
 try go_frame
 refine' j_th 1 [] rfl (by kernel_rfl) rfl ?y1n2 HS.out ?r1n2
 case y1n2=>(intro w' hw';go_simp;try with_reducible rfl)
 try go_frame
 refine' j_th 2 [] rfl (by kernel_rfl) rfl ?y2n3 HS.out ?r2n3
 case y2n3=>(intro w' hw';go_simp;try with_reducible rfl)
 try go_frame
 refine' j_th 3 [] rfl (by kernel_rfl) rfl ?y3n4 HS.out ?r3n4
 case y3n4=>(intro w' hw';go_simp;try with_reducible rfl)
 try go_frame
 refine' j_th 4 [] rfl (by kernel_rfl) rfl ?y4n5 HS.out ?r4n5
 case y4n5=>(intro w' hw';obtain ⟨j0,j1,j2,j3,j4,j5,j6,j7,j8⟩:=HC.out _ hw';go_simp;try with_reducible rfl)
 try go_frame
 refine' j_s 5 (by kernel_rfl) rfl (fun K hK=>?s5n6)
 obtain ⟨s0,s1,s2,s3,s4,s5,s6,s7⟩:=HZU.out
 have sf:=HFZ.out
 go_simp
 have hs8:Sets (fun c=>c=g2) ud ((((((((ud.setCell ⟨g2,0,none⟩ (.int .u64 R.aid)).setCell ⟨g2,1,none⟩ (.int .i64 R.ack)).setCell ⟨g2,2,none⟩ (.int .i64 R.acs)).setCell ⟨g2,3,none⟩ (.int .u64 R.act)).setCell ⟨g2,4,none⟩ (.int .i64 R.acv)).setCell ⟨g2,5,none⟩ (.int .i64 R.ae)).setCell ⟨g2,6,none⟩ (.int .u64 R.av)).setCell ⟨g2,7,none⟩ (.slice A2 R.AL.length c2)):=(((((((((Sets.refl (S:=fun c=>c=g2) ud).set (g:=g2) (fun _=>rfl) 0 (.int .u64 R.aid)).set (g:=g2) (fun _=>rfl) 1 (.int .i64 R.ack)).set (g:=g2) (fun _=>rfl) 2 (.int .i64 R.acs)).set (g:=g2) (fun _=>rfl) 3 (.int .u64 R.act)).set (g:=g2) (fun _=>rfl) 4 (.int .i64 R.acv)).set (g:=g2) (fun _=>rfl) 5 (.int .i64 R.ae)).set (g:=g2) (fun _=>rfl) 6 (.int .u64 R.av)).set (g:=g2) (fun _=>rfl) 7 (.slice A2 R.AL.length c2))
 have hz8:=(set_of_list (o:=7) (set_of_list (o:=6) (set_of_list (o:=5) (set_of_list (o:=4) (set_of_list (o:=3) (set_of_list (o:=2) (set_of_list (o:=1) (set_of_list (o:=0) HZL.out (.int .u64 R.aid)) (.int .i64 R.ack)) (.int .i64 R.acs)) (.int .u64 R.act)) (.int .i64 R.acv)) (.int .i64 R.ae)) (.int .u64 R.av)) (.slice A2 R.AL.length c2))
 refine hK.out _ _ hs8 ?_
 clear hK K s0 s1 s2 s3 s4 s5 s6 s7 sf
 obtain ⟨u8,hu8⟩:∃ u8,(((((((ud.setCell ⟨g2,0,none⟩ (.int .u64 R.aid)).setCell ⟨g2,1,none⟩ (.int .i64 R.ack)).setCell ⟨g2,2,none⟩ (.int .i64 R.acs)).setCell ⟨g2,3,none⟩ (.int .u64 R.act)).setCell ⟨g2,4,none⟩ (.int .i64 R.acv)).setCell ⟨g2,5,none⟩ (.int .i64 R.ae)).setCell ⟨g2,6,none⟩ (.int .u64 R.av)).setCell ⟨g2,7,none⟩ (.slice A2 R.AL.length c2)=u8:=⟨_,rfl⟩
 rw [hu8] at hz8 hs8
 rw [hu8]
 have HS:=hide hs8
 try go_frame
 refine' j_th 6 [] rfl (by kernel_rfl) rfl ?y6n7 HS.out ?r6n7
 case y6n7=>(intro w' hw';go_simp;try with_reducible rfl)
 try go_frame
 refine wpAnyJ_done (by kernel_rfl) ?_ _
 refine NoPanic.normal ?_
 have R0:Hid (u8.cell? ⟨g2,0,none⟩=some (.int .u64 R.aid)):=hide ((cell_of_list (o:=0) hz8).trans rfl)
 have R1:Hid (u8.cell? ⟨g2,1,none⟩=some (.int .i64 R.ack)):=hide ((cell_of_list (o:=1) hz8).trans rfl)
 have R2:Hid (u8.cell? ⟨g2,2,none⟩=some (.int .i64 R.acs)):=hide ((cell_of_list (o:=2) hz8).trans rfl)
 have R3:Hid (u8.cell? ⟨g2,3,none⟩=some (.int .u64 R.act)):=hide ((cell_of_list (o:=3) hz8).trans rfl)
 have R4:Hid (u8.cell? ⟨g2,4,none⟩=some (.int .i64 R.acv)):=hide ((cell_of_list (o:=4) hz8).trans rfl)
 have R5:Hid (u8.cell? ⟨g2,5,none⟩=some (.int .i64 R.ae)):=hide ((cell_of_list (o:=5) hz8).trans rfl)
 have R6:Hid (u8.cell? ⟨g2,6,none⟩=some (.int .u64 R.av)):=hide ((cell_of_list (o:=6) hz8).trans rfl)
 have R7:Hid (u8.cell? ⟨g2,7,none⟩=some (.slice A2 R.AL.length c2)):=hide ((cell_of_list (o:=7) hz8).trans rfl)
 have HB8:=hide (Sets.below HBD.out hs8 (fun c e=>by rw [e,← HG2.out];exact Nat.le_refl _) HBD.out.size)
 have HO8:=hide (OwnL.base_ (OwnL.sets HOD.out hs8 (fun q hq e=>by have:=HF4.out q hq;have:=(Array.getElem?_eq_some_iff.1 HZ2.out).1;have:=HLT.out;omega)) HB0.out.size)
 clear hz8 hs8 hu8 HC HZU HFZ HZL HS HOD HBD
 go_wp2_with fail
 refine bodyPost_ret (v:=.tuple #[ansC R (.slice A2 R.AL.length c2),.bool R.dn]) (by simp [ansC,results,Tryz.results415,go_sem,R0.out,R1.out,R2.out,R3.out,R4.out,R5.out,R6.out,R7.out]) rfl ?_
 exact ⟨_,rfl,HO8.out,HB8.out⟩
end Go.Proofs.YtgmkckjedngkdaaGreatDoor
namespace Go.Proofs.YtgmkckjedngkdaaGreatDoor
open Go.ChangeShapes Go.WideShapes Go.ChangeAt Go.RowKit
def findBlock (n:Nat):Code→Option Code
 | .block m c=>bif m == n then some (.block m c) else findBlock n c
 | .seq a b=>match findBlock n a with
  | some c=>some c
  | none=>findBlock n b
 | .cond _ a b=>match findBlock n a with
  | some c=>some c
  | none=>findBlock n b
 | .loop c=>findBlock n c
 | .scope c=>findBlock n c
 | _=>none
def findFrom (n:Nat):Code→Option Code
 | .block _ c=>findFrom n c
 | .seq (.region m o d) b=>bif m == n then some (.seq (.region m o d) b) else findFrom n b
 | .seq a b=>match findFrom n a with
  | some c=>some c
  | none=>findFrom n b
 | .cond _ a b=>match findFrom n a with
  | some c=>some c
  | none=>findFrom n b
 | .loop c=>findFrom n c
 | .scope c=>findFrom n c
 | _=>none
noncomputable def conCode:Code:=(Tryz.f421.body.bind (findBlock 0)).getD .skip
noncomputable def conTail:Code:=(Tryz.f421.body.bind (findFrom 11)).getD .skip
theorem app_got (u:World) (base:Nat) (v:Value) (L:List Gt) (hown:OwnL Gt.cells 2 486 base u v L) (A:Option Addr) (c:Nat) (M:List Gt) (hr:RowAt Gt.cells 2 u A M) (hA:A=none→M=[]) (hn:L.length+M.length≤1000000) (hbase:base≤u.heap.size) :
 ∃ v' w',(Builtin.append_ #[188,188] 188 #[v,.slice A M.length c]).run Tryz.prog u=.ok v' w'∧OwnL Gt.cells 2 486 base w' v' (L ++ M)∧u.grownBy w' v.ownBlock∧(v'.ownBlock=v.ownBlock ∨ v'.ownBlock=some u.heap.size):=by
 obtain ⟨i0,hi,hz0,hz1,hz2⟩:=info_parts Tryz.infoGot
 exact run_append_row (P:=Tryz.prog) u base 188 188 486 i0 _ 2 32 Tryz.underlying188 hi hz0 hz1 hz2 rfl (by omega) Gt.cells_len v L hown A c M hr hA (fun m _=>Gt.cells_one m) (by simp only [maxLen];omega) (by omega) hbase
theorem step_app_got {ops:Array Oper} {o:Oper} {a:Act} {u:World} {K:Act→World→Prop} {Q:Exit→Act→World→Prop} {E:Prop} (hgd:o.guard=none) (s x:Operand)
 (ho:o.op=.call { callee:=.builtin .append,args:=#[s,x],argTypes:=#[188,188] }) (hty:o.type=188)
 (base:Nat) (v:Value) (L:List Gt) (hs:a.eval s=v) (hown:OwnL Gt.cells 2 486 base u v L) (A:Option Addr) (c n:Nat) (M:List Gt) (hM:M.length=n) (hx:a.eval x=.slice A n c) (hr:RowAt Gt.cells 2 u A M) (hn:L.length+n≤1000000) (hbase:base≤u.heap.size)
 (h:∀ v' w',OwnL Gt.cells 2 486 base w' v' (L ++ M)→u.grownBy w' v.ownBlock→(v'.ownBlock=v.ownBlock ∨ v'.ownBlock=some u.heap.size)→K (a.put o.dst v') w'):if Region.wanted o (yielded ops a.tmps)=true then Oper.wp Tryz.prog o a u K Q else E:=by
 subst hM
 have hw:Region.wanted o (yielded ops a.tmps)=true:=by simp [Region.wanted,hgd]
 rw [if_pos hw]
 obtain ⟨v',w',hrun,h2,h3,h4⟩:=app_got u base v L hown A c M hr (fun e=>by
  subst e
  cases M with
  | nil=>rfl
  | cons a M=>obtain ⟨b,off,e,_⟩:=hr (by simp);cases e) hn hbase
 unfold Oper.wp execOp
 simp only [ho,hty,resolve,invoke,builtin,Sem.run_bind,Sem.run_pure,Result.andThen_ok,List.map_toArray,List.map_cons,List.map_nil,hs,hx,hrun]
 exact h v' w' h2 h3 h4
theorem field_msg (a0 a1 a2 a3 a4 a5:Value) (w:World):(Instr.field 33 (.agg #[a0,a1,a2,a3,a4,a5]) 5).run Tryz.prog w=.ok a5 w:=by kernel_rfl
theorem rd_lt_ {w:World} {x:Mg} (h:x.rd w):∀ a,x.A=some a→x.L ≠ []→a.block < w.heap.size:=fun a ha hn=>by
 obtain ⟨b',off,e,hlt,_⟩:=h.1 hn
 rw [ha] at e
 obtain rfl:=Option.some.inj e
 exact hlt
def COnP (w0 w:World) (b:Nat) (X:Nat→Prop) (R:Co) (B:Bool) (e:Ending) (w':World):Prop:=e=.returned (.bool B)∧CoO w0 w' b (Xn X w w') R∧Sets X w w'
structure COnH (w0 w u:World) (b gx:Nat) (X Y:Nat→Prop) (R:Co) (m:Mg):Prop where
 co:CoO w0 u b Y R
 box:u.heap[gx]? = some (.cells #[.int .i64 m.k,.int .i64 m.f,.int .i64 m.t,.int .u64 m.id,.int .u64 m.n,.slice m.A m.L.length m.c] 33 (0,0))
 gxl:w.heap.size≤gx
 rd:m.rd u
 rdx:∀ a,m.A=some a→m.L ≠ []→¬ Y a.block
 low:Sets X w u
 y:∀ g,Y g→Xn X w u g
 xo:∀ g,X g→w0.heap.size≤g∧g < w.heap.size
 yo:∀ g,Y g→g ≠ gx
 w0l:w0.heap.size≤w.heap.size
theorem COnH.done {w0 w u w':World} {b gx:Nat} {X Y:Nat→Prop} {R R':Co} {m:Mg} (h:COnH w0 w u b gx X Y R m) (k:CoO w0 w' b (Xn Y u w') R') (hs:Sets Y u w'):CoO w0 w' b (Xn X w w') R'∧Sets X w w':=by
 refine ⟨k.more (fun g hg=>?_) (fun g hg=>?_),h.low.trans hs (fun g hg hy=>?_)⟩
 ·rcases hg with hg | hg
  ·rcases h.y g hg with h1 | h1
   ·exact .inl h1
   ·exact .inr ⟨h1.1,Nat.lt_of_lt_of_le h1.2 hs.size⟩
  ·exact .inr ⟨Nat.le_trans h.low.size hg.1,hg.2⟩
 ·rcases hg with hg | hg
  ·have:=h.xo g hg
   exact ⟨this.1,Nat.lt_of_lt_of_le (Nat.lt_of_lt_of_le this.2 h.low.size) hs.size⟩
  ·exact ⟨Nat.le_trans h.w0l hg.1,hg.2⟩
 ·rcases h.y g hy with h1 | h1
  ·exact h1
  ·omega
def COnT (w0 w u:World) (b gx:Nat) (X:Nat→Prop) (R:Co) (m:Mg):Prop:=∃ Y,COnH w0 w u b gx X Y R m
theorem COnH.same {w0 w u u':World} {b gx:Nat} {X Y:Nat→Prop} {R:Co} {m:Mg} (h:COnH w0 w u b gx X Y R m) (hb:Below u.heap.size u u'):COnH w0 w u' b gx X Y R m :=
 ⟨h.co.below hb,(hb.block gx (Array.getElem?_eq_some_iff.1 h.box).1).trans h.box,h.gxl,h.rd.below hb,h.rdx,h.low.trans (Sets.of (S:=fun _=>False) hb) (fun _ _ h=>h.elim),fun g hg=>by
  rcases h.y g hg with h1 | h1
  ·exact .inl h1
  ·exact .inr ⟨h1.1,Nat.lt_of_lt_of_le h1.2 hb.size⟩,h.xo,h.yo,h.w0l⟩
set_option maxRecDepth 1000000 in
set_option maxHeartbeats 3200000 in
theorem con_old {w0 w u:World} {b gx:Nat} {X Y:Nat→Prop} {R:Co} {m:Mg} (h:COnH w0 w u b gx X Y R m) (hg:¬ R.ck=3) (hk:m.k=3) (hd:R.d=0) (u1 u2 u6 u7 u8 u9 u10 u11 u12 u13 u14 u15 u16 u17 u18 u19 u20 u21 u22 u23 u24 u25 u26 u27 u28 u29 u30 u31 u32 u33 u34 u35 u36 u37 u38 u39 u40 u41 u42 u43 u44 u45 u46 u47 u48 u49 u51 u52 u53 u54 u55 u56 u57 u58 u59 u60 u61 u62 u63 u64 u65 u66 u67 u68 u69 u70 u71 u72 u73 u74 u75 u76 u77 u78 u79 u80 u81 u82 u83 u84 u85 u86 u87 u88 u89 u90 u91 u92 u93 u94 u95 u96 u97 u98 u99 u100 u101 u102 u103 u104 u105 u106 u107 u108 u109 u110 u111 u112 u113 u114 u115 u116 u117 u118 u119 u120 u121 u122 u123 u124 u125 u126:Value) {K:Act→World→Prop} :
 Code.wp Tryz.prog conCode (Exit.then K (bodyPost Tryz.prog Tryz.f421 (COnP w0 w b X (end1C R 21 m.n []) true))) ⟨#[.pointer (some ⟨b,0,none⟩),u1,u2,.pointer (some ⟨gx,0,none⟩),.bool false,.bool false,u6,u7,u8,u9,u10,u11,u12,u13,u14,u15,u16,u17,u18,u19,u20,u21,u22,u23,u24,u25,u26,u27,u28,u29,u30,u31,u32,u33,u34,u35,u36,u37,u38,u39,u40,u41,u42,u43,u44,u45,u46,u47,u48,u49,.bool false,u51,u52,u53,u54,u55,u56,u57,u58,u59,u60,u61,u62,u63,u64,u65,u66,u67,u68,u69,u70,u71,u72,u73,u74,u75,u76,u77,u78,u79,u80,u81,u82,u83,u84,u85,u86,u87,u88,u89,u90,u91,u92,u93,u94,u95,u96,u97,u98,u99,u100,u101,u102,u103,u104,u105,u106,u107,u108,u109,u110,u111,u112,u113,u114,u115,u116,u117,u118,u119,u120,u121,u122,u123,u124,u125,u126],[]⟩ u:=by
 obtain ⟨m0,m1,m2,m3,m4,m5⟩:=six_cells h.box
 have lgx:=(Array.getElem?_eq_some_iff.1 h.box).1
 have lb:=h.co.lt
 conv=>arg 2;whnf
 have HE:=hide (cend_any (LI:=[]) h.co hd 21 m.n (fun e=>by omega))
 have HH:=hide h
 have HXB:Hid (Y b):=hide h.co.xb
 rw [hk] at m0
 clear h m1 m2 m3 m5 hk hd hg
 go_wp2_with fail
 refine (Calls.mono HE.out ?_);rintro e w1 ⟨rfl,h1,h2⟩
 have hd:=HH.out.done h1 ((⟨h2.os,h2.tape,h2.output,h2.size,fun g hg hn=>h2.block g hg (fun e=>hn (by rw [e];exact HXB.out))⟩:Sets Y u w1))
 have H1:=hide hd.1
 have H2:=hide hd.2
 clear h1 h2 HE hd
 go_wp2_with fail
 go_ret
 exact ⟨rfl,H1.out,H2.out⟩
set_option maxRecDepth 1000000 in
set_option maxHeartbeats 3200000 in
theorem con_none_get {w0 w u:World} {b gx:Nat} {X Y:Nat→Prop} {R:Co} {m:Mg} (h:COnH w0 w u b gx X Y R m) (hk:¬ m.k=5) (u1 u2 u6 u7 u8 u9 u10 u11 u12 u13 u14 u15 u16 u17 u18 u19 u20 u21 u22 u23 u24 u25 u26 u27 u28 u29 u30 u31 u32 u33 u34 u35 u36 u37 u38 u39 u40 u41 u42 u43 u44 u45 u46 u47 u48 u49 u51 u52 u53 u54 u55 u56 u57 u58 u59 u60 u61 u62 u63 u64 u65 u66 u67 u68 u69 u70 u71 u72 u73 u74 u75 u76 u77 u78 u79 u80 u81 u82 u83 u84 u85 u86 u87 u88 u89 u90 u91 u92 u93 u94 u95 u96 u97 u98 u99 u100 u101 u102 u103 u104 u105 u106 u107 u108 u109 u110 u111 u112 u113 u114 u115 u116 u117 u118 u119 u120 u121 u122 u123 u124 u125 u126:Value) {K:Act→World→Prop} :
 Code.wp Tryz.prog conCode (Exit.then K (bodyPost Tryz.prog Tryz.f421 (COnP w0 w b X (R) false))) ⟨#[.pointer (some ⟨b,0,none⟩),u1,u2,.pointer (some ⟨gx,0,none⟩),.bool false,.bool true,u6,u7,u8,u9,u10,u11,u12,u13,u14,u15,u16,u17,u18,u19,u20,u21,u22,u23,u24,u25,u26,u27,u28,u29,u30,u31,u32,u33,u34,u35,u36,u37,u38,u39,u40,u41,u42,u43,u44,u45,u46,u47,u48,u49,.bool false,u51,u52,u53,u54,u55,u56,u57,u58,u59,u60,u61,u62,u63,u64,u65,u66,u67,u68,u69,u70,u71,u72,u73,u74,u75,u76,u77,u78,u79,u80,u81,u82,u83,u84,u85,u86,u87,u88,u89,u90,u91,u92,u93,u94,u95,u96,u97,u98,u99,u100,u101,u102,u103,u104,u105,u106,u107,u108,u109,u110,u111,u112,u113,u114,u115,u116,u117,u118,u119,u120,u121,u122,u123,u124,u125,u126],[]⟩ u:=by
 obtain ⟨m0,m1,m2,m3,m4,m5⟩:=six_cells h.box
 have lgx:=(Array.getElem?_eq_some_iff.1 h.box).1
 have lb:=h.co.lt
 conv=>arg 2;whnf
 have HH:=hide h
 have h5:(m.k == 5)=false:=beq_eq_false_iff_ne.2 hk
 clear h m1 m2 m3 m5 hk
 go_wp2_with fail
 go_ret
 exact ⟨rfl,(HH.out.done (HH.out.co.wide (Below.refl _ _)) (Sets.refl _)).1,(HH.out.done (HH.out.co.wide (Below.refl _ _)) (Sets.refl _)).2⟩
set_option maxRecDepth 1000000 in
set_option maxHeartbeats 3200000 in
theorem con_none_put {w0 w u:World} {b gx:Nat} {X Y:Nat→Prop} {R:Co} {m:Mg} (h:COnH w0 w u b gx X Y R m) (hk:¬ m.k=3) (hk2:¬ m.k=2) (u1 u2 u6 u7 u8 u9 u10 u11 u12 u13 u14 u15 u16 u17 u18 u19 u20 u21 u22 u23 u24 u25 u26 u27 u28 u29 u30 u31 u32 u33 u34 u35 u36 u37 u38 u39 u40 u41 u42 u43 u44 u45 u46 u47 u48 u49 u51 u52 u53 u54 u55 u56 u57 u58 u59 u60 u61 u62 u63 u64 u65 u66 u67 u68 u69 u70 u71 u72 u73 u74 u75 u76 u77 u78 u79 u80 u81 u82 u83 u84 u85 u86 u87 u88 u89 u90 u91 u92 u93 u94 u95 u96 u97 u98 u99 u100 u101 u102 u103 u104 u105 u106 u107 u108 u109 u110 u111 u112 u113 u114 u115 u116 u117 u118 u119 u120 u121 u122 u123 u124 u125 u126:Value) {K:Act→World→Prop} :
 Code.wp Tryz.prog conCode (Exit.then K (bodyPost Tryz.prog Tryz.f421 (COnP w0 w b X (R) false))) ⟨#[.pointer (some ⟨b,0,none⟩),u1,u2,.pointer (some ⟨gx,0,none⟩),.bool false,.bool false,u6,u7,u8,u9,u10,u11,u12,u13,u14,u15,u16,u17,u18,u19,u20,u21,u22,u23,u24,u25,u26,u27,u28,u29,u30,u31,u32,u33,u34,u35,u36,u37,u38,u39,u40,u41,u42,u43,u44,u45,u46,u47,u48,u49,.bool false,u51,u52,u53,u54,u55,u56,u57,u58,u59,u60,u61,u62,u63,u64,u65,u66,u67,u68,u69,u70,u71,u72,u73,u74,u75,u76,u77,u78,u79,u80,u81,u82,u83,u84,u85,u86,u87,u88,u89,u90,u91,u92,u93,u94,u95,u96,u97,u98,u99,u100,u101,u102,u103,u104,u105,u106,u107,u108,u109,u110,u111,u112,u113,u114,u115,u116,u117,u118,u119,u120,u121,u122,u123,u124,u125,u126],[]⟩ u:=by
 obtain ⟨m0,m1,m2,m3,m4,m5⟩:=six_cells h.box
 have lgx:=(Array.getElem?_eq_some_iff.1 h.box).1
 have lb:=h.co.lt
 conv=>arg 2;whnf
 have HH:=hide h
 have h3:(m.k == 3)=false:=beq_eq_false_iff_ne.2 hk
 have h2:(m.k != 2)=true:=by simpa using hk2
 clear h m1 m2 m3 m5 hk hk2
 go_wp2_with fail
 go_ret
 exact ⟨rfl,(HH.out.done (HH.out.co.wide (Below.refl _ _)) (Sets.refl _)).1,(HH.out.done (HH.out.co.wide (Below.refl _ _)) (Sets.refl _)).2⟩
set_option maxRecDepth 1000000 in
set_option maxHeartbeats 3200000 in
theorem con_done {w0 w u:World} {b gx:Nat} {X Y:Nat→Prop} {R:Co} {m:Mg} (h:COnH w0 w u b gx X Y R m) (hk:m.k=2) (u1 u2 u6 u7 u8 u9 u10 u11 u12 u13 u14 u15 u16 u17 u18 u19 u20 u21 u22 u23 u24 u25 u26 u27 u28 u29 u30 u31 u32 u33 u34 u35 u36 u37 u38 u39 u40 u41 u42 u43 u44 u45 u46 u47 u48 u49 u51 u52 u53 u54 u55 u56 u57 u58 u59 u60 u61 u62 u63 u64 u65 u66 u67 u68 u69 u70 u71 u72 u73 u74 u75 u76 u77 u78 u79 u80 u81 u82 u83 u84 u85 u86 u87 u88 u89 u90 u91 u92 u93 u94 u95 u96 u97 u98 u99 u100 u101 u102 u103 u104 u105 u106 u107 u108 u109 u110 u111 u112 u113 u114 u115 u116 u117 u118 u119 u120 u121 u122 u123 u124 u125 u126:Value) {K:Act→World→Prop} {Q:Exit→Act→World→Prop} (hK:∀ (v57 v58 v59 v60 v61 v62 v63 v64 v65 v66 v67 v68 v69 v70 v71 v72 v73 v74 v75 v76 v77 v78 v79 v80 v81 v82 v83 v84 v85 v86 v87 v88 v89 v90 v91 v92 v93 v94 v95 v96 v97:Value) (W2:World),COnT w0 w W2 b gx X R m→K ⟨#[.pointer (some ⟨b,0,none⟩),u1,u2,.pointer (some ⟨gx,0,none⟩),.bool false,.bool false,u6,u7,u8,u9,u10,u11,u12,u13,u14,u15,u16,u17,u18,u19,u20,u21,u22,u23,u24,u25,u26,u27,u28,u29,u30,u31,u32,u33,u34,u35,u36,u37,u38,u39,u40,u41,u42,u43,u44,u45,u46,u47,u48,u49,.bool false,u51,u52,u53,u54,u55,u56,v57,v58,v59,v60,v61,v62,v63,v64,v65,v66,v67,v68,v69,v70,v71,v72,v73,v74,v75,v76,v77,v78,v79,v80,v81,v82,v83,v84,v85,v86,v87,v88,v89,v90,v91,v92,v93,v94,v95,v96,v97,u98,u99,u100,u101,u102,u103,u104,u105,u106,u107,u108,u109,u110,u111,u112,u113,u114,u115,u116,u117,u118,u119,u120,u121,u122,u123,u124,u125,u126],[]⟩ W2) :
 Code.wp Tryz.prog conCode (Exit.then K Q) ⟨#[.pointer (some ⟨b,0,none⟩),u1,u2,.pointer (some ⟨gx,0,none⟩),.bool false,.bool false,u6,u7,u8,u9,u10,u11,u12,u13,u14,u15,u16,u17,u18,u19,u20,u21,u22,u23,u24,u25,u26,u27,u28,u29,u30,u31,u32,u33,u34,u35,u36,u37,u38,u39,u40,u41,u42,u43,u44,u45,u46,u47,u48,u49,.bool false,u51,u52,u53,u54,u55,u56,u57,u58,u59,u60,u61,u62,u63,u64,u65,u66,u67,u68,u69,u70,u71,u72,u73,u74,u75,u76,u77,u78,u79,u80,u81,u82,u83,u84,u85,u86,u87,u88,u89,u90,u91,u92,u93,u94,u95,u96,u97,u98,u99,u100,u101,u102,u103,u104,u105,u106,u107,u108,u109,u110,u111,u112,u113,u114,u115,u116,u117,u118,u119,u120,u121,u122,u123,u124,u125,u126],[]⟩ u:=by
 have HK:=hide hK
 clear hK
 obtain ⟨m0,m1,m2,m3,m4,m5⟩:=six_cells h.box
 have lgx:=(Array.getElem?_eq_some_iff.1 h.box).1
 have lb:=h.co.lt
 conv=>arg 2;whnf
 have HH:=hide h
 rw [hk] at m0
 clear h m1 m2 m3 m5 hk
 go_wp2_with fail
 exact HK.out _ _ _ _ _ _ _ _ _ _ _ _ _ _ _ _ _ _ _ _ _ _ _ _ _ _ _ _ _ _ _ _ _ _ _ _ _ _ _ _ _ _ ⟨_,HH.out⟩
set_option maxRecDepth 1000000 in
set_option maxHeartbeats 3200000 in
theorem con_got {w0 w u:World} {b gx:Nat} {X Y:Nat→Prop} {R:Co} {m:Mg} (h:COnH w0 w u b gx X Y R m) (hk:m.k=5) (hG:R.G.length≤1000) (hM:m.L.length≤1099511627776) (u1 u2 u6 u7 u8 u9 u10 u11 u12 u13 u14 u15 u16 u17 u18 u19 u20 u21 u22 u23 u24 u25 u26 u27 u28 u29 u30 u31 u32 u33 u34 u35 u36 u37 u38 u39 u40 u41 u42 u43 u44 u45 u46 u47 u48 u49 u51 u52 u53 u54 u55 u56 u57 u58 u59 u60 u61 u62 u63 u64 u65 u66 u67 u68 u69 u70 u71 u72 u73 u74 u75 u76 u77 u78 u79 u80 u81 u82 u83 u84 u85 u86 u87 u88 u89 u90 u91 u92 u93 u94 u95 u96 u97 u98 u99 u100 u101 u102 u103 u104 u105 u106 u107 u108 u109 u110 u111 u112 u113 u114 u115 u116 u117 u118 u119 u120 u121 u122 u123 u124 u125 u126:Value) {K:Act→World→Prop} {Q:Exit→Act→World→Prop} (hK:∀ (v57 v58 v59 v60 v61 v62 v63 v64 v65 v66 v67 v68 v69 v70 v71 v72 v73 v74 v75 v76 v77 v78 v79 v80 v81 v82 v83 v84 v85 v86 v87 v88 v89 v90 v91 v92 v93 v94 v95 v96 v97:Value) (W2:World),COnT w0 w W2 b gx X { R with G:=R.G ++ [⟨m.n,none,0,m.L⟩] } m→K ⟨#[.pointer (some ⟨b,0,none⟩),u1,u2,.pointer (some ⟨gx,0,none⟩),.bool false,.bool true,u6,u7,u8,u9,u10,u11,u12,u13,u14,u15,u16,u17,u18,u19,u20,u21,u22,u23,u24,u25,u26,u27,u28,u29,u30,u31,u32,u33,u34,u35,u36,u37,u38,u39,u40,u41,u42,u43,u44,u45,u46,u47,u48,u49,.bool false,u51,u52,u53,u54,u55,u56,v57,v58,v59,v60,v61,v62,v63,v64,v65,v66,v67,v68,v69,v70,v71,v72,v73,v74,v75,v76,v77,v78,v79,v80,v81,v82,v83,v84,v85,v86,v87,v88,v89,v90,v91,v92,v93,v94,v95,v96,v97,u98,u99,u100,u101,u102,u103,u104,u105,u106,u107,u108,u109,u110,u111,u112,u113,u114,u115,u116,u117,u118,u119,u120,u121,u122,u123,u124,u125,u126],[]⟩ W2) :
 Code.wp Tryz.prog conCode (Exit.then K Q) ⟨#[.pointer (some ⟨b,0,none⟩),u1,u2,.pointer (some ⟨gx,0,none⟩),.bool false,.bool true,u6,u7,u8,u9,u10,u11,u12,u13,u14,u15,u16,u17,u18,u19,u20,u21,u22,u23,u24,u25,u26,u27,u28,u29,u30,u31,u32,u33,u34,u35,u36,u37,u38,u39,u40,u41,u42,u43,u44,u45,u46,u47,u48,u49,.bool false,u51,u52,u53,u54,u55,u56,u57,u58,u59,u60,u61,u62,u63,u64,u65,u66,u67,u68,u69,u70,u71,u72,u73,u74,u75,u76,u77,u78,u79,u80,u81,u82,u83,u84,u85,u86,u87,u88,u89,u90,u91,u92,u93,u94,u95,u96,u97,u98,u99,u100,u101,u102,u103,u104,u105,u106,u107,u108,u109,u110,u111,u112,u113,u114,u115,u116,u117,u118,u119,u120,u121,u122,u123,u124,u125,u126],[]⟩ u:=by
 have HK:=hide hK
 clear hK
 obtain ⟨m0,m1,m2,m3,m4,m5⟩:=six_cells h.box
 have lgx:=(Array.getElem?_eq_some_iff.1 h.box).1
 have lb:=h.co.lt
 conv=>arg 2;whnf
 have HH:=hide h
 rw [hk] at m0
 obtain ⟨vg,va,hbr,hcg,hca⟩:=h.co.row
 obtain ⟨N,hN,how,hrd,hfar⟩:=hcg.row
 have hNl:N.length≤1000:=by
  have h1:=congrArg List.length hN
  rw [List.length_map] at h1
  omega
 have HVB:Hid (vg.ownBlock ≠ some b):=hide (fun e=>by have:=(OwnL.lt how b e).1;omega)
 obtain ⟨Ag,cg,rfl,_,_,_,_⟩:=OwnL.row Gt.cells_len how
 have k16:u.cell? ⟨b,16,none⟩=some (.slice Ag N.length cg):=(cell_of_list (o:=16) hbr).trans rfl
 have HC:Hid (∀ W:World,Below u.heap.size u W→W.cell? ⟨b,16,none⟩=some (.slice Ag N.length cg)∧W.cell? ⟨gx,0,none⟩=some (.int .i64 5)∧W.cell? ⟨gx,1,none⟩=some (.int .i64 m.f)∧W.cell? ⟨gx,2,none⟩=some (.int .i64 m.t)∧W.cell? ⟨gx,3,none⟩=some (.int .u64 m.id)∧W.cell? ⟨gx,4,none⟩=some (.int .u64 m.n)∧W.cell? ⟨gx,5,none⟩=some (.slice m.A m.L.length m.c)):=hide (fun W hW =>
  ⟨keep_cell hW k16 lb,keep_cell hW m0 lgx,keep_cell hW m1 lgx,keep_cell hW m2 lgx,keep_cell hW m3 lgx,keep_cell hW m4 lgx,keep_cell hW m5 lgx⟩)
 have hmr:=h.rd
 have hcp:=fun (W:World) (hW:Below u.heap.size u W)=>mcopy_any m W (hmr.below hW) hM
 unfold Mg.val at hcp
 rw [hk] at hcp
 have HCP:=hide hcp
 have HBR:=hide hbr
 have HCG:=hide hcg
 have HCA:=hide hca
 have HNN:=hide hN
 have HOW:=hide how
 have HRDN:=hide hrd
 have HFAR:=hide hfar
 clear h hbr hcg hca hN how hrd hfar hmr hcp k16 hk hG hM m1 m2 m3 m4 m5
 go_upto_region 8 with fail
 obtain ⟨ud,hud⟩:∃ ud,u.drew=ud:=⟨_,rfl⟩
 have HUD:Hid (Below u.heap.size u ud):=hide (by rw [← hud];exact (Below.refl _ _).drew)
 clear m0
 refine j_startD [12,13,14,15,0] hud (by kernel_rfl) ?_
 clear hud
 refine' j_tw 0 rfl (by kernel_rfl) rfl ?y0 ?r0
 case y0=>(intro w' hw';go_simp;try with_reducible rfl)
 try go_frame
 refine' j_t 1 [2,3,4,12,13,14,15] rfl (by kernel_rfl) rfl ?y1 ?r1
 case y1=>(intro w' hw';go_simp;try with_reducible rfl)
 try go_frame
 refine' j_t 2 [3,4,12,13,14,15] rfl (by kernel_rfl) rfl ?y2 ?r2
 case y2=>(intro w' hw';go_simp;try with_reducible rfl)
 try go_frame
 refine' j_t 3 [4,12,13,14,15] rfl (by kernel_rfl) rfl ?y3 ?r3
 case y3=>(intro w' hw';go_simp;try with_reducible rfl)
 try go_frame
 refine' j_t 4 [12,13,14,15] rfl (by kernel_rfl) rfl ?y4 ?r4
 case y4=>(intro w' hw';have jg:=(HC.out _ (below_step HUD.out hw')).1;go_simp;try with_reducible rfl)
 try go_frame
 refine' j_t 5 [6,10,11,12,13,14,15] rfl (by kernel_rfl) rfl ?y5 ?r5
 case y5=>(intro w' hw';go_simp;try with_reducible rfl)
 try go_frame
 refine' j_t 6 [10,11,12,13,14,15] rfl (by kernel_rfl) rfl ?y6 ?r6
 case y6=>(intro w' hw';have jn:=(HC.out _ (below_step HUD.out hw')).2.2.2.2.2.1;go_simp;try with_reducible rfl)
 try go_frame
 refine' j_t 7 [8,9,10,11,12,13,14,15] rfl (by kernel_rfl) rfl ?y7 ?r7
 case y7=>(intro w' hw';obtain ⟨_,i0,i1,i2,i3,i4,i5⟩:=HC.out _ (below_step HUD.out hw');go_simp;try with_reducible rfl)
 try go_frame
 refine' j_s 8 (by kernel_rfl) rfl (fun K hK=>?s8)
 go_simp
 refine (Calls.mono (HCP.out _ HUD.out) ?_);rintro e u1 ⟨A1,c1,rfl,hoc,gg⟩
 have HOC:=hide hoc
 have HGG:=hide gg
 clear hoc
 refine hK.out _ _ gg (j_switch gg ?_)
 clear hK K gg
 try go_frame
 refine' j_t 9 [10,11,12,13,14,15] rfl (by kernel_rfl) rfl ?y9 ?r9
 case y9=>(intro w' hw';have jf:=field_msg (.int .i64 5) (.int .i64 m.f) (.int .i64 m.t) (.int .u64 m.id) (.int .u64 m.n) (.slice A1 m.L.length c1) w';go_simp;try with_reducible rfl)
 try go_frame
 refine' j_t 10 [11,12,13,14,15] rfl (by kernel_rfl) rfl ?y10 ?r10
 case y10=>(intro w' hw';go_simp;try with_reducible rfl)
 try go_frame
 refine' j_s 11 (by kernel_rfl) rfl (fun K hK=>?s11)
 go_simp
 have ha:=below_alloc (Below.refl u1.heap.size u1) (.cells #[.int .u64 m.n,.slice A1 m.L.length c1] 486)
 have hz:=heap_alloc_new u1 (.cells #[.int .u64 m.n,.slice A1 m.L.length c1] 486)
 obtain ⟨u2,hu2⟩:∃ u2,u1.alloc (.cells #[.int .u64 m.n,.slice A1 m.L.length c1] 486)=u2:=⟨_,rfl⟩
 obtain ⟨g8,hg8⟩:∃ g8,u1.heap.size=g8:=⟨_,rfl⟩
 refine hK.out _ _ ha (j_switch ha ?_)
 clear hK K
 rw [hu2] at ha hz
 rw [hg8] at hz
 try rw [hu2]
 try rw [hg8]
 have HU2:=hide ha
 have HN2:=hide (RowAt.new_one (cells:=Gt.cells) (sz:=2) (y:=(⟨m.n,A1,c1,m.L⟩:Gt)) hz)
 have HG8:=hide hg8
 have HBU:=hide (below_step (below_step HUD.out HGG.out) ha)
 clear ha hz hu2 hg8
 try go_frame
 refine' j_l 12 (by kernel_rfl) rfl (by kernel_rfl) (fun K hK=>?s12)
 refine step_app_got rfl (.tmp 80) (.tmp 87) rfl rfl (b+1) _ N rfl (OwnL.below HOW.out HBU.out) (some ⟨g8,0,none⟩) 1 1 [(⟨m.n,A1,c1,m.L⟩:Gt)] rfl rfl HN2.out (by omega) (Nat.le_trans lb HBU.out.size) ?_
 intro v3 u3 ho3 hg3 hm3
 obtain ⟨A3,c3,rfl,_,_,_,_⟩:=OwnL.row Gt.cells_len ho3
 have hl3:(N ++ [(⟨m.n,A1,c1,m.L⟩:Gt)]).length=N.length+1:=by simp
 rw [hl3] at ho3 hm3
 rw [hl3]
 have hkb:=(hg3.block b (Nat.lt_of_lt_of_le lb HBU.out.size) (fun e=>HVB.out e.symm)).trans ((HBU.out.block b lb).trans HBR.out)
 have k16:=(cell_of_list (o:=16) hkb).trans rfl
 have z16:u3.frozen? ⟨b,16,none⟩=false:=(by simp [World.frozen?,hkb])
 have HKB:=hide hkb
 have HO3:=hide ho3
 have HG3:=hide hg3
 have HM3:=hide hm3
 clear ho3 hg3 hm3 hkb hl3
 refine hK.out _ _ ?_
 clear hK K
 try go_frame
 refine' j_l 13 (by kernel_rfl) rfl (by kernel_rfl) (fun K hK=>?s13)
 go_simp
 refine hK.out _ _ ?_
 clear hK K
 try go_frame
 refine' j_l 14 (by kernel_rfl) rfl (by kernel_rfl) (fun K hK=>?s14)
 go_simp
 refine hK.out _ _ ?_
 clear hK K
 try go_frame
 refine' j_l 15 (by kernel_rfl) rfl (by kernel_rfl) (fun K hK=>?s15)
 have k16:u3.cell? ⟨b,16,none⟩=some (.slice Ag N.length cg):=k16
 go_simp
 refine hK.out _ _ ?_
 clear hK K k16 z16
 try go_frame
 refine wpAnyJ_done (by kernel_rfl) ?_ _
 refine NoPanic.normal ?_
 obtain ⟨u4,hu4⟩:∃ u4,(u3.setCell ⟨b,16,none⟩ (.slice A3 (N.length+1) c3))=u4:=⟨_,rfl⟩
 have hs4:Sets (fun g=>g=b) u3 u4:=by rw [← hu4];exact (Sets.refl (S:=fun g=>g=b) u3).set (g:=b) (fun _=>rfl) 16 _
 have hb4:u4.heap[b]? = some (.cells (coL { R with G:=R.G ++ [⟨m.n,none,0,m.L⟩] } 0 (.slice A3 (N.length+1) c3) va).toArray 190 (0,0)):=by rw [← hu4];exact set_of_list (o:=16) HKB.out _
 have HF:Hid (COnT w0 w u4 b gx X { R with G:=R.G ++ [⟨m.n,none,0,m.L⟩] } m):=hide (by
  have hbu:=HBU.out
  have hco:=HH.out.co
  have hg3:=HG3.out
  have hY:∀ g,Y g→g < u.heap.size:=fun g hg=>(hco.xs g hg).2
  have hvY:∀ g,(Value.slice Ag N.length cg).ownBlock=some g→Y g:=HCG.out.x
  have hs3:Sets (fun g=>(Value.slice Ag N.length cg).ownBlock=some g) u2 u3:=⟨hg3.os,hg3.tape,hg3.output,hg3.size,fun i hi hn=>hg3.block i hi (fun e=>hn e.symm)⟩
  have hs03:Sets Y u u3:=(Sets.of (S:=Y) hbu).trans hs3 (fun g _ hg=>hvY g hg)
  have hs04:Sets Y u u4:=hs03.trans hs4 (fun g _ e=>by rw [e];exact hco.xb)
  have hsz:=hs04.size
  have hsu:=hbu.size
  have hgx:gx < u.heap.size:=lgx
  have hdn:CoO w0 u4 b (Xn Y u u4) { R with G:=R.G ++ [⟨m.n,none,0,m.L⟩] }:=by
   refine ⟨⟨_,va,hb4,⟨⟨N ++ [⟨m.n,A1,c1,m.L⟩],?_,?_,?_,?_⟩,?_⟩,?_⟩,?_,.inl hco.xb,?_⟩
   ·rw [List.map_append,HNN.out];rfl
   ·have:=OwnL.sets HO3.out hs4 (fun g hg e=>by have:=(OwnL.lt HO3.out g hg).1;omega)
    simpa using this
   ·intro y hy
    rcases List.mem_append.1 hy with h1 | h1
    ·have:=HRDN.out y h1
     exact ⟨(((this.1.below hbu).sets hs3 (fun a ha hn e=>(HFAR.out y h1 a ha hn).2.2 e))).sets hs4 (fun a ha hn e=>(HFAR.out y h1 a ha hn).2.1 e),this.2⟩
    ·rw [List.mem_singleton] at h1
     subst h1
     obtain ⟨Aq,cq,he,hr1,hlo,hc1,hc2⟩:=OwnL.row It.cells_len HOC.out
     injection he with he1 _ he2
     subst he1 he2
     have hlo':∀ a,A1=some a→ud.heap.size≤a.block:=fun a ha=>(hlo a.block a.off a.spot (by rw [ha])).1
     refine ⟨((hr1.below HU2.out).sets hs3 (fun a ha hn e=>by have:=hlo' a ha;have:=hY _ (hvY _ e);have:=HUD.out.size;omega)).sets hs4 (fun a ha hn e=>by have:=hlo' a ha;have:=HUD.out.size;have:=hY _ hco.xb;omega),hc1,hc2⟩
   ·intro y hy a ha hn
    have key:Xn Y u u2 a.block∧a.block < u2.heap.size∧a.block ≠ b∧(Value.slice Ag N.length cg).ownBlock ≠ some a.block:=by
     rcases List.mem_append.1 hy with h1 | h1
     ·have h2:=HFAR.out y h1 a ha hn
      exact ⟨.inl h2.1,Nat.lt_of_lt_of_le (hY _ h2.1) hsu,h2.2⟩
     ·rw [List.mem_singleton] at h1
      subst h1
      obtain ⟨Aq,cq,he,hr1,hlo,hc1,hc2⟩:=OwnL.row It.cells_len HOC.out
      injection he with he1 _ he2
      subst he1 he2
      have hl:=hlo a.block a.off a.spot (by rw [show A1=some a from ha])
      have h3:=HUD.out.size
      have h4:=HU2.out.size
      have h5:=hY _ hco.xb
      exact ⟨.inr ⟨by omega,by omega⟩,by omega,by omega,fun e=>by have:=hY _ (hvY _ e);omega⟩
    have h3z:=hs3.size
    have h4z:=hs4.size
    refine ⟨?_,key.2.2.1,fun e=>?_⟩
    ·rcases key.1 with h1 | h1
     ·exact .inl h1
     ·exact .inr ⟨h1.1,by omega⟩
    ·rcases HM3.out with h1 | h1
     ·exact key.2.2.2 (h1.symm.trans e)
     ·rw [h1] at e
      have:=Option.some.inj e
      have:=key.2.1
      omega
   ·intro g hg
    rcases HM3.out with h1 | h1
    ·exact .inl (hvY g (h1.symm.trans hg))
    ·rw [h1] at hg
     have:=Option.some.inj hg
     have h6:=(OwnL.lt HO3.out g (by rw [h1];exact hg)).2
     have h4z:=hs4.size
     exact .inr ⟨by omega,by omega⟩
   ·refine ⟨sl_sets_ (sl_sets_ (HCA.out.1.below hbu) hs3 (fun g hg e=>(HCA.out.2 g hg).2.2 e)) hs4 (fun g hg e=>(HCA.out.2 g hg).2.1 e),fun g hg=>⟨.inl (HCA.out.2 g hg).1,(HCA.out.2 g hg).2.1,fun e=>?_⟩⟩
    rcases HM3.out with h1 | h1
    ·exact (HCA.out.2 g hg).2.2 (h1.symm.trans e)
    ·rw [h1] at e
     have:=Option.some.inj e
     have:=hY g (HCA.out.2 g hg).1
     omega
   ·exact Sets.below hco.low hs04 (fun g hg=>(hco.xs g hg).1) hco.low.size
   ·intro g hg
    rcases hg with hg | hg
    ·exact ⟨(hco.xs g hg).1,Nat.lt_of_lt_of_le (hco.xs g hg).2 hsz⟩
    ·exact ⟨Nat.le_trans hco.low.size hg.1,hg.2⟩
  have hd:=HH.out.done hdn hs04
  refine ⟨Xn Y u u4,hdn,?_,HH.out.gxl,⟨HH.out.rd.1.sets hs04 HH.out.rdx,HH.out.rd.2⟩,fun a ha hn e=>(by
   rcases e with e | e
   ·exact HH.out.rdx a ha hn e
   ·have:=rd_lt_ HH.out.rd a ha hn;omega),hd.2,?_,HH.out.xo,?_,HH.out.w0l⟩
  ·exact (hs04.block gx hgx (fun e=>HH.out.yo gx e rfl)).trans HH.out.box
  ·intro g hg
   rcases hg with hg | hg
   ·rcases HH.out.y g hg with h1 | h1
    ·exact .inl h1
    ·exact .inr ⟨h1.1,by omega⟩
   ·exact .inr ⟨Nat.le_trans HH.out.low.size hg.1,hg.2⟩
  ·intro g hg
   rcases hg with hg | hg
   ·exact HH.out.yo g hg
   ·omega)
 rw [hu4]
 clear hs4 hb4 hu4
 go_wp2_with fail
 exact HK.out _ _ _ _ _ _ _ _ _ _ _ _ _ _ _ _ _ _ _ _ _ _ _ _ _ _ _ _ _ _ _ _ _ _ _ _ _ _ _ _ _ _ HF.out
end Go.Proofs.YtgmkckjedngkdaaGreatDoor
