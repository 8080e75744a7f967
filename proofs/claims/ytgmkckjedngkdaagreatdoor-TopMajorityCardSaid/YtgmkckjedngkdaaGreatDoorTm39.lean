/- A part of the proof that TopMajorityLaw holds: XZDel. Conditions: as typed. -/
import Derived.Test.YtgmkckjedngkdaaGreatDoorTm38
import Derived.BigQuiet
set_option linter.unusedVariables false
set_option linter.unusedSimpArgs false
namespace Go.Proofs.YtgmkckjedngkdaaGreatDoor
open Go.ChangeShapes Go.WideShapes Go.ChangeAt Go.RowKit
noncomputable def endO (m:Mg):Option (Nat × Co)→Option (Nat × Co)
 | none=>none
 | some x=>endJ x.1 (conR x.2 m)
def AddO (m:Mg) (j:Option (Nat × Co)) (AL AL':List (An × List It)):Prop:=match j with
 | none=>AL'=AL
 | some x=>AddA (conR x.2 m) AL AL'
theorem conR_bare {x m:Mg} (h:x.bare=m) (R:Co):conR R x=conR R m:=by
 obtain ⟨k,f,t,id,n,A,c,L⟩:=x
 subst h
 rfl
theorem seeM_bare {x m:Mg} (h:x.bare=m) (n:Int):seeM n x=seeM n m:=by
 obtain ⟨k,f,t,id,n,A,c,L⟩:=x
 subst h
 rfl
def JobOk (m:Mg) (j:Option (Nat × Co)):Prop:=∀ x,j=some x→CoK x.2∧SmallC x.2∧(conR x.2 m).AL.length≤1099511627776
set_option maxRecDepth 100000 in
set_option maxHeartbeats 6400000 in
theorem cdel_any {w:World} {base:Bs} {c i p:Nat} {col:Nat→Nat} {a:Cl} {P:Pl} {m0:Mg} {rest:List Mg} (H:CluV w base c col a) (hp:a.ps[i]? = some p) (hP:a.P[i]? = some P) (hu:P.up=true) (hC:a.C=m0 :: rest) (ht:m0.t=i) (T:List Mg→Sr→Prop)
 (hH:∀ (W:World) (k:Nat→Nat) (x:Mg),x.bare=m0→x.rd W→(∀ ad,x.A=some ad→x.L ≠ []→k ad.block=0)→NodeO W base P.n (fun g=>k g=11+5 * i) P.N→Calls Tryz.prog 9 #[ptv P.n,x.val] W (HanP W base P.n (fun g=>k g=11+5 * i) P.N T))
 (hT:∀ rep R',T rep R'→(∀ r ∈ rep,mokB r=true)∧rep.length≤1) (hcap:a.C.length≤300) (hwf:∀ x ∈ m0.L,x.wf) (hn0:0≤m0.n) (hj:JobOk m0 P.job) (hAL:a.AL.length≤1000) (hse:0≤a.se∧a.se≤549755813000) :
 Calls Tryz.prog 52 #[ptv c,.int .i64 0] w fun e w'=>e=.returned (.bool true)∧∃ rep R',T rep R'∧∃ col' rb' va' vj' AL',CluV w' base c col' { a with C:=rest ++ rep,se:=a.se+rep.length,rb:=rb',va:=va',AL:=AL',P:=a.P.set i { P with N:={ P.N with R:=R' },now:=seeM P.now m0,vj:=vj',job:=endO m0 P.job } }∧AddO m0 P.job a.AL AL'∧Bek base w w':=by
 have hmk:mokB m0=true:=H.net.ok m0 (by rw [hC];exact List.mem_cons_self)
 have hml:m0.L.length≤1500∧m0.n≤281474976710656:=by
  unfold mokB at hmk
  simp only [Bool.and_eq_true,decide_eq_true_eq] at hmk
  exact ⟨hmk.1.1.2,hmk.1.1.1.2⟩
 have htk:Calls Tryz.prog 110 #[ptv a.nb,.int .i64 0] w fun e w'=>∃ (x:Mg),e=.returned (.tuple #[x.val,.bool true])∧x.bare=m0∧x.rd w'∧NetX w' a.nb a.rb (fun g=>col g=0) 300 rest 0 a.se∧Sets (NBlk a.nb a.rb) w w'∧∀ ad,x.A=some ad→x.L ≠ []→col ad.block=0∧¬ NBlk a.nb a.rb ad.block∧ad.block < w.heap.size:=by
  have hN:=H.net
  rw [hC] at hN
  refine (take_x hN 0 (by simp)).mono ?_
  rintro e w' ⟨x,rfl,h1,h2,h3,h4,h5⟩
  exact ⟨x,rfl,h1,h2,h3,h4,h5⟩
 have hv:=H.pl i p P hp hP hu
 have c2:=H.cells.2.2.2.1
 have HTK:=hide htk
 have HH:=hide H
 have HP:=hide hp
 have HPP:=hide hP
 have HU_:=hide hu
 clear hu
 have HC0:=hide hC
 have HHN:=hide hH
 have HTT:=hide hT
 have HCAP:Hid (rest.length+1≤300):=hide (by rw [hC] at hcap;exact hcap)
 have HWF:=hide hwf
 have HN0:=hide (And.intro hn0 hml)
 have HJO:=hide hj
 have HAL:=hide hAL
 have HSE0:=hide hse
 have HSE:Hid (0≤a.se∧a.se≤549755813888):=hide ⟨hse.1,by omega⟩
 have HT0:=hide ht
 have hps:i < a.ps.length:=by
  rw [List.getElem?_eq_some_iff] at hp
  exact hp.1
 have HPS:=hide hps
 clear H hp hP hC ht hH hT hcap hwf hn0 hj hAL hse hmk hml htk hv
 go_enter Tryz.func52,Tryz.ntmps52
 go_wp2_with fail
 refine (Calls.mono HTK.out ?_);rintro e w1 ⟨x,rfl,hxb,hxr,hn1,hs1,hx1⟩
 have hxb0:x.bare=m0:=hxb
 have HH1:=hide (HH.out.netted hs1 (.inl rfl) (hn1.wide (fun g e=>.inl e)))
 have HB1:=hide (Sets.bek (Bek.refl base w) hs1 (fun g e=>(HH.out.ok g (by rw [HH.out.cn g e];omega)).1) HH.out.bl)
 have hxc:∀ ad,x.A=some ad→x.L ≠ []→colM col w.heap.size a.rb ad.block=0:=fun ad ha hn=>by
  obtain ⟨h1,_,h3⟩:=hx1 ad ha hn
  unfold colM
  rw [if_pos h3]
  exact h1
 obtain ⟨xk,xf,xt,xid,xn,xA,xc,xL⟩:=x
 have hxf:xt=i∧xn=m0.n∧xL=m0.L:=by
  have:=HT0.out
  rw [← hxb0] at this ⊢
  exact ⟨this,rfl,rfl⟩
 obtain ⟨rfl,rfl,rfl⟩:=hxf
 have hz5:=heap_alloc_new w1 (.cells #[.int .i64 xk,.int .i64 xf,.int .i64 i,.int .u64 xid,.int .u64 m0.n,.slice xA m0.L.length xc] 33)
 have hb5:=below_alloc (Below.refl w1.heap.size w1) (.cells #[.int .i64 xk,.int .i64 xf,.int .i64 i,.int .u64 xid,.int .u64 m0.n,.slice xA m0.L.length xc] 33)
 obtain ⟨w2,hw2⟩:∃ w2,w1.alloc (.cells #[.int .i64 xk,.int .i64 xf,.int .i64 i,.int .u64 xid,.int .u64 m0.n,.slice xA m0.L.length xc] 33)=w2:=⟨_,rfl⟩
 rw [hw2] at hz5 hb5
 obtain ⟨g5,hg5⟩:∃ g,w1.heap.size=g:=⟨_,rfl⟩
 rw [hg5] at hz5
 have lg5:=(Array.getElem?_eq_some_iff.1 hz5).1
 have HH2:=hide (HH1.out.below hb5)
 have HB2:=hide (HB1.out.trans (HH1.out.bek hb5))
 have HXB:=hide hxb0
 have HXC:=hide hxc
 have HX2:=hide (hxr.below hb5)
 have HZ5:=hide hz5
 have HW2:=hide hw2
 have HG5:=hide hg5
 have hg50:Hid (colM col w.heap.size a.rb g5=0):=hide (by
  by_cases h:colM col w.heap.size a.rb g5=0
  ·exact h
  ·have:=(HH1.out.ok g5 h).2;omega)
 have HU:=hide (cup_any HH2.out HP.out HPP.out HU_.out)
 clear hxb hxb0 hxr hn1 hs1 hx1 hxc hz5 hb5 hw2 hg5 c2 HTK
 obtain ⟨m0',m1',m2',m3',m4',m5'⟩:=six_cells HZ5.out
 go_upto_region 2 with fail
 rw [HW2.out,HG5.out]
 go_upto_region 4 with ((with_reducible refine (HU.out).mono ?_);rintro e w3 ⟨rfl,rfl⟩)
 obtain ⟨gp,offp,cpp,hvp,hgp,hpc⟩:=HH2.out.at_ (Below.refl _ _) HP.out
 have c0:=HH2.out.cells.2.1
 have hvp2:a.vp=.slice (some ⟨gp,offp,none⟩) a.ps.length cpp:=hvp
 rw [show a.vp=_ from hvp2] at c0
 have hcl:=HH2.out.cells.1
 have hiI:(i:Int) < (a.ps.length:Int):=by have:=HPS.out;omega
 have hi0:(0:Int)≤(i:Int):=by omega
 clear hvp hvp2
 go_quiet (fail)
 have hbz:Below w3.heap.size w3 (w3.drewN nq):=below_drewN (Below.refl _ _) nq
 obtain ⟨wz,hwz⟩:∃ wz,w3.drewN nq=wz:=⟨_,rfl⟩
 rw [hwz] at hbz ⊢
 have HHz:=hide (HH2.out.below hbz)
 have HBz:=hide (HB2.out.trans (HH2.out.bek hbz))
 have HXz:=hide (HX2.out.below hbz)
 have HZz:=hide ((hbz.block g5 lg5).trans HZ5.out)
 have HLz:=hide (Nat.lt_of_lt_of_le lg5 hbz.size)
 clear hwz hbz c0 hpc hcl hiI hi0 hgp m0' m1' m2' m3' m4' m5' HU HH1 HB1 HX2 HH2 HB2 HZ5 HW2 lg5
 have hvz:=HHz.out.pl i p P HP.out HPP.out HU_.out
 have hpz:p < wz.heap.size:=(HHz.out.ok p (by rw [hvz.cp];omega)).2
 have HC:Hid (∀ W:World,Below wz.heap.size wz W→W.cell? ⟨p,2,none⟩=some (ptv P.k)∧W.cell? ⟨p,1,none⟩=some (ptv P.n)∧W.cell? ⟨g5,0,none⟩=some (.int .i64 xk)∧W.cell? ⟨g5,1,none⟩=some (.int .i64 xf)∧W.cell? ⟨g5,2,none⟩=some (.int .i64 i)∧W.cell? ⟨g5,3,none⟩=some (.int .u64 xid)∧W.cell? ⟨g5,4,none⟩=some (.int .u64 m0.n)∧W.cell? ⟨g5,5,none⟩=some (.slice xA m0.L.length xc)):=hide (fun W hW=>by
  obtain ⟨x0,x1,x2,x3,x4,x5⟩:=six_cells ((hW.block g5 HLz.out).trans HZz.out)
  obtain ⟨_,k1,k2,_⟩:=hvz.cells
  exact ⟨keep_cell hW k2 hpz,keep_cell hW k1 hpz,x0,x1,x2,x3,x4,x5⟩)
 obtain ⟨ud,hud⟩:∃ ud,wz.drew=ud:=⟨_,rfl⟩
 have HUD:Hid (Below wz.heap.size wz ud):=hide (by rw [← hud];exact (Below.refl _ _).drew)
 have HHd:=hide (HHz.out.below HUD.out)
 have hsee:=csee_any (HHd.out.pl i p P HP.out HPP.out HU_.out).clk ⟨xk,xf,i,xid,m0.n,xA,xc,m0.L⟩ (HXz.out.below HUD.out) HN0.out.2.1 (fun ad ha hn e=>by
  have h1:=HXC.out ad ha hn
  have h2:=hvz.ck
  rw [e] at h1
  omega) ⟨HN0.out.1,show m0.n≤18446744073709551615 from Int.le_trans HN0.out.2.2 (by decide)⟩ HWF.out
 unfold Mg.val at hsee
 have HSEE:=hide hsee
 clear hvz hpz hsee
 go_upto_region 5 with fail
 refine j_start [5] (by kernel_rfl) ?_
 rw [hud]
 clear hud
 refine' j_t 0 [1,2,3,5] rfl (by kernel_rfl) rfl ?y0s ?r0s
 case y0s=>(intro w' hw';go_simp;try with_reducible rfl)
 try go_frame
 refine' j_t 1 [2,3,5] rfl (by kernel_rfl) rfl ?y1s ?r1s
 case y1s=>(intro w' hw';go_simp;try with_reducible rfl)
 try go_frame
 refine' j_t 2 [3,5] rfl (by kernel_rfl) rfl ?y2s ?r2s
 case y2s=>(intro w' hw';go_simp;try with_reducible rfl)
 try go_frame
 refine' j_t 3 [5] rfl (by kernel_rfl) rfl ?y3s ?r3s
 case y3s=>(intro w' hw';obtain ⟨q1,q2,y0,y1,y2,y3,y4,y5⟩:=HC.out _ (below_step HUD.out hw');go_simp;try with_reducible rfl)
 try go_frame
 refine' j_t 4 [5] rfl (by kernel_rfl) rfl ?y4s ?r4s
 case y4s=>(intro w' hw';obtain ⟨q1,q2,y0,y1,y2,y3,y4,y5⟩:=HC.out _ (below_step HUD.out hw');go_simp;try with_reducible rfl)
 try go_frame
 refine' wpAnyJ_last (i:=5) (o:=_) (by kernel_rfl) ?ho5s (by kernel_rfl) (fun KK hK=>?step5s)
 case ho5s=>(simp only [List.getElem?_toArray,List.getElem?_cons_succ,List.getElem?_cons_zero];rfl)
 go_simp
 refine (Calls.mono (HSEE.out) ?_);rintro e u1s ⟨rfl,hck,hks⟩
 have HK4:=hide hck;have HS4:=hide hks
 clear hck hks HSEE
 refine hK.out _ _ ?_
 clear hK KK
 try go_frame
 refine wpAnyJ_done (by kernel_rfl) ?_ _
 refine NoPanic.normal ?_
 have hs4:=HS4.out
 have H4:=HHd.out.clock HPP.out HU_.out hs4 HK4.out HPS.out
 have hck:colM col w.heap.size a.rb P.k=12+5 * i:=(HHd.out.pl i p P HP.out HPP.out HU_.out).ck
 have hkd:∀ g,colM col w.heap.size a.rb g=0→¬ g=P.k:=fun g h e=>by rw [e,hck] at h;omega
 have hbp:base.n≤P.k∧¬ base.K P.k:=(HHd.out.ok P.k (by rw [hck];omega)).1
 have HB4:=hide (Sets.bek (HBz.out.trans (HHz.out.bek HUD.out)) hs4 (fun g e=>by rw [e];exact hbp) HHd.out.bl)
 have HZ4:=hide ((hs4.block g5 (Nat.lt_of_lt_of_le HLz.out HUD.out.size) (hkd g5 hg50.out)).trans ((HUD.out.block g5 HLz.out).trans HZz.out))
 have HX4:Hid (Mg.rd u1s ⟨xk,xf,i,xid,m0.n,xA,xc,m0.L⟩):=hide ((HXz.out.below HUD.out).sets hs4 (fun ad ha hn e=>hkd _ (HXC.out ad ha hn) e))
 have HH4:=hide H4
 have hl4:g5 < u1s.heap.size:=(Array.getElem?_eq_some_iff.1 HZ4.out).1
 have HL4:=hide hl4
 clear hs4 H4 hck hkd hbp HC HZz HXz HHz HLz HHd HBz HUD hl4 HK4 HS4
 obtain ⟨w4,hw4⟩:∃ w4,u1s=w4:=⟨_,rfl⟩
 rw [hw4] at HH4 HB4 HZ4 HX4 HL4 ⊢
 clear hw4 u1s
 have hv4:=HH4.out.pl i p _ HP.out (set_at HPP.out) HU_.out
 have hp4:p < w4.heap.size:=(HH4.out.ok p (by rw [hv4.cp];omega)).2
 have HC6:Hid (∀ W:World,Below w4.heap.size w4 W→W.cell? ⟨p,2,none⟩=some (ptv P.k)∧W.cell? ⟨p,1,none⟩=some (ptv P.n)∧W.cell? ⟨g5,0,none⟩=some (.int .i64 xk)∧W.cell? ⟨g5,1,none⟩=some (.int .i64 xf)∧W.cell? ⟨g5,2,none⟩=some (.int .i64 i)∧W.cell? ⟨g5,3,none⟩=some (.int .u64 xid)∧W.cell? ⟨g5,4,none⟩=some (.int .u64 m0.n)∧W.cell? ⟨g5,5,none⟩=some (.slice xA m0.L.length xc)):=hide (fun W hW=>by
  obtain ⟨x0,x1,x2,x3,x4,x5⟩:=six_cells ((hW.block g5 HL4.out).trans HZ4.out)
  obtain ⟨_,k1,k2,_⟩:=hv4.cells
  exact ⟨keep_cell hW k2 hp4,keep_cell hW k1 hp4,x0,x1,x2,x3,x4,x5⟩)
 obtain ⟨ue,hue⟩:∃ ue,w4.drew=ue:=⟨_,rfl⟩
 have HUE:Hid (Below w4.heap.size w4 ue):=hide (by rw [← hue];exact (Below.refl _ _).drew)
 have HE4:=hide (HH4.out.below HUE.out)
 have hhan:=HHN.out ue _ ⟨xk,xf,i,xid,m0.n,xA,xc,m0.L⟩ HXB.out (HX4.out.below HUE.out) HXC.out (HE4.out.pl i p _ HP.out (set_at HPP.out) HU_.out).node
 unfold Mg.val at hhan
 have HHAN:=hide hhan
 clear hv4 hp4 hhan HHN
 go_upto_region 6 with fail
 refine j_start [6,7,0] (by kernel_rfl) ?_
 rw [hue]
 clear hue
 refine' j_tw 0 rfl (by kernel_rfl) rfl ?y0h ?r0h
 case y0h=>(intro w' hw';go_simp;try with_reducible rfl)
 try go_frame
 refine' j_t 1 [2,3,4,6,7] rfl (by kernel_rfl) rfl ?y1h ?r1h
 case y1h=>(intro w' hw';go_simp;try with_reducible rfl)
 try go_frame
 refine' j_t 2 [3,4,6,7] rfl (by kernel_rfl) rfl ?y2h ?r2h
 case y2h=>(intro w' hw';go_simp;try with_reducible rfl)
 try go_frame
 refine' j_t 3 [4,6,7] rfl (by kernel_rfl) rfl ?y3h ?r3h
 case y3h=>(intro w' hw';go_simp;try with_reducible rfl)
 try go_frame
 refine' j_t 4 [6,7] rfl (by kernel_rfl) rfl ?y4h ?r4h
 case y4h=>(intro w' hw';obtain ⟨q1,q2,y0,y1,y2,y3,y4,y5⟩:=HC6.out _ (below_step HUE.out hw');go_simp;try with_reducible rfl)
 try go_frame
 refine' j_t 5 [6,7] rfl (by kernel_rfl) rfl ?y5h ?r5h
 case y5h=>(intro w' hw';obtain ⟨q1,q2,y0,y1,y2,y3,y4,y5⟩:=HC6.out _ (below_step HUE.out hw');go_simp;try with_reducible rfl)
 try go_frame
 refine' wpAnyJ_last (i:=6) (o:=_) (by kernel_rfl) ?ho6h (by kernel_rfl) (fun KK hK=>?step6h)
 case ho6h=>(simp only [List.getElem?_toArray,List.getElem?_cons_succ,List.getElem?_cons_zero];rfl)
 go_simp
 refine (Calls.mono (HHAN.out) ?_);rintro e u1h ⟨v5,Nn,R5,X5,hb5,rfl,hT5,hno,hX5,hlo,hhi,hms,hs5,hdd5⟩
 have HT5:=hide hT5;have HNO:=hide hno;have HX5:=hide hX5;have HLO:=hide (And.intro hlo hhi);have HMS:=hide hms;have HS5:=hide hs5;have HDD5:=hide hdd5
 clear hT5 hno hX5 hlo hhi hms hs5 hdd5 HHAN
 refine hK.out _ _ ?_
 clear hK KK
 try go_frame
 refine' wpAnyJ_last (i:=7) (o:=_) (by kernel_rfl) ?ho7h (by kernel_rfl) (fun KK hK=>?step7h)
 case ho7h=>(simp only [List.getElem?_toArray,List.getElem?_cons_succ,List.getElem?_cons_zero];rfl)
 go_simp
 have HH5:=hide (HE4.out.node (set_at HPP.out) HU_.out HS5.out HNO.out HX5.out HLO.out.2 rfl HDD5.out)
 have hokr:=(HTT.out _ _ HT5.out)
 have hnl:Nn.length≤1:=by have:=hokr.2;rwa [List.length_map] at this
 have HSND:=hide (csnd_any HH5.out.cells.2.2.2.1 HH5.out.cells.1 (fun e=>by have h1:=HH5.out.cn c e;have h2:=HH5.out.cc;omega) HH5.out.net v5 Nn HMS.out (fun g hg _ e=>by
  have h1:=HE4.out.cn g e
  have h2:=(HE4.out.ok g (by rw [h1];omega)).2
  have h3:=HLO.out.1
  omega) (fun x hx=>by rw [mokB_same (bare_same x)];exact hokr.1 _ (List.mem_map_of_mem hx)) (by show rest.length+Nn.length≤300;have:=HCAP.out;omega) (by omega) (by show 0≤a.se∧a.se≤549755813888;exact HSE.out))
 clear hokr hnl
 refine (Calls.mono (HSND.out) ?_);rintro e u2h ⟨rfl,rb6,hn6,hs6,hm6⟩
 have HN6:=hide hn6;have HS6:=hide hs6;have HM6:=hide hm6
 clear hn6 hs6 hm6 HSND
 refine hK.out _ _ ?_
 clear hK KK
 try go_frame
 refine wpAnyJ_done (by kernel_rfl) ?_ _
 refine NoPanic.normal ?_
 have h6:=HH5.out.netted HS6.out HM6.out HN6.out
 simp only [List.set_set] at h6
 have HH6:=hide h6
 clear h6
 have hgd:∀ g,g < ue.heap.size→colM col w.heap.size a.rb g=0→(u2h.heap[g]? = ue.heap[g]?∧∀ r,colM (colN (colM col w.heap.size a.rb) ue.heap.size hb5 (11+5 * i)) u1h.heap.size r g=0):=fun g hg h0=>by
  have hs5:=HS5.out.size
  have hc5:colN (colM col w.heap.size a.rb) ue.heap.size hb5 (11+5 * i) g=0:=by rw [colN_old hg];exact h0
  have e1:=HS5.out.block g hg (fun e=>by rw [h0] at e;omega)
  have e2:=HS6.out.block g (by omega) (fun e=>by have:=HH5.out.cn g e;rw [hc5] at this;omega)
  exact ⟨e2.trans e1,fun r=>by unfold colM;rw [if_pos (show g < u1h.heap.size by omega)];exact hc5⟩
 have hle:w4.heap.size≤ue.heap.size:=HUE.out.size
 have hz6:=(hgd g5 (by have:=HL4.out;omega) hg50.out).1.trans ((HUE.out.block g5 HL4.out).trans HZ4.out)
 have hx6:Mg.rd u2h ⟨xk,xf,i,xid,m0.n,xA,xc,m0.L⟩:=by
  have h1:=HX4.out.below HUE.out
  refine ⟨fun hne=>?_,h1.2⟩
  obtain ⟨bb,off,e,hlt,hc⟩:=h1.1 hne
  refine ⟨bb,off,e,?_,fun jj hjj q u hu=>(World.cell?_of_block (hgd bb hlt (HXC.out _ e hne)).1).trans (hc jj hjj q u hu)⟩
  have:=HS5.out.size
  have:=HS6.out.size
  omega
 have hxc6:∀ ad,xA=some ad→m0.L ≠ []→colM (colN (colM col w.heap.size a.rb) ue.heap.size hb5 (11+5 * i)) u1h.heap.size rb6 ad.block=0:=fun ad ha hn=>by
  refine (hgd ad.block ?_ (HXC.out ad ha hn)).2 rb6
  have:=rd_lt_ HX4.out ad ha hn
  omega
 have hB6:Bek base w u2h:=by
  have h1:Bek base w u1h:=Sets.bek (HB4.out.trans (HH4.out.bek HUE.out)) HS5.out (fun g e=>(HE4.out.ok g (by rw [show colM col w.heap.size a.rb g=11+5 * i from e];omega)).1) HE4.out.bl
  exact Sets.bek h1 HS6.out (fun g e=>(HH5.out.ok g (by rw [HH5.out.cn g e];omega)).1) HH5.out.bl
 have hlenC:(rest ++ Nn.map Mg.bare).length≤300:=by
  have h1:=(HTT.out _ _ HT5.out).2
  rw [List.length_append]
  have:=HCAP.out
  omega
 have hlenN:Nn.length≤1:=by
  have h1:=(HTT.out _ _ HT5.out).2
  rwa [List.length_map] at h1
 have HZ6:=hide hz6
 have HX6:=hide hx6
 have HXC6:=hide hxc6
 have HB6:=hide hB6
 have HLC:=hide hlenC
 have HLN:=hide hlenN
 clear hgd hle hz6 hx6 hxc6 hB6 hlenC hlenN HC6 HH5 HS5 HS6 HNO HX5 HMS HN6 HM6 HE4 HZ4 HX4 HL4 HUE HH4 HB4
 obtain ⟨u,hu⟩:∃ u,u2h=u:=⟨_,rfl⟩
 rw [hu] at HZ6 HX6 HB6 HH6 ⊢
 clear hu u2h
 have hJ:=HJO.out
 unfold JobOk at hJ
 have hsm:=seeM_bare HXB.out P.now
 have hcr:=fun R=>conR_bare HXB.out R
 cases hj:P.job
 ·have HE:=hide (each_none HH6.out HP.out (set_at HPP.out) HU_.out hj (.func (.func 113) #[] #[.pointer (some ⟨g5,0,none⟩)]))
  have HJ0:=hide hj
  have HSM:=hide hsm
  clear hJ hj hsm hcr
  go_wp2_with ((with_reducible refine (HE.out).mono ?_);rintro e w9 ⟨rfl,col9,h9,b9⟩;have HH9:=hide h9;have HB9:=hide b9;clear h9 b9)
  go_ret
  have hf:=HH9.out
  simp only [List.set_set] at hf
  rw [HSM.out] at hf
  refine ⟨rfl,_,R5,HT5.out,col9,rb6,a.va,P.vj,a.AL,?_,?_,HB6.out.trans HB9.out⟩
  ·rw [List.length_map,HJ0.out]
   exact hf
  ·rw [HJ0.out];rfl
 ·rename_i x
  obtain ⟨b,R⟩:=x
  obtain ⟨k1,k2,k3⟩:=hJ (b,R) hj
  have HE:=hide (each_one (R:=R) (b:=b) HH6.out HP.out (set_at HPP.out) HU_.out hj ⟨xk,xf,i,xid,m0.n,xA,xc,m0.L⟩ HZ6.out HX6.out HXC6.out HN0.out.2.1 k1 k2 (conR R m0) (hcr R) k3 HAL.out HLC.out (by show 0≤a.se+(Nn.length:Int)∧a.se+(Nn.length:Int)≤549755813888;have:=HSE0.out;have:=HLN.out;omega))
  have HJ0:=hide hj
  have HSM:=hide hsm
  clear hJ hj hsm hcr k1 k2 k3
  go_wp2_with ((with_reducible refine (HE.out).mono ?_);rintro e w9 ⟨rfl,col9,rb9,va9,vj9,AL9,h9,hA9,b9⟩;have HH9:=hide h9;have HA9:=hide hA9;have HB9:=hide b9;clear h9 hA9 b9)
  go_ret
  have hf:=HH9.out
  simp only [List.set_set] at hf
  rw [HSM.out] at hf
  refine ⟨rfl,_,R5,HT5.out,col9,rb9,va9,vj9,AL9,?_,?_,HB6.out.trans HB9.out⟩
  ·rw [List.length_map,HJ0.out]
   exact hf
  ·rw [HJ0.out];exact HA9.out
end Go.Proofs.YtgmkckjedngkdaaGreatDoor
