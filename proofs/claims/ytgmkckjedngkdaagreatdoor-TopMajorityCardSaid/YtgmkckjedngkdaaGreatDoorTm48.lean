/- A part of the proof that TopMajorityLaw holds: XZVer, XZBeg, XZCal. Conditions: as typed. -/
import Derived.Test.YtgmkckjedngkdaaGreatDoorTm03
import Derived.Test.YtgmkckjedngkdaaGreatDoorTm38
set_option linter.unusedVariables false
set_option linter.unusedSimpArgs false
namespace Go.Proofs.YtgmkckjedngkdaaGreatDoor
open Go.ChangeShapes Go.WideShapes Go.ChangeAt Go.RowKit
theorem four_put3 {w:World} {g:Nat} {d0 d1 d2 d3:Value} {t:TypeId} (h:w.heap[g]? = some (.cells #[d0,d1,d2,d3] t (0,0))) (v:Value):(w.setCell ⟨g,3,none⟩ v).heap[g]? = some (.cells #[d0,d1,d2,v] t (0,0)):=place_put h v
set_option maxRecDepth 100000 in
set_option maxHeartbeats 6400000 in
theorem cver_any {w:World} {base:Bs} {c i p:Nat} {col:Nat→Nat} {a:Cl} {P:Pl} (H:CluV w base c col a) (hp:a.ps[i]? = some p) (hP:a.P[i]? = some P) (hu:P.up=true) (hl:P.lease≤P.now) (hn:P.now+16≤1099511627776)
 (M:Nat) (hM:∀ z ∈ P.N.R.K.Z,z.L.length≤M) (hM2:M≤249900) (hq:((3 * M+100:Nat):Int)≤P.N.R.K.q) :
 Calls Tryz.prog 46 #[ptv p] w fun e w'=>e=.returned (.tuple #[.int .u64 ((P.now+1) * 8+i),.int .i64 0])∧∃ R',SavTo P.N.R P.N.R.v.fl P.N.R.v.ce P.N.R.v.at_ (P.now+16) R'∧∃ col',CluV w' base c col' { a with P:=a.P.set i { P with N:={ P.N with R:=R' },now:=P.now+1,lease:=P.now+16 } }∧Bek base w w'∧Sets (fun g=>col g ≠ 0) w w':=by
 have hv:=H.pl i p P hp hP hu
 have hps:i < a.ps.length:=by
  rw [List.getElem?_eq_some_iff] at hp
  exact hp.1
 obtain ⟨_,p1,p2,_⟩:=hv.cells
 have hpl:p < w.heap.size:=(H.ok p (by rw [hv.cp];omega)).2
 have hk:=hv.clk
 have hn0:0≤P.now:=hk.2.2.1
 have HNX:=hide (knext_no hk (by omega) hl)
 have HME:=hide (nmeta_any hv.node)
 obtain ⟨now,hnow⟩:∃ n,P.now=n:=⟨_,rfl⟩
 obtain ⟨lea,hlea⟩:∃ n,P.lease=n:=⟨_,rfl⟩
 have hgood:P.N.R.v.ok:=by obtain ⟨s,Y,h1⟩:=hv.node;obtain ⟨h,h2⟩:=h1.st;exact h2.good
 obtain ⟨rf,hrf⟩:∃ v,P.N.R.v.fl=v:=⟨_,rfl⟩
 obtain ⟨rc,hrc⟩:∃ v,P.N.R.v.ce=v:=⟨_,rfl⟩
 obtain ⟨ra,hra⟩:∃ v,P.N.R.v.at_=v:=⟨_,rfl⟩
 obtain ⟨re,hre⟩:∃ v,P.N.R.v.le=v:=⟨_,rfl⟩
 rw [hrf,hrc,hra,hre] at HME
 rw [hnow] at hl hn hn0
 rw [hlea] at hl
 have HMX:Hid (max now lea=now):=hide (by omega)
 have HWR:Hid (IntKind.u64.wrap (now+16)=now+16):=hide (by rw [IntKind.wrap_u64];omega)
 have HMN:Hid (min (now+16) 1099511627776=now+16):=hide (by omega)
 have HV4:Hid ((ver48 rf∧ver48 rc)∧ver48 ra):=hide ⟨⟨by rw [← hrf];exact hgood.fl,by rw [← hrc];exact hgood.ce⟩,by rw [← hra];exact hgood.at_⟩
 have HBN:=hide (And.intro hn0 hn)
 have HMM:=hide (And.intro hM (And.intro hM2 hq))
 have HH:=hide H
 have HP:=hide hp
 have HPP:=hide hP
 have HU_:=hide hu
 clear hu
 have HPS:=hide hps
 have HNOW0:=hide hnow
 have HLEA0:=hide hlea
 have HRV:=hide (And.intro (And.intro hrf hrc) (And.intro hra hre))
 have HLN:=hide hl
 have HPL:=hide hpl
 have HPC:=hide (And.intro p1 p2)
 clear H hv hp hP hps hk hn hM hM2 hq hnow hlea hrf hrc hra hre hgood hl hn0
 go_enter Tryz.func46,Tryz.ntmps46
 go_upto_region 5 with (first
  | ((with_reducible refine (HNX.out).mono ?_);rintro e w1 ⟨rfl,rfl⟩)
  | ((with_reducible refine (HME.out).mono ?_);rintro e w2 ⟨rfl,hg2⟩;have HG2:=hide hg2;clear hg2))
 have HH2:=hide (HH.out.below HG2.out)
 have hz6:=heap_alloc_new w2 (.cells #[.int .u64 rf,.int .u64 rc,.int .u64 ra,.int .u64 re] 75)
 have hb3:=below_alloc (Below.refl w2.heap.size w2) (.cells #[.int .u64 rf,.int .u64 rc,.int .u64 ra,.int .u64 re] 75)
 obtain ⟨w3,hw3⟩:∃ w3,w2.alloc (.cells #[.int .u64 rf,.int .u64 rc,.int .u64 ra,.int .u64 re] 75)=w3:=⟨_,rfl⟩
 rw [hw3] at hz6 hb3 ⊢
 obtain ⟨g6,hg6⟩:∃ g,w2.heap.size=g:=⟨_,rfl⟩
 rw [hg6] at hz6 ⊢
 have lg6:=(Array.getElem?_eq_some_iff.1 hz6).1
 have HH3:=hide (HH2.out.below hb3)
 have HB3:=hide hb3
 have HG6:=hide hg6
 have hv3:=HH3.out.pl i p P HP.out HPP.out HU_.out
 have hp3:p < w3.heap.size:=(HH3.out.ok p (by rw [hv3.cp];omega)).2
 have HC:Hid (∀ W:World,Below w3.heap.size w3 W→W.cell? ⟨p,1,none⟩=some (ptv P.n)∧W.cell? ⟨p,2,none⟩=some (ptv P.k)∧W.cell? ⟨g6,0,none⟩=some (.int .u64 rf)∧W.cell? ⟨g6,1,none⟩=some (.int .u64 rc)∧W.cell? ⟨g6,2,none⟩=some (.int .u64 ra)∧W.cell? ⟨g6,3,none⟩=some (.int .u64 re)):=hide (fun W hW=>by
  obtain ⟨_,k1,k2,_⟩:=hv3.cells
  obtain ⟨x0,x1,x2,x3⟩:=four_cells ((hW.block g6 lg6).trans hz6)
  exact ⟨keep_cell hW k1 hp3,keep_cell hW k2 hp3,x0,x1,x2,x3⟩)
 obtain ⟨ud,hud⟩:∃ ud,w3.drew=ud:=⟨_,rfl⟩
 have HUD:Hid (Below w3.heap.size w3 ud):=hide (by rw [← hud];exact (Below.refl _ _).drew)
 have hkd:=((HH3.out.below HUD.out).pl i p P HP.out HPP.out HU_.out).clk
 have hnw:=know_any hkd
 have hle:=klease_any hkd
 rw [HNOW0.out] at hnw
 rw [HLEA0.out] at hle
 have HNOW:=hide hnw
 have HLEA:=hide hle
 have hzd:=(HUD.out.block g6 lg6).trans hz6
 have HZD:=hide hzd
 have HY3:=hide (four_cells hzd).2.2.2
 have HF3:Hid (ud.frozen? ⟨g6,3,none⟩=false):=hide (by simp [World.frozen?,hzd])
 clear hz6 hb3 hw3 hg6 hv3 hp3 hkd hnw hle hzd p1 p2 hpl HPC
 refine j_start [14] (by kernel_rfl) ?_
 rw [hud]
 clear hud
 refine' j_t 0 [1,2,3,4,9,10,11,12,13,14] rfl (by kernel_rfl) rfl ?y0a ?r0a
 case y0a=>(intro w' hw';go_simp;try with_reducible rfl)
 try go_frame
 refine' j_t 1 [2,3,4,9,10,11,12,13,14] rfl (by kernel_rfl) rfl ?y1a ?r1a
 case y1a=>(intro w' hw';go_simp;try with_reducible rfl)
 try go_frame
 refine' j_t 2 [3,4,9,10,11,12,13,14] rfl (by kernel_rfl) rfl ?y2a ?r2a
 case y2a=>(intro w' hw';go_simp;try with_reducible rfl)
 try go_frame
 refine' j_t 3 [4,9,10,11,12,13,14] rfl (by kernel_rfl) rfl ?y3a ?r3a
 case y3a=>(intro w' hw';obtain ⟨q1,q2,x0,x1,x2,x3⟩:=HC.out _ (below_step HUD.out hw');go_simp;try with_reducible rfl)
 try go_frame
 refine' j_t 5 [6,7,8,9,10,11,12,13,14] rfl (by kernel_rfl) rfl ?y5a ?r5a
 case y5a=>(intro w' hw';go_simp;try with_reducible rfl)
 try go_frame
 refine' j_t 6 [7,8,9,10,11,12,13,14] rfl (by kernel_rfl) rfl ?y6a ?r6a
 case y6a=>(intro w' hw';go_simp;try with_reducible rfl)
 try go_frame
 refine' j_t 7 [8,9,10,11,12,13,14] rfl (by kernel_rfl) rfl ?y7a ?r7a
 case y7a=>(intro w' hw';go_simp;try with_reducible rfl)
 try go_frame
 refine' j_t 8 [9,10,11,12,13,14] rfl (by kernel_rfl) rfl ?y8a ?r8a
 case y8a=>(intro w' hw';obtain ⟨q1,q2,x0,x1,x2,x3⟩:=HC.out _ (below_step HUD.out hw');go_simp;try with_reducible rfl)
 try go_frame
 refine' wpAnyJ_step (i:=4) (o:=_) (by kernel_rfl) ?ho4a (fun KK hK=>?step4a)
 case ho4a=>(simp only [List.getElem?_toArray,List.getElem?_cons_succ,List.getElem?_cons_zero];rfl)
 go_simp
 refine (Calls.mono (HNOW.out) ?_);rintro e u1a ⟨rfl,hq⟩
 obtain rfl:ud=u1a:=hq.symm
 clear hq
 have gg:=Below.refl ud.heap.size ud
 refine hK.out _ _ gg (j_switch gg ?_)
 clear hK KK gg
 try go_frame
 refine' wpAnyJ_step (i:=9) (o:=_) (by kernel_rfl) ?ho9a (fun KK hK=>?step9a)
 case ho9a=>(simp only [List.getElem?_toArray,List.getElem?_cons_succ,List.getElem?_cons_zero];rfl)
 go_simp
 refine (Calls.mono (HLEA.out) ?_);rintro e u2a ⟨rfl,hq⟩
 obtain rfl:ud=u2a:=hq.symm
 clear hq
 have gg:=Below.refl ud.heap.size ud
 refine hK.out _ _ gg (j_switch gg ?_)
 clear hK KK gg
 try go_frame
 refine' j_t 10 [11,12,13,14] rfl (by kernel_rfl) rfl ?y10a ?r10a
 case y10a=>(intro w' hw';have jm:=HMX.out;go_simp;try with_reducible rfl)
 try go_frame
 refine' j_t 11 [12,13,14] rfl (by kernel_rfl) rfl ?y11a ?r11a
 case y11a=>(intro w' hw';have jw:=HWR.out;go_simp;try with_reducible rfl)
 try go_frame
 refine' j_t 12 [13,14] rfl (by kernel_rfl) rfl ?y12a ?r12a
 case y12a=>(intro w' hw';have jn:=HMN.out;go_simp;try with_reducible rfl)
 try go_frame
 refine' j_t 13 [14] rfl (by kernel_rfl) rfl ?y13a ?r13a
 case y13a=>(intro w' hw';go_simp;try with_reducible rfl)
 try go_frame
 refine' wpAnyJ_last (i:=14) (o:=_) (by kernel_rfl) ?ho14a (by kernel_rfl) (fun KK hK=>?step14a)
 case ho14a=>(simp only [List.getElem?_toArray,List.getElem?_cons_succ,List.getElem?_cons_zero];rfl)
 have y3:=HY3.out
 have z3:=HF3.out
 go_simp
 refine hK.out _ _ ?_
 clear hK KK
 try go_frame
 refine wpAnyJ_done (by kernel_rfl) ?_ _
 refine NoPanic.normal ?_
 have hz7:=four_put3 HZD.out (.int .u64 (now+16))
 have hs7:=sets1 ud g6 3 (.int .u64 (now+16))
 obtain ⟨w5,hw5⟩:∃ w5,ud.setCell ⟨g6,3,none⟩ (.int .u64 (now+16))=w5:=⟨_,rfl⟩
 rw [hw5] at hz7 hs7 ⊢
 have hb5:Below w2.heap.size w2 w5:=Sets.below (below_step HB3.out HUD.out) hs7 (fun b e=>by rw [e,← HG6.out];exact Nat.le_refl _) (Nat.le_trans HB3.out.size HUD.out.size)
 have HH5:=hide (HH2.out.below hb5)
 have HB5:=hide (below_step HG2.out hb5)
 have HZ7:=hide hz7
 have lg7:=(Array.getElem?_eq_some_iff.1 hz7).1
 have hg60:∀ {k:Nat→Nat},ColOk w2 base k→k g6=0:=fun {k} hk=>by
  by_cases h:k g6=0
  ·exact h
  ·have h2:=(hk g6 h).2
   have h3:=HG6.out
   omega
 have HG60:=hide (hg60 HH2.out.ok)
 have hv5:=HH5.out.pl i p P HP.out HPP.out HU_.out
 have hp5:p < w5.heap.size:=(HH5.out.ok p (by rw [hv5.cp];omega)).2
 have HC6:Hid (∀ W:World,Below w5.heap.size w5 W→W.cell? ⟨p,1,none⟩=some (ptv P.n)∧W.cell? ⟨p,2,none⟩=some (ptv P.k)∧W.cell? ⟨g6,0,none⟩=some (.int .u64 rf)∧W.cell? ⟨g6,1,none⟩=some (.int .u64 rc)∧W.cell? ⟨g6,2,none⟩=some (.int .u64 ra)∧W.cell? ⟨g6,3,none⟩=some (.int .u64 (now+16))):=hide (fun W hW=>by
  obtain ⟨_,k1,k2,_⟩:=hv5.cells
  obtain ⟨x0,x1,x2,x3⟩:=four_cells ((hW.block g6 lg7).trans HZ7.out)
  exact ⟨keep_cell hW k1 hp5,keep_cell hW k2 hp5,x0,x1,x2,x3⟩)
 obtain ⟨ue,hue⟩:∃ ue,w5.drew=ue:=⟨_,rfl⟩
 have HUE:Hid (Below w5.heap.size w5 ue):=hide (by rw [← hue];exact (Below.refl _ _).drew)
 have HHe:=hide (HH5.out.below HUE.out)
 obtain ⟨s,Y,hnv⟩:=(HHe.out.pl i p P HP.out HPP.out HU_.out).node
 have HSTO:=hide (nstore_any hnv)
 have HNV:=hide hnv
 have hrv:=HRV.out
 have hset:=ssetm_any hnv.st rf rc ra (now+16) HV4.out.1.1 HV4.out.1.2 HV4.out.2 ⟨by have:=HBN.out;omega,by have:=HBN.out;omega⟩ (fun e=>by rw [hrv.1.1];exact e) (fun e=>by rw [hrv.1.2];exact e) (fun e=>by rw [hrv.2.1];exact e) (fun e=>by have:=HBN.out;omega) M HMM.out.1 HMM.out.2.1 HMM.out.2.2
 have HSET:=hide hset
 clear hz7 hs7 hw5 hb5 hg60 hv5 hp5 hnv hrv hset HC HUD HZD HY3 HF3 HH3 HB3 HNOW HLEA
 go_upto_region 6 with fail
 refine j_start [6,7] (by kernel_rfl) ?_
 rw [hue]
 clear hue
 refine' j_t 0 [1,2,3,4,6,7] rfl (by kernel_rfl) rfl ?y0b ?r0b
 case y0b=>(intro w' hw';go_simp;try with_reducible rfl)
 try go_frame
 refine' j_t 1 [2,3,4,6,7] rfl (by kernel_rfl) rfl ?y1b ?r1b
 case y1b=>(intro w' hw';go_simp;try with_reducible rfl)
 try go_frame
 refine' j_t 2 [3,4,6,7] rfl (by kernel_rfl) rfl ?y2b ?r2b
 case y2b=>(intro w' hw';go_simp;try with_reducible rfl)
 try go_frame
 refine' j_t 3 [4,6,7] rfl (by kernel_rfl) rfl ?y3b ?r3b
 case y3b=>(intro w' hw';obtain ⟨q1,q2,x0,x1,x2,x3⟩:=HC6.out _ (below_step HUE.out hw');go_simp;try with_reducible rfl)
 try go_frame
 refine' j_t 5 [6,7] rfl (by kernel_rfl) rfl ?y5b ?r5b
 case y5b=>(intro w' hw';obtain ⟨q1,q2,x0,x1,x2,x3⟩:=HC6.out _ (below_step HUE.out hw');go_simp;try with_reducible rfl)
 try go_frame
 refine' wpAnyJ_step (i:=4) (o:=_) (by kernel_rfl) ?ho4b (fun KK hK=>?step4b)
 case ho4b=>(simp only [List.getElem?_toArray,List.getElem?_cons_succ,List.getElem?_cons_zero];rfl)
 go_simp
 refine (Calls.mono (HSTO.out) ?_);rintro e u1b ⟨rfl,hq⟩
 obtain rfl:ue=u1b:=hq.symm
 clear hq
 have gg:=Below.refl ue.heap.size ue
 refine hK.out _ _ gg (j_switch gg ?_)
 clear hK KK gg
 try go_frame
 refine' wpAnyJ_last (i:=6) (o:=_) (by kernel_rfl) ?ho6b (by kernel_rfl) (fun KK hK=>?step6b)
 case ho6b=>(simp only [List.getElem?_toArray,List.getElem?_cons_succ,List.getElem?_cons_zero];rfl)
 go_simp
 refine (Calls.mono (HSET.out) ?_);rintro e u2b ⟨rfl,R',hto,hst,hsy⟩
 have HTO:=hide hto;have HST:=hide hst;have HSY:=hide hsy
 clear hto hst hsy
 refine hK.out _ _ ?_
 clear hK KK
 try go_frame
 refine' wpAnyJ_last (i:=7) (o:=_) (by kernel_rfl) ?ho7b (by kernel_rfl) (fun KK hK=>?step7b)
 case ho7b=>(simp only [List.getElem?_toArray,List.getElem?_cons_succ,List.getElem?_cons_zero];rfl)
 go_simp
 refine hK.out _ _ ?_
 clear hK KK
 try go_frame
 refine wpAnyJ_done (by kernel_rfl) ?_ _
 refine NoPanic.normal ?_
 have hsx:=HNV.out.up HSY.out
 have H6:=HHe.out.node HPP.out HU_.out hsx ⟨s,_,HNV.out.put HSY.out HST.out⟩ (fun g e=>e) (Nat.le_refl _) rfl HTO.out.1
 have hZ6:=(HSY.out.block g6 (Nat.lt_of_lt_of_le lg7 HUE.out.size) (fun e=>by have h1:=HNV.out.inX g6 e;have h2:=HG60.out;omega)).trans ((HUE.out.block g6 lg7).trans HZ7.out)
 have HB6:=hide (Sets.bek ((HH.out.bek HB5.out).trans (HH5.out.bek HUE.out)) hsx (fun g e=>(HHe.out.ok g (by rw [e];omega)).1) HHe.out.bl)
 have HX6:=hide ((Sets.of (S:=fun g=>col g ≠ 0) (below_step HB5.out HUE.out)).trans hsx (fun g _ e=>by show col g ≠ 0;rw [show col g=11+5 * i from e];omega))
 have hck0:col P.k=12+5 * i:=(HHe.out.pl i p P HP.out HPP.out HU_.out).ck
 have HCK0:=hide hck0
 have HH6:=hide H6
 have HZ6:=hide hZ6
 have lg8:=(Array.getElem?_eq_some_iff.1 hZ6).1
 clear hck0 hsx H6 hZ6 HSY HST HNV HSTO HHe HC6 HUE HZ7 lg7
 obtain ⟨w6,hw6⟩:∃ w6,u2b=w6:=⟨_,rfl⟩
 rw [hw6] at HH6 HZ6 HB6 HX6 lg8 ⊢
 clear hw6 u2b
 go_upto_region 9 with fail
 have hv6:=HH6.out.pl i p _ HP.out (set_at HPP.out) HU_.out
 have hp6:p < w6.heap.size:=(HH6.out.ok p (by rw [hv6.cp];omega)).2
 have HC9:Hid (∀ W:World,Below w6.heap.size w6 W→W.cell? ⟨p,1,none⟩=some (ptv P.n)∧W.cell? ⟨p,2,none⟩=some (ptv P.k)∧W.cell? ⟨g6,0,none⟩=some (.int .u64 rf)∧W.cell? ⟨g6,1,none⟩=some (.int .u64 rc)∧W.cell? ⟨g6,2,none⟩=some (.int .u64 ra)∧W.cell? ⟨g6,3,none⟩=some (.int .u64 (now+16))):=hide (fun W hW=>by
  obtain ⟨_,k1,k2,_⟩:=hv6.cells
  obtain ⟨x0,x1,x2,x3⟩:=four_cells ((hW.block g6 lg8).trans HZ6.out)
  exact ⟨keep_cell hW k1 hp6,keep_cell hW k2 hp6,x0,x1,x2,x3⟩)
 obtain ⟨uf,huf⟩:∃ uf,w6.drew=uf:=⟨_,rfl⟩
 have HUF:Hid (Below w6.heap.size w6 uf):=hide (by rw [← huf];exact (Below.refl _ _).drew)
 have HHf:=hide (HH6.out.below HUF.out)
 have hkf:=(HHf.out.pl i p _ HP.out (set_at HPP.out) HU_.out).clk
 have HREN:=hide (krenew_any hkf (now+16) (by have h1:=HLN.out;have h2:=HLEA0.out;show P.lease < _;omega) HBN.out.2)
 clear hv6 hp6 hkf
 refine j_start [6] (by kernel_rfl) ?_
 rw [huf]
 clear huf
 refine' j_t 0 [1,2,3,6] rfl (by kernel_rfl) rfl ?y0c ?r0c
 case y0c=>(intro w' hw';go_simp;try with_reducible rfl)
 try go_frame
 refine' j_t 1 [2,3,6] rfl (by kernel_rfl) rfl ?y1c ?r1c
 case y1c=>(intro w' hw';go_simp;try with_reducible rfl)
 try go_frame
 refine' j_t 2 [3,6] rfl (by kernel_rfl) rfl ?y2c ?r2c
 case y2c=>(intro w' hw';go_simp;try with_reducible rfl)
 try go_frame
 refine' j_t 3 [6] rfl (by kernel_rfl) rfl ?y3c ?r3c
 case y3c=>(intro w' hw';obtain ⟨q1,q2,x0,x1,x2,x3⟩:=HC9.out _ (below_step HUF.out hw');go_simp;try with_reducible rfl)
 try go_frame
 refine' j_t 4 [5,6] rfl (by kernel_rfl) rfl ?y4c ?r4c
 case y4c=>(intro w' hw';go_simp;try with_reducible rfl)
 try go_frame
 refine' j_t 5 [6] rfl (by kernel_rfl) rfl ?y5c ?r5c
 case y5c=>(intro w' hw';obtain ⟨q1,q2,x0,x1,x2,x3⟩:=HC9.out _ (below_step HUF.out hw');go_simp;try with_reducible rfl)
 try go_frame
 refine' wpAnyJ_last (i:=6) (o:=_) (by kernel_rfl) ?ho6c (by kernel_rfl) (fun KK hK=>?step6c)
 case ho6c=>(simp only [List.getElem?_toArray,List.getElem?_cons_succ,List.getElem?_cons_zero];rfl)
 go_simp
 refine (Calls.mono (HREN.out) ?_);rintro e u1c ⟨rfl,hck,hsk⟩
 have HCK:=hide hck;have HSK:=hide hsk
 clear hck hsk
 refine hK.out _ _ ?_
 clear hK KK
 try go_frame
 refine wpAnyJ_done (by kernel_rfl) ?_ _
 refine NoPanic.normal ?_
 have H9:=HHf.out.clock (set_at HPP.out) HU_.out HSK.out HCK.out HPS.out
 have hkl:base.n≤P.k∧¬ base.K P.k:=(HHf.out.ok P.k (by rw [(HHf.out.pl i p _ HP.out (set_at HPP.out) HU_.out).ck];omega)).1
 have HB9:=hide (Sets.bek (HB6.out.trans (HH6.out.bek HUF.out)) HSK.out (fun g e=>by rw [e];exact hkl) HHf.out.bl)
 have HX9:=hide ((HX6.out.trans (Sets.of (S:=fun _=>False) HUF.out) (fun _ _ h=>h.elim)).trans HSK.out (fun g _ e=>by show col g ≠ 0;rw [e,HCK0.out];omega))
 simp only [List.set_set] at H9
 have HH9:=hide H9
 have hv9:=H9.pl i p _ HP.out (set_at HPP.out) HU_.out
 obtain ⟨_,_,p2,_⟩:=hv9.cells
 have hp9:p < u1c.heap.size:=(H9.ok p (by rw [hv9.cp];omega)).2
 have HKN:=hide (knext_go hv9.clk (by show P.now < _;have h1:=HBN.out;have h2:=HNOW0.out;omega) (by show P.now < now+16;have h2:=HNOW0.out;omega))
 clear H9 hv9 HCK HSK HREN HHf HC9 HUF
 go_wp2_with ((with_reducible refine (HKN.out).mono ?_);rintro e w8 ⟨rfl,hck8,hsk8⟩;have HCK8:=hide hck8;have HSK8:=hide hsk8;clear hck8 hsk8)
 go_returns
 have H10:=HH9.out.clock (set_at HPP.out) HU_.out HSK8.out HCK8.out HPS.out
 simp only [List.set_set] at H10
 have hnw:=HNOW0.out
 have hkl8:base.n≤P.k∧¬ base.K P.k:=(HH9.out.ok P.k (by rw [(HH9.out.pl i p _ HP.out (set_at HPP.out) HU_.out).ck];omega)).1
 have hto:=HTO.out
 rw [← hnw] at H10 hto
 have hrv:=HRV.out
 rw [← hrv.1.1,← hrv.1.2,← hrv.2.1] at hto
 exact ⟨rfl,R',hto,_,H10,Sets.bek HB9.out HSK8.out (fun g e=>by rw [e];exact hkl8) HH9.out.bl,HX9.out.trans HSK8.out (fun g _ e=>by show col g ≠ 0;rw [e,HCK0.out];omega)⟩
end Go.Proofs.YtgmkckjedngkdaaGreatDoor
namespace Go.Proofs.YtgmkckjedngkdaaGreatDoor
open Go.ChangeShapes Go.WideShapes Go.ChangeAt Go.RowKit
theorem infoJob:(Tryz.prog.info? 192).map (fun i=>(i.zero,i.size,i.bytes))=some (some .nilIface,1,16):=by kernel_rfl
set_option maxRecDepth 100000 in
set_option maxHeartbeats 6400000 in
theorem cbeg_any {w:World} {base:Bs} {c i p b:Nat} {col:Nat→Nat} {a:Cl} {P:Pl} {R:Co} (H:CluV w base c col a) (hp:a.ps[i]? = some p) (hP:a.P[i]? = some P) (hu:P.up=true) (hj:P.job=none) (hcb:CoB w base b (fun g=>col g=14+5 * i) R) (v:Value) (Ms:List Mg) (hM:MsR w (fun g=>col g=0) v Ms)
 (hok:∀ x ∈ Ms,mokB x=true) (hcap:a.C.length+Ms.length≤300) (hse:0≤a.se∧a.se≤549755813888) :
 Calls Tryz.prog 49 #[ptv c,.int .i64 i,jobV b,v] w fun e w'=>e=.returned (.tuple #[])∧∃ col' rb' vj',CluV w' base c col' { a with C:=a.C ++ Ms.map Mg.bare,se:=a.se+Ms.length,rb:=rb',P:=a.P.set i { P with vj:=vj',job:=some (b,R) } }∧Bek base w w':=by
 have hv:=H.pl i p P hp hP hu
 have hjb:=hv.jobs
 rw [hj] at hjb
 obtain ⟨Aj,cj,hvj⟩:=jobs_none hjb
 obtain ⟨gp,offp,cpp,hvp,hgp,hpc⟩:=H.at_ (Below.refl _ _) hp
 have hps:i < a.ps.length:=by
  rw [List.getElem?_eq_some_iff] at hp
  exact hp.1
 have c0:=H.cells.2.1
 rw [hvp] at c0
 have p3:=hv.cells.2.2.2
 rw [hvj] at p3
 have hpl:p < w.heap.size:=(H.ok p (by rw [hv.cp];omega)).2
 have HII:Hid ((0:Int)≤(i:Int)∧(i:Int) < (a.ps.length:Int)):=hide ⟨by omega,by omega⟩
 have hiI:(i:Int) < (a.ps.length:Int):=by omega
 have hi0:(0:Int)≤(i:Int):=by omega
 rw [hvj] at hjb
 have HJO:Hid (OwnL (one1 jobV) 1 192 base w (.slice Aj 0 cj) []):=hide hjb
 have HPL:=hide hpl
 have hbx:=hv.box
 rw [hvj] at hbx
 have HPB:=hide hbx
 have HVP:Hid ((Value.slice Aj 0 cj).ownBlock ≠ some p):=hide (fun e=>by
  rw [← hvj] at e
  have h1:=hv.cj p e
  have h2:=hv.cp
  omega)
 have hown:∀ g k,(Value.slice Aj 0 cj).ownBlock=some g→col g=k→k=13+5 * i:=fun g k e h=>by
  rw [← hvj] at e
  have h1:=hv.cj g e
  omega
 have HC0:=hide (And.intro (And.intro H.cells.1 (show (Value.slice Aj 0 cj).ownBlock ≠ some c from fun e=>by have:=hown c _ e H.cc;omega)) (And.intro c0 (And.intro hpc p3)))
 have HGP:Hid (gp < w.heap.size∧(Value.slice Aj 0 cj).ownBlock ≠ some gp):=hide ⟨hgp,fun e=>by
  obtain ⟨A,cp,h1,h2,h3⟩:=H.row
  have hA:A=some ⟨gp,offp,none⟩:=by
   rw [hvp] at h1
   injection h1 with e1
   exact e1.symm
  have:=hown gp _ e (h3 _ hA (fun e2=>by rw [e2] at hps;simp at hps))
  omega⟩
 have HVJ:=hide hvj
 have HH:=hide H
 have HP:=hide hp
 have HPP:=hide hP
 have HU_:=hide hu
 clear hu
 have HCB:=hide hcb
 have HMS:=hide hM
 have HOK:=hide hok
 have HCC:=hide (And.intro hcap hse)
 obtain ⟨Am,cm,hvm,_⟩:=hM.row
 have HV0:=hide hv
 have HVM:=hide hvm
 rw [hvm]
 clear hown H hv hjb hvj hvp hgp hpc hps c0 p3 hpl hbx hp hP hj hcb hM hok hcap hse hvm
 obtain ⟨ud,hud⟩:∃ ud,w.drew=ud:=⟨_,rfl⟩
 have HUD:Hid (Below w.heap.size w ud):=hide (by rw [← hud];exact (Below.refl _ _).drew)
 have HC:Hid (∀ W:World,Sets (fun g=>(Value.slice Aj 0 cj).ownBlock=some g) ud W→W.cell? ⟨c,0,none⟩=some (.slice (some ⟨gp,offp,none⟩) a.ps.length cpp)∧W.cell? ⟨gp,offp+i,none⟩=some (ptv p)∧W.cell? ⟨p,3,none⟩=some (.slice Aj 0 cj)):=hide (fun W hW=>by
  have hb:=HUD.out
  have key:∀ g,g < w.heap.size→(Value.slice Aj 0 cj).ownBlock ≠ some g→W.heap[g]? = w.heap[g]?:=fun g hg hn=>(hW.block g (Nat.lt_of_lt_of_le hg hb.size) hn).trans (hb.block g hg)
  exact ⟨(World.cell?_of_block (key c HC0.out.1.1 HC0.out.1.2)).trans HC0.out.2.1,(World.cell?_of_block (key gp HGP.out.1 HGP.out.2)).trans HC0.out.2.2.1,(World.cell?_of_block (key p HPL.out HVP.out)).trans HC0.out.2.2.2⟩)
 go_enter Tryz.func49,Tryz.ntmps49
 go_upto_region 0 with fail
 refine j_startS [22] (S:=fun W=>Sets (fun g=>(Value.slice Aj 0 cj).ownBlock=some g) ud W) (by kernel_rfl) ?_
 rw [hud]
 have HS:Hid (Sets (fun g=>(Value.slice Aj 0 cj).ownBlock=some g) ud ud):=hide (Sets.refl _)
 refine' j_th 0 [1,2,3,5,6,20,21,22] rfl (by kernel_rfl) rfl ?y0n1 HS.out ?r0n1
 case y0n1=>(intro w' hw';go_simp;try with_reducible rfl)
 try go_frame
 refine' j_th 1 [2,3,5,6,20,21,22] rfl (by kernel_rfl) rfl ?y1n2 HS.out ?r1n2
 case y1n2=>(intro w' hw';go_simp;try with_reducible rfl)
 try go_frame
 refine' j_th 2 [3,5,6,20,21,22] rfl (by kernel_rfl) rfl ?y2n3 HS.out ?r2n3
 case y2n3=>(intro w' hw';go_simp;try with_reducible rfl)
 try go_frame
 refine' j_th 3 [5,6,20,21,22] rfl (by kernel_rfl) rfl ?y3n4 HS.out ?r3n4
 case y3n4=>(intro w' hw';obtain ⟨q0,q1,q3⟩:=HC.out _ hw';go_simp;try with_reducible rfl)
 try go_frame
 refine' j_th 4 [5,6,20,21,22] rfl (by kernel_rfl) rfl ?y4n5 HS.out ?r4n5
 case y4n5=>(intro w' hw';go_simp;try with_reducible rfl)
 try go_frame
 refine' j_th 5 [6,20,21,22] rfl (by kernel_rfl) rfl ?y5n6 HS.out ?r5n6
 case y5n6=>(intro w' hw';have ji:=HII.out;go_simp;try with_reducible rfl)
 try go_frame
 refine' j_th 6 [20,21,22] rfl (by kernel_rfl) rfl ?y6n7 HS.out ?r6n7
 case y6n7=>(intro w' hw';obtain ⟨q0,q1,q3⟩:=HC.out _ hw';go_simp;try with_reducible rfl)
 try go_frame
 refine' j_th 7 [8,9,10,12,13,14,15,16,19,20,21,22] rfl (by kernel_rfl) rfl ?y7n8 HS.out ?r7n8
 case y7n8=>(intro w' hw';go_simp;try with_reducible rfl)
 try go_frame
 refine' j_th 8 [9,10,12,13,14,15,16,19,20,21,22] rfl (by kernel_rfl) rfl ?y8n9 HS.out ?r8n9
 case y8n9=>(intro w' hw';go_simp;try with_reducible rfl)
 try go_frame
 refine' j_th 9 [10,12,13,14,15,16,19,20,21,22] rfl (by kernel_rfl) rfl ?y9n10 HS.out ?r9n10
 case y9n10=>(intro w' hw';go_simp;try with_reducible rfl)
 try go_frame
 refine' j_th 10 [12,13,14,15,16,19,20,21,22] rfl (by kernel_rfl) rfl ?y10n11 HS.out ?r10n11
 case y10n11=>(intro w' hw';obtain ⟨q0,q1,q3⟩:=HC.out _ hw';go_simp;try with_reducible rfl)
 try go_frame
 refine' j_th 11 [12,13,14,15,16,19,20,21,22] rfl (by kernel_rfl) rfl ?y11n12 HS.out ?r11n12
 case y11n12=>(intro w' hw';go_simp;try with_reducible rfl)
 try go_frame
 refine' j_th 12 [13,14,15,16,19,20,21,22] rfl (by kernel_rfl) rfl ?y12n13 HS.out ?r12n13
 case y12n13=>(intro w' hw';have ji:=HII.out;go_simp;try with_reducible rfl)
 try go_frame
 refine' j_th 13 [14,15,16,19,20,21,22] rfl (by kernel_rfl) rfl ?y13n14 HS.out ?r13n14
 case y13n14=>(intro w' hw';obtain ⟨q0,q1,q3⟩:=HC.out _ hw';go_simp;try with_reducible rfl)
 try go_frame
 refine' j_th 14 [15,16,19,20,21,22] rfl (by kernel_rfl) rfl ?y14n15 HS.out ?r14n15
 case y14n15=>(intro w' hw';go_simp;try with_reducible rfl)
 try go_frame
 refine' j_th 15 [16,19,20,21,22] rfl (by kernel_rfl) rfl ?y15n16 HS.out ?r15n16
 case y15n16=>(intro w' hw';go_simp;try with_reducible rfl)
 try go_frame
 refine' j_th 16 [19,20,21,22] rfl (by kernel_rfl) rfl ?y16n17 HS.out ?r16n17
 case y16n17=>(intro w' hw';obtain ⟨q0,q1,q3⟩:=HC.out _ hw';go_simp;try with_reducible rfl)
 try go_frame
 refine' j_th 17 [18,19,20,21,22] rfl (by kernel_rfl) rfl ?y17n18 HS.out ?r17n18
 case y17n18=>(intro w' hw';go_simp;try with_reducible rfl)
 try go_frame
 refine' wpAnyJ_step (i:=18) (o:=_) (by kernel_rfl) ?ho18n19 (fun KK hK=>?step18n19)
 case ho18n19=>(simp only [List.getElem?_toArray,List.getElem?_cons_succ,List.getElem?_cons_zero];rfl)
 go_simp
 have ha:=below_alloc (Below.refl ud.heap.size ud) (.cells #[jobV b] 192)
 have HN:=hide (RowAt.new_one (cells:=one1 jobV) (sz:=1) (y:=b) (heap_alloc_new ud (.cells #[jobV b] 192)))
 have HGA:Hid (Below w.heap.size w (ud.alloc (.cells #[jobV b] 192))):=hide (below_step HUD.out ha)
 have HS:=hide (Sets.of (S:=fun g=>(Value.slice Aj 0 cj).ownBlock=some g) ha)
 refine hK.out _ _ HS.out ?_
 clear hK KK ha
 try go_frame
 refine' wpAnyJ_step (i:=19) (o:=_) (by kernel_rfl) ?ho19n20 (fun KK hK=>?step19n20)
 case ho19n20=>(simp only [List.getElem?_toArray,List.getElem?_cons_succ,List.getElem?_cons_zero];rfl)
 have hua:=HGA.out.size
 refine step_app_row (α:=Nat) (cells:=one1 jobV) rfl (.tmp 24) (.tmp 26) 102 192 .nilIface 1 16 rfl Tryz.underlying102 infoJob rfl (by omega) (fun _=>rfl) (fun a u hu=>by simp only [one1,List.mem_singleton] at hu;subst hu;rfl) (by omega) base (.slice Aj 0 cj) [] rfl (OwnL.below HJO.out HGA.out) (some ⟨ud.heap.size,0,none⟩) 1 1 [b] rfl rfl HN.out (by simp) (Nat.le_trans HH.out.bl.1 hua) ?_
 intro v7 w7 ho7 hg7 hm7
 obtain ⟨A7,c7,rfl,hr7,_,hc7,hcm7⟩:=OwnL.row (cells:=one1 jobV) (sz:=1) (fun _=>rfl) ho7
 have hbx7:=(hg7.block p (Nat.lt_of_lt_of_le HPL.out hua) (fun e=>HVP.out e.symm)).trans ((HGA.out.block p HPL.out).trans HPB.out)
 obtain ⟨_,_,_,k3⟩:=four_cells hbx7
 have z3:w7.frozen? ⟨p,3,none⟩=false:=by simp [World.frozen?,hbx7]
 have HS7:=hide (HS.out.trans (Sets.grown hg7) (fun g _ e=>e))
 have HBX7:=hide hbx7;have HO7:=hide ho7;have HG7:=hide hg7;have HM7:=hide hm7
 clear hbx7 ho7 hg7 hm7 hr7 hua HS
 have HS:=HS7
 refine hK.out _ _ HS.out ?_
 clear hK KK
 try go_frame
 refine' j_th 20 [21,22] rfl (by kernel_rfl) rfl ?y20n21 HS.out ?r20n21
 case y20n21=>(intro w' hw';go_simp;try with_reducible rfl)
 try go_frame
 refine' j_th 21 [22] rfl (by kernel_rfl) rfl ?y21n22 HS.out ?r21n22
 case y21n22=>(intro w' hw';go_simp;try with_reducible rfl)
 try go_frame
 refine' wpAnyJ_last (i:=22) (o:=_) (by kernel_rfl) ?ho22n23 (by kernel_rfl) (fun KK hK=>?step22n23)
 case ho22n23=>(simp only [List.getElem?_toArray,List.getElem?_cons_succ,List.getElem?_cons_zero];rfl)
 go_simp
 refine hK.out _ _ ?_
 clear hK KK
 try go_frame
 refine wpAnyJ_done (by kernel_rfl) ?_ _
 refine NoPanic.normal ?_
 clear HS HC
 have ho7:=HO7.out
 have hm7:=HM7.out
 have hbx7:=HBX7.out
 have hs7:=HS7.out
 have hne7:(Value.slice A7 1 c7).ownBlock ≠ some p:=fun e=>by
  rcases hm7 with h | h
  ·exact HVP.out (by rw [← h];exact e)
  ·have h1:some p=some (ud.alloc (.cells #[jobV b] 192)).heap.size:=e.symm.trans h
   have h2:=Option.some.inj h1
   have h3:=HPL.out
   have h4:=HGA.out.size
   omega
 have hs8:Sets (fun g=>g=p ∨ P.vj.ownBlock=some g) w (w7.setCell ⟨p,3,none⟩ (.slice A7 1 c7)):=((Sets.of (S:=fun g=>g=p ∨ P.vj.ownBlock=some g) HUD.out).trans hs7 (fun g _ e=>.inr (by rw [HVJ.out];exact e))).set (fun _=>.inl rfl) 3 _
 have hJ:=HH.out.jobs (vj':=.slice A7 1 c7) (job':=some (b,R)) HP.out HPP.out HU_.out hs8 (place_put hbx7 _) (show OwnL (one1 (fun v:Value=>v)) 1 192 base _ (.slice A7 1 c7) [jobV b] from OwnL.setFar (cells:=one1 jobV) (L:=[b]) ho7 hne7 _) (fun g hg=>by
  rcases hm7 with h | h
  ·exact .inl (by rw [HVJ.out,← h];exact hg)
  ·have h1:some g=some (ud.alloc (.cells #[jobV b] 192)).heap.size:=hg.symm.trans h
   have h2:=Option.some.inj h1
   have h4:=HGA.out.size
   exact .inr (by omega)) (fun x hx=>by cases hx;exact HCB.out)
 have hbp:base.n≤p∧¬ base.K p:=(HH.out.ok p (by rw [HV0.out.cp];omega)).1
 have hB8:Bek base w (w7.setCell ⟨p,3,none⟩ (.slice A7 1 c7)):=Sets.bek (Bek.refl base w) hs8 (fun g e=>by
  rcases e with e | e
  ·rw [e];exact hbp
  ·exact (HH.out.ok g (by rw [HV0.out.cj g e];omega)).1) HH.out.bl
 have hms:=HMS.out.sets hs8 (fun g h0 _ e=>by
  rcases e with e | e
  ·have:=HV0.out.cp;rw [e] at h0;omega
  ·have:=HV0.out.cj g e;omega)
 rw [HVM.out] at hms
 have HSND:=hide (csnd_any hJ.cells.2.2.2.1 hJ.cells.1 (fun e=>by have h1:=hJ.cn c e;have h2:=hJ.cc;omega) hJ.net _ Ms hms (fun g h0 _ e=>by
  have h1:=(colN_other HH.out.ok (by omega) (by omega) g).1 (hJ.cn g e)
  omega) HOK.out HCC.out.1 (by omega) HCC.out.2)
 have HJ8:=hide hJ
 have HB8:=hide hB8
 clear ho7 hm7 hbx7 hs7 hne7 hs8 hJ hbp hB8 hms k3 z3
 go_wp2_with ((with_reducible refine (HSND.out).mono ?_);rintro e w9 ⟨rfl,rb9,hn9,hs9,hm9⟩;have HN9:=hide hn9;have HS9:=hide hs9;have HM9:=hide hm9;clear hn9 hs9 hm9)
 go_end0
 have h9:=HJ8.out.netted HS9.out HM9.out HN9.out
 exact ⟨rfl,_,rb9,_,h9,Sets.bek HB8.out HS9.out (fun g e=>(HJ8.out.ok g (by rw [HJ8.out.cn g e];omega)).1) HJ8.out.bl⟩
end Go.Proofs.YtgmkckjedngkdaaGreatDoor
namespace Go.Proofs.YtgmkckjedngkdaaGreatDoor
open Go.ChangeShapes Go.WideShapes Go.ChangeAt Go.RowKit
theorem csendLe_ (R:Co) (k:Nat):(csendTo R k).length≤k:=by
 unfold csendTo
 rw [List.length_map]
 exact Nat.le_trans (List.length_filter_le _ _) (by simp)
set_option maxRecDepth 100000 in
set_option maxHeartbeats 6400000 in
theorem ccall_get {w:World} {base:Bs} {c i p:Nat} {col:Nat→Nat} {a:Cl} {P:Pl} (H:CluV w base c col a) (hp:a.ps[i]? = some p) (hP:a.P[i]? = some P) (hu:P.up=true) (hj:P.job=none) (s:Int) (hcl:clientB 3 s 0 0=true) (hids:0≤a.ids∧a.ids≤549755813888)
 (hB:newB a.ps.length i (a.ids+1) 3 s 0 0 0=true) (hps7:a.ps.length≤7) (hs:0≤s∧s≤255) (hmk:∀ r ∈ csendTo (co0 a.ps.length i (a.ids+1) 3 s 0 0 0) a.ps.length,mokB r=true) (hcap:a.C.length+7≤300) (hse:0≤a.se∧a.se≤549755813888) :
 Calls Tryz.prog 19 #[ptv c,.int .i64 i,client4 3 s 0 0] w fun e w'=>e=.returned (.tuple #[.int .u64 (a.ids+1),.int .i64 0])∧∃ b rb' vj' col',CluV w' base c col' { a with ids:=a.ids+1,C:=a.C ++ csendTo (co0 a.ps.length i (a.ids+1) 3 s 0 0 0) a.ps.length,se:=a.se+(csendTo (co0 a.ps.length i (a.ids+1) 3 s 0 0 0) a.ps.length).length,rb:=rb',P:=a.P.set i { P with vj:=vj',job:=some (b,(co0 a.ps.length i (a.ids+1) 3 s 0 0 0)) } }∧Bek base w w':=by
 have hps:i < a.ps.length:=by
  rw [List.getElem?_eq_some_iff] at hp
  exact hp.1
 have hz5:=heap_alloc_new w (.cells #[.int .i64 3,.int .i64 s,.int .u64 0,.int .i64 0] 48)
 have hb5:=below_alloc (Below.refl w.heap.size w) (.cells #[.int .i64 3,.int .i64 s,.int .u64 0,.int .i64 0] 48)
 obtain ⟨w1,hw1⟩:∃ w1,w.alloc (.cells #[.int .i64 3,.int .i64 s,.int .u64 0,.int .i64 0] 48)=w1:=⟨_,rfl⟩
 rw [hw1] at hz5 hb5
 obtain ⟨g5,hg5⟩:∃ g,w.heap.size=g:=⟨_,rfl⟩
 rw [hg5] at hz5
 have lg5:=(Array.getElem?_eq_some_iff.1 hz5).1
 have HH1:=hide (H.below hb5)
 have HB1:=hide (H.bek hb5)
 have hg50:col g5=0:=by
  by_cases h:col g5=0
  ·exact h
  ·have:=(H.ok g5 h).2;omega
 have HIS:=hide (cis_any HH1.out hp)
 have hck:=cok_any 3 s 0 0 w1
 rw [hcl] at hck
 have HCK:=hide hck
 obtain ⟨y0,y1,y2,y3⟩:=four_cells hz5
 have HP:=hide hp
 have HPP:=hide hP
 have HU_:=hide hu
 clear hu
 have HPS:=hide hps
 have HJ:=hide hj
 have HZ5:=hide hz5
 have HID:=hide hids
 have HNB:=hide hB
 have HP7:=hide hps7
 have HSS:=hide hs
 have HMK:=hide hmk
 have HCC:=hide (And.intro hcap hse)
 have HW1:=hide hw1
 have HG5:=hide hg5
 have HG50:=hide hg50
 clear H hp hP hps hj hids hB hps7 hs hmk hcap hse hz5 hb5 hw1 hg5 hg50 hck hcl
 go_enter Tryz.func19,Tryz.ntmps19
 go_upto_region 1 with fail
 rw [HW1.out,HG5.out]
 go_upto_region 7 with (first
  | ((with_reducible refine (HIS.out).mono ?_);rintro e w2 ⟨rfl,rfl⟩)
  | ((with_reducible refine (HCK.out).mono ?_);rintro e w2 ⟨rfl,hg2⟩;have HH2:=hide (HH1.out.below hg2);have HB2:=hide (HB1.out.trans (HH1.out.bek hg2));have HZ2:=hide ((hg2.block g5 lg5).trans HZ5.out);have hl52:=Nat.lt_of_lt_of_le lg5 hg2.size;have HMY:=hide (cmay_any HH2.out HP.out HPP.out HU_.out);clear hg2)
  | ((with_reducible refine (HMY.out).mono ?_);rintro e w3 ⟨rfl,hq⟩;obtain rfl:w2=w3:=hq.symm;clear hq))
 have hcells:=HH2.out.cells
 have hzc:∀ o,w2.frozen? ⟨c,o,none⟩=false:=fun o=>by have h:=HH2.out.box;simp [World.frozen?,h]
 have HUA:=hide (uadd_any c 3 a.ids 1 w2 hcells.2.2.2.2.1 (hzc 3) (by rw [IntKind.wrap_u64];have:=HID.out;omega))
 obtain ⟨z0,z1,z2,z3⟩:=four_cells HZ2.out
 clear hcells hzc y0 y1 y2 y3
 go_upto_region 13 with ((with_reducible refine (HUA.out).mono ?_);rintro e w3 ⟨rfl,hq⟩;have HQ:=hide hq;clear hq)
 have hs3:Sets (fun g=>g=c) w2 w3:=by rw [HQ.out];exact sets1 w2 c 3 _
 have H3:=HH2.out.counted (n':=a.ids+1) hs3 (by rw [HQ.out];have h:=HH2.out.box;simp [World.setCell,Array.getElem?_modify,h])
 have hcb:base.n≤c∧¬ base.K c:=(HH2.out.ok c (by rw [HH2.out.cc];omega)).1
 have HB3:=hide (Sets.bek HB2.out hs3 (fun g e=>by rw [e];exact hcb) HH2.out.bl)
 have hg5c:g5 ≠ c:=fun e=>by have:=HG50.out;rw [e,HH2.out.cc] at this;omega
 have hz3:=(hs3.block g5 hl52 hg5c).trans HZ2.out
 have lg3:=(Array.getElem?_eq_some_iff.1 hz3).1
 have HH3:=hide H3
 obtain ⟨Av,cv,hvp,_⟩:=H3.row
 have c0:=H3.cells.2.1
 rw [show a.vp=_ from hvp] at c0
 have HC:Hid (∀ W:World,Below w3.heap.size w3 W→W.cell? ⟨c,0,none⟩=some (.slice Av a.ps.length cv)∧W.cell? ⟨g5,0,none⟩=some (.int .i64 3)∧W.cell? ⟨g5,1,none⟩=some (.int .i64 s)∧W.cell? ⟨g5,2,none⟩=some (.int .u64 0)∧W.cell? ⟨g5,3,none⟩=some (.int .i64 0)∧True):=hide (fun W hW=>by
  obtain ⟨x0,x1,x2,x3⟩:=four_cells ((hW.block g5 lg3).trans hz3)
  exact ⟨keep_cell hW c0 H3.cells.1,x0,x1,x2,x3,trivial⟩)
 obtain ⟨ud,hud⟩:∃ ud,w3.drew=ud:=⟨_,rfl⟩
 have HUD:Hid (Below w3.heap.size w3 ud):=hide (by rw [← hud];exact (Below.refl _ _).drew)
 have HNEW:=hide (cnew_co a.ps.length i (a.ids+1) 3 s 0 0 0 ud HNB.out)
 clear hs3 H3 hcb hg5c hz3 lg3 hvp c0 z0 z1 z2 z3 HQ HUA
 refine j_start [] (by kernel_rfl) ?_
 rw [hud]
 clear hud
 refine' j_t 0 [] rfl (by kernel_rfl) rfl ?y0n3 ?r0n3
 case y0n3=>(intro w' hw';go_simp;try with_reducible rfl)
 try go_frame
 refine' j_t 1 [] rfl (by kernel_rfl) rfl ?y1n3 ?r1n3
 case y1n3=>(intro w' hw';go_simp;try with_reducible rfl)
 try go_frame
 refine' j_t 2 [] rfl (by kernel_rfl) rfl ?y2n3 ?r2n3
 case y2n3=>(intro w' hw';go_simp;try with_reducible rfl)
 try go_frame
 refine' j_t 3 [] rfl (by kernel_rfl) rfl ?y3n3 ?r3n3
 case y3n3=>(intro w' hw';obtain ⟨q0,y0,y1,y2,y3,q5⟩:=HC.out _ (below_step HUD.out hw');go_simp;try with_reducible rfl)
 try go_frame
 refine' j_t 4 [] rfl (by kernel_rfl) rfl ?y4n3 ?r4n3
 case y4n3=>(intro w' hw';go_simp;try with_reducible rfl)
 try go_frame
 refine' j_t 5 [] rfl (by kernel_rfl) rfl ?y5n3 ?r5n3
 case y5n3=>(intro w' hw';go_simp;try with_reducible rfl)
 try go_frame
 refine' j_t 6 [] rfl (by kernel_rfl) rfl ?y6n3 ?r6n3
 case y6n3=>(intro w' hw';go_simp;try with_reducible rfl)
 try go_frame
 refine' j_t 7 [] rfl (by kernel_rfl) rfl ?y7n3 ?r7n3
 case y7n3=>(intro w' hw';obtain ⟨q0,y0,y1,y2,y3,q5⟩:=HC.out _ (below_step HUD.out hw');go_simp;try with_reducible rfl)
 try go_frame
 refine' j_t 8 [] rfl (by kernel_rfl) rfl ?y8n3 ?r8n3
 case y8n3=>(intro w' hw';go_simp;try with_reducible rfl)
 try go_frame
 refine' wpAnyJ_step (i:=9) (o:=_) (by kernel_rfl) ?ho9n3 (fun KK hK=>?step9n3)
 case ho9n3=>(simp only [List.getElem?_toArray,List.getElem?_cons_succ,List.getElem?_cons_zero];rfl)
 go_simp
 refine (Calls.mono (HNEW.out) ?_);rintro e u1n3 ⟨b,rfl,hco⟩
 have gg:=hco.low
 have HCO:=hide hco
 clear hco
 refine hK.out _ _ gg (j_switch gg ?_)
 clear hK KK gg
 try go_frame
 refine' j_t 10 [] rfl (by kernel_rfl) rfl ?y10n3 ?r10n3
 case y10n3=>(intro w' hw';go_simp;try with_reducible rfl)
 try go_frame
 refine' j_t 11 [] rfl (by kernel_rfl) rfl ?y11n3 ?r11n3
 case y11n3=>(intro w' hw';go_simp;try with_reducible rfl)
 try go_frame
 refine' j_t 12 [] rfl (by kernel_rfl) rfl ?y12n3 ?r12n3
 case y12n3=>(intro w' hw';go_simp;try with_reducible rfl)
 try go_frame
 refine' j_t 13 [] rfl (by kernel_rfl) rfl ?y13n3 ?r13n3
 case y13n3=>(intro w' hw';go_simp;try with_reducible rfl)
 try go_frame
 refine' j_t 14 [] rfl (by kernel_rfl) rfl ?y14n3 ?r14n3
 case y14n3=>(intro w' hw';go_simp;try with_reducible rfl)
 try go_frame
 refine wpAnyJ_done (by kernel_rfl) ?_ _
 refine NoPanic.normal ?_
 have hlow:=HCO.out.low
 have hb4:=below_step HUD.out hlow
 have H4:=HH3.out.fresh HP.out HPP.out HU_.out HJ.out hb4
 have hcob:CoB u1n3 base b (fun g=>colN col w3.heap.size u1n3.heap.size (14+5 * i) g=14+5 * i) (co0 a.ps.length i (a.ids+1) 3 s 0 0 0):=(HCO.out.b (Nat.le_trans HH3.out.bl.1 HUD.out.size)).wide (fun g e=>(colN_self HH3.out.ok (by omega) g).2 (.inr (by
  have h1:=HCO.out.xs b rfl
  have h2:=HUD.out.size
  rw [e]
  omega))) (fun g e=>H4.ok.lt e (by omega))
 have HB4:=hide (HB3.out.trans (HH3.out.bek hb4))
 have HSN:=hide (csends_new HCO.out ⟨by show (1:Int)≤(a.ps.length:Int);have:=HPS.out;omega,by show (a.ps.length:Int)≤7;have:=HP7.out;omega⟩ HSS.out)
 have HH4:=hide H4
 have HCB:=hide hcob
 clear hlow hb4 H4 hcob HCO HC HUD HH3 HB3
 have HCE:=hide (fun (g:Nat) (hg:u1n3.heap.size≤g)=>show colN col w3.heap.size u1n3.heap.size (14+5 * i) g=0 from by
  by_cases h:colN col w3.heap.size u1n3.heap.size (14+5 * i) g=0
  ·exact h
  ·have:=(HH4.out.ok g h).2;omega)
 go_wp2_with (first
  | ((with_reducible refine (HSN.out).mono ?_);rintro e w6 ⟨v6,N6,rfl,hms,hN,hb6⟩;have hN2:N6.map Mg.bare=csendTo (co0 a.ps.length i (a.ids+1) 3 s 0 0 0) a.ps.length:=(by rw [hN];show csendTo (co0 a.ps.length i (a.ids+1) 3 s 0 0 0) ((a.ps.length:Int)).toNat=_;rw [Int.toNat_natCast]);have hmr:=hms.r.mono HCE.out;obtain ⟨A6,c6,rfl,_⟩:=hmr.row;have hlN:N6.length≤7:=(by have h1:=congrArg List.length hN2;rw [List.length_map] at h1;have h2:=csendLe_ (co0 a.ps.length i (a.ids+1) 3 s 0 0 0) a.ps.length;have h3:=HP7.out;omega);have hbg:=cbeg_any (HH4.out.below hb6) HP.out HPP.out HU_.out HJ.out (HCB.out.sets (S:=fun _=>False) (Sets.of hb6) (fun _ _=>id)) _ N6 hmr (fun x hx=>by rw [mokB_same (bare_same x)];exact HMK.out _ (by rw [← hN2];exact List.mem_map_of_mem hx)) (by show a.C.length+N6.length≤300;have:=HCC.out.1;omega) HCC.out.2;unfold jobV at hbg;have HBG:=hide hbg;have HN2:=hide hN2;have HB6:=hide (HB4.out.trans (HH4.out.bek hb6));clear hbg hN2 hmr hms hN hb6 hlN)
  | ((with_reducible refine (HBG.out).mono ?_);rintro e w9 ⟨rfl,col9,rb9,vj9,h9,hb9⟩;have HH9:=hide h9;have HB9:=hide (HB6.out.trans hb9);clear h9 hb9))
 go_returns
 have h9:=HH9.out
 have hl9:N6.length=(csendTo (co0 a.ps.length i (a.ids+1) 3 s 0 0 0) a.ps.length).length:=by rw [← HN2.out,List.length_map]
 rw [HN2.out,hl9] at h9
 exact ⟨rfl,b,rb9,vj9,col9,h9,HB9.out⟩
set_option maxRecDepth 100000 in
set_option maxHeartbeats 6400000 in
theorem ccall_put {w:World} {base:Bs} {c i p:Nat} {col:Nat→Nat} {a:Cl} {P:Pl} (H:CluV w base c col a) (hp:a.ps[i]? = some p) (hP:a.P[i]? = some P) (hu:P.up=true) (hj:P.job=none) (s t x:Int) (hl:P.lease≤P.now) (hn:P.now+16≤1099511627776) (M:Nat) (hM:∀ z ∈ P.N.R.K.Z,z.L.length≤M) (hM2:M≤249900) (hq:((3 * M+100:Nat):Int)≤P.N.R.K.q) (hIL:a.IL.length≤1000) (hcl:clientB 1 s t x=true) (hids:0≤a.ids∧a.ids≤549755813888)
 (hB:newB a.ps.length i (a.ids+1) 1 s t x ((P.now+1) * 8+i)=true) (hps7:a.ps.length≤7) (hs:0≤s∧s≤255) (hmk:∀ r ∈ csendTo (co0 a.ps.length i (a.ids+1) 1 s t x ((P.now+1) * 8+i)) a.ps.length,mokB r=true) (hcap:a.C.length+7≤300) (hse:0≤a.se∧a.se≤549755813888) :
 Calls Tryz.prog 19 #[ptv c,.int .i64 i,client4 1 s t x] w fun e w'=>e=.returned (.tuple #[.int .u64 (a.ids+1),.int .i64 0])∧∃ b rb' vj' R' vi',SavTo P.N.R P.N.R.v.fl P.N.R.v.ce P.N.R.v.at_ (P.now+16) R'∧∃ col',CluV w' base c col' { a with ids:=a.ids+1,C:=a.C ++ csendTo (co0 a.ps.length i (a.ids+1) 1 s t x ((P.now+1) * 8+i)) a.ps.length,se:=a.se+(csendTo (co0 a.ps.length i (a.ids+1) 1 s t x ((P.now+1) * 8+i)) a.ps.length).length,rb:=rb',vi:=vi',IL:=a.IL ++ [⟨a.ids+1,1,s,t,x,0,((P.now+1) * 8+i),none,0,0⟩],P:=a.P.set i { P with N:={ P.N with R:=R' },now:=P.now+1,lease:=P.now+16,vj:=vj',job:=some (b,(co0 a.ps.length i (a.ids+1) 1 s t x ((P.now+1) * 8+i))) } }∧Bek base w w':=by
 obtain ⟨vv,hvr⟩:∃ vv,(P.now+1) * 8+(i:Int)=vv:=⟨_,rfl⟩
 rw [hvr] at hB hmk ⊢
 have HVR:=hide hvr
 have hps:i < a.ps.length:=by
  rw [List.getElem?_eq_some_iff] at hp
  exact hp.1
 have hz5:=heap_alloc_new w (.cells #[.int .i64 1,.int .i64 s,.int .u64 t,.int .i64 x] 48)
 have hb5:=below_alloc (Below.refl w.heap.size w) (.cells #[.int .i64 1,.int .i64 s,.int .u64 t,.int .i64 x] 48)
 obtain ⟨w1,hw1⟩:∃ w1,w.alloc (.cells #[.int .i64 1,.int .i64 s,.int .u64 t,.int .i64 x] 48)=w1:=⟨_,rfl⟩
 rw [hw1] at hz5 hb5
 obtain ⟨g5,hg5⟩:∃ g,w.heap.size=g:=⟨_,rfl⟩
 rw [hg5] at hz5
 have lg5:=(Array.getElem?_eq_some_iff.1 hz5).1
 have HH1:=hide (H.below hb5)
 have HB1:=hide (H.bek hb5)
 have hg50:col g5=0:=by
  by_cases h:col g5=0
  ·exact h
  ·have:=(H.ok g5 h).2;omega
 have HIS:=hide (cis_any HH1.out hp)
 have hck:=cok_any 1 s t x w1
 rw [hcl] at hck
 have HCK:=hide hck
 obtain ⟨y0,y1,y2,y3⟩:=four_cells hz5
 have HP:=hide hp
 have HPP:=hide hP
 have HU_:=hide hu
 clear hu
 have HPS:=hide hps
 have HJ:=hide hj
 have HZ5:=hide hz5
 have HID:=hide hids
 have HNB:=hide hB
 have HP7:=hide hps7
 have HSS:=hide hs
 have HMK:=hide hmk
 have HCC:=hide (And.intro hcap hse)
 have HW1:=hide hw1
 have HG5:=hide hg5
 have HG50:=hide hg50
 have hvp0:0 < vv:=by have:=(H.pl i p P hp hP HU_.out).clk.2.2.1;omega
 have HVP0:=hide hvp0
 have HVV:=hide (And.intro hl (And.intro hn (And.intro hM (And.intro hM2 hq))))
 have HIL:=hide hIL
 have hnw0:0≤P.now:=(H.pl i p P hp hP HU_.out).clk.2.2.1
 have HN0:=hide hnw0
 clear hl hn hM hM2 hq hIL hnw0 hvr hvp0
 clear H hp hP hps hj hids hB hps7 hs hmk hcap hse hz5 hb5 hw1 hg5 hg50 hck hcl
 go_enter Tryz.func19,Tryz.ntmps19
 go_upto_region 1 with fail
 rw [HW1.out,HG5.out]
 go_upto_region 7 with (first
  | ((with_reducible refine (HIS.out).mono ?_);rintro e w2 ⟨rfl,rfl⟩)
  | ((with_reducible refine (HCK.out).mono ?_);rintro e w2 ⟨rfl,hg2⟩;have HH2:=hide (HH1.out.below hg2);have HB2:=hide (HB1.out.trans (HH1.out.bek hg2));have HZ2:=hide ((hg2.block g5 lg5).trans HZ5.out);have hl52:=Nat.lt_of_lt_of_le lg5 hg2.size;have HMY:=hide (cmay_any HH2.out HP.out HPP.out HU_.out);clear hg2)
  | ((with_reducible refine (HMY.out).mono ?_);rintro e w3 ⟨rfl,hq⟩;obtain rfl:w2=w3:=hq.symm;clear hq))
 have hve:=cver_any HH2.out HP.out HPP.out HU_.out HVV.out.1 HVV.out.2.1 M HVV.out.2.2.1 HVV.out.2.2.2.1 HVV.out.2.2.2.2
 rw [HVR.out] at hve
 have HVE:=hide hve
 clear hve
 obtain ⟨gp,offp,cpp,hvp,hgp,hpc⟩:=HH2.out.at_ (Below.refl _ _) HP.out
 have c0:=HH2.out.cells.2.1
 rw [show a.vp=_ from hvp] at c0
 have hiI:(i:Int) < (a.ps.length:Int):=by have:=HPS.out;omega
 have hi0:(0:Int)≤(i:Int):=by omega
 obtain ⟨z0,z1,z2,z3⟩:=four_cells HZ2.out
 clear hvp
 go_upto_region 12 with ((with_reducible refine (HVE.out).mono ?_);rintro e w5 ⟨rfl,R',hto,col5,h5,hb5,hsx5⟩;have HTO:=hide hto;have HH5:=hide h5;have HB5:=hide (HB2.out.trans hb5);have HSX5:=hide hsx5;clear hto h5 hb5 hsx5)
 have hz2:=(HSX5.out.block g5 hl52 (fun e=>e HG50.out)).trans HZ2.out
 have hcells:=HH5.out.cells
 have hzc:∀ o,w5.frozen? ⟨c,o,none⟩=false:=fun o=>by have h:=HH5.out.box;simp [World.frozen?,h]
 have HUA:=hide (uadd_any c 3 a.ids 1 w5 hcells.2.2.2.2.1 (hzc 3) (by rw [IntKind.wrap_u64];have:=HID.out;omega))
 have HZ5b:=hide hz2
 clear hcells hzc y0 y1 y2 y3 z0 z1 z2 z3 hz2 c0 hpc hgp hiI hi0
 go_upto_region 13 with ((with_reducible refine (HUA.out).mono ?_);rintro e w3 ⟨rfl,hq⟩;have HQ:=hide hq;clear hq)
 have hs3:Sets (fun g=>g=c) w5 w3:=by rw [HQ.out];exact sets1 w5 c 3 _
 have H3:=HH5.out.counted (n':=a.ids+1) hs3 (by rw [HQ.out];have h:=HH5.out.box;simp [World.setCell,Array.getElem?_modify,h])
 have hcb:base.n≤c∧¬ base.K c:=(HH5.out.ok c (by rw [HH5.out.cc];omega)).1
 have HB3:=hide (Sets.bek HB5.out hs3 (fun g e=>by rw [e];exact hcb) HH5.out.bl)
 have hg5c:g5 ≠ c:=fun e=>by have:=HG50.out;rw [e,HH2.out.cc] at this;omega
 have lg5b:=(Array.getElem?_eq_some_iff.1 HZ5b.out).1
 have hz3:=(hs3.block g5 lg5b hg5c).trans HZ5b.out
 have lg3:=(Array.getElem?_eq_some_iff.1 hz3).1
 have HH3:=hide H3
 obtain ⟨Av,cv,hvp,_⟩:=H3.row
 have c0:=H3.cells.2.1
 rw [show a.vp=_ from hvp] at c0
 have HZ3:=hide hz3
 have HG5C:=hide hg5c
 have HC:Hid (∀ W:World,Below w3.heap.size w3 W→W.cell? ⟨c,0,none⟩=some (.slice Av a.ps.length cv)∧W.cell? ⟨g5,0,none⟩=some (.int .i64 1)∧W.cell? ⟨g5,1,none⟩=some (.int .i64 s)∧W.cell? ⟨g5,2,none⟩=some (.int .u64 t)∧W.cell? ⟨g5,3,none⟩=some (.int .i64 x)∧True):=hide (fun W hW=>by
  obtain ⟨x0,x1,x2,x3⟩:=four_cells ((hW.block g5 lg3).trans hz3)
  exact ⟨keep_cell hW c0 H3.cells.1,x0,x1,x2,x3,trivial⟩)
 obtain ⟨ud,hud⟩:∃ ud,w3.drew=ud:=⟨_,rfl⟩
 have HUD:Hid (Below w3.heap.size w3 ud):=hide (by rw [← hud];exact (Below.refl _ _).drew)
 have HNEW:=hide (cnew_co a.ps.length i (a.ids+1) 1 s t x vv ud HNB.out)
 clear hs3 H3 hcb hg5c hz3 hvp c0 HQ HUA lg5b
 refine j_start [] (by kernel_rfl) ?_
 rw [hud]
 clear hud
 refine' j_t 0 [] rfl (by kernel_rfl) rfl ?y0n1 ?r0n1
 case y0n1=>(intro w' hw';go_simp;try with_reducible rfl)
 try go_frame
 refine' j_t 1 [] rfl (by kernel_rfl) rfl ?y1n1 ?r1n1
 case y1n1=>(intro w' hw';go_simp;try with_reducible rfl)
 try go_frame
 refine' j_t 2 [] rfl (by kernel_rfl) rfl ?y2n1 ?r2n1
 case y2n1=>(intro w' hw';go_simp;try with_reducible rfl)
 try go_frame
 refine' j_t 3 [] rfl (by kernel_rfl) rfl ?y3n1 ?r3n1
 case y3n1=>(intro w' hw';obtain ⟨q0,y0,y1,y2,y3,q5⟩:=HC.out _ (below_step HUD.out hw');go_simp;try with_reducible rfl)
 try go_frame
 refine' j_t 4 [] rfl (by kernel_rfl) rfl ?y4n1 ?r4n1
 case y4n1=>(intro w' hw';go_simp;try with_reducible rfl)
 try go_frame
 refine' j_t 5 [] rfl (by kernel_rfl) rfl ?y5n1 ?r5n1
 case y5n1=>(intro w' hw';go_simp;try with_reducible rfl)
 try go_frame
 refine' j_t 6 [] rfl (by kernel_rfl) rfl ?y6n1 ?r6n1
 case y6n1=>(intro w' hw';go_simp;try with_reducible rfl)
 try go_frame
 refine' j_t 7 [] rfl (by kernel_rfl) rfl ?y7n1 ?r7n1
 case y7n1=>(intro w' hw';obtain ⟨q0,y0,y1,y2,y3,q5⟩:=HC.out _ (below_step HUD.out hw');go_simp;try with_reducible rfl)
 try go_frame
 refine' j_t 8 [] rfl (by kernel_rfl) rfl ?y8n1 ?r8n1
 case y8n1=>(intro w' hw';go_simp;try with_reducible rfl)
 try go_frame
 refine' wpAnyJ_step (i:=9) (o:=_) (by kernel_rfl) ?ho9n1 (fun KK hK=>?step9n1)
 case ho9n1=>(simp only [List.getElem?_toArray,List.getElem?_cons_succ,List.getElem?_cons_zero];rfl)
 go_simp
 refine (Calls.mono (HNEW.out) ?_);rintro e u1n1 ⟨b,rfl,hco⟩
 have gg:=hco.low
 have HCO:=hide hco
 clear hco
 refine hK.out _ _ gg (j_switch gg ?_)
 clear hK KK gg
 try go_frame
 refine' j_t 10 [] rfl (by kernel_rfl) rfl ?y10n1 ?r10n1
 case y10n1=>(intro w' hw';go_simp;try with_reducible rfl)
 try go_frame
 refine' j_t 11 [] rfl (by kernel_rfl) rfl ?y11n1 ?r11n1
 case y11n1=>(intro w' hw';go_simp;try with_reducible rfl)
 try go_frame
 refine' j_t 12 [] rfl (by kernel_rfl) rfl ?y12n1 ?r12n1
 case y12n1=>(intro w' hw';go_simp;try with_reducible rfl)
 try go_frame
 refine' j_t 13 [] rfl (by kernel_rfl) rfl ?y13n1 ?r13n1
 case y13n1=>(intro w' hw';go_simp;try with_reducible rfl)
 try go_frame
 refine' j_t 14 [] rfl (by kernel_rfl) rfl ?y14n1 ?r14n1
 case y14n1=>(intro w' hw';go_simp;try with_reducible rfl)
 try go_frame
 refine wpAnyJ_done (by kernel_rfl) ?_ _
 refine NoPanic.normal ?_
 have hlow:=HCO.out.low
 have hb4:=below_step HUD.out hlow
 have H4:=HH3.out.fresh HP.out (set_at HPP.out) HU_.out HJ.out hb4
 have hcob:CoB u1n1 base b (fun g=>colN col5 w3.heap.size u1n1.heap.size (14+5 * i) g=14+5 * i) (co0 a.ps.length i (a.ids+1) 1 s t x vv):=(HCO.out.b (Nat.le_trans HH3.out.bl.1 HUD.out.size)).wide (fun g e=>(colN_self HH3.out.ok (by omega) g).2 (.inr (by
  have h1:=HCO.out.xs b rfl
  have h2:=HUD.out.size
  rw [e]
  omega))) (fun g e=>H4.ok.lt e (by omega))
 have HB4:=hide (HB3.out.trans (HH3.out.bek hb4))
 have HZ4:=hide ((hb4.block g5 lg3).trans HZ3.out)
 have HHk:=hide H4
 have HCB:=hide hcob
 have hdv:decide (0 < vv)=true:=decide_eq_true HVP0.out
 have hdv2:0 < vv:=HVP0.out
 clear hlow hb4 H4 hcob HCO HC HUD HH3 HB3 lg3
 obtain ⟨wk,hwk⟩:∃ wk,u1n1=wk:=⟨_,rfl⟩
 rw [hwk] at HB4 HZ4 HHk HCB ⊢
 clear hwk u1n1
 obtain ⟨colk,hcolk⟩:∃ k,colN col5 w3.heap.size wk.heap.size (14+5 * i)=k:=⟨_,rfl⟩
 rw [hcolk] at HHk HCB
 clear hcolk
 go_upto_region 17 with fail
 obtain ⟨Av,cv,hva,_,_,_,_⟩:=OwnL.row An.cells_len HHk.out.iss
 obtain ⟨nv,hnv⟩:∃ n,a.IL.length=n:=⟨_,rfl⟩
 have hva2:a.vi=.slice Av nv cv:=by rw [← hnv];exact hva
 have HVA:=hide hva2
 have HNV:=hide hnv
 have HOV:Hid (OwnL An.cells 8 50 base wk (.slice Av nv cv) a.IL):=hide (by rw [← hva2];exact HHk.out.iss)
 have HCL:=hide HHk.out.cells.1
 have HVC:Hid ((Value.slice Av nv cv).ownBlock ≠ some c):=hide (fun e=>by
  rw [← hva2] at e
  have h1:=HHk.out.ci c e
  have h2:=HHk.out.cc
  omega)
 have lgk:=(Array.getElem?_eq_some_iff.1 HZ4.out).1
 have HC7:Hid (∀ W:World,Below wk.heap.size wk W→W.cell? ⟨c,5,none⟩=some (.slice Av nv cv)∧W.cell? ⟨g5,0,none⟩=some (.int .i64 1)∧W.cell? ⟨g5,1,none⟩=some (.int .i64 s)∧W.cell? ⟨g5,2,none⟩=some (.int .u64 t)∧W.cell? ⟨g5,3,none⟩=some (.int .i64 x)∧True):=hide (fun W hW=>by
  obtain ⟨x0,x1,x2,x3⟩:=four_cells ((hW.block g5 lgk).trans HZ4.out)
  exact ⟨(keep_cell hW HHk.out.cells.2.2.2.2.2.2 HHk.out.cells.1).trans (by show some a.vi=_;rw [hva2]),x0,x1,x2,x3,trivial⟩)
 obtain ⟨ug,hug⟩:∃ ug,wk.drew=ug:=⟨_,rfl⟩
 have HUG:Hid (Below wk.heap.size wk ug):=hide (by rw [← hug];exact (Below.refl _ _).drew)
 clear hva hva2 hnv lgk hdv hdv2
 refine j_start [10,11,12,13,0] (by kernel_rfl) ?_
 rw [hug]
 clear hug
 refine' j_tw 0 rfl (by kernel_rfl) rfl ?y0i ?r0i
 case y0i=>(intro w' hw';go_simp;try with_reducible rfl)
 try go_frame
 refine' j_t 1 [2,3,4,10,11,12,13] rfl (by kernel_rfl) rfl ?y1i ?r1i
 case y1i=>(intro w' hw';go_simp;try with_reducible rfl)
 try go_frame
 refine' j_t 2 [3,4,10,11,12,13] rfl (by kernel_rfl) rfl ?y2i ?r2i
 case y2i=>(intro w' hw';go_simp;try with_reducible rfl)
 try go_frame
 refine' j_t 3 [4,10,11,12,13] rfl (by kernel_rfl) rfl ?y3i ?r3i
 case y3i=>(intro w' hw';go_simp;try with_reducible rfl)
 try go_frame
 refine' j_t 4 [10,11,12,13] rfl (by kernel_rfl) rfl ?y4i ?r4i
 case y4i=>(intro w' hw';obtain ⟨q0,y0,y1,y2,y3,q5⟩:=HC7.out _ (below_step HUG.out hw');go_simp;try with_reducible rfl)
 try go_frame
 refine' j_t 5 [8,9,10,11,12,13] rfl (by kernel_rfl) rfl ?y5i ?r5i
 case y5i=>(intro w' hw';go_simp;try with_reducible rfl)
 try go_frame
 refine' j_t 6 [8,9,10,11,12,13] rfl (by kernel_rfl) rfl ?y6i ?r6i
 case y6i=>(intro w' hw';obtain ⟨q0,y0,y1,y2,y3,q5⟩:=HC7.out _ (below_step HUG.out hw');go_simp;try with_reducible rfl)
 try go_frame
 refine' j_t 7 [8,9,10,11,12,13] rfl (by kernel_rfl) rfl ?y7i ?r7i
 case y7i=>(intro w' hw';go_simp;try with_reducible rfl)
 try go_frame
 refine' j_t 8 [9,10,11,12,13] rfl (by kernel_rfl) rfl ?y8i ?r8i
 case y8i=>(intro w' hw';go_simp;try with_reducible rfl)
 try go_frame
 refine' wpAnyJ_step (i:=9) (o:=_) (by kernel_rfl) ?ho9i (fun KK hK=>?step9i)
 case ho9i=>(simp only [List.getElem?_toArray,List.getElem?_cons_succ,List.getElem?_cons_zero];rfl)
 go_simp
 have ha:=below_alloc (Below.refl ug.heap.size ug) (.cells #[.int .u64 (a.ids+1),.int .i64 1,.int .i64 s,.int .u64 t,.int .i64 x,.int .i64 0,.int .u64 vv,.slice none 0 0] 50)
 have HN:=hide (RowAt.new_one (cells:=An.cells) (sz:=8) (y:=⟨a.ids+1,1,s,t,x,0,vv,none,0,0⟩) (heap_alloc_new ug (.cells #[.int .u64 (a.ids+1),.int .i64 1,.int .i64 s,.int .u64 t,.int .i64 x,.int .i64 0,.int .u64 vv,.slice none 0 0] 50)))
 have HGA:Hid (Below wk.heap.size wk (ug.alloc (.cells #[.int .u64 (a.ids+1),.int .i64 1,.int .i64 s,.int .u64 t,.int .i64 x,.int .i64 0,.int .u64 vv,.slice none 0 0] 50))):=hide (below_step HUG.out ha)
 refine hK.out _ _ ha (j_switch ha ?_)
 clear hK KK ha
 try go_frame
 refine' wpAnyJ_last (i:=10) (o:=_) (by kernel_rfl) ?ho10i (by kernel_rfl) (fun KK hK=>?step10i)
 case ho10i=>(simp only [List.getElem?_toArray,List.getElem?_cons_succ,List.getElem?_cons_zero];rfl)
 have hua:=HGA.out.size
 refine step_app_row rfl (.tmp 72) (.tmp 77) 58 50 _ 8 80 rfl Tryz.underlying58 Tryz.infoAnsw rfl (by omega) An.cells_len An.cells_one (by omega) base (.slice Av nv cv) a.IL rfl (OwnL.below HOV.out HGA.out) (some ⟨ug.heap.size,0,none⟩) 1 1 [⟨a.ids+1,1,s,t,x,0,vv,none,0,0⟩] rfl rfl HN.out (by have:=HIL.out;omega) (Nat.le_trans HHk.out.bl.1 hua) ?_
 intro v7 w7 ho7 hg7 hm7
 obtain ⟨A7,c7,rfl,hr7,_,hc7,hcm7⟩:=OwnL.row An.cells_len ho7
 have hbx7:=(hg7.block c (Nat.lt_of_lt_of_le HCL.out hua) (fun e=>HVC.out e.symm)).trans ((HGA.out.block c HCL.out).trans HHk.out.box)
 have k5:w7.cell? ⟨c,5,none⟩=some (.slice Av nv cv):=(cell_of_row w7 c 5 _ _ _ hbx7).trans (by show some a.vi=_;rw [HVA.out])
 have z5:w7.frozen? ⟨c,5,none⟩=false:=by simp [World.frozen?,hbx7]
 have HBX7:=hide hbx7;have HO7:=hide ho7;have HG7:=hide hg7;have HM7:=hide hm7
 clear hbx7 ho7 hg7 hm7 hr7 hua
 refine hK.out _ _ ?_
 clear hK KK
 try go_frame
 refine' wpAnyJ_last (i:=11) (o:=_) (by kernel_rfl) ?ho11i (by kernel_rfl) (fun KK hK=>?step11i)
 case ho11i=>(simp only [List.getElem?_toArray,List.getElem?_cons_succ,List.getElem?_cons_zero];rfl)
 go_simp
 refine hK.out _ _ ?_
 clear hK KK
 try go_frame
 refine' wpAnyJ_last (i:=12) (o:=_) (by kernel_rfl) ?ho12i (by kernel_rfl) (fun KK hK=>?step12i)
 case ho12i=>(simp only [List.getElem?_toArray,List.getElem?_cons_succ,List.getElem?_cons_zero];rfl)
 go_simp
 refine hK.out _ _ ?_
 clear hK KK
 try go_frame
 refine' wpAnyJ_last (i:=13) (o:=_) (by kernel_rfl) ?ho13i (by kernel_rfl) (fun KK hK=>?step13i)
 case ho13i=>(simp only [List.getElem?_toArray,List.getElem?_cons_succ,List.getElem?_cons_zero];rfl)
 go_simp
 refine hK.out _ _ ?_
 clear hK KK
 try go_frame
 refine wpAnyJ_done (by kernel_rfl) ?_ _
 refine NoPanic.normal ?_
 have hl7:(a.IL ++ [(⟨a.ids+1,1,s,t,x,0,vv,none,0,0⟩:An)]).length=a.IL.length+1:=by simp
 have hbx7:=HBX7.out
 have ho7:=HO7.out
 have hm7:=HM7.out
 rw [hl7] at ho7 hm7
 have hs8:Sets (fun g=>g=c ∨ a.vi.ownBlock=some g) wk (w7.setCell ⟨c,5,none⟩ (.slice A7 (a.IL.length+1) c7)):=((Sets.of (S:=fun g=>g=c ∨ a.vi.ownBlock=some g) HGA.out).trans (Sets.grown HG7.out) (fun g _ e=>.inr (by rw [HVA.out];exact e))).set (fun _=>.inl rfl) 5 _
 have hne7:(Value.slice A7 (a.IL.length+1) c7).ownBlock ≠ some c:=fun e=>by
  rcases hm7 with h | h
  ·rw [e] at h;exact HVC.out h.symm
  ·rw [e] at h
   have h2:=Option.some.inj h
   have h3:=HCL.out
   have h4:=HGA.out.size
   omega
 have hA:=HHk.out.issued (vi':=.slice A7 (a.IL.length+1) c7) (IL':=a.IL ++ [⟨a.ids+1,1,s,t,x,0,vv,none,0,0⟩]) hs8 (by simp [World.setCell,Array.getElem?_modify,hbx7]) (OwnL.setFar ho7 hne7 _) (fun g hg=>by
  rcases hm7 with h | h
  ·exact .inl (by show a.vi.ownBlock=some g;rw [HVA.out,← h];exact hg)
  ·rw [hg] at h
   have h2:=Option.some.inj h
   have h4:=HGA.out.size
   exact .inr (by omega))
 have hB8:Bek base w (w7.setCell ⟨c,5,none⟩ (.slice A7 (a.IL.length+1) c7)):=Sets.bek HB4.out hs8 (fun g e=>by
  rcases e with e | e
  ·exact (HHk.out.ok g (by rw [e,HHk.out.cc];omega)).1
  ·exact (HHk.out.ok g (by rw [HHk.out.ci g e];omega)).1) HHk.out.bl
 have hcb8:=(HCB.out.sets hs8 (fun g hg e=>by
  rcases e with e | e
  ·have:=HHk.out.cc;rw [e] at hg;omega
  ·have:=HHk.out.ci g e;omega)).wide (Y:=fun g=>colN colk wk.heap.size (w7.setCell ⟨c,5,none⟩ (.slice A7 (a.IL.length+1) c7)).heap.size 5 g=14+5 * i) (fun g hg=>(colN_other HHk.out.ok (by omega) (by omega) g).2 hg) (fun g hg=>hA.ok.lt hg (by omega))
 clear HCB
 have HCB:=hide hcb8
 have HH8:=hide hA
 have HB8:=hide hB8
 obtain ⟨w8,hw8⟩:∃ w8,w7.setCell ⟨c,5,none⟩ (.slice A7 (a.IL.length+1) c7)=w8:=⟨_,rfl⟩
 rw [hw8] at HCB HH8 HB8 ⊢
 obtain ⟨col8,hcol8⟩:∃ k,colN colk wk.heap.size w8.heap.size 5=k:=⟨_,rfl⟩
 rw [hcol8] at HCB HH8
 have HSN:=hide (csends_new HCB.out.o ⟨by show (1:Int)≤(a.ps.length:Int);have:=HPS.out;omega,by show (a.ps.length:Int)≤7;have:=HP7.out;omega⟩ HSS.out)
 clear hl7 hbx7 ho7 hm7 hs8 hne7 hA hB8 hcb8 hw8 hcol8 k5 z5 HBX7 HO7 HG7 HM7 HB4
 have HCE:=hide (fun (g:Nat) (hg:w8.heap.size≤g)=>show col8 g=0 from by
  by_cases h:col8 g=0
  ·exact h
  ·have:=(HH8.out.ok g h).2;omega)
 go_wp2_with (first
  | ((with_reducible refine (HSN.out).mono ?_);rintro e w6 ⟨v6,N6,rfl,hms,hN,hb6⟩;have hN2:N6.map Mg.bare=csendTo (co0 a.ps.length i (a.ids+1) 1 s t x vv) a.ps.length:=(by rw [hN];show csendTo (co0 a.ps.length i (a.ids+1) 1 s t x vv) ((a.ps.length:Int)).toNat=_;rw [Int.toNat_natCast]);have hmr:=hms.r.mono HCE.out;obtain ⟨A6,c6,rfl,_⟩:=hmr.row;have hlN:N6.length≤7:=(by have h1:=congrArg List.length hN2;rw [List.length_map] at h1;have h2:=csendLe_ (co0 a.ps.length i (a.ids+1) 1 s t x vv) a.ps.length;have h3:=HP7.out;omega);have hbg:=cbeg_any (HH8.out.below hb6) HP.out (set_at HPP.out) HU_.out HJ.out (HCB.out.sets (S:=fun _=>False) (Sets.of hb6) (fun _ _=>id)) _ N6 hmr (fun x hx=>by rw [mokB_same (bare_same x)];exact HMK.out _ (by rw [← hN2];exact List.mem_map_of_mem hx)) (by show a.C.length+N6.length≤300;have:=HCC.out.1;omega) HCC.out.2;unfold jobV at hbg;have HBG:=hide hbg;have HN2:=hide hN2;have HB6:=hide (HB8.out.trans (HH8.out.bek hb6));clear hbg hN2 hmr hms hN hb6 hlN)
  | ((with_reducible refine (HBG.out).mono ?_);rintro e w9 ⟨rfl,col9,rb9,vj9,h9,hb9⟩;have HH9:=hide h9;have HB9:=hide (HB6.out.trans hb9);clear h9 hb9))
 go_returns
 have h9:=HH9.out
 have hl9:N6.length=(csendTo (co0 a.ps.length i (a.ids+1) 1 s t x vv) a.ps.length).length:=by rw [← HN2.out,List.length_map]
 rw [HN2.out,hl9] at h9
 simp only [List.set_set] at h9
 exact ⟨rfl,b,rb9,vj9,R',_,HTO.out,col9,h9,HB9.out⟩
end Go.Proofs.YtgmkckjedngkdaaGreatDoor
