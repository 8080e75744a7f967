/- A part of the proof that TopQuotaLaw holds: XZVer. Conditions: as typed. -/
import Derived.Test.YtgmkckjedngkdaaGreatDoorTq43
set_option linter.unusedVariables false
set_option linter.unusedSimpArgs false
namespace Go.Proofs.YtgmkckjedngkdaaGreatDoor
open Go.ChangeShapes Go.WideShapes Go.ChangeAt Go.RowKit
theorem four_put3 {w:World} {g:Nat} {d0 d1 d2 d3:Value} {t:TypeId} (h:w.heap[g]? = some (.cells #[d0,d1,d2,d3] t (0,0))) (v:Value):(w.setCell ⟨g,3,none⟩ v).heap[g]? = some (.cells #[d0,d1,d2,v] t (0,0)):=place_put h v
set_option maxRecDepth 100000 in
set_option maxHeartbeats 6400000 in
theorem cver_any {w:World} {base c i p:Nat} {col:Nat→Nat} {a:Cl} {P:Pl} (H:CluV w base c col a) (hp:a.ps[i]? = some p) (hP:a.P[i]? = some P) (hl:P.lease≤P.now) (hn:P.now+16≤1099511627776)
   (M:Nat) (hM:∀ z ∈ P.N.R.K.Z,z.L.length≤M) (hM2:M≤249900) (hq:((3 * M+100:Nat):Int)≤P.N.R.K.q) :
   Calls Tryz.prog 46 #[ptv p] w fun e w'=>e=.returned (.tuple #[.int .u64 ((P.now+1) * 8+i),.int .i64 0])∧∃ R',SavTo P.N.R P.N.R.v.fl P.N.R.v.ce P.N.R.v.at_ (P.now+16) R'∧∃ col',CluV w' base c col' { a with P:=a.P.set i { P with N:={ P.N with R:=R' },now:=P.now+1,lease:=P.now+16 } }∧Below base w w'∧Sets (fun g=>col g ≠ 0) w w':=by
 have hv:=H.pl i p P hp hP
 have hps:i < a.ps.length:=by
   rw [List.getElem?_eq_some_iff] at hp
   exact hp.1
 obtain ⟨_,p1,p2,_⟩:=hv.cells
 have hpl:p < w.heap.size:=(H.ok p (by rw [hv.cp];omega)).2
 have hk:=hv.clk
 have hn0:0≤P.now:=hk.2.2.1
 have HNX:=hide (knext_no hk (by omega) hl)
 have HME:=hide (nmeta_any hv.node)
 obtain ⟨now,hnow⟩:∃ n,P.now=n:=⟨_,rfl⟩
 obtain ⟨lea,hlea⟩:∃ n,P.lease=n:=⟨_,rfl⟩
 have hgood:P.N.R.v.ok:=by obtain ⟨s,Y,h1⟩:=hv.node;obtain ⟨h,h2⟩:=h1.st;exact h2.good
 obtain ⟨rf,hrf⟩:∃ v,P.N.R.v.fl=v:=⟨_,rfl⟩
 obtain ⟨rc,hrc⟩:∃ v,P.N.R.v.ce=v:=⟨_,rfl⟩
 obtain ⟨ra,hra⟩:∃ v,P.N.R.v.at_=v:=⟨_,rfl⟩
 obtain ⟨re,hre⟩:∃ v,P.N.R.v.le=v:=⟨_,rfl⟩
 rw [hrf,hrc,hra,hre] at HME
 rw [hnow] at hl hn hn0
 rw [hlea] at hl
 have HMX:Hid (max now lea=now):=hide (by omega)
 have HWR:Hid (IntKind.u64.wrap (now+16)=now+16):=hide (by rw [IntKind.wrap_u64];omega)
 have HMN:Hid (min (now+16) 1099511627776=now+16):=hide (by omega)
 have HV4:Hid ((ver48 rf∧ver48 rc)∧ver48 ra):=hide ⟨⟨by rw [← hrf];exact hgood.fl,by rw [← hrc];exact hgood.ce⟩,by rw [← hra];exact hgood.at_⟩
 have HBN:=hide (And.intro hn0 hn)
 have HMM:=hide (And.intro hM (And.intro hM2 hq))
 have HH:=hide H
 have HP:=hide hp
 have HPP:=hide hP
 have HPS:=hide hps
 have HNOW0:=hide hnow
 have HLEA0:=hide hlea
 have HRV:=hide (And.intro (And.intro hrf hrc) (And.intro hra hre))
 have HLN:=hide hl
 have HPL:=hide hpl
 have HPC:=hide (And.intro p1 p2)
 clear H hv hp hP hps hk hn hM hM2 hq hnow hlea hrf hrc hra hre hgood hl hn0
 go_enter Tryz.func46,Tryz.ntmps46
 go_upto_region 5 with (first
   | ((with_reducible refine (HNX.out).mono ?_);rintro e w1 ⟨rfl,rfl⟩)
   | ((with_reducible refine (HME.out).mono ?_);rintro e w2 ⟨rfl,hg2⟩;have HG2:=hide hg2;clear hg2))
 have HH2:=hide (HH.out.below HG2.out)
 have hz6:=heap_alloc_new w2 (.cells #[.int .u64 rf,.int .u64 rc,.int .u64 ra,.int .u64 re] 75)
 have hb3:=below_alloc (Below.refl w2.heap.size w2) (.cells #[.int .u64 rf,.int .u64 rc,.int .u64 ra,.int .u64 re] 75)
 obtain ⟨w3,hw3⟩:∃ w3,w2.alloc (.cells #[.int .u64 rf,.int .u64 rc,.int .u64 ra,.int .u64 re] 75)=w3:=⟨_,rfl⟩
 rw [hw3] at hz6 hb3 ⊢
 obtain ⟨g6,hg6⟩:∃ g,w2.heap.size=g:=⟨_,rfl⟩
 rw [hg6] at hz6 ⊢
 have lg6:=(Array.getElem?_eq_some_iff.1 hz6).1
 have HH3:=hide (HH2.out.below hb3)
 have HB3:=hide hb3
 have HG6:=hide hg6
 have hv3:=HH3.out.pl i p P HP.out HPP.out
 have hp3:p < w3.heap.size:=(HH3.out.ok p (by rw [hv3.cp];omega)).2
 have HC:Hid (∀ W:World,Below w3.heap.size w3 W→W.cell? ⟨p,1,none⟩=some (ptv P.n)∧W.cell? ⟨p,2,none⟩=some (ptv P.k)∧W.cell? ⟨g6,0,none⟩=some (.int .u64 rf)∧W.cell? ⟨g6,1,none⟩=some (.int .u64 rc)∧W.cell? ⟨g6,2,none⟩=some (.int .u64 ra)∧W.cell? ⟨g6,3,none⟩=some (.int .u64 re)):=hide (fun W hW=>by
   obtain ⟨_,k1,k2,_⟩:=hv3.cells
   obtain ⟨x0,x1,x2,x3⟩:=four_cells ((hW.block g6 lg6).trans hz6)
   exact ⟨keep_cell hW k1 hp3,keep_cell hW k2 hp3,x0,x1,x2,x3⟩)
 obtain ⟨ud,hud⟩:∃ ud,w3.drew=ud:=⟨_,rfl⟩
 have HUD:Hid (Below w3.heap.size w3 ud):=hide (by rw [← hud];exact (Below.refl _ _).drew)
 have hkd:=((HH3.out.below HUD.out).pl i p P HP.out HPP.out).clk
 have hnw:=know_any hkd
 have hle:=klease_any hkd
 rw [HNOW0.out] at hnw
 rw [HLEA0.out] at hle
 have HNOW:=hide hnw
 have HLEA:=hide hle
 have hzd:=(HUD.out.block g6 lg6).trans hz6
 have HZD:=hide hzd
 have HY3:=hide (four_cells hzd).2.2.2
 have HF3:Hid (ud.frozen? ⟨g6,3,none⟩=false):=hide (by simp [World.frozen?,hzd])
 clear hz6 hb3 hw3 hg6 hv3 hp3 hkd hnw hle hzd p1 p2 hpl HPC
 refine j_start [14] (by kernel_rfl) ?_
 rw [hud]
 clear hud
 refine' j_t 0 [1,2,3,4,9,10,11,12,13,14] rfl (by kernel_rfl) rfl ?y0a ?r0a
 case y0a=>(intro w' hw';go_simp;try with_reducible rfl)
 try go_frame
 refine' j_t 1 [2,3,4,9,10,11,12,13,14] rfl (by kernel_rfl) rfl ?y1a ?r1a
 case y1a=>(intro w' hw';go_simp;try with_reducible rfl)
 try go_frame
 refine' j_t 2 [3,4,9,10,11,12,13,14] rfl (by kernel_rfl) rfl ?y2a ?r2a
 case y2a=>(intro w' hw';go_simp;try with_reducible rfl)
 try go_frame
 refine' j_t 3 [4,9,10,11,12,13,14] rfl (by kernel_rfl) rfl ?y3a ?r3a
 case y3a=>(intro w' hw';obtain ⟨q1,q2,x0,x1,x2,x3⟩:=HC.out _ (below_step HUD.out hw');go_simp;try with_reducible rfl)
 try go_frame
 refine' j_t 5 [6,7,8,9,10,11,12,13,14] rfl (by kernel_rfl) rfl ?y5a ?r5a
 case y5a=>(intro w' hw';go_simp;try with_reducible rfl)
 try go_frame
 refine' j_t 6 [7,8,9,10,11,12,13,14] rfl (by kernel_rfl) rfl ?y6a ?r6a
 case y6a=>(intro w' hw';go_simp;try with_reducible rfl)
 try go_frame
 refine' j_t 7 [8,9,10,11,12,13,14] rfl (by kernel_rfl) rfl ?y7a ?r7a
 case y7a=>(intro w' hw';go_simp;try with_reducible rfl)
 try go_frame
 refine' j_t 8 [9,10,11,12,13,14] rfl (by kernel_rfl) rfl ?y8a ?r8a
 case y8a=>(intro w' hw';obtain ⟨q1,q2,x0,x1,x2,x3⟩:=HC.out _ (below_step HUD.out hw');go_simp;try with_reducible rfl)
 try go_frame
 refine' wpAnyJ_step (i:=4) (o:=_) (by kernel_rfl) ?ho4a (fun KK hK=>?step4a)
 case ho4a=>(simp only [List.getElem?_toArray,List.getElem?_cons_succ,List.getElem?_cons_zero];rfl)
 go_simp
 refine (Calls.mono (HNOW.out) ?_);rintro e u1a ⟨rfl,hq⟩
 obtain rfl:ud=u1a:=hq.symm
 clear hq
 have gg:=Below.refl ud.heap.size ud
 refine hK.out _ _ gg (j_switch gg ?_)
 clear hK KK gg
 try go_frame
 refine' wpAnyJ_step (i:=9) (o:=_) (by kernel_rfl) ?ho9a (fun KK hK=>?step9a)
 case ho9a=>(simp only [List.getElem?_toArray,List.getElem?_cons_succ,List.getElem?_cons_zero];rfl)
 go_simp
 refine (Calls.mono (HLEA.out) ?_);rintro e u2a ⟨rfl,hq⟩
 obtain rfl:ud=u2a:=hq.symm
 clear hq
 have gg:=Below.refl ud.heap.size ud
 refine hK.out _ _ gg (j_switch gg ?_)
 clear hK KK gg
 try go_frame
 refine' j_t 10 [11,12,13,14] rfl (by kernel_rfl) rfl ?y10a ?r10a
 case y10a=>(intro w' hw';have jm:=HMX.out;go_simp;try with_reducible rfl)
 try go_frame
 refine' j_t 11 [12,13,14] rfl (by kernel_rfl) rfl ?y11a ?r11a
 case y11a=>(intro w' hw';have jw:=HWR.out;go_simp;try with_reducible rfl)
 try go_frame
 refine' j_t 12 [13,14] rfl (by kernel_rfl) rfl ?y12a ?r12a
 case y12a=>(intro w' hw';have jn:=HMN.out;go_simp;try with_reducible rfl)
 try go_frame
 refine' j_t 13 [14] rfl (by kernel_rfl) rfl ?y13a ?r13a
 case y13a=>(intro w' hw';go_simp;try with_reducible rfl)
 try go_frame
 refine' wpAnyJ_last (i:=14) (o:=_) (by kernel_rfl) ?ho14a (by kernel_rfl) (fun KK hK=>?step14a)
 case ho14a=>(simp only [List.getElem?_toArray,List.getElem?_cons_succ,List.getElem?_cons_zero];rfl)
 have y3:=HY3.out
 have z3:=HF3.out
 go_simp
 refine hK.out _ _ ?_
 clear hK KK
 try go_frame
 refine wpAnyJ_done (by kernel_rfl) ?_ _
 refine NoPanic.normal ?_
 have hz7:=four_put3 HZD.out (.int .u64 (now+16))
 have hs7:=sets1 ud g6 3 (.int .u64 (now+16))
 obtain ⟨w5,hw5⟩:∃ w5,ud.setCell ⟨g6,3,none⟩ (.int .u64 (now+16))=w5:=⟨_,rfl⟩
 rw [hw5] at hz7 hs7 ⊢
 have hb5:Below w2.heap.size w2 w5:=Sets.below (below_step HB3.out HUD.out) hs7 (fun b e=>by rw [e,← HG6.out];exact Nat.le_refl _) (Nat.le_trans HB3.out.size HUD.out.size)
 have HH5:=hide (HH2.out.below hb5)
 have HB5:=hide (below_step HG2.out hb5)
 have HZ7:=hide hz7
 have lg7:=(Array.getElem?_eq_some_iff.1 hz7).1
 have hg60:∀ {k:Nat→Nat},ColOk w2 base k→k g6=0:=fun {k} hk=>by
   by_cases h:k g6=0
   · exact h
   · have h2:=(hk g6 h).2
     have h3:=HG6.out
     omega
 have HG60:=hide (hg60 HH2.out.ok)
 have hv5:=HH5.out.pl i p P HP.out HPP.out
 have hp5:p < w5.heap.size:=(HH5.out.ok p (by rw [hv5.cp];omega)).2
 have HC6:Hid (∀ W:World,Below w5.heap.size w5 W→W.cell? ⟨p,1,none⟩=some (ptv P.n)∧W.cell? ⟨p,2,none⟩=some (ptv P.k)∧W.cell? ⟨g6,0,none⟩=some (.int .u64 rf)∧W.cell? ⟨g6,1,none⟩=some (.int .u64 rc)∧W.cell? ⟨g6,2,none⟩=some (.int .u64 ra)∧W.cell? ⟨g6,3,none⟩=some (.int .u64 (now+16))):=hide (fun W hW=>by
   obtain ⟨_,k1,k2,_⟩:=hv5.cells
   obtain ⟨x0,x1,x2,x3⟩:=four_cells ((hW.block g6 lg7).trans HZ7.out)
   exact ⟨keep_cell hW k1 hp5,keep_cell hW k2 hp5,x0,x1,x2,x3⟩)
 obtain ⟨ue,hue⟩:∃ ue,w5.drew=ue:=⟨_,rfl⟩
 have HUE:Hid (Below w5.heap.size w5 ue):=hide (by rw [← hue];exact (Below.refl _ _).drew)
 have HHe:=hide (HH5.out.below HUE.out)
 obtain ⟨s,Y,hnv⟩:=(HHe.out.pl i p P HP.out HPP.out).node
 have HSTO:=hide (nstore_any hnv)
 have HNV:=hide hnv
 have hrv:=HRV.out
 have hset:=ssetm_any hnv.st rf rc ra (now+16) HV4.out.1.1 HV4.out.1.2 HV4.out.2 ⟨by have:=HBN.out;omega,by have:=HBN.out;omega⟩ (fun e=>by rw [hrv.1.1];exact e) (fun e=>by rw [hrv.1.2];exact e) (fun e=>by rw [hrv.2.1];exact e) (fun e=>by have:=HBN.out;omega) M HMM.out.1 HMM.out.2.1 HMM.out.2.2
 have HSET:=hide hset
 clear hz7 hs7 hw5 hb5 hg60 hv5 hp5 hnv hrv hset HC HUD HZD HY3 HF3 HH3 HB3 HNOW HLEA
 go_upto_region 6 with fail
 refine j_start [6,7] (by kernel_rfl) ?_
 rw [hue]
 clear hue
 refine' j_t 0 [1,2,3,4,6,7] rfl (by kernel_rfl) rfl ?y0b ?r0b
 case y0b=>(intro w' hw';go_simp;try with_reducible rfl)
 try go_frame
 refine' j_t 1 [2,3,4,6,7] rfl (by kernel_rfl) rfl ?y1b ?r1b
 case y1b=>(intro w' hw';go_simp;try with_reducible rfl)
 try go_frame
 refine' j_t 2 [3,4,6,7] rfl (by kernel_rfl) rfl ?y2b ?r2b
 case y2b=>(intro w' hw';go_simp;try with_reducible rfl)
 try go_frame
 refine' j_t 3 [4,6,7] rfl (by kernel_rfl) rfl ?y3b ?r3b
 case y3b=>(intro w' hw';obtain ⟨q1,q2,x0,x1,x2,x3⟩:=HC6.out _ (below_step HUE.out hw');go_simp;try with_reducible rfl)
 try go_frame
 refine' j_t 5 [6,7] rfl (by kernel_rfl) rfl ?y5b ?r5b
 case y5b=>(intro w' hw';obtain ⟨q1,q2,x0,x1,x2,x3⟩:=HC6.out _ (below_step HUE.out hw');go_simp;try with_reducible rfl)
 try go_frame
 refine' wpAnyJ_step (i:=4) (o:=_) (by kernel_rfl) ?ho4b (fun KK hK=>?step4b)
 case ho4b=>(simp only [List.getElem?_toArray,List.getElem?_cons_succ,List.getElem?_cons_zero];rfl)
 go_simp
 refine (Calls.mono (HSTO.out) ?_);rintro e u1b ⟨rfl,hq⟩
 obtain rfl:ue=u1b:=hq.symm
 clear hq
 have gg:=Below.refl ue.heap.size ue
 refine hK.out _ _ gg (j_switch gg ?_)
 clear hK KK gg
 try go_frame
 refine' wpAnyJ_last (i:=6) (o:=_) (by kernel_rfl) ?ho6b (by kernel_rfl) (fun KK hK=>?step6b)
 case ho6b=>(simp only [List.getElem?_toArray,List.getElem?_cons_succ,List.getElem?_cons_zero];rfl)
 go_simp
 refine (Calls.mono (HSET.out) ?_);rintro e u2b ⟨rfl,R',hto,hst,hsy⟩
 have HTO:=hide hto;have HST:=hide hst;have HSY:=hide hsy
 clear hto hst hsy
 refine hK.out _ _ ?_
 clear hK KK
 try go_frame
 refine' wpAnyJ_last (i:=7) (o:=_) (by kernel_rfl) ?ho7b (by kernel_rfl) (fun KK hK=>?step7b)
 case ho7b=>(simp only [List.getElem?_toArray,List.getElem?_cons_succ,List.getElem?_cons_zero];rfl)
 go_simp
 refine hK.out _ _ ?_
 clear hK KK
 try go_frame
 refine wpAnyJ_done (by kernel_rfl) ?_ _
 refine NoPanic.normal ?_
 have hsx:=HNV.out.up HSY.out
 have H6:=HHe.out.node HPP.out hsx ⟨s,_,HNV.out.put HSY.out HST.out⟩ (fun g e=>e) (Nat.le_refl _) rfl
 have hZ6:=(HSY.out.block g6 (Nat.lt_of_lt_of_le lg7 HUE.out.size) (fun e=>by have h1:=HNV.out.inX g6 e;have h2:=HG60.out;omega)).trans ((HUE.out.block g6 lg7).trans HZ7.out)
 have HB6:=hide (Sets.below ((HB5.out.mono HH.out.bl).trans (HUE.out.mono HH5.out.bl)) hsx (fun g e=>(HHe.out.ok g (by rw [e];omega)).1) HHe.out.bl)
 have HX6:=hide ((Sets.of (S:=fun g=>col g ≠ 0) (below_step HB5.out HUE.out)).trans hsx (fun g _ e=>by show col g ≠ 0;rw [show col g=11+5 * i from e];omega))
 have hck0:col P.k=12+5 * i:=(HHe.out.pl i p P HP.out HPP.out).ck
 have HCK0:=hide hck0
 have HH6:=hide H6
 have HZ6:=hide hZ6
 have lg8:=(Array.getElem?_eq_some_iff.1 hZ6).1
 clear hck0 hsx H6 hZ6 HSY HST HNV HSTO HHe HC6 HUE HZ7 lg7
 obtain ⟨w6,hw6⟩:∃ w6,u2b=w6:=⟨_,rfl⟩
 rw [hw6] at HH6 HZ6 HB6 HX6 lg8 ⊢
 clear hw6 u2b
 go_upto_region 9 with fail
 have hv6:=HH6.out.pl i p _ HP.out (set_at HPP.out)
 have hp6:p < w6.heap.size:=(HH6.out.ok p (by rw [hv6.cp];omega)).2
 have HC9:Hid (∀ W:World,Below w6.heap.size w6 W→W.cell? ⟨p,1,none⟩=some (ptv P.n)∧W.cell? ⟨p,2,none⟩=some (ptv P.k)∧W.cell? ⟨g6,0,none⟩=some (.int .u64 rf)∧W.cell? ⟨g6,1,none⟩=some (.int .u64 rc)∧W.cell? ⟨g6,2,none⟩=some (.int .u64 ra)∧W.cell? ⟨g6,3,none⟩=some (.int .u64 (now+16))):=hide (fun W hW=>by
   obtain ⟨_,k1,k2,_⟩:=hv6.cells
   obtain ⟨x0,x1,x2,x3⟩:=four_cells ((hW.block g6 lg8).trans HZ6.out)
   exact ⟨keep_cell hW k1 hp6,keep_cell hW k2 hp6,x0,x1,x2,x3⟩)
 obtain ⟨uf,huf⟩:∃ uf,w6.drew=uf:=⟨_,rfl⟩
 have HUF:Hid (Below w6.heap.size w6 uf):=hide (by rw [← huf];exact (Below.refl _ _).drew)
 have HHf:=hide (HH6.out.below HUF.out)
 have hkf:=(HHf.out.pl i p _ HP.out (set_at HPP.out)).clk
 have HREN:=hide (krenew_any hkf (now+16) (by have h1:=HLN.out;have h2:=HLEA0.out;show P.lease < _;omega) HBN.out.2)
 clear hv6 hp6 hkf
 refine j_start [6] (by kernel_rfl) ?_
 rw [huf]
 clear huf
 refine' j_t 0 [1,2,3,6] rfl (by kernel_rfl) rfl ?y0c ?r0c
 case y0c=>(intro w' hw';go_simp;try with_reducible rfl)
 try go_frame
 refine' j_t 1 [2,3,6] rfl (by kernel_rfl) rfl ?y1c ?r1c
 case y1c=>(intro w' hw';go_simp;try with_reducible rfl)
 try go_frame
 refine' j_t 2 [3,6] rfl (by kernel_rfl) rfl ?y2c ?r2c
 case y2c=>(intro w' hw';go_simp;try with_reducible rfl)
 try go_frame
 refine' j_t 3 [6] rfl (by kernel_rfl) rfl ?y3c ?r3c
 case y3c=>(intro w' hw';obtain ⟨q1,q2,x0,x1,x2,x3⟩:=HC9.out _ (below_step HUF.out hw');go_simp;try with_reducible rfl)
 try go_frame
 refine' j_t 4 [5,6] rfl (by kernel_rfl) rfl ?y4c ?r4c
 case y4c=>(intro w' hw';go_simp;try with_reducible rfl)
 try go_frame
 refine' j_t 5 [6] rfl (by kernel_rfl) rfl ?y5c ?r5c
 case y5c=>(intro w' hw';obtain ⟨q1,q2,x0,x1,x2,x3⟩:=HC9.out _ (below_step HUF.out hw');go_simp;try with_reducible rfl)
 try go_frame
 refine' wpAnyJ_last (i:=6) (o:=_) (by kernel_rfl) ?ho6c (by kernel_rfl) (fun KK hK=>?step6c)
 case ho6c=>(simp only [List.getElem?_toArray,List.getElem?_cons_succ,List.getElem?_cons_zero];rfl)
 go_simp
 refine (Calls.mono (HREN.out) ?_);rintro e u1c ⟨rfl,hck,hsk⟩
 have HCK:=hide hck;have HSK:=hide hsk
 clear hck hsk
 refine hK.out _ _ ?_
 clear hK KK
 try go_frame
 refine wpAnyJ_done (by kernel_rfl) ?_ _
 refine NoPanic.normal ?_
 have H9:=HHf.out.clock (set_at HPP.out) HSK.out HCK.out HPS.out
 have hkl:base≤P.k:=(HHf.out.ok P.k (by rw [(HHf.out.pl i p _ HP.out (set_at HPP.out)).ck];omega)).1
 have HB9:=hide (Sets.below (HB6.out.trans (HUF.out.mono HH6.out.bl)) HSK.out (fun g e=>by rw [e];exact hkl) HHf.out.bl)
 have HX9:=hide ((HX6.out.trans (Sets.of (S:=fun _=>False) HUF.out) (fun _ _ h=>h.elim)).trans HSK.out (fun g _ e=>by show col g ≠ 0;rw [e,HCK0.out];omega))
 simp only [List.set_set] at H9
 have HH9:=hide H9
 have hv9:=H9.pl i p _ HP.out (set_at HPP.out)
 obtain ⟨_,_,p2,_⟩:=hv9.cells
 have hp9:p < u1c.heap.size:=(H9.ok p (by rw [hv9.cp];omega)).2
 have HKN:=hide (knext_go hv9.clk (by show P.now < _;have h1:=HBN.out;have h2:=HNOW0.out;omega) (by show P.now < now+16;have h2:=HNOW0.out;omega))
 clear H9 hv9 HCK HSK HREN HHf HC9 HUF
 go_wp2_with ((with_reducible refine (HKN.out).mono ?_);rintro e w8 ⟨rfl,hck8,hsk8⟩;have HCK8:=hide hck8;have HSK8:=hide hsk8;clear hck8 hsk8)
 go_returns
 have H10:=HH9.out.clock (set_at HPP.out) HSK8.out HCK8.out HPS.out
 simp only [List.set_set] at H10
 have hnw:=HNOW0.out
 have hkl8:base≤P.k:=(HH9.out.ok P.k (by rw [(HH9.out.pl i p _ HP.out (set_at HPP.out)).ck];omega)).1
 have hto:=HTO.out
 rw [← hnw] at H10 hto
 have hrv:=HRV.out
 rw [← hrv.1.1,← hrv.1.2,← hrv.2.1] at hto
 exact ⟨rfl,R',hto,_,H10,Sets.below HB9.out HSK8.out (fun g e=>by rw [e];exact hkl8) HH9.out.bl,HX9.out.trans HSK8.out (fun g _ e=>by show col g ≠ 0;rw [e,HCK0.out];omega)⟩
end Go.Proofs.YtgmkckjedngkdaaGreatDoor
