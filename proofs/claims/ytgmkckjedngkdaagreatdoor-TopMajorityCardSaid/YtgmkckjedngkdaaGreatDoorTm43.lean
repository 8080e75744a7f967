/- A part of the proof that TopMajorityLaw holds: XZTik, XZCpy. Conditions: as typed. -/
import Derived.Test.YtgmkckjedngkdaaGreatDoorTm03
import Derived.Test.YtgmkckjedngkdaaGreatDoorTm21
import Derived.Test.YtgmkckjedngkdaaGreatDoorTm35
import Derived.Test.YtgmkckjedngkdaaGreatDoorTm38
set_option linter.unusedVariables false
set_option linter.unusedSimpArgs false
namespace Go.Proofs.YtgmkckjedngkdaaGreatDoor
open Go.ChangeShapes Go.WideShapes Go.ChangeAt Go.RowKit
theorem four_put2 {w:World} {g:Nat} {d0 d1 d2 d3:Value} {t:TypeId} (h:w.heap[g]? = some (.cells #[d0,d1,d2,d3] t (0,0))) (v:Value):(w.setCell ⟨g,2,none⟩ v).heap[g]? = some (.cells #[d0,d1,v,d3] t (0,0)):=by
 simp [World.setCell,Array.getElem?_modify,h]
set_option maxRecDepth 100000 in
set_option maxHeartbeats 1600000 in
theorem ntick_any {w:World} {base n:Nat} {X:Nat→Prop} {N:Nr} (H:NodeO w base n X N) (hn:0≤N.now∧N.now≤1000000) (hc:N.R.v.ce=0) (hg:0≤N.grace) :
 Calls Tryz.prog 116 #[ptv n] w fun e w'=>e=.returned (.int .i64 0)∧NodeO w' base n X { N with now:=N.now+1 }∧Sets (fun g=>g=n) w w':=by
 obtain ⟨s,Y,H⟩:=H
 obtain ⟨c0,c1,c2,c3⟩:=H.cells
 have hln:=H.lt
 have hz:w.frozen? ⟨n,2,none⟩=false:=by simp [World.frozen?,H.box]
 obtain ⟨now,hnow⟩:∃ k,N.now=k:=⟨_,rfl⟩
 obtain ⟨gr,hgr⟩:∃ k,N.grace=k:=⟨_,rfl⟩
 have hat:0≤N.R.v.at_:=by
  obtain ⟨h,hst⟩:=H.st
  exact hst.good.at_.1
 obtain ⟨rf,hrf⟩:∃ k,N.R.v.fl=k:=⟨_,rfl⟩
 obtain ⟨ra,hra⟩:∃ k,N.R.v.at_=k:=⟨_,rfl⟩
 obtain ⟨re,hre⟩:∃ k,N.R.v.le=k:=⟨_,rfl⟩
 have hb1:=four_put2 H.box (.int .u64 (N.now+1))
 have hs1:=sets1 w n 2 (.int .u64 (N.now+1))
 rw [hnow] at c2 hn hb1 hs1
 rw [hgr] at c3 hg
 rw [hra] at hat
 have hw:IntKind.u64.wrap (now+1)=now+1:=by rw [IntKind.wrap_u64];omega
 have hmn:min (now+1) 1099511627776=now+1:=by omega
 have d1:¬ (1099511627776:Int) < now+1:=by omega
 have d2:now+1 < (1099511627776:Int):=by omega
 have d3:¬ (1099511627776:Int)=now+1:=by omega
 have d4:¬ now+1=(1099511627776:Int):=by omega
 have hbx:N.R.v.ce=0:=hc
 obtain ⟨w1,hw1⟩:∃ w1,w.setCell ⟨n,2,none⟩ (.int .u64 (now+1))=w1:=⟨_,rfl⟩
 rw [hw1] at hb1 hs1
 have hst1:=H.st.sets hs1 (fun g hg e=>H.nY (e ▸ hg))
 have hme:=fun (W:World) (hW:Below w1.heap.size w1 W)=>smeta_any (hst1.below hW)
 have hss:=fun (W:World) (hW:Below w1.heap.size w1 W)=>sstate_any (hst1.below hW)
 rw [hbx,hrf,hra,hre] at hme
 have HMEF:=hide hme
 have HSSF:=hide hss
 have HN1:Hid (NodeV w1 base n s Y X { N with now:=now+1 }):=hide { box:=hb1,st:=hst1,inX:=H.inX,nX:=H.nX,nY:=H.nY,bd:=fun g hg=>⟨(H.bd g hg).1,Nat.lt_of_lt_of_le (H.bd g hg).2 hs1.size⟩ }
 have hb1g:=hb1
 rw [hgr] at hb1g
 have HB1:=hide hb1g
 have HS1:=hide hs1
 have HW1:=hide hw1
 have HAT:=hide hat
 have HGR:=hide hg
 have HIF:Hid ((if collects ra (now+1) gr then (0:Int) else 0)=0):=hide (by split <;> rfl)
 have HFIN:Hid (∀ W:World,Below w1.heap.size w1 W→NodeO W base n X { N with now:=N.now+1 }∧Sets (fun g=>g=n) w W):=hide (fun W hW=>by
  rw [hnow]
  exact ⟨⟨s,Y,HN1.out.sets (S:=fun _=>False) (Sets.of hW) (fun _ _=>id)⟩,hs1.trans (Sets.of (S:=fun g=>g=n) hW) (fun _ _ e=>e)⟩)
 clear hst1 hme hss H hbx hc hrf hra hre hgr hnow hat hb1 hb1g hs1 hw1 hg
 go_enter Tryz.func116,Tryz.ntmps116
 have HMN:=hide hmn
 clear hmn
 go_upto_region 2 with fail
 try rw [HMN.out]
 rw [HW1.out]
 have l1:n < w1.heap.size:=Nat.lt_of_lt_of_le hln HS1.out.size
 have HC:Hid (∀ W:World,Below w1.heap.size w1 W→W.cell? ⟨n,1,none⟩=some (ptv s)∧W.cell? ⟨n,2,none⟩=some (.int .u64 (now+1))∧W.cell? ⟨n,3,none⟩=some (.int .u64 gr)):=hide (fun W hW=>by
  obtain ⟨_,e1,e2,e3⟩:=four_cells ((hW.block n l1).trans HB1.out)
  exact ⟨e1,e2,e3⟩)
 obtain ⟨ud,hud⟩:∃ ud,w1.drew=ud:=⟨_,rfl⟩
 have HUD:Hid (Below w1.heap.size w1 ud):=hide (by rw [← hud];exact (Below.refl _ _).drew)
 have HME:=hide (HMEF.out ud HUD.out)
 clear c0 c1 c2 c3 hz hw d1 d2 d3 d4 hn l1 hln
 refine j_start [] (by kernel_rfl) ?_
 rw [hud]
 clear hud
 refine' j_t 0 [] rfl (by kernel_rfl) rfl ?y0t ?r0t
 case y0t=>(intro w' hw';go_simp;try with_reducible rfl)
 try go_frame
 refine' j_t 1 [] rfl (by kernel_rfl) rfl ?y1t ?r1t
 case y1t=>(intro w' hw';go_simp;try with_reducible rfl)
 try go_frame
 refine' j_t 2 [] rfl (by kernel_rfl) rfl ?y2t ?r2t
 case y2t=>(intro w' hw';go_simp;try with_reducible rfl)
 try go_frame
 refine' j_t 3 [] rfl (by kernel_rfl) rfl ?y3t ?r3t
 case y3t=>(intro w' hw';obtain ⟨q1,q2,q3⟩:=HC.out _ (below_step HUD.out hw');go_simp;try with_reducible rfl)
 try go_frame
 refine' j_t 5 [] rfl (by kernel_rfl) rfl ?y5t ?r5t
 case y5t=>(intro w' hw';go_simp;try with_reducible rfl)
 try go_frame
 refine' j_t 6 [] rfl (by kernel_rfl) rfl ?y6t ?r6t
 case y6t=>(intro w' hw';go_simp;try with_reducible rfl)
 try go_frame
 refine' j_t 7 [] rfl (by kernel_rfl) rfl ?y7t ?r7t
 case y7t=>(intro w' hw';go_simp;try with_reducible rfl)
 try go_frame
 refine' j_t 8 [] rfl (by kernel_rfl) rfl ?y8t ?r8t
 case y8t=>(intro w' hw';obtain ⟨q1,q2,q3⟩:=HC.out _ (below_step HUD.out hw');go_simp;try with_reducible rfl)
 try go_frame
 refine' j_t 9 [] rfl (by kernel_rfl) rfl ?y9t ?r9t
 case y9t=>(intro w' hw';go_simp;try with_reducible rfl)
 try go_frame
 refine' j_t 10 [] rfl (by kernel_rfl) rfl ?y10t ?r10t
 case y10t=>(intro w' hw';go_simp;try with_reducible rfl)
 try go_frame
 refine' j_t 11 [] rfl (by kernel_rfl) rfl ?y11t ?r11t
 case y11t=>(intro w' hw';go_simp;try with_reducible rfl)
 try go_frame
 refine' j_t 12 [] rfl (by kernel_rfl) rfl ?y12t ?r12t
 case y12t=>(intro w' hw';obtain ⟨q1,q2,q3⟩:=HC.out _ (below_step HUD.out hw');go_simp;try with_reducible rfl)
 try go_frame
 refine' wpAnyJ_step (i:=4) (o:=_) (by kernel_rfl) ?ho4t (fun KK hK=>?step4t)
 case ho4t=>(simp only [List.getElem?_toArray,List.getElem?_cons_succ,List.getElem?_cons_zero];rfl)
 go_simp
 refine (Calls.mono (HME.out) ?_);rintro e u1t ⟨rfl,gg⟩
 have GG:=hide gg
 have HCOL:=hide (pcollect_any rf 0 ra re (now+1) gr u1t HAT.out HGR.out)
 rw [HIF.out] at HCOL
 refine hK.out _ _ gg (j_switch gg ?_)
 clear hK KK gg
 try go_frame
 refine' wpAnyJ_step (i:=13) (o:=_) (by kernel_rfl) ?ho13t (fun KK hK=>?step13t)
 case ho13t=>(simp only [List.getElem?_toArray,List.getElem?_cons_succ,List.getElem?_cons_zero];rfl)
 go_simp
 refine (Calls.mono (HCOL.out) ?_);rintro e u2t ⟨rfl,gg⟩
 have GG2:=hide gg
 refine hK.out _ _ gg (j_switch gg ?_)
 clear hK KK gg
 try go_frame
 refine' j_t 14 [] rfl (by kernel_rfl) rfl ?y14t ?r14t
 case y14t=>(intro w' hw';go_simp;try with_reducible rfl)
 try go_frame
 refine wpAnyJ_done (by kernel_rfl) ?_ _
 refine NoPanic.normal ?_
 have HB2:=hide (below_step (below_step HUD.out GG.out) GG2.out)
 have HSS:=hide (HSSF.out u2t HB2.out)
 obtain ⟨e1,e2,e3⟩:=HC.out u2t HB2.out
 go_wp2_with ((with_reducible refine (HSS.out).mono ?_);rintro e u3 ⟨v3,rfl,ho3,hg3⟩;obtain ⟨A3,c3,rfl,_⟩:=OwnL.row It.cells_len ho3;have HG3:=hide hg3;clear ho3 hg3)
 go_ret
 obtain ⟨h1,h2⟩:=HFIN.out u3 (below_step HB2.out HG3.out)
 exact ⟨rfl,h1,h2⟩
set_option maxRecDepth 100000 in
set_option maxHeartbeats 1600000 in
theorem tick1_any {w:World} {base b:Nat} {X:Nat→Prop} {R:Co} (h:CoB w base b X R) (hn:1≤R.n∧R.n≤7) (hcs:0≤R.cs∧R.cs≤255) (ht:0≤R.tk∧R.tk≤1000000) (hd:R.dn=false→R.d=0) :
 Calls Tryz.prog 117 #[jobV b] w fun e w'=>∃ v N,e=.returned v∧CoB w' base b (Xn X w w') (ctickR R)∧MsO w.heap.size w' v N∧N.map Mg.bare=ctickM R∧Sets X w w':=by
 have hbl:base≤w.heap.size:=by have:=h.xs b h.xb;omega
 have HCT:=hide (ctick_any h.o hn hcs ht hd)
 have HBL:=hide hbl
 have HXS:=hide h.xs
 have HXB:=hide h.xb
 have HCS:=hide (show (cutW w base).heap.size=base from cutW_size hbl)
 clear h hn hcs ht hd hbl
 unfold jobV
 go_enter Tryz.func117,Tryz.ntmps117
 go_wp2_with ((with_reducible refine (HCT.out).mono ?_);rintro e w1 ⟨v,N,rfl,hc,hm,hM,hk⟩;obtain ⟨A1,c1,rfl,_⟩:=OwnL.row Mg.cells_len hm.own;have HC:=hide hc;have HM:=hide hm;have HMM:=hide hM;have HK:=hide hk;clear hc hm hM hk)
 go_ret
 have hsx:Sets X w w1:=HK.out.up (T:=X) (fun g e=>e ▸ HXB.out)
 refine ⟨_,N,rfl,(HC.out.b (by rw [HCS.out];exact Nat.le_refl _)),HM.out,HMM.out,hsx⟩
end Go.Proofs.YtgmkckjedngkdaaGreatDoor
namespace Go.Proofs.YtgmkckjedngkdaaGreatDoor
open Go.ChangeShapes Go.WideShapes Go.ChangeAt Go.RowKit
theorem RowAt.ans {w w':World} {A:Option Addr} {L:List An} (h:RowAt An.cells 8 w A L) (hb:Below w.heap.size w w') {k:Nat} (hk:k < L.length):∃ b off,A=some ⟨b,off,none⟩∧b < w.heap.size∧w'.cell? ⟨b,off+k * 8,none⟩=some (.int .u64 L[k].id)∧w'.cell? ⟨b,off+k * 8+1,none⟩=some (.int .i64 L[k].k)∧w'.cell? ⟨b,off+k * 8+2,none⟩=some (.int .i64 L[k].s)∧w'.cell? ⟨b,off+k * 8+3,none⟩=some (.int .u64 L[k].t)∧w'.cell? ⟨b,off+k * 8+4,none⟩=some (.int .i64 L[k].x)∧w'.cell? ⟨b,off+k * 8+5,none⟩=some (.int .i64 L[k].e)∧w'.cell? ⟨b,off+k * 8+6,none⟩=some (.int .u64 L[k].v)∧w'.cell? ⟨b,off+k * 8+7,none⟩=some (.slice L[k].la L[k].ln L[k].lc):=by
 obtain ⟨b,off,e,hlt,hc⟩:=h.at_ hk
 have hg:∀ (j:Nat) (u:Value),(An.cells L[k])[j]? = some u→w'.cell? ⟨b,off+k * 8+j,none⟩=some u:=fun j u hu=>(hb.cell (p:=⟨b,_,none⟩) hlt).trans (hc k hk j u hu)
 exact ⟨b,off,e,hlt,hg 0 _ rfl,hg 1 _ rfl,hg 2 _ rfl,hg 3 _ rfl,hg 4 _ rfl,hg 5 _ rfl,hg 6 _ rfl,hg 7 _ rfl⟩
def AnAt (w:World) (B:Nat) (own:Option Nat) (x:An) (y:An × List It):Prop:=x={ y.1 with la:=x.la,lc:=x.lc }∧ItemsAt w x.la y.2∧∀ ad,x.la=some ad→y.2 ≠ []→B≤ad.block∧own ≠ some ad.block
def AnsO (w:World) (B:Nat) (v:Value) (AL:List (An × List It)):Prop:=∃ L:List An,OwnL An.cells 8 50 B w v L∧L.length=AL.length∧∀ (k:Nat) (x:An) (y:An × List It),L[k]? = some x→AL[k]? = some y→AnAt w B v.ownBlock x y
theorem AnsO.nil_ (w:World) (B:Nat):AnsO w B (.slice none 0 0) []:=⟨[],OwnL.nil_ _ _ _ _ _,rfl,fun k x y h=>by cases h⟩
theorem ans_put7 {w:World} {g:Nat} {d0 d1 d2 d3 d4 d5 d6 d7:Value} {t:TypeId} (h:w.heap[g]? = some (.cells #[d0,d1,d2,d3,d4,d5,d6,d7] t (0,0))) (v:Value):(w.setCell ⟨g,7,none⟩ v).heap[g]? = some (.cells #[d0,d1,d2,d3,d4,d5,d6,v] t (0,0)):=by
 simp [World.setCell,Array.getElem?_modify,h]
theorem ans_cells {w:World} {g:Nat} {d0 d1 d2 d3 d4 d5 d6 d7:Value} {t:TypeId} (h:w.heap[g]? = some (.cells #[d0,d1,d2,d3,d4,d5,d6,d7] t (0,0))):w.cell? ⟨g,0,none⟩=some d0∧w.cell? ⟨g,1,none⟩=some d1∧w.cell? ⟨g,2,none⟩=some d2∧w.cell? ⟨g,3,none⟩=some d3∧w.cell? ⟨g,4,none⟩=some d4∧w.cell? ⟨g,5,none⟩=some d5∧w.cell? ⟨g,6,none⟩=some d6∧w.cell? ⟨g,7,none⟩=some d7 :=
 ⟨(cell_of_row w g 0 _ _ _ h).trans rfl,(cell_of_row w g 1 _ _ _ h).trans rfl,(cell_of_row w g 2 _ _ _ h).trans rfl,(cell_of_row w g 3 _ _ _ h).trans rfl,(cell_of_row w g 4 _ _ _ h).trans rfl,(cell_of_row w g 5 _ _ _ h).trans rfl,(cell_of_row w g 6 _ _ _ h).trans rfl,(cell_of_row w g 7 _ _ _ h).trans rfl⟩
theorem copied_step {w wr w5 w6 u2:World} {u3 v2:Value} {L3:List An} {AL:List (An × List It)} {y:An} {LI:List It} {A1:Option Addr} {c1 k g4:Nat}
 (ho2:OwnL An.cells 8 50 w.heap.size u2 v2 (L3 ++ [(⟨y.id,y.k,y.s,y.t,y.x,y.e,y.v,A1,LI.length,c1⟩:An)])) (hg2:w6.grownBy u2 u3.ownBlock) (hm2:v2.ownBlock=u3.ownBlock ∨ v2.ownBlock=some w6.heap.size)
 (hown:∀ g,u3.ownBlock=some g→w.heap.size≤g∧g < g4) (ha:∀ (k_1:Nat) (x:An) (y:An × List It),L3[k_1]? = some x→(AL.take k)[k_1]? = some y→AnAt wr w.heap.size u3.ownBlock x y)
 (hl3:L3.length=(AL.take k).length) (hb5:Below wr.heap.size wr w5) (hb6:Below w5.heap.size w5 w6) (htk:AL.take (k+1)=AL.take k ++ [(y,LI)]) (hi:ItemsAt w5 A1 LI) (hln:LI.length=y.ln) (h54:g4 < w5.heap.size ∨ True) (hA1:∀ a,A1=some a→g4 < a.block∧a.block < w5.heap.size ∨ LI=[] ∨ g4≤a.block) (hszb:w.heap.size≤wr.heap.size) (hg4:wr.heap.size=g4):AnsO u2 w.heap.size v2 (AL.take (k+1)):=by
 have s5:=hb5.size
 have s6:=hb6.size
 refine ⟨L3 ++ [_],ho2,by rw [htk,List.length_append,List.length_append,hl3];rfl,fun q x z hx hz=>?_⟩
 rw [htk] at hz
 have hblk:∀ g,g < w5.heap.size→u3.ownBlock ≠ some g→u2.heap[g]? = w5.heap[g]?:=fun g hg hn=>(hg2.block g (by omega) (fun e=>hn e.symm)).trans (hb6.block g hg)
 by_cases hq:q < L3.length
 ·rw [List.getElem?_append_left hq] at hx
  rw [List.getElem?_append_left (by omega)] at hz
  obtain ⟨h1,h2,h3⟩:=ha q x z hx hz
  refine ⟨h1,fun hne=>?_,fun ad had hne=>⟨(h3 ad had hne).1,fun e=>?_⟩⟩
  ·obtain ⟨b,off,hb,hlt,hc⟩:=h2 hne
   have hn:=(h3 _ hb hne).2
   have hs2:=hg2.size
   refine ⟨b,off,hb,by omega,fun j hj i u hu=>(World.cell?_of_block ((hblk b (by omega) hn).trans (hb5.block b hlt))).trans (hc j hj i u hu)⟩
  ·obtain ⟨b,off,hb,hlt,hc⟩:=h2 hne
   rw [had] at hb
   cases hb
   rcases hm2 with h | h
   ·exact (h3 _ had hne).2 (h.symm.trans e)
   ·rw [h] at e
    have:=Option.some.inj e
    simp only at this hlt
    omega
 ·have hql:q < (L3 ++ [(⟨y.id,y.k,y.s,y.t,y.x,y.e,y.v,A1,LI.length,c1⟩:An)]).length:=(List.getElem?_eq_some_iff.1 hx).1
  rw [List.length_append,List.length_singleton] at hql
  have hqe:q=L3.length:=by omega
  subst hqe
  rw [List.getElem?_append_right (Nat.le_refl _),Nat.sub_self] at hx
  rw [List.getElem?_append_right (by omega),← hl3,Nat.sub_self] at hz
  cases hx
  cases hz
  have hne1:∀ ad,A1=some ad→LI ≠ []→g4≤ad.block∧ad.block < w5.heap.size:=fun ad had hne=>by
   obtain ⟨b,off,hb,hlt,hc⟩:=hi hne
   rw [had] at hb
   cases hb
   rcases hA1 _ had with h | h | h
   ·exact ⟨by omega,hlt⟩
   ·exact absurd h hne
   ·exact ⟨h,hlt⟩
  refine ⟨by show An.mk _ _ _ _ _ _ _ _ _ _=An.mk _ _ _ _ _ _ _ _ _ _;rw [hln],fun hne=>?_,fun ad had hne=>⟨by have:=hne1 ad had hne;omega,fun e=>?_⟩⟩
  ·obtain ⟨b,off,hb,hlt,hc⟩:=hi hne
   have h4:=hne1 _ hb hne
   have hs2:=hg2.size
   exact ⟨b,off,hb,by omega,fun j hj i u hu=>(World.cell?_of_block (hblk b hlt (fun e=>by have:=hown b e;simp only at h4;omega))).trans (hc j hj i u hu)⟩
  ·have h4:=hne1 ad had hne
   rcases hm2 with h | h
   ·rw [h] at e
    have:=hown _ e
    omega
   ·rw [h] at e
    have:=Option.some.inj e
    omega
set_option maxRecDepth 100000 in
set_option maxHeartbeats 3200000 in
theorem copied_any (A:Option Addr) (c:Nat) (AL:List (An × List It)) (w:World) (hr:RowAt An.cells 8 w A (AL.map Prod.fst)) (hI:∀ x ∈ AL,x.2.length=x.1.ln∧ItemsAt w x.1.la x.2) (hl:AL.length≤1000) (hl2:∀ x ∈ AL,x.2.length≤100000) :
 Calls Tryz.prog 55 #[.slice A AL.length c] w fun e w'=>∃ v,e=.returned v∧AnsO w' w.heap.size v AL∧Below w.heap.size w w':=by
 have HR:=hide hr
 have HI:=hide hI
 have HL:=hide hl
 have HL2:=hide hl2
 clear hr hI hl hl2
 go_enter Tryz.func55,Tryz.ntmps55
 go_wp2_with fail
 go_loopw [3,8] (fun v i wr=>∃ k:Nat,k≤AL.length∧i=.int .i64 k∧AnsO wr w.heap.size v (AL.take k)∧Below w.heap.size w wr) (fun _ i _=>AL.length - (intOf i).toNat)
 case atStart=>exact ⟨0,by omega,rfl,AnsO.nil_ _ _,Below.refl _ _⟩
 case round =>
  obtain ⟨k,hk,rfl,ho,hb⟩:=hrel
  have HO:=hide ho
  have HB:=hide hb
  clear ho hb
  by_cases hlt:k < AL.length
  ·have hkI:(k:Int) < (AL.length:Int):=by omega
   have hk0:(0:Int)≤(k:Int):=by omega
   have hkb:(k:Int) < 1000:=by have:=HL.out;omega
   obtain ⟨b,off,rfl,hbb,c0,c1,c2,c3,c4,c5,c6,c7⟩:=RowAt.ans HR.out HB.out (k:=k) (by rw [List.length_map];exact hlt)
   obtain ⟨y,LI,hy⟩:∃ y LI,AL[k]? = some (y,LI):=⟨_,_,List.getElem?_eq_getElem hlt⟩
   have hy2:(AL.map Prod.fst)[k]'(by rw [List.length_map];exact hlt)=y:=by
    rw [List.getElem_map]
    rw [List.getElem?_eq_getElem hlt] at hy
    rw [Option.some.inj hy]
   have hmem:(y,LI) ∈ AL:=List.mem_of_getElem? hy
   have HLI:Hid (LI.length=y.ln∧ItemsAt w y.la LI):=hide (HI.out _ hmem)
   have HLE:Hid (LI.length≤100000):=hide (HL2.out _ hmem)
   have hbw:b < wr.heap.size:=Nat.lt_of_lt_of_le hbb HB.out.size
   simp only [hy2] at c0 c1 c2 c3 c4 c5 c6 c7
   have HY:=hide hy
   have HLT:=hide hlt
   have HBB:=hide hbb
   clear hy hk hy2 hmem
   clear hlt hbb
   go_upto_region 5 with fail
   have hz4:=heap_alloc_new wr (.cells #[.int .u64 y.id,.int .i64 y.k,.int .i64 y.s,.int .u64 y.t,.int .i64 y.x,.int .i64 y.e,.int .u64 y.v,.slice y.la y.ln y.lc] 50)
   have hb4:=below_alloc (Below.refl wr.heap.size wr) (.cells #[.int .u64 y.id,.int .i64 y.k,.int .i64 y.s,.int .u64 y.t,.int .i64 y.x,.int .i64 y.e,.int .u64 y.v,.slice y.la y.ln y.lc] 50)
   obtain ⟨w4,hw4⟩:∃ w4,wr.alloc (.cells #[.int .u64 y.id,.int .i64 y.k,.int .i64 y.s,.int .u64 y.t,.int .i64 y.x,.int .i64 y.e,.int .u64 y.v,.slice y.la y.ln y.lc] 50)=w4:=⟨_,rfl⟩
   rw [hw4] at hz4 hb4 ⊢
   obtain ⟨g4,hg4⟩:∃ g4,wr.heap.size=g4:=⟨_,rfl⟩
   rw [hg4] at hz4 ⊢
   have hl4:=(Array.getElem?_eq_some_iff.1 hz4).1
   have q7:=(ans_cells hz4).2.2.2.2.2.2.2
   have z7:w4.frozen? ⟨g4,7,none⟩=false:=by simp [World.frozen?,hz4]
   have HIR:Hid (ItemsAt w4 y.la LI):=hide ((HLI.out.2.below HB.out).below hb4)
   have HLN:Hid (LI.length=y.ln):=hide HLI.out.1
   have HZ4:=hide hz4
   have HB4:=hide hb4
   have HG4:=hide hg4
   have HL4:=hide hl4
   clear hw4 hz4 hb4 hg4 c0 c1 c2 c3 c4 c5 c6 c7
   go_upto_region 6 with (at_builtin;go_loud (refine wpList_app_row rfl (.const (.slice none 0 0)) (.tmp 13) 31 54 _ 5 40 rfl Tryz.underlying31 Tryz.infoItem rfl (by omega) It.cells_len It.cells_one (by omega) w4.heap.size (.slice none 0 0) [] rfl (OwnL.nil_ _ _ _ _ _) y.la y.lc y.ln LI HLN.out rfl HIR.out (by have:=HLE.out;have:=HLN.out;simp only [List.length_nil];omega) (Nat.le_refl _) ?_;intro v1 u1 ho1 hg1 hm1;obtain ⟨A1,c1,rfl,hr1,hx1,hc1,hcm1⟩:=OwnL.row It.cells_len ho1;rw [List.nil_append] at hr1;have k7:=(World.cell?_of_block (hg1.block g4 hl4 (fun e=>by cases e))).trans q7;have z7:u1.frozen? ⟨g4,7,none⟩=false:=(by simp [World.frozen?,(hg1.block g4 hl4 (fun e=>by cases e)).trans HZ4.out]);have HR1:=hide hr1;have HG1:=hide hg1;have HM1:=hide hm1;have HX1:=hide hx1;have HC1:=hide (And.intro hc1 hcm1);clear ho1 hr1 hg1 hm1 hx1 hc1 hcm1))
   have HB1:Hid (Below w4.heap.size w4 u1):=hide ⟨HG1.out.os,HG1.out.tape,HG1.out.output,HG1.out.size,fun g hg=>HG1.out.block g hg (fun e=>by cases e)⟩
   have hz5:=ans_put7 ((HB1.out.block g4 HL4.out).trans HZ4.out) (.slice A1 LI.length c1)
   have hs5:=sets1 u1 g4 7 (.slice A1 LI.length c1)
   obtain ⟨w5,hw5⟩:∃ w5,u1.setCell ⟨g4,7,none⟩ (.slice A1 LI.length c1)=w5:=⟨_,rfl⟩
   rw [hw5] at hz5 hs5 ⊢
   have HS5:=hide hs5
   have hl5:=(Array.getElem?_eq_some_iff.1 hz5).1
   obtain ⟨r0,r1,r2,r3,r4,r5,r6,r7⟩:=ans_cells hz5
   obtain ⟨L3,ho3,hl3,ha3⟩:=HO.out
   have hown3:∀ g,u3.ownBlock=some g→w.heap.size≤g∧g < g4:=fun g hg=>by rw [← HG4.out];exact OwnL.lt ho3 g hg
   have hw45:Below wr.heap.size wr w5:=⟨by rw [hs5.os,HB1.out.os,HB4.out.os],by rw [hs5.tape,HB1.out.tape,HB4.out.tape],by rw [hs5.output,HB1.out.output,HB4.out.output],by have:=HB4.out.size;have:=HB1.out.size;have:=hs5.size;omega,fun g hg=>(hs5.block g (by have:=HB4.out.size;have:=HB1.out.size;omega) (by have:=HG4.out;omega)).trans ((HB1.out.block g (by have:=HB4.out.size;omega)).trans (HB4.out.block g hg))⟩
   have HO3:=hide (OwnL.below ho3 hw45)
   have HW5:=hide hw45
   have HA3:=hide (And.intro hl3 (And.intro hown3 ha3))
   have HN5:=hide (RowAt.new_one (cells:=An.cells) (sz:=8) (y:=(⟨y.id,y.k,y.s,y.t,y.x,y.e,y.v,A1,LI.length,c1⟩:An)) (heap_alloc_new w5 (.cells #[.int .u64 y.id,.int .i64 y.k,.int .i64 y.s,.int .u64 y.t,.int .i64 y.x,.int .i64 y.e,.int .u64 y.v,.slice A1 LI.length c1] 50)))
   have HB6:=hide (below_alloc (Below.refl w5.heap.size w5) (.cells #[.int .u64 y.id,.int .i64 y.k,.int .i64 y.s,.int .u64 y.t,.int .i64 y.x,.int .i64 y.e,.int .u64 y.v,.slice A1 LI.length c1] 50))
   have HIA:=hide (show ItemsAt w5 A1 LI from ItemsAt.sets HR1.out hs5 (fun a ha _ e=>by
    have:=HX1.out a.block a.off a.spot ha
    have:=HL4.out
    omega))
   clear hw5 hz5 hs5 q7 ho3 hl3 ha3 hown3 hw45 k7 z7
   go_wp2_with (at_builtin;refine wpList_app_row rfl (.tmp 16) (.tmp 18) 58 50 _ 8 80 rfl Tryz.underlying58 Tryz.infoAnsw rfl (by omega) An.cells_len An.cells_one (by omega) w.heap.size u3 L3 rfl (OwnL.below HO3.out HB6.out) (some ⟨w5.heap.size,0,none⟩) 1 1 [(⟨y.id,y.k,y.s,y.t,y.x,y.e,y.v,A1,LI.length,c1⟩:An)] rfl rfl HN5.out (by have e1:=HA3.out.1;have e2:=HL.out;have e3:=HLT.out;rw [e1,List.length_take];omega) (by have:=HB6.out.size;have:=HW5.out.size;have:=HB.out.size;omega) ?_;intro v2 u2 ho2 hg2 hm2;have HO2:=hide ho2;have HG2:=hide hg2;have HM2:=hide hm2;clear ho2 hg2 hm2)
   obtain ⟨w6,hw6⟩:∃ w6,w5.alloc (.cells #[.int .u64 y.id,.int .i64 y.k,.int .i64 y.s,.int .u64 y.t,.int .i64 y.x,.int .i64 y.e,.int .u64 y.v,.slice A1 LI.length c1] 50)=w6:=⟨_,rfl⟩
   rw [hw6] at HB6 HG2 HM2
   clear hw6 HN5 r0 r1 r2 r3 r4 r5 r6 r7
   have e1:=HA3.out.1
   have hlt:=HLT.out
   rw [List.length_take] at e1
   have hsz6:=HB6.out.size
   have hsz5:=HW5.out.size
   have hszb:=HB.out.size
   have hg4:=HG4.out
   have htk:AL.take (k+1)=AL.take k ++ [(y,LI)]:=by
    rw [List.take_add_one,HY.out];rfl
   have hbw2:Below w.heap.size w u2:=((HB.out.trans (HW5.out.mono hszb)).trans (HB6.out.mono (by omega))).grown HG2.out (by omega) (fun j hj=>(HA3.out.2.1 j hj).1)
   have hfin:AnsO u2 w.heap.size v2 (AL.take (k+1)):=copied_step HO2.out HG2.out HM2.out HA3.out.2.1 HA3.out.2.2 (by rw [List.length_take];exact e1) HW5.out HB6.out htk HIA.out HLN.out (.inr trivial) (fun a ha=>.inr (.inr (by have:=HX1.out a.block a.off a.spot ha;have:=HL4.out;omega))) hszb hg4
   exact ⟨⟨k+1,by omega,by simp,hfin,hbw2⟩,by simp only [intOf];omega⟩
  ·obtain rfl:k=AL.length:=by omega
   have hkI:¬ (AL.length:Int) < (AL.length:Int):=by omega
   go_wp2_with fail
   go_ret
   have ho:=HO.out
   rw [List.take_length] at ho
   exact ⟨_,rfl,ho,HB.out⟩
set_option maxHeartbeats 800000 in
theorem canswers_any {w:World} {base:Bs} {c:Nat} {col:Nat→Nat} {a:Cl} (H:CluV w base c col a) (hl:a.AL.length≤1000) (hl2:∀ x ∈ a.AL,x.2.length≤100000) :
 Calls Tryz.prog 21 #[ptv c] w fun e w'=>∃ v,e=.returned v∧AnsO w' w.heap.size v a.AL∧Below w.heap.size w w':=by
 obtain ⟨A,cc,hva,hr,_⟩:=OwnL.row An.cells_len H.ans
 have c4:=H.cells.2.2.2.2.2.1
 rw [List.length_map] at hva
 rw [hva] at c4
 have HC:=hide (copied_any A cc a.AL w hr (fun x hx=>⟨(H.its x hx).1,(H.its x hx).2.1⟩) hl hl2)
 clear H hr hva hl hl2
 go_enter Tryz.func21,Tryz.ntmps21
 go_wp2_with ((with_reducible refine (HC.out).mono ?_);rintro e w1 ⟨v,rfl,ho,hg1⟩;have HO:=hide ho;have HG:=hide hg1;clear ho hg1)
 go_ret
 exact ⟨v,rfl,HO.out,HG.out⟩
end Go.Proofs.YtgmkckjedngkdaaGreatDoor
