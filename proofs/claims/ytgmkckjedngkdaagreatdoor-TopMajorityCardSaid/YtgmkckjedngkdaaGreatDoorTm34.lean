/- A part of the proof that TopMajorityLaw holds: XZSnd. Conditions: as typed. -/
import Derived.Test.YtgmkckjedngkdaaGreatDoorTm32
set_option linter.unusedVariables false
set_option linter.unusedSimpArgs false
namespace Go.Proofs.YtgmkckjedngkdaaGreatDoor
open Go.ChangeShapes Go.WideShapes Go.ChangeAt Go.RowKit
theorem RowAt.msg {w:World} {A:Option Addr} {Ms:List Mg} (h:RowAt Mg.cells 6 w A Ms) {k:Nat} (hk:k < Ms.length):∃ b off,A=some ⟨b,off,none⟩∧b < w.heap.size∧w.cell? ⟨b,off+k * 6,none⟩=some (.int .i64 (Ms[k]).k)∧w.cell? ⟨b,off+k * 6+1,none⟩=some (.int .i64 (Ms[k]).f)∧w.cell? ⟨b,off+k * 6+2,none⟩=some (.int .i64 (Ms[k]).t)∧w.cell? ⟨b,off+k * 6+3,none⟩=some (.int .u64 (Ms[k]).id)∧w.cell? ⟨b,off+k * 6+4,none⟩=some (.int .u64 (Ms[k]).n)∧w.cell? ⟨b,off+k * 6+5,none⟩=some (.slice (Ms[k]).A (Ms[k]).L.length (Ms[k]).c):=by
 obtain ⟨b,off,e,hlt,hc⟩:=h.at_ hk
 exact ⟨b,off,e,hlt,hc k hk 0 _ rfl,hc k hk 1 _ rfl,hc k hk 2 _ rfl,hc k hk 3 _ rfl,hc k hk 4 _ rfl,hc k hk 5 _ rfl⟩
theorem MovedB.step {w u:World} {rb r1 r2:Option Nat} (h1:MovedB w rb r1) (hs:w.heap.size≤u.heap.size) (h2:MovedB u r1 r2):MovedB w rb r2:=by
 rcases h2 with h2 | ⟨g,hg,h2⟩
 ·rw [h2];exact h1
 ·exact .inr ⟨g,Nat.le_trans hs hg,h2⟩
theorem MovedB.blk {w:World} {rb r1:Option Nat} {b g:Nat} (h1:MovedB w rb r1) (hg:g < w.heap.size) (h:NBlk b r1 g):NBlk b rb g:=by
 rcases h with h | h
 ·exact .inl h
 ·rcases h1 with e | ⟨g',hg',e⟩
  ·exact .inr (by rw [← e];exact h)
  ·rw [h] at e;cases e;omega
set_option maxRecDepth 100000 in
set_option maxHeartbeats 3200000 in
theorem csnd_any {w:World} {c nb:Nat} {rb:Option Nat} {D P:Nat→Prop} {m:Nat} {C:List Mg} {lo se:Int} (hc:w.cell? ⟨c,2,none⟩=some (ptv nb)) (hcl:c < w.heap.size) (hcn:¬ NBlk nb rb c) (hN:NetX w nb rb D m C lo se) (v:Value) (Ms:List Mg) (hM:MsR w P v Ms) (hP:∀ g,P g→g < w.heap.size→¬ NBlk nb rb g) (hok:∀ x ∈ Ms,mokB x=true) (hcap:C.length+Ms.length≤m) (hm:m≤1000) (hse:0≤se∧se≤549755813888) :
 Calls Tryz.prog 108 #[ptv c,v] w fun e w'=>e=.returned (.tuple #[])∧∃ rb',NetX w' nb rb' (Xn D w w') m (C ++ Ms.map Mg.bare) lo (se+Ms.length)∧Sets (NBlk nb rb) w w'∧MovedB w rb rb':=by
 obtain ⟨A,cc,rfl,hrow,hpa⟩:=hM.row
 have HC0:=hide (fun (W:World) (k:Sets (NBlk nb rb) w W)=>(World.cell?_of_block (k.block c hcl hcn)).trans hc)
 have HMR:=hide (fun (W:World) (k:Sets (NBlk nb rb) w W)=>hM.sets k hP)
 have HFA:=hide (fun x (hx:x ∈ Ms) a (ha:x.A=some a) (hn:x.L ≠ [])=>(And.intro (rd_lt_ (hM.rd x hx) a ha hn) (hP _ (hM.far x hx a ha hn) (rd_lt_ (hM.rd x hx) a ha hn))))
 have HOK:=hide hok
 have HBN:=hide (And.intro hcap (And.intro hm hse))
 have HN:=hide (show NetX w nb rb (Xn D w w) m (C ++ (Ms.take 0).map Mg.bare) lo (se+((0:Nat):Int)) from by
  rw [List.take_zero,List.map_nil,List.append_nil,Int.natCast_zero,Int.add_zero]
  exact hN.wide (fun g e=>.inl e))
 have HCL:=hide hcl
 have hml:Ms.length≤1000:=by omega
 clear hc hcl hcn hN hM hP hok hcap hm hse hrow hpa
 go_enter Tryz.func108,Tryz.ntmps108
 go_wp2_with fail
 go_loopw [8] (fun i wr=>∃ (q:Nat) (rq:Option Nat),q≤Ms.length∧i=.int .i64 q∧NetX wr nb rq (Xn D w wr) m (C ++ (Ms.take q).map Mg.bare) lo (se+q)∧Sets (NBlk nb rb) w wr∧MovedB w rb rq) (fun i _=>Ms.length - (intOf i).toNat)
 case atStart=>exact ⟨0,rb,by omega,rfl,HN.out,Sets.refl _,.inl rfl⟩
 case round =>
  obtain ⟨q,rq,hq,rfl,hnx,hst,hmv⟩:=hrel
  have HNX:=hide hnx
  have HST:=hide hst
  have HMV:=hide hmv
  clear hnx hst hmv
  by_cases hql:q < Ms.length
  ·have hqI:(q:Int) < (Ms.length:Int):=by omega
   have hq0:(0:Int)≤(q:Int):=by omega
   have hmr:=HMR.out wr HST.out
   obtain ⟨A2,c2,he2,hr2,_⟩:=hmr.row
   obtain ⟨rfl,rfl⟩:A=A2∧cc=c2:=by injection he2 with h1 _ h3;exact ⟨h1,h3⟩
   obtain ⟨bl,ofs,rfl,hbb,z0,z1,z2,z3,z4,z5⟩:=RowAt.msg hr2 hql
   have hxr:=hmr.rd _ (List.getElem_mem hql)
   have hfa:=HFA.out _ (List.getElem_mem hql)
   have hxk:=HOK.out _ (List.getElem_mem hql)
   have HTK:Hid ((Ms.take (q+1)).map Mg.bare=(Ms.take q).map Mg.bare ++ [(Ms[q]'hql).bare]):=hide (by rw [List.take_succ_eq_append_getElem hql,List.map_append];rfl)
   generalize Ms[q]'hql=x at *
   have hbi:=below_alloc (Below.refl wr.heap.size wr) (.cells #[.int .i64 x.k,.int .i64 x.f,.int .i64 x.t,.int .u64 x.id,.int .u64 x.n,.slice x.A x.L.length x.c] 33)
   have hzi:=heap_alloc_new wr (.cells #[.int .i64 x.k,.int .i64 x.f,.int .i64 x.t,.int .u64 x.id,.int .u64 x.n,.slice x.A x.L.length x.c] 33)
   obtain ⟨wi,hwi⟩:∃ wi,wr.alloc (.cells #[.int .i64 x.k,.int .i64 x.f,.int .i64 x.t,.int .u64 x.id,.int .u64 x.n,.slice x.A x.L.length x.c] 33)=wi:=⟨_,rfl⟩
   rw [hwi] at hbi hzi
   have lgi:=(Array.getElem?_eq_some_iff.1 hzi).1
   obtain ⟨v0,v1,v2,v3,v4,v5⟩:=six_cells hzi
   have hcc:=HC0.out wr HST.out
   have hcr:c < wr.heap.size:=Nat.lt_of_lt_of_le HCL.out HST.out.size
   obtain ⟨gi,hgi⟩:∃ gi,wr.heap.size=gi:=⟨_,rfl⟩
   rw [hgi] at v0 v1 v2 v3 v4 v5 lgi
   have HC:Hid (∀ W:World,Below wi.heap.size wi W→W.cell? ⟨c,2,none⟩=some (ptv nb)∧W.cell? ⟨gi,0,none⟩=some (.int .i64 x.k)∧W.cell? ⟨gi,1,none⟩=some (.int .i64 x.f)∧W.cell? ⟨gi,2,none⟩=some (.int .i64 x.t)∧W.cell? ⟨gi,3,none⟩=some (.int .u64 x.id)∧W.cell? ⟨gi,4,none⟩=some (.int .u64 x.n)∧W.cell? ⟨gi,5,none⟩=some (.slice x.A x.L.length x.c)):=hide (fun W hW =>
    ⟨keep_cell (below_step hbi hW) hcc hcr,keep_cell hW v0 lgi,keep_cell hW v1 lgi,keep_cell hW v2 lgi,keep_cell hW v3 lgi,keep_cell hW v4 lgi,keep_cell hW v5 lgi⟩)
   obtain ⟨ud,hud⟩:∃ ud,wi.drew=ud:=⟨_,rfl⟩
   have HUD:Hid (Below wi.heap.size wi ud):=hide (by rw [← hud];exact (Below.refl _ _).drew)
   have hbu:=below_step hbi HUD.out
   have hsn:=send_x (HNX.out.below hbu) x (hxr.below hbu) (fun a ha hn e=>(hfa a ha hn).2 (HMV.out.blk (hfa a ha hn).1 e)) hxk (by rw [List.length_append,List.length_map,List.length_take];have:=HBN.out.1;omega) HBN.out.2.1 (by have:=HBN.out.2.2;omega)
   unfold Mg.val at hsn
   have HSN:=hide hsn
   have HWI:=hide hwi
   have HGI:=hide hgi
   have HBU:=hide hbu
   clear hmr hr2 he2 hxr hfa hxk hbi hzi hwi hgi v0 v1 v2 v3 v4 v5 lgi hcc hcr hbu hsn
   go_upto_region 3 with fail
   rw [HWI.out,HGI.out]
   clear z0 z1 z2 z3 z4 z5
   refine j_start [5] (by kernel_rfl) ?_
   rw [hud]
   clear hud
   refine' j_t 0 [1,2,3,5] rfl (by kernel_rfl) rfl ?y0s ?r0s
   case y0s=>(intro w' hw';go_simp;try with_reducible rfl)
   try go_frame
   refine' j_t 1 [2,3,5] rfl (by kernel_rfl) rfl ?y1s ?r1s
   case y1s=>(intro w' hw';go_simp;try with_reducible rfl)
   try go_frame
   refine' j_t 2 [3,5] rfl (by kernel_rfl) rfl ?y2s ?r2s
   case y2s=>(intro w' hw';go_simp;try with_reducible rfl)
   try go_frame
   refine' j_t 3 [5] rfl (by kernel_rfl) rfl ?y3s ?r3s
   case y3s=>(intro w' hw';obtain ⟨q1,y0,y1,y2,y3,y4,y5⟩:=HC.out _ (below_step HUD.out hw');go_simp;try with_reducible rfl)
   try go_frame
   refine' j_t 4 [5] rfl (by kernel_rfl) rfl ?y4s ?r4s
   case y4s=>(intro w' hw';obtain ⟨q1,y0,y1,y2,y3,y4,y5⟩:=HC.out _ (below_step HUD.out hw');go_simp;try with_reducible rfl)
   try go_frame
   refine' wpAnyJ_last (i:=5) (o:=_) (by kernel_rfl) ?ho5s (by kernel_rfl) (fun KK hK=>?step5s)
   case ho5s=>(simp only [List.getElem?_toArray,List.getElem?_cons_succ,List.getElem?_cons_zero];rfl)
   go_simp
   refine (Calls.mono (HSN.out) ?_);rintro e u1s ⟨rb',rfl,hn,hs,hmv⟩
   have HN2:=hide hn;have HS2:=hide hs;have HM2:=hide hmv
   clear hn hs hmv
   refine hK.out _ _ ?_
   clear hK KK
   try go_frame
   refine wpAnyJ_done (by kernel_rfl) ?_ _
   refine NoPanic.normal ?_
   go_wp2_with fail
   go_roundw
   case rel =>
    have hs2:Sets (NBlk nb rb) w u1s:=(HST.out.trans (Sets.of (S:=fun _=>False) HBU.out) (fun _ _ h=>h.elim)).trans HS2.out (fun g hg e=>HMV.out.blk hg e)
    refine ⟨q+1,rb',by omega,by go_num,?_,hs2,HMV.out.step (Nat.le_trans HST.out.size HBU.out.size) HM2.out⟩
    rw [HTK.out,← List.append_assoc]
    have h2:=HN2.out
    rw [Int.add_assoc] at h2
    exact h2.wide (fun g e=>by
     have h3:=HST.out.size
     have h4:=HBU.out.size
     have h5:=HS2.out.size
     rcases e with (e | e) | e
     ·exact .inl e
     ·exact .inr ⟨e.1,by omega⟩
     ·exact .inr ⟨by omega,e.2⟩)
   case measure=>simp [intOf];omega
  ·have hqI:¬ (q:Int) < (Ms.length:Int):=by omega
   obtain rfl:q=Ms.length:=by omega
   go_wp2_with fail
   go_end0
   have h1:=HNX.out
   rw [List.take_length] at h1
   exact ⟨rfl,rq,h1,HST.out,HMV.out⟩
end Go.Proofs.YtgmkckjedngkdaaGreatDoor
