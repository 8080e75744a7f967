/- A part of the proof that TopMajorityLaw holds: XZSme. Conditions: as typed. -/
import Derived.Test.YtgmkckjedngkdaaGreatDoorTm21
import Derived.Test.YtgmkckjedngkdaaGreatDoorTm22
import Derived.Test.YtgmkckjedngkdaaGreatDoorTm23
set_option linter.unusedVariables false
set_option linter.unusedSimpArgs false
namespace Go.Proofs.YtgmkckjedngkdaaGreatDoor
open Go.ChangeShapes Go.WideShapes Go.ChangeAt Go.RowKit
theorem mbroken_any {w:World} {g p:Nat} {nm:ByteArray} {v:Vw} {cnt:Int} (h:ManAt w g p nm v cnt):Calls Tryz.prog 165 #[ptv g] w fun e w'=>e=.returned (.bool false)∧w'=w:=by
 obtain ⟨_,_,_,_,_,_,_,_,_,c12⟩:=mn_cells h
 have hgl:=(Array.getElem?_eq_some_iff.1 h).1
 go_enter Tryz.func165,Tryz.ntmps165
 go_wp2
 go_ret
 exact ⟨rfl,rfl⟩
theorem four_cells {w:World} {g:Nat} {v0 v1 v2 v3:Value} {t:TypeId} (h:w.heap[g]? = some (.cells #[v0,v1,v2,v3] t (0,0))) :
 w.cell? ⟨g,0,none⟩=some v0∧w.cell? ⟨g,1,none⟩=some v1∧w.cell? ⟨g,2,none⟩=some v2∧w.cell? ⟨g,3,none⟩=some v3 :=
 ⟨(cell_of_row w g 0 _ _ _ h).trans rfl,(cell_of_row w g 1 _ _ _ h).trans rfl,(cell_of_row w g 2 _ _ _ h).trans rfl,(cell_of_row w g 3 _ _ _ h).trans rfl⟩
theorem four_put {w:World} {g:Nat} {d0 d1 d2 d3:Value} {t:TypeId} (h:w.heap[g]? = some (.cells #[d0,d1,d2,d3] t (0,0))) (e0 e1 e2 e3:Value) :
 ((((w.setCell ⟨g,0,none⟩ e0).setCell ⟨g,1,none⟩ e1).setCell ⟨g,2,none⟩ e2).setCell ⟨g,3,none⟩ e3).heap[g]? = some (.cells #[e0,e1,e2,e3] t (0,0)):=by
 simp [World.setCell,Array.getElem?_modify,h]
set_option maxRecDepth 100000 in
set_option maxHeartbeats 1600000 in
theorem smeta_any {w:World} {base s:Nat} {X:Nat→Prop} {R:Sr} (H:StoreO w base s X R):Calls Tryz.prog 23 #[ptv s] w fun e w'=>e=.returned (meta4 R.v.fl R.v.ce R.v.at_ R.v.le)∧Below w.heap.size w w':=by
 obtain ⟨h,H⟩:=H
 have hz:=heap_alloc_new w (.cells #[.int .u64 0,.int .u64 0,.int .u64 0,.int .u64 0] 75)
 have hb:=below_alloc (Below.refl w.heap.size w) (.cells #[.int .u64 0,.int .u64 0,.int .u64 0,.int .u64 0] 75)
 obtain ⟨w0,hw0⟩:∃ w0,w.alloc (.cells #[.int .u64 0,.int .u64 0,.int .u64 0,.int .u64 0] 75)=w0:=⟨_,rfl⟩
 rw [hw0] at hz hb
 obtain ⟨hsl,⟨_,c1,_⟩,_⟩:=(H.sets (S:=fun _=>False) (Sets.of hb) (fun _ _=>id)).facts
 have HV:=hide (mview_any (H.man.sets (S:=fun _=>False) (Sets.of hb) id))
 have hgl:w.heap.size < w0.heap.size:=(Array.getElem?_eq_some_iff.1 hz).1
 obtain ⟨⟨rl,rf,rc,ra,re⟩,hrv⟩:∃ v,R.v=v:=⟨_,rfl⟩
 rw [hrv] at HV ⊢
 have HZ:=hide hz
 have HB:=hide hb
 have HW0:=hide hw0
 clear H hz hb hw0 hrv
 go_enter Tryz.func23,Tryz.ntmps23
 go_upto_region 1 with fail
 rw [HW0.out]
 go_wp2_with ((with_reducible refine (HV.out).mono ?_);rintro e w1 ⟨rfl,hg1⟩;have hz1:=(hg1.block w.heap.size hgl).trans HZ.out;obtain ⟨y0,y1,y2,y3⟩:=four_cells hz1;have yf:∀ o,w1.frozen? ⟨w.heap.size,o,none⟩=false:=(fun o=>by simp [World.frozen?,hz1]);have yf0:=yf 0;have yf1:=yf 1;have yf2:=yf 2;have yf3:=yf 3;have HZ1:=hide hz1;have HG1:=hide hg1;have hgl1:w.heap.size < w1.heap.size:=Nat.lt_of_lt_of_le hgl hg1.size;clear hg1 hz1 yf c1)
 have hp:=four_put HZ1.out (.int .u64 rf) (.int .u64 rc) (.int .u64 ra) (.int .u64 re)
 have hS:=(((sets1 w1 w.heap.size 0 (.int .u64 rf)).set (g:=w.heap.size) (fun _=>rfl) 1 (.int .u64 rc)).set (g:=w.heap.size) (fun _=>rfl) 2 (.int .u64 ra)).set (g:=w.heap.size) (fun _=>rfl) 3 (.int .u64 re)
 obtain ⟨w2,hw2⟩:∃ w2,(((w1.setCell ⟨w.heap.size,0,none⟩ (.int .u64 rf)).setCell ⟨w.heap.size,1,none⟩ (.int .u64 rc)).setCell ⟨w.heap.size,2,none⟩ (.int .u64 ra)).setCell ⟨w.heap.size,3,none⟩ (.int .u64 re)=w2:=⟨_,rfl⟩
 rw [hw2] at hp hS ⊢
 have hal:=below_alloc (Below.refl w2.heap.size w2) (.cells #[.int .i64 rl,.slice none 0 0,.int .u64 rf,.int .u64 rc,.int .u64 ra,.int .u64 re] 142)
 obtain ⟨r0,r1,r2,r3⟩:=four_cells ((hal.block _ (Array.getElem?_eq_some_iff.1 hp).1).trans hp)
 refine bodyPost_ret (v:=meta4 rf rc ra re) (by simp [results,Tryz.results23,go_sem,r0,r1,r2,r3]) rfl ?_
 have hb:=below_step HB.out HG1.out
 exact ⟨rfl,below_step (Sets.below hb hS (fun b e=>by rw [e];exact Nat.le_refl _) hb.size) hal⟩
theorem StoreV.saved {w w':World} {base s:Nat} {X:Nat→Prop} {R:Sr} {h:Sh} (H:StoreV w base s X R h) {K:Dk} {v2:Vw} {cn:Int} (k:Sets (fun b=>h.Xd b ∨ b=h.m) w w') (hl:ManAt w' h.m h.p man1 v2 cn) (hd:DiskO w' base h.p (Xw h.Xd w w') K)
 (hf:K.D=d4∧K.dead=false∧K.stop=0∧K.calm=true∧∃ zl zm zc,K.Z=[zl,zm,zc]) (hv:v2.ok):StoreV w' base s (Xw X w w') { R with K:=K,v:=v2,cnt:=cn } { h with Xd:=Xw h.Xd w w' }:=by
 have hbl:base≤w.heap.size:=by have:=H.bd s H.inX.1;omega
 have hs:=(H.bd s H.inX.1).2
 have hg:=(H.bd h.g H.inX.2.1).2
 have hm:=(H.bd h.m H.inX.2.2.1).2
 have hmem:∀ c,MBlk h.b h.pm h.F c→c < w.heap.size:=H.mem.lt
 exact {
  box:=(k.block s hs (fun e=>by
   rcases e with e | e
   ·exact (H.apd s e).1 rfl
   ·exact H.aps.2.2.2.2.1 e)).trans H.box
  log:=H.log.sets k (fun e=>by
   rcases e with e | e
   ·exact (H.apd h.g e).2.1 rfl
   ·exact H.aps.2.2.2.2.2 e)
  man:=hl
  disk:=hd
  mem:=H.mem.sets k (fun c hc e=>by
   rcases e with e | e
   ·exact (H.apd c e).2.2.2.1 hc
   ·exact (H.apm c hc).2.2.1 e)
  st:=by
   obtain ⟨A,c,e,hr,h1,h2⟩:=H.st
   refine ⟨A,c,e,fun hne=>?_,h1,h2⟩
   obtain ⟨b,off,rfl,hlt,hc⟩:=hr hne
   have hob:h.vs.ownBlock=some b:=by rw [e];rfl
   have hnb:¬ (h.Xd b ∨ b=h.m):=fun e2=>by
    rcases e2 with e2 | e2
    ·exact (H.apd b e2).2.2.2.2 hob
    ·rw [e2] at hob;exact H.aps.2.2.1 hob
   exact ⟨b,off,rfl,Nat.lt_of_lt_of_le hlt k.size,fun j hj i u hu=>(World.cell?_of_block (k.block b hlt hnb)).trans (hc j hj i u hu)⟩
  inX:=⟨.inl H.inX.1,.inl H.inX.2.1,.inl H.inX.2.2.1,fun x e=>by
   rcases e with e | e
   ·exact .inl (H.inX.2.2.2.1 x e)
   ·exact .inr e,fun c e=>.inl (H.inX.2.2.2.2.1 c e),fun x e=>.inl (H.inX.2.2.2.2.2 x e)⟩
  bd:=Xw.bd H.bd hbl k.size
  apd:=fun x e=>by
   rcases e with e | e
   ·exact H.apd x e
   ·refine ⟨by omega,by show x ≠ h.g;omega,by show x ≠ h.m;omega,fun e2=>by have:=hmem x e2;omega,fun e2=>?_⟩
    have:=(H.bd x (H.inX.2.2.2.2.2 x e2)).2
    omega
  apm:=H.apm
  aps:=H.aps
  files:=hf
  few:=H.few
  good:=hv
  dp:=H.dp }
def SavTo (R:Sr) (f c a l:Int) (R':Sr):Prop :=
 R'.d=R.d∧R'.v=upd R.v f c a l∧R'.S=R.S∧R'.mf=R.mf∧R'.K.q=R.K.q∧∃ l0 l1 rest,R.K.Z.map Fz.L=l0 :: l1 :: rest∧R'.K.Z.map Fz.L=l0 :: (l1 ++ savB f c a l) :: rest
set_option maxRecDepth 100000 in
set_option maxHeartbeats 1600000 in
theorem ssave_any {w:World} {base s:Nat} {X:Nat→Prop} {R:Sr} (H:StoreO w base s X R) (f c a l:Int) (hf:ver48 f) (hc:ver48 c) (ha:ver48 a) (hl:ver48 l)
 (M:Nat) (hM:∀ z ∈ R.K.Z,z.L.length≤M) (hM2:M≤249900) (hq:((3 * M+100:Nat):Int)≤R.K.q) :
 Calls Tryz.prog 85 #[ptv s,(Ed.mk 0 f c a l).val] w fun e w'=>e=.returned (.int .i64 0)∧∃ R',SavTo R f c a l R'∧StoreO w' base s (Xw X w w') R'∧Sets X w w':=by
 obtain ⟨h,H⟩:=H
 have hbl:base≤w.heap.size:=by have:=H.bd s H.inX.1;omega
 obtain ⟨hD,hd,hst,hcm,zl,zm,zc,hZ⟩:=H.files
 have hza:=heap_alloc_new w (.cells #[.slice none 0 0,.slice none 0 0,.int .i64 0,.int .u64 f,.int .u64 c,.int .u64 a,.int .u64 l] 163)
 have hba:=below_alloc (Below.refl w.heap.size w) (.cells #[.slice none 0 0,.slice none 0 0,.int .i64 0,.int .u64 f,.int .u64 c,.int .u64 a,.int .u64 l] 163)
 obtain ⟨w0,hw0⟩:∃ w0,w.alloc (.cells #[.slice none 0 0,.slice none 0 0,.int .i64 0,.int .u64 f,.int .u64 c,.int .u64 a,.int .u64 l] 163)=w0:=⟨_,rfl⟩
 rw [hw0] at hza hba
 have hgl0:w.heap.size < w0.heap.size:=(Array.getElem?_eq_some_iff.1 hza).1
 have hb0:Below w.heap.size w w0.drew:=below_step hba (Below.refl _ w0).drew
 have H0:=H.sets (S:=fun _=>False) (Sets.of hb0) (fun _ _=>id)
 have hC:∀ W,Below w0.drew.heap.size w0.drew W→_:=fun W hW=>(H0.sets (S:=fun _=>False) (Sets.of hW) (fun _ _=>id)).facts
 have hCE:∀ W,Below w0.drew.heap.size w0.drew W→_:=fun W hW=>ed_cells (v:=⟨0,f,c,a,l⟩) (((below_step (Below.refl _ w0).drew hW).block w.heap.size hgl0).trans hza)
 have hsv:=msave_any H0.disk H0.man (fun e=>(H0.apd _ e).2.2.1 rfl) H0.good ok_man1 (i:=1) (by rw [hD];exact hit_man) (z:=zm) (by rw [hZ];rfl) hd hst f c a l hf hc ha hl M hM hM2 (by rw [hD,size_d4];omega) (by rw [hD,size_d4];exact hq)
 have HC:=hide hC
 have HCE:=hide hCE
 have HSV:=hide hsv
 have HH:=hide H0
 have HF:=hide (And.intro hD (And.intro hd (And.intro hst (And.intro hcm hZ))))
 have HW0:=hide hw0
 have HB0:=hide hb0
 have HUO:=hide (upd_ok H.good hf hc ha hl)
 have HBL:=hide hbl
 have HBD:=hide (fun (W:World) (hs:w.heap.size≤W.heap.size)=>Xw.bd H.bd hbl hs)
 clear H hC hCE hsv H0 hD hd hst hcm hZ hw0 hza hba hf hc ha hl hM hM2 hq hb0 hbl
 go_enter Tryz.func85,Tryz.ntmps85
 go_upto_region 1 with fail
 rw [HW0.out]
 refine j_start [5,6] (by kernel_rfl) ?_
 refine' j_t 0 [1,2,3,5,6] rfl (by kernel_rfl) rfl ?y0c ?r0c
 case y0c=>(intro w' hw';go_simp;try with_reducible rfl)
 try go_frame
 refine' j_t 1 [2,3,5,6] rfl (by kernel_rfl) rfl ?y1c ?r1c
 case y1c=>(intro w' hw';go_simp;try with_reducible rfl)
 try go_frame
 refine' j_t 2 [3,5,6] rfl (by kernel_rfl) rfl ?y2c ?r2c
 case y2c=>(intro w' hw';go_simp;try with_reducible rfl)
 try go_frame
 refine' j_t 3 [5,6] rfl (by kernel_rfl) rfl ?y3c ?r3c
 case y3c=>(intro w' hw';obtain ⟨_,⟨_,q1,_⟩,_⟩:=HC.out _ hw';go_simp;try with_reducible rfl)
 try go_frame
 refine' j_t 4 [5,6] rfl (by kernel_rfl) rfl ?y4c ?r4c
 case y4c=>(intro w' hw';obtain ⟨x0,x1,x2,x3,x4,x5,x6⟩:=HCE.out _ hw';go_simp;try with_reducible rfl)
 try go_frame
 refine' wpAnyJ_last (i:=5) (o:=_) (by kernel_rfl) ?ho5c (by kernel_rfl) (fun KK hK=>?step5c)
 case ho5c=>(simp only [List.getElem?_toArray,List.getElem?_cons_succ,List.getElem?_cons_zero];rfl)
 go_simp
 refine (Calls.mono (HSV.out) ?_);rintro e u1c ⟨rfl,v9,cn,hdo,hmn,hst⟩
 have HDO:=hide hdo;have HMN:=hide hmn;have HST:=hide hst
 clear hdo hmn hst
 refine hK.out _ _ ?_
 clear hK KK
 try go_frame
 refine' wpAnyJ_last (i:=6) (o:=_) (by kernel_rfl) ?ho6c (by kernel_rfl) (fun KK hK=>?step6c)
 case ho6c=>(simp only [List.getElem?_toArray,List.getElem?_cons_succ,List.getElem?_cons_zero];rfl)
 go_simp
 refine hK.out _ _ ?_
 clear hK KK
 try go_frame
 refine wpAnyJ_done (by kernel_rfl) ?_ _
 refine NoPanic.normal ?_
 have HFIN:Hid (∃ R',SavTo R f c a l R'∧StoreO u1c base s (Xw X w u1c) R'∧Sets X w u1c):=hide (by
  have hf:=HF.out
  have hS:=HST.out
  have hsd:=HH.out.saved hS HMN.out HDO.out (K:=savK R.K 1 zm (savB f c a l) v9) ⟨hf.1,hf.2.1,hf.2.2.1,hf.2.2.2.1,zl,{ zm with v:=v9,L:=zm.L ++ savB f c a l,last:=zm.L.length+(savB f c a l).length },zc,by unfold savK;rw [hf.2.2.2.2];rfl⟩ HUO.out
  have hSX:Sets X w u1c:=(Sets.of (S:=X) HB0.out).trans (hS.up (T:=X) (fun b e=>by
   rcases e with e | e
   ·exact HH.out.inX.2.2.2.1 b e
   ·rw [e];exact HH.out.inX.2.2.1)) (fun _ _ e=>e)
  have hfw:StoreO u1c base s (Xw X w u1c) { R with K:=savK R.K 1 zm (savB f c a l) v9,v:=upd R.v f c a l,cnt:=cn }:=⟨_,hsd.wide (Xw.more HB0.out.size) (HBD.out _ hSX.size)⟩
  exact ⟨{ R with K:=savK R.K 1 zm (savB f c a l) v9,v:=upd R.v f c a l,cnt:=cn },⟨rfl,rfl,rfl,rfl,rfl,zl.L,zm.L,[zc.L],by rw [hf.2.2.2.2];rfl,by show (savK R.K 1 zm (savB f c a l) v9).Z.map Fz.L=_;unfold savK;rw [hf.2.2.2.2];rfl⟩,hfw,hSX⟩)
 have HBR:=hide (mbroken_any HMN.out)
 have hslu:s < u1c.heap.size:=Nat.lt_of_lt_of_le (HC.out w0.drew (Below.refl _ _)).1 HST.out.size
 have hq1:u1c.cell? ⟨s,1,none⟩=some (ptv h.m):=by
  have hb:=(HST.out.block s (HC.out w0.drew (Below.refl _ _)).1 (fun e=>by
   rcases e with e | e
   ·exact (HH.out.apd _ e).1 rfl
   ·exact HH.out.aps.2.2.2.2.1 e)).trans HH.out.box
  exact (cell_of_row u1c s 1 _ _ _ hb).trans rfl
 clear HDO HMN HST HSV HCE HC HH HF HUO
 go_wp2_with ((with_reducible refine (HBR.out).mono ?_);rintro e w3 ⟨rfl,rfl⟩)
 go_ret
 exact ⟨rfl,HFIN.out⟩
end Go.Proofs.YtgmkckjedngkdaaGreatDoor
