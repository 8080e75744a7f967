/- A part of the proof that TopMajorityLaw holds: XZLig, XZOn, XZEac, XZUp. Conditions: as typed. -/
import Derived.Test.YtgmkckjedngkdaaGreatDoorTm03
import Derived.Test.YtgmkckjedngkdaaGreatDoorTm36
import Derived.Test.YtgmkckjedngkdaaGreatDoorTm37
set_option linter.unusedVariables false
set_option linter.unusedSimpArgs false
namespace Go.Proofs.YtgmkckjedngkdaaGreatDoor
open Go.ChangeShapes Go.WideShapes Go.ChangeAt Go.RowKit
section
variable {w w':World} {base:Bs} {c i p j j2:Nat} {col col':Nat→Nat} {P:Pl} {a:Cl}
theorem turn_two (hk:ColOk w base col) (hb:base.le w) {hi:Nat} (hs:Sets (fun g=>col g=j ∨ col g=j2) w w') (hj:j ≠ 0) (hhi:hi≤w'.heap.size):Turn w w' base col (colN col w.heap.size hi j) j j2 :=
 ⟨hs,hk.next hb hs.size hhi,fun g k h1 _ h2=>colN_other hk h2 h1 g,fun g hg h0=>by rw [colN_old hg];exact h0⟩
theorem CluV.jobs (H:CluV w base c col a) (hp:a.ps[i]? = some p) (hP:a.P[i]? = some P) (hu:P.up=true) {vj':Value} {job':Option (Nat × Co)} (hs:Sets (fun g=>g=p ∨ P.vj.ownBlock=some g) w w') (hbox:w'.heap[p]? = some (.cells #[ptv P.d,ptv P.n,ptv P.k,vj'] 104 (0,0)))
 (hown:OwnL (one1 (fun v:Value=>v)) 1 192 base w' vj' (jobVs job')) (hmv:∀ g,vj'.ownBlock=some g→P.vj.ownBlock=some g ∨ w.heap.size≤g) (hjob:∀ x,job'=some x→CoB w base x.1 (fun g=>col g=14+5 * i) x.2) :
 CluV w' base c (colN col w.heap.size w'.heap.size (13+5 * i)) { a with P:=a.P.set i { P with vj:=vj',job:=job' } }:=by
 have h:=H.pl i p P hp hP hu
 have hs2:Sets (fun g=>col g=13+5 * i ∨ col g=10+5 * i) w w':=⟨hs.os,hs.tape,hs.output,hs.size,fun g hg hn=>hs.block g hg (fun e=>hn (by
  rcases e with e | e
  ·rw [e];exact .inr h.cp
  ·exact .inl (h.cj g e)))⟩
 have t:=turn_two (j:=13+5 * i) (j2:=10+5 * i) (hi:=w'.heap.size) H.ok H.bl hs2 (by omega) (Nat.le_refl _)
 have hil:i < a.P.length:=by
  rw [List.getElem?_eq_some_iff] at hP
  exact hP.1
 have hpl:p < w.heap.size:=(H.ok p (by rw [h.cp];omega)).2
 refine H.place t ⟨⟨by omega,by omega⟩,by omega,by omega⟩ hil hu (fun q hq=>?_)
 rw [hp] at hq
 cases hq
 exact {
  box:=hbox
  cp:=by rw [colN_old hpl];exact h.cp
  node:=h.oNode t (by omega)
  id:=h.id
  dsk:=h.dsk
  clk:=(h.oClk t (by omega)).1
  ck:=(h.oClk t (by omega)).2
  jobs:=hown
  cj:=fun g hg=>(colN_self H.ok (by omega) g).2 (by
   rcases hmv g hg with e | e
   ·exact .inl (h.cj g e)
   ·exact .inr ⟨e,(OwnL.lt hown g hg).2⟩)
  job:=fun x hx=>by
   refine ((hjob x hx).sets t.sets (fun g hg e=>by omega)).wide (fun g hg=>(t.same g _ (by omega) (by omega) (by omega)).2 hg) (fun g hg=>t.ok.lt hg (by omega)) }
theorem CluV.fresh (H:CluV w base c col a) (hp:a.ps[i]? = some p) (hP:a.P[i]? = some P) (hu:P.up=true) (hj:P.job=none) (hb:Below w.heap.size w w'):CluV w' base c (colN col w.heap.size w'.heap.size (14+5 * i)) a:=by
 have t:=turn_two (j:=14+5 * i) (j2:=14+5 * i) (hi:=w'.heap.size) H.ok H.bl (Sets.of hb) (by omega) (Nat.le_refl _)
 have hil:i < a.P.length:=by
  rw [List.getElem?_eq_some_iff] at hP
  exact hP.1
 have h:=H.pl i p P hp hP hu
 have he:{ a with P:=a.P.set i P }=a:=by
  have:a.P.set i P=a.P:=by
   refine List.ext_getElem? (fun k=>?_)
   by_cases e:k=i
   ·rw [e,List.getElem?_set_self hil,hP]
   ·rw [List.getElem?_set_ne (fun e2=>e e2.symm)]
  rw [this]
 rw [← he]
 refine H.place t ⟨⟨by omega,by omega⟩,by omega,by omega⟩ hil hu (fun q hq=>?_)
 rw [hp] at hq
 cases hq
 exact {
  box:=h.oBox t H.ok (by omega)
  cp:=(h.oCp t).resolve_right (by omega)
  node:=h.oNode t (by omega)
  id:=h.id
  dsk:=h.dsk
  clk:=(h.oClk t (by omega)).1
  ck:=(h.oClk t (by omega)).2
  jobs:=(h.oJobs t (by omega)).1
  cj:=(h.oJobs t (by omega)).2
  job:=fun x hx=>by rw [hj] at hx;cases hx }
theorem CluV.answered (H:CluV w base c col a) {va':Value} {AL':List (An × List It)} (hs:Sets (fun g=>g=c ∨ a.va.ownBlock=some g) w w') (hbox:w'.heap[c]? = some (.cells #[a.vp,.int .u64 a.grace,ptv a.nb,.int .u64 a.ids,va',a.vi] 99 (0,0)))
 (hown:OwnL An.cells 8 50 base w' va' (AL'.map Prod.fst)) (hmv:∀ g,va'.ownBlock=some g→a.va.ownBlock=some g ∨ w.heap.size≤g) (hits:∀ x ∈ AL',x.2.length=x.1.ln∧ItemsAt w x.1.la x.2∧x.1.ln≤x.1.lc∧x.1.lc≤maxLen∧∀ ad,x.1.la=some ad→x.2 ≠ []→col ad.block=0) :
 CluV w' base c (colN col w.heap.size w'.heap.size 4) { a with va:=va',AL:=AL' }:=by
 have hs2:Sets (fun g=>col g=4 ∨ col g=1) w w':=⟨hs.os,hs.tape,hs.output,hs.size,fun g hg hn=>hs.block g hg (fun e=>hn (by
  rcases e with e | e
  ·rw [e];exact .inr H.cc
  ·exact .inl (H.ca g e)))⟩
 have t:=turn_two (j:=4) (j2:=1) (hi:=w'.heap.size) H.ok H.bl hs2 (by omega) (Nat.le_refl _)
 exact {
  ok:=t.ok
  bl:=H.bl.up t.sets.size
  box:=hbox
  cc:=by rw [colN_old (H.ok c (by rw [H.cc];omega)).2];exact H.cc
  row:=H.oRow t (by omega)
  len:=H.len
  pl:=fun k p P hk hP hu=>H.oPl t k p P hk hP hu ⟨by omega,by omega⟩
  pd:=fun k p P hk hP hu=>H.oPd t k p P hk hP hu ⟨by omega,by omega⟩
  net:=(H.oNet t (by omega) (by omega)).1
  cn:=(H.oNet t (by omega) (by omega)).2
  ans:=hown
  ca:=fun g hg=>(colN_self H.ok (by omega) g).2 (by
   rcases hmv g hg with e | e
   ·exact .inl (H.ca g e)
   ·exact .inr ⟨e,(OwnL.lt hown g hg).2⟩)
  its:=fun x hx=>its_turn t (by omega) (hits x hx)
  iss:=(H.oIss t (by omega)).1
  ci:=(H.oIss t (by omega)).2 }
theorem CluV.issued (H:CluV w base c col a) {vi':Value} {IL':List An} (hs:Sets (fun g=>g=c ∨ a.vi.ownBlock=some g) w w') (hbox:w'.heap[c]? = some (.cells #[a.vp,.int .u64 a.grace,ptv a.nb,.int .u64 a.ids,a.va,vi'] 99 (0,0)))
 (hown:OwnL An.cells 8 50 base w' vi' IL') (hmv:∀ g,vi'.ownBlock=some g→a.vi.ownBlock=some g ∨ w.heap.size≤g) :
 CluV w' base c (colN col w.heap.size w'.heap.size 5) { a with vi:=vi',IL:=IL' }:=by
 have hs2:Sets (fun g=>col g=5 ∨ col g=1) w w':=⟨hs.os,hs.tape,hs.output,hs.size,fun g hg hn=>hs.block g hg (fun e=>hn (by
  rcases e with e | e
  ·rw [e];exact .inr H.cc
  ·exact .inl (H.ci g e)))⟩
 have t:=turn_two (j:=5) (j2:=1) (hi:=w'.heap.size) H.ok H.bl hs2 (by omega) (Nat.le_refl _)
 exact {
  ok:=t.ok
  bl:=H.bl.up t.sets.size
  box:=hbox
  cc:=by rw [colN_old (H.ok c (by rw [H.cc];omega)).2];exact H.cc
  row:=H.oRow t (by omega)
  len:=H.len
  pl:=fun k p P hk hP hu=>H.oPl t k p P hk hP hu ⟨by omega,by omega⟩
  pd:=fun k p P hk hP hu=>H.oPd t k p P hk hP hu ⟨by omega,by omega⟩
  net:=(H.oNet t (by omega) (by omega)).1
  cn:=(H.oNet t (by omega) (by omega)).2
  ans:=(H.oAns t (by omega)).1
  ca:=(H.oAns t (by omega)).2
  its:=H.oIts t (by omega)
  iss:=hown
  ci:=fun g hg=>(colN_self H.ok (by omega) g).2 (by
   rcases hmv g hg with e | e
   ·exact .inl (H.ci g e)
   ·exact .inr ⟨e,(OwnL.lt hown g hg).2⟩) }
theorem CluV.counted (H:CluV w base c col a) {n':Int} (hs:Sets (fun g=>g=c) w w') (hbox:w'.heap[c]? = some (.cells #[a.vp,.int .u64 a.grace,ptv a.nb,.int .u64 n',a.va,a.vi] 99 (0,0))):CluV w' base c col { a with ids:=n' }:=by
 have t:Turn w w' base col col 1 1:=turn_none H.ok ⟨hs.os,hs.tape,hs.output,hs.size,fun g hg hn=>hs.block g hg (fun e=>hn (by rw [e];exact .inl H.cc))⟩
 exact {
  ok:=t.ok
  bl:=H.bl.up t.sets.size
  box:=hbox
  cc:=H.cc
  row:=H.oRow t (by omega)
  len:=H.len
  pl:=fun k p P hk hP hu=>H.oPl t k p P hk hP hu ⟨by omega,by omega⟩
  pd:=fun k p P hk hP hu=>H.oPd t k p P hk hP hu ⟨by omega,by omega⟩
  net:=(H.oNet t (by omega) (by omega)).1
  cn:=H.cn
  ans:=(H.oAns t (by omega)).1
  ca:=H.ca
  its:=H.oIts t (by omega)
  iss:=(H.oIss t (by omega)).1
  ci:=H.ci }
theorem CluV.cells (H:CluV w base c col a):c < w.heap.size∧w.cell? ⟨c,0,none⟩=some a.vp∧w.cell? ⟨c,1,none⟩=some (.int .u64 a.grace)∧w.cell? ⟨c,2,none⟩=some (ptv a.nb)∧w.cell? ⟨c,3,none⟩=some (.int .u64 a.ids)∧w.cell? ⟨c,4,none⟩=some a.va∧w.cell? ⟨c,5,none⟩=some a.vi:=by
 have h:=H.box
 exact ⟨(Array.getElem?_eq_some_iff.1 h).1,(cell_of_row w c 0 _ _ _ h).trans rfl,(cell_of_row w c 1 _ _ _ h).trans rfl,(cell_of_row w c 2 _ _ _ h).trans rfl,(cell_of_row w c 3 _ _ _ h).trans rfl,(cell_of_row w c 4 _ _ _ h).trans rfl,(cell_of_row w c 5 _ _ _ h).trans rfl⟩
theorem PlV.cells (H:PlV w base col i p P):w.cell? ⟨p,0,none⟩=some (ptv P.d)∧w.cell? ⟨p,1,none⟩=some (ptv P.n)∧w.cell? ⟨p,2,none⟩=some (ptv P.k)∧w.cell? ⟨p,3,none⟩=some P.vj:=four_cells H.box
end
end Go.Proofs.YtgmkckjedngkdaaGreatDoor
namespace Go.Proofs.YtgmkckjedngkdaaGreatDoor
open Go.ChangeShapes Go.WideShapes Go.ChangeAt Go.RowKit
def SmallC (R:Co):Prop:=R.G.length≤900∧∀ g ∈ R.G,g.L.length≤1500
set_option maxRecDepth 100000 in
set_option maxHeartbeats 1600000 in
theorem jon_any {w:World} {base b:Nat} {X:Nat→Prop} {R:Co} (h:CoB w base b X R) (m:Mg) (hm:m.rd w) (hmx:∀ a,m.A=some a→m.L ≠ []→¬ X a.block) (hml:m.L.length≤1500) (k:CoK R) (hs:SmallC R) :
 Calls Tryz.prog 420 #[.agg #[ptv b],m.val] w fun e w'=>e=.returned (.slice none 0 0)∧CoB w' base b (Xn X w w') (conR R m)∧Sets X w w':=by
 have hbl:base≤w.heap.size:=by have:=h.xs b h.xb;omega
 obtain ⟨w0,hw0⟩:∃ w0,(w.alloc (.cells #[ptv b] 116)).alloc (.cells #[.int .i64 m.k,.int .i64 m.f,.int .i64 m.t,.int .u64 m.id,.int .u64 m.n,.slice m.A m.L.length m.c] 33)=w0:=⟨_,rfl⟩
 have hb0:Below w.heap.size w w0:=by rw [← hw0];exact below_alloc (below_alloc (Below.refl w.heap.size w) _) _
 have hz2:w0.heap[w.heap.size]? = some (.cells #[ptv b] 116 (0,0)):=by rw [← hw0];exact (Below.heap_alloc _ _ _ (by simp)).trans (heap_alloc_new w _)
 have hz3:w0.heap[w.heap.size+1]? = some (.cells #[.int .i64 m.k,.int .i64 m.f,.int .i64 m.t,.int .u64 m.id,.int .u64 m.n,.slice m.A m.L.length m.c] 33 (0,0)):=by
  have:=heap_alloc_new (w.alloc (.cells #[ptv b] 116)) (.cells #[.int .i64 m.k,.int .i64 m.f,.int .i64 m.t,.int .u64 m.id,.int .u64 m.n,.slice m.A m.L.length m.c] 33)
  rw [hw0,World.size_alloc] at this
  exact this
 obtain ⟨g2,hg2⟩:∃ g,w.heap.size=g:=⟨_,rfl⟩
 rw [hg2] at hz2 hz3
 have lg3:g2+1 < w0.heap.size:=(Array.getElem?_eq_some_iff.1 hz3).1
 have b2:=box_cell hz2
 obtain ⟨m0,m1,m2,m3,m4,m5⟩:=six_cells hz3
 have h0:=h.sets (S:=fun _=>False) (Sets.of hb0) (fun _ _=>id)
 have hgl:(gotC R m).G.length≤1000∧∀ g ∈ (gotC R m).G,g.L.length≤1000000:=by
  unfold gotC
  split
  ·refine ⟨by simp only [List.length_append,List.length_singleton];have:=hs.1;omega,fun g hg=>?_⟩
   rcases List.mem_append.1 hg with e | e
   ·have:=hs.2 g e;omega
   ·rw [List.mem_singleton] at e;subst e;show m.L.length≤_;omega
  ·exact ⟨by have:=hs.1;omega,fun g hg=>by have:=hs.2 g hg;omega⟩
 have hcon:=con_at h0.o m (hm.below hb0) hmx (by omega) k (fun _ _ _=>citems_any hgl.1 hgl.2)
 unfold Mg.val at hcon ⊢
 have HCON:=hide hcon
 have HB0:=hide hb0
 have HW0:=hide hw0
 have HG2:=hide hg2
 have HBL:=hide hbl
 have HXS:=hide h.xs
 have HCS:=hide (show (cutW w0 base).heap.size=base from cutW_size (Nat.le_trans hbl hb0.size))
 clear h hm hmx hml k hs hb0 hz2 hz3 hw0 hg2 h0 hgl hcon hbl
 go_enter Tryz.func420,Tryz.ntmps420
 go_upto_region 1 with fail
 rw [HW0.out,HG2.out]
 go_wp2_with ((with_reducible refine (HCON.out).mono ?_);rintro e w1 ⟨rfl,hc,hk⟩;have HC:=hide hc;have HK:=hide hk;clear hc hk)
 go_ret
 have hsx:Sets X w w1:=(Sets.of (S:=X) HB0.out).trans HK.out (fun _ _ e=>e)
 refine ⟨rfl,(HC.out.b (by rw [HCS.out];exact Nat.le_refl _)).wide (fun g e=>e.imp (fun h=>h) (fun e=>⟨Nat.le_trans HB0.out.size e.1,e.2⟩)) (fun g e=>?_),hsx⟩
 rcases e with e | e
 ·exact ⟨(HXS.out g e).1,Nat.lt_of_lt_of_le (HXS.out g e).2 hsx.size⟩
 ·exact ⟨Nat.le_trans HBL.out e.1,e.2⟩
set_option maxRecDepth 100000 in
set_option maxHeartbeats 1600000 in
theorem del1_any {w:World} {base b g5:Nat} {X:Nat→Prop} {R:Co} (h:CoB w base b X R) (m:Mg) (h5:w.heap[g5]? = some (.cells #[.int .i64 m.k,.int .i64 m.f,.int .i64 m.t,.int .u64 m.id,.int .u64 m.n,.slice m.A m.L.length m.c] 33 (0,0))) (hm:m.rd w) (hmx:∀ a,m.A=some a→m.L ≠ []→¬ X a.block) (hml:m.L.length≤1500) (k:CoK R) (hs:SmallC R) :
 Calls Tryz.prog 113 #[jobV b,.pointer (some ⟨g5,0,none⟩)] w fun e w'=>e=.returned (.slice none 0 0)∧CoB w' base b (Xn X w w') (conR R m)∧Sets X w w':=by
 obtain ⟨m0,m1,m2,m3,m4,m5⟩:=six_cells h5
 have hcon:=jon_any h m hm hmx hml k hs
 unfold Mg.val at hcon
 have HCON:=hide hcon
 unfold jobV
 clear h hm hmx hml k hs hcon h5
 go_enter Tryz.func113,Tryz.ntmps113
 go_wp2_with ((with_reducible refine (HCON.out).mono ?_);rintro e w1 ⟨rfl,hc,hk⟩;have HC:=hide hc;have HK:=hide hk;clear hc hk)
 go_ret
 exact ⟨rfl,HC.out,HK.out⟩
end Go.Proofs.YtgmkckjedngkdaaGreatDoor
namespace Go.Proofs.YtgmkckjedngkdaaGreatDoor
open Go.ChangeShapes Go.WideShapes Go.ChangeAt Go.RowKit
theorem jobs_one {w:World} {base:Nat} {v x:Value} (h:OwnL (one1 (fun v:Value=>v)) 1 192 base w v [x]):∃ g c,v=.slice (some ⟨g,0,none⟩) 1 c∧g < w.heap.size∧w.cell? ⟨g,0,none⟩=some x:=by
 rcases h.2 with ⟨_,h0⟩ | ⟨g,cap,cur,he,hb,hg,hnc,hcm,hcs,htk⟩
 ·cases h0
 refine ⟨g,cap,he,(Array.getElem?_eq_some_iff.1 hg).1,(cell_of_row w g 0 _ _ _ hg).trans ?_⟩
 have h2:=congrArg (fun l=>l[0]?) htk
 simpa using h2
theorem jobs_none {w:World} {base:Nat} {v:Value} (h:OwnL (one1 (fun v:Value=>v)) 1 192 base w v []):∃ A c,v=.slice A 0 c:=by
 obtain ⟨A,c,e,_⟩:=OwnL.row (cells:=one1 (fun v:Value=>v)) (sz:=1) (fun _=>rfl) h
 exact ⟨A,c,e⟩
theorem place_put {w:World} {g:Nat} {d0 d1 d2 d3:Value} {t:TypeId} (h:w.heap[g]? = some (.cells #[d0,d1,d2,d3] t (0,0))) (v:Value):(w.setCell ⟨g,3,none⟩ v).heap[g]? = some (.cells #[d0,d1,d2,v] t (0,0)):=by
 simp [World.setCell,Array.getElem?_modify,h]
set_option maxRecDepth 100000 in
set_option maxHeartbeats 1600000 in
theorem each_none {w:World} {base:Bs} {c i p:Nat} {col:Nat→Nat} {a:Cl} {P:Pl} (H:CluV w base c col a) (hp:a.ps[i]? = some p) (hP:a.P[i]? = some P) (hu:P.up=true) (hj:P.job=none) (f:Value) :
 Calls Tryz.prog 112 #[ptv c,ptv p,f] w fun e w'=>e=.returned (.tuple #[])∧∃ col',CluV w' base c col' { a with P:=a.P.set i { P with vj:=P.vj,job:=none } }∧Bek base w w':=by
 have hv:=H.pl i p P hp hP hu
 have hjb:=hv.jobs
 rw [hj] at hjb
 obtain ⟨A,cj,hvj⟩:=jobs_none hjb
 have c3:=hv.cells.2.2.2
 rw [hvj] at c3
 have hpl:p < w.heap.size:=(H.ok p (by rw [hv.cp];omega)).2
 have HDL:=hide (jdel_none A cj (.func (.func 179) #[] #[]) w)
 have HH:=hide H
 have HV:=hide hv
 have HVJ:=hide hvj
 have HP:=hide hp
 have HPP:=hide hP
 have HU_:=hide hu
 clear hu
 have HJB:=hide hjb
 clear H hv hjb hvj hp hP hj
 go_enter Tryz.func112,Tryz.ntmps112
 go_wp2_with fail
 go_loopw [15] (fun i wr=>i=.int .i64 0∧wr=w) (fun _ _=>0)
 case atStart=>exact ⟨rfl,rfl⟩
 case round =>
  obtain ⟨rfl,rfl⟩:=hrel
  go_wp2_with ((with_reducible refine (HDL.out).mono ?_);rintro e w1 ⟨rfl,hg1⟩;have hz1:=(hg1.block p hpl).trans HV.out.box;rw [HVJ.out] at hz1;obtain ⟨_,_,_,d3⟩:=four_cells hz1;have z3:w1.frozen? ⟨p,3,none⟩=false:=(by simp [World.frozen?,hz1]);have HZ1:=hide hz1;have HG1:=hide hg1;clear hg1 hz1 c3)
  go_end0
  have hs:=sets1 w1 p 3 (.slice A 0 cj)
  have hb:=place_put HZ1.out (.slice A 0 cj)
  have hvp:base.n≤p∧¬ base.K p:=(HH.out.ok p (by rw [HV.out.cp];omega)).1
  have h1:=HH.out.below HG1.out
  have hj:=(h1.pl i p P HP.out HPP.out HU_.out).jobs
  have hown:OwnL (one1 (fun v:Value=>v)) 1 192 base (w1.setCell ⟨p,3,none⟩ (.slice A 0 cj)) P.vj []:=OwnL.sets (OwnL.below HJB.out HG1.out) hs (fun g hg e=>by
   have h2:=HV.out.cj g hg
   have h3:=HV.out.cp
   rw [e] at h2
   omega)
  have hJ:=h1.jobs (job':=none) (vj':=P.vj) HP.out HPP.out HU_.out ⟨hs.os,hs.tape,hs.output,hs.size,fun g hg hn=>hs.block g hg (fun e=>hn (.inl e))⟩ (by rw [HVJ.out];exact hb) hown (fun g hg=>.inl hg) (fun x hx=>by cases hx)
  exact ⟨rfl,_,hJ,Sets.bek (HH.out.bek HG1.out) hs (fun b e=>by rw [e];exact hvp) (HH.out.bl.up HG1.out.size)⟩
def endJ (b:Nat) (R:Co):Option (Nat × Co):=if R.dn=true then none else some (b,R)
theorem endJ_no {b:Nat} {R:Co} (h:R.dn=false):endJ b R=some (b,R):=by unfold endJ;rw [h];rfl
theorem endJ_yes {b:Nat} {R:Co} (h:R.dn=true):endJ b R=none:=by unfold endJ;rw [h];rfl
def AnC (R:Co) (la:Option Addr) (lc:Nat):An:=⟨R.aid,R.ack,R.acs,R.act,R.acv,R.ae,R.av,la,R.AL.length,lc⟩
def AddA (R:Co) (AL AL':List (An × List It)):Prop:=(R.dn=false∧AL'=AL) ∨ (R.dn=true∧∃ la lc,AL'=AL ++ [(AnC R la lc,R.AL)])
theorem CluV.behind {w w':World} {base:Bs} {c j:Nat} {col:Nat→Nat} {a:Cl} (H:CluV w base c col a) {B:World} (hb:Bek base B w) (hs:Sets (fun g=>col g=j) w w') (hj:j ≠ 0):Bek base B w' :=
 Sets.bek hb hs (fun g e=>(H.ok g (by rw [e];exact hj)).1) H.bl
theorem set_at {L:List Pl} {i:Nat} {P Q:Pl} (h:L[i]? = some P):(L.set i Q)[i]? = some Q:=by
 rw [List.getElem?_eq_some_iff] at h
 exact List.getElem?_set_self h.1
set_option maxRecDepth 100000 in
set_option maxHeartbeats 6400000 in
theorem each_do {w:World} {base:Bs} {c i p b:Nat} {col:Nat→Nat} {a:Cl} {P:Pl} {R:Co} (H:CluV w base c col a) (hp:a.ps[i]? = some p) (hP:a.P[i]? = some P) (hu:P.up=true) (hj:P.job=some (b,R)) (F:FuncId) (caps:Array Value) (hcf:Enters Tryz.prog F) (Mb:List Mg) (R1:Co)
 (hdel:Calls Tryz.prog F (#[jobV b] ++ caps) w fun e w'=>∃ v Ms,e=.returned v∧MsR w' (fun g=>w.heap.size≤g) v Ms∧Ms.map Mg.bare=Mb∧CoB w' base b (Xn (fun g=>col g=14+5 * i) w w') R1∧Sets (fun g=>col g=14+5 * i) w w')
 (hok:∀ x ∈ Mb,mokB x=true) (hal:R1.AL.length≤1099511627776) (hAL:a.AL.length≤1000) (hC:a.C.length+Mb.length≤300) (hse:0≤a.se∧a.se≤549755813888) :
 Calls Tryz.prog 112 #[ptv c,ptv p,.func (.func F) #[] caps] w fun e w'=>e=.returned (.tuple #[])∧∃ col' rb' va' vj' AL',CluV w' base c col' { a with P:=a.P.set i { P with vj:=vj',job:=endJ b R1 },rb:=rb',C:=a.C ++ Mb,se:=a.se+Mb.length,va:=va',AL:=AL' }∧AddA R1 a.AL AL'∧Bek base w w':=by
 have hv:=H.pl i p P hp hP hu
 have hjb:=hv.jobs
 rw [hj] at hjb
 obtain ⟨gj,cj,hvj,hgj,hcj⟩:=jobs_one hjb
 have c3:=hv.cells.2.2.2
 rw [hvj] at c3
 have hpl:p < w.heap.size:=(H.ok p (by rw [hv.cp];omega)).2
 have hnb:∀ g,w.heap.size≤g→¬ NBlk a.nb a.rb g:=fun g h e=>by
  have h1:=H.cn g e
  have h2:=(H.ok g (by rw [h1];omega)).2
  omega
 have HNB:=hide hnb
 have HDEL:=hide hdel
 have HOK:=hide hok
 have HH:=hide H
 have HV:=hide hv
 have HVJ:=hide hvj
 have HP:=hide hp
 have HPP:=hide hP
 have HU_:=hide hu
 have HJ:=hide hj
 have HAL1:=hide hal
 have HAL:=hide hAL
 have HCC:=hide (And.intro hC hse)
 have hcj2:=hcj
 unfold jobV at hcj2 HDEL
 unfold Enters at hcf
 clear H hv hjb hvj hp hP hj hal hAL hC hse hdel hcj hu hok hnb
 go_enter Tryz.func112,Tryz.ntmps112
 go_wp2_with fail
 go_loopw [15] (fun ix wr=>(ix=.int .i64 0∧wr=w) ∨ (ix=.int .i64 1∧∃ col1 rb1 va1 AL1,CluV wr base c col1 { a with P:=a.P.set i { P with job:=some (b,R1) },rb:=rb1,C:=a.C ++ Mb,se:=a.se+Mb.length,va:=va1,AL:=AL1 }∧AddA R1 a.AL AL1∧Bek base w wr)) (fun ix _=>2 - (intOf ix).toNat)
 case atStart=>exact .inl ⟨rfl,rfl⟩
 case round =>
  rcases hrel with ⟨rfl,rfl⟩ | ⟨rfl,col1,rb1,va1,AL1,hH,hA,hB⟩
  ·cases hdn:R1.dn
   ·have HDF:=hide hdn
    clear hdn
    go_wp2_with (first
       | ((with_reducible refine (HSND.out).mono ?_);rintro e w2 ⟨rfl,rb2,hn2,hs2,hm2⟩;rw [HMB.out,HML.out] at hn2;have HH2:=hide (HH1.out.netted hs2 hm2 hn2);have HB2:=hide (Sets.bek HB1.out hs2 (fun g e=>(HH1.out.ok g (by rw [HH1.out.cn g e];omega)).1) HH1.out.bl);have HDN:=hide (cdone_any ((HH2.out.pl i p _ HP.out (set_at HPP.out) HU_.out).job _ rfl).o HAL1.out);rw [HDF.out] at HDN;clear hn2 hs2 hm2 HSND)
       | ((with_reducible refine (HDN.out).mono ?_);rintro e w3 ⟨v3,rfl,ho3,hg3⟩;obtain ⟨A3,c3',rfl,hr3,hb3,hc3,hm3⟩:=OwnL.row It.cells_len ho3;have HH3:=hide (HH2.out.below hg3);have HR3:=hide (And.intro hr3 (And.intro hc3 hm3));have HN3:=hide hb3;have HB3:=hide (HB2.out.trans (HH2.out.bek hg3));clear ho3 hg3 hr3 hb3 hc3 hm3 HDN)
       | (refine (Calls.mono HDEL.out ?_);rintro e w1 ⟨v1,Ms,rfl,hm1,hmb,hc1,hk1⟩;obtain ⟨A1,cc1,rfl,_⟩:=hm1.row;have HMB:=hide hmb;have hml:Ms.length=Mb.length:=(by rw [← hmb,List.length_map]);have HML:=hide hml;have HH1:=hide (HH.out.call HPP.out HU_.out HJ.out hk1 hc1);have HB1:=hide (HH.out.behind (Bek.refl _ _) hk1 (by omega));have HSND:=hide (csnd_any HH1.out.cells.2.2.2.1 HH1.out.cells.1 (fun e=>by have h1:=HH1.out.cn c e;have h2:=HH1.out.cc;omega) HH1.out.net _ Ms hm1 (fun g h _=>HNB.out g h) (fun x hx=>by rw [mokB_same (bare_same x)];exact HOK.out _ (by rw [← HMB.out];exact List.mem_map_of_mem hx)) (by show a.C.length+Ms.length≤300;rw [HML.out];exact HCC.out.1) (by omega) HCC.out.2);clear hm1 hc1 hk1 hmb hml))
    go_roundw
    case rel=>exact .inr ⟨by go_num,_,rb2,a.va,a.AL,HH3.out.below (below_alloc (Below.refl _ _) _),.inl ⟨HDF.out,rfl⟩,HB3.out.trans (HH3.out.bek (below_alloc (Below.refl _ _) _))⟩
    case measure=>simp [intOf]
   ·have HDF:=hide hdn
    clear hdn
    go_upto_region 6 with (first
       | ((with_reducible refine (HSND.out).mono ?_);rintro e w2 ⟨rfl,rb2,hn2,hs2,hm2⟩;rw [HMB.out,HML.out] at hn2;have HH2:=hide (HH1.out.netted hs2 hm2 hn2);have HB2:=hide (Sets.bek HB1.out hs2 (fun g e=>(HH1.out.ok g (by rw [HH1.out.cn g e];omega)).1) HH1.out.bl);have HDN:=hide (cdone_any ((HH2.out.pl i p _ HP.out (set_at HPP.out) HU_.out).job _ rfl).o HAL1.out);rw [HDF.out] at HDN;clear hn2 hs2 hm2 HSND)
       | ((with_reducible refine (HDN.out).mono ?_);rintro e w3 ⟨v3,rfl,ho3,hg3⟩;obtain ⟨A3,c3',rfl,hr3,hb3,hc3,hm3⟩:=OwnL.row It.cells_len ho3;have HH3:=hide (HH2.out.below hg3);have HR3:=hide (And.intro hr3 (And.intro hc3 hm3));have HN3:=hide hb3;have HB3:=hide (HB2.out.trans (HH2.out.bek hg3));clear ho3 hg3 hr3 hb3 hc3 hm3 HDN)
       | (refine (Calls.mono HDEL.out ?_);rintro e w1 ⟨v1,Ms,rfl,hm1,hmb,hc1,hk1⟩;obtain ⟨A1,cc1,rfl,_⟩:=hm1.row;have HMB:=hide hmb;have hml:Ms.length=Mb.length:=(by rw [← hmb,List.length_map]);have HML:=hide hml;have HH1:=hide (HH.out.call HPP.out HU_.out HJ.out hk1 hc1);have HB1:=hide (HH.out.behind (Bek.refl _ _) hk1 (by omega));have HSND:=hide (csnd_any HH1.out.cells.2.2.2.1 HH1.out.cells.1 (fun e=>by have h1:=HH1.out.cn c e;have h2:=HH1.out.cc;omega) HH1.out.net _ Ms hm1 (fun g h _=>HNB.out g h) (fun x hx=>by rw [mokB_same (bare_same x)];exact HOK.out _ (by rw [← HMB.out];exact List.mem_map_of_mem hx)) (by show a.C.length+Ms.length≤300;rw [HML.out];exact HCC.out.1) (by omega) HCC.out.2);clear hm1 hc1 hk1 hmb hml))
    have hz8:=heap_alloc_new w3 (.cells #[.int .u64 R1.aid,.int .i64 R1.ack,.int .i64 R1.acs,.int .u64 R1.act,.int .i64 R1.acv,.int .i64 R1.ae,.int .u64 R1.av,.slice A3 R1.AL.length c3'] 50)
    have hb4:=below_alloc (Below.refl w3.heap.size w3) (.cells #[.int .u64 R1.aid,.int .i64 R1.ack,.int .i64 R1.acs,.int .u64 R1.act,.int .i64 R1.acv,.int .i64 R1.ae,.int .u64 R1.av,.slice A3 R1.AL.length c3'] 50)
    obtain ⟨w4,hw4⟩:∃ w4,w3.alloc (.cells #[.int .u64 R1.aid,.int .i64 R1.ack,.int .i64 R1.acs,.int .u64 R1.act,.int .i64 R1.acv,.int .i64 R1.ae,.int .u64 R1.av,.slice A3 R1.AL.length c3'] 50)=w4:=⟨_,rfl⟩
    rw [hw4] at hz8 hb4 ⊢
    obtain ⟨g8,hg8⟩:∃ g,w3.heap.size=g:=⟨_,rfl⟩
    rw [hg8] at hz8 ⊢
    have HH4:=hide (HH3.out.below hb4)
    have HB4:=hide (HB3.out.trans (HH3.out.bek hb4))
    have HI4:=hide (HR3.out.1.below hb4)
    have HG8:=hide hg8
    have lg8:=(Array.getElem?_eq_some_iff.1 hz8).1
    obtain ⟨Av,cv,hva,_,_,_,_⟩:=OwnL.row An.cells_len HH4.out.ans
    obtain ⟨nv,hnv⟩:∃ n,(a.AL.map Prod.fst).length=n:=⟨_,rfl⟩
    have hva2:a.va=.slice Av nv cv:=by rw [← hnv];exact hva
    have HVA:=hide hva2
    have HNV:=hide hnv
    have HOV:Hid (OwnL An.cells 8 50 base w4 (.slice Av nv cv) (a.AL.map Prod.fst)):=hide (by rw [← hva2];exact HH4.out.ans)
    have HCL:=hide HH4.out.cells.1
    have HVC:Hid ((Value.slice Av nv cv).ownBlock ≠ some c):=hide (fun e=>by
     rw [← hva2] at e
     have h1:=HH4.out.ca c e
     have h2:=HH4.out.cc
     omega)
    have HC:Hid (∀ W:World,Below w4.heap.size w4 W→W.cell? ⟨c,4,none⟩=some (.slice Av nv cv)∧W.cell? ⟨g8,0,none⟩=some (.int .u64 R1.aid)∧W.cell? ⟨g8,1,none⟩=some (.int .i64 R1.ack)∧W.cell? ⟨g8,2,none⟩=some (.int .i64 R1.acs)∧W.cell? ⟨g8,3,none⟩=some (.int .u64 R1.act)∧W.cell? ⟨g8,4,none⟩=some (.int .i64 R1.acv)∧W.cell? ⟨g8,5,none⟩=some (.int .i64 R1.ae)∧W.cell? ⟨g8,6,none⟩=some (.int .u64 R1.av)∧W.cell? ⟨g8,7,none⟩=some (.slice A3 R1.AL.length c3')):=hide (fun W hW=>by
     have hz:=(hW.block g8 lg8).trans hz8
     have hc4:=HH4.out.cells.2.2.2.2.2.1
     exact ⟨(keep_cell hW hc4 HH4.out.cells.1).trans (by show some a.va=_;rw [hva2]),(cell_of_row W g8 0 _ _ _ hz).trans rfl,(cell_of_row W g8 1 _ _ _ hz).trans rfl,(cell_of_row W g8 2 _ _ _ hz).trans rfl,(cell_of_row W g8 3 _ _ _ hz).trans rfl,(cell_of_row W g8 4 _ _ _ hz).trans rfl,(cell_of_row W g8 5 _ _ _ hz).trans rfl,(cell_of_row W g8 6 _ _ _ hz).trans rfl,(cell_of_row W g8 7 _ _ _ hz).trans rfl⟩)
    obtain ⟨ud,hud⟩:∃ ud,w4.drew=ud:=⟨_,rfl⟩
    have HUD:Hid (Below w4.heap.size w4 ud):=hide (by rw [← hud];exact (Below.refl _ _).drew)
    clear hz8 hb4 hw4 hg8 lg8 hva hva2 hnv
    refine j_start [7,8,9,10,0] (by kernel_rfl) ?_
    rw [hud]
    clear hud
    refine' j_tw 0 rfl (by kernel_rfl) rfl ?y0e ?r0e
    case y0e=>(intro w' hw';go_simp;try with_reducible rfl)
    try go_frame
    refine' j_t 1 [2,3,4,7,8,9,10] rfl (by kernel_rfl) rfl ?y1e ?r1e
    case y1e=>(intro w' hw';go_simp;try with_reducible rfl)
    try go_frame
    refine' j_t 2 [3,4,7,8,9,10] rfl (by kernel_rfl) rfl ?y2e ?r2e
    case y2e=>(intro w' hw';go_simp;try with_reducible rfl)
    try go_frame
    refine' j_t 3 [4,7,8,9,10] rfl (by kernel_rfl) rfl ?y3e ?r3e
    case y3e=>(intro w' hw';go_simp;try with_reducible rfl)
    try go_frame
    refine' j_t 4 [7,8,9,10] rfl (by kernel_rfl) rfl ?y4e ?r4e
    case y4e=>(intro w' hw';obtain ⟨q4,y0,y1,y2,y3,y4,y5,y6,y7⟩:=HC.out _ (below_step HUD.out hw');go_simp;try with_reducible rfl)
    try go_frame
    refine' j_t 5 [6,7,8,9,10] rfl (by kernel_rfl) rfl ?y5e ?r5e
    case y5e=>(intro w' hw';obtain ⟨q4,y0,y1,y2,y3,y4,y5,y6,y7⟩:=HC.out _ (below_step HUD.out hw');go_simp;try with_reducible rfl)
    try go_frame
    refine' wpAnyJ_step (i:=6) (o:=_) (by kernel_rfl) ?ho6e (fun KK hK=>?step6e)
    case ho6e=>(simp only [List.getElem?_toArray,List.getElem?_cons_succ,List.getElem?_cons_zero];rfl)
    go_simp
    have ha:=below_alloc (Below.refl ud.heap.size ud) (.cells #[.int .u64 R1.aid,.int .i64 R1.ack,.int .i64 R1.acs,.int .u64 R1.act,.int .i64 R1.acv,.int .i64 R1.ae,.int .u64 R1.av,.slice A3 R1.AL.length c3'] 50)
    have HN:=hide (RowAt.new_one (cells:=An.cells) (sz:=8) (y:=AnC R1 A3 c3') (heap_alloc_new ud (.cells #[.int .u64 R1.aid,.int .i64 R1.ack,.int .i64 R1.acs,.int .u64 R1.act,.int .i64 R1.acv,.int .i64 R1.ae,.int .u64 R1.av,.slice A3 R1.AL.length c3'] 50)))
    have HGA:Hid (Below w4.heap.size w4 (ud.alloc (.cells #[.int .u64 R1.aid,.int .i64 R1.ack,.int .i64 R1.acs,.int .u64 R1.act,.int .i64 R1.acv,.int .i64 R1.ae,.int .u64 R1.av,.slice A3 R1.AL.length c3'] 50))):=hide (below_step HUD.out ha)
    refine hK.out _ _ ha (j_switch ha ?_)
    clear hK KK ha
    try go_frame
    refine' wpAnyJ_last (i:=7) (o:=_) (by kernel_rfl) ?ho7e (by kernel_rfl) (fun KK hK=>?step7e)
    case ho7e=>(simp only [List.getElem?_toArray,List.getElem?_cons_succ,List.getElem?_cons_zero];rfl)
    have hua:=HGA.out.size
    refine step_app_row rfl (.tmp 34) (.tmp 36) 58 50 _ 8 80 rfl Tryz.underlying58 Tryz.infoAnsw rfl (by omega) An.cells_len An.cells_one (by omega) base (.slice Av nv cv) (a.AL.map Prod.fst) rfl (OwnL.below HOV.out HGA.out) (some ⟨ud.heap.size,0,none⟩) 1 1 [AnC R1 A3 c3'] rfl rfl HN.out (by have:=HAL.out;simp only [List.length_map];omega) (Nat.le_trans HH4.out.bl.1 hua) ?_
    intro v7 w7 ho7 hg7 hm7
    obtain ⟨A7,c7,rfl,hr7,_,hc7,hcm7⟩:=OwnL.row An.cells_len ho7
    have hbx7:=(hg7.block c (Nat.lt_of_lt_of_le HCL.out hua) (fun e=>HVC.out e.symm)).trans ((HGA.out.block c HCL.out).trans HH4.out.box)
    have k4:w7.cell? ⟨c,4,none⟩=some (.slice Av nv cv):=(cell_of_row w7 c 4 _ _ _ hbx7).trans (by show some a.va=_;rw [HVA.out])
    have z4:w7.frozen? ⟨c,4,none⟩=false:=by simp [World.frozen?,hbx7]
    have HBX7:=hide hbx7;have HO7:=hide ho7;have HG7:=hide hg7;have HM7:=hide hm7
    clear hbx7 ho7 hg7 hm7 hr7 hua
    refine hK.out _ _ ?_
    clear hK KK
    try go_frame
    refine' wpAnyJ_last (i:=8) (o:=_) (by kernel_rfl) ?ho8e (by kernel_rfl) (fun KK hK=>?step8e)
    case ho8e=>(simp only [List.getElem?_toArray,List.getElem?_cons_succ,List.getElem?_cons_zero];rfl)
    go_simp
    refine hK.out _ _ ?_
    clear hK KK
    try go_frame
    refine' wpAnyJ_last (i:=9) (o:=_) (by kernel_rfl) ?ho9e (by kernel_rfl) (fun KK hK=>?step9e)
    case ho9e=>(simp only [List.getElem?_toArray,List.getElem?_cons_succ,List.getElem?_cons_zero];rfl)
    go_simp
    refine hK.out _ _ ?_
    clear hK KK
    try go_frame
    refine' wpAnyJ_last (i:=10) (o:=_) (by kernel_rfl) ?ho10e (by kernel_rfl) (fun KK hK=>?step10e)
    case ho10e=>(simp only [List.getElem?_toArray,List.getElem?_cons_succ,List.getElem?_cons_zero];rfl)
    go_simp
    refine hK.out _ _ ?_
    clear hK KK
    try go_frame
    refine wpAnyJ_done (by kernel_rfl) ?_ _
    refine NoPanic.normal ?_
    have hl7:(a.AL.map Prod.fst ++ [AnC R1 A3 c3']).length=a.AL.length+1:=by simp
    have hbx7:=HBX7.out
    have ho7:=HO7.out
    have hm7:=HM7.out
    rw [hl7] at ho7 hm7
    have hsA:Sets (fun g=>g=c ∨ a.va.ownBlock=some g) w4 w7:=(Sets.of (S:=fun g=>g=c ∨ a.va.ownBlock=some g) HGA.out).trans (Sets.grown HG7.out) (fun g _ e=>.inr (by rw [HVA.out];exact e))
    have hs8:Sets (fun g=>g=c ∨ a.va.ownBlock=some g) w4 (w7.setCell ⟨c,4,none⟩ (.slice A7 (a.AL.length+1) c7)):=hsA.set (fun _=>.inl rfl) 4 _
    have hne7:(Value.slice A7 (a.AL.length+1) c7).ownBlock ≠ some c:=fun e=>by
     rcases hm7 with h | h
     ·rw [e] at h;exact HVC.out h.symm
     ·rw [e] at h
      have h2:=Option.some.inj h
      have h3:=HCL.out
      have h4:=HGA.out.size
      omega
    have hz0:∀ g,w2.heap.size≤g→∀ {k:Nat→Nat},ColOk w2 base k→k g=0:=fun g hg k hk=>by
     by_cases h:k g=0
     ·exact h
     ·have:=(hk g h).2;omega
    have hA:=HH4.out.answered (va':=.slice A7 (a.AL.length+1) c7) (AL':=a.AL ++ [(AnC R1 A3 c3',R1.AL)]) hs8 (by simp [World.setCell,Array.getElem?_modify,hbx7]) (by rw [List.map_append];exact OwnL.setFar ho7 hne7 _) (fun g hg=>by
     rcases hm7 with h | h
     ·exact .inl (by show a.va.ownBlock=some g;rw [HVA.out,← h];exact hg)
     ·rw [hg] at h
      have h2:=Option.some.inj h
      have h4:=HGA.out.size
      exact .inr (by omega)) (fun x hx=>by
     rcases List.mem_append.1 hx with h | h
     ·exact HH4.out.its x h
     ·rw [List.mem_singleton] at h
      subst h
      refine ⟨rfl,HI4.out,HR3.out.2.1,HR3.out.2.2,fun ad ha hn=>hz0 _ ?_ HH2.out.ok⟩
      obtain ⟨ab,ao,sp⟩:=ad
      exact (HN3.out ab ao sp ha).1)
    have hB8:Bek base wr (w7.setCell ⟨c,4,none⟩ (.slice A7 (a.AL.length+1) c7)):=Sets.bek HB4.out hs8 (fun g e=>by
     rcases e with e | e
     ·exact (HH4.out.ok g (by rw [e,HH4.out.cc];omega)).1
     ·exact (HH4.out.ok g (by rw [HH4.out.ca g e];omega)).1) HH4.out.bl
    have HAF:=hide hA
    have HBF:=hide hB8
    clear hl7 hbx7 ho7 hm7 hsA hs8 hne7 hz0 hA hB8 k4 z4
    go_wp2_with fail
    go_roundw
    case rel=>exact .inr ⟨by go_num,_,rb2,_,_,HAF.out,.inr ⟨HDF.out,A3,c3',rfl⟩,HBF.out⟩
    case measure=>simp [intOf]
  ·have hv5:=hH.pl i p _ HP.out (set_at HPP.out) HU_.out
   obtain ⟨g9,c9,hv9,hg9,hc9⟩:=jobs_one hv5.jobs
   obtain ⟨rfl,rfl⟩:gj=g9∧cj=c9:=by
    have h1:=HVJ.out
    rw [show P.vj=_ from hv9] at h1
    injection h1 with e1 _ e3
    injection e1 with e1
    injection e1 with e1
    exact ⟨e1.symm,e3.symm⟩
   have hd:=each1_any (hv5.job _ rfl) HAL1.out
   have hlp:p < wr.heap.size:=(hH.ok p (by rw [hv5.cp];omega)).2
   have hpj:gj ≠ p:=fun e=>by
    have h1:=hv5.cj gj (by show P.vj.ownBlock=_;rw [HVJ.out];rfl)
    rw [e,hv5.cp] at h1
    omega
   have k3:=hv5.cells.2.2.2
   rw [show P.vj=_ from HVJ.out] at k3
   have HH5:=hide hH
   have HV5:=hide hv5
   have HAA:=hide hA
   have HBB:=hide hB
   cases hdn:R1.dn
   ·have HDF:=hide hdn
    rw [hdn] at hd
    have HDL:=hide (jdel_stay (c:=cj) hc9 hg9 hd)
    clear hdn hd hH hv5 hA hB hv9 hc9 hg9
    go_wp2_with ((with_reducible refine (HDL.out).mono ?_);rintro e w6 ⟨rfl,hg6⟩;have hz6:=(hg6.block p hlp).trans HV5.out.box;obtain ⟨_,_,_,d3⟩:=four_cells hz6;rw [show P.vj=_ from HVJ.out] at d3;have z3:w6.frozen? ⟨p,3,none⟩=false:=(by simp [World.frozen?,hz6]);have HZ6:=hide hz6;have HG6:=hide hg6;clear hg6 hz6 k3 c3)
    go_end0
    have hs:=sets1 w6 p 3 (.slice (some ⟨gj,0,none⟩) 1 cj)
    have hb:=place_put HZ6.out (.slice (some ⟨gj,0,none⟩) 1 cj)
    have h6:=HH5.out.below HG6.out
    have hown:=OwnL.sets (OwnL.below HV5.out.jobs HG6.out) hs (fun g hg e=>by
     have h2:P.vj.ownBlock=some g:=hg
     rw [HVJ.out] at h2
     have h3:=Option.some.inj h2
     exact hpj (h3.trans e))
    have hJ:=h6.jobs (job':=some (b,R1)) (vj':=P.vj) HP.out (set_at HPP.out) HU_.out ⟨hs.os,hs.tape,hs.output,hs.size,fun g hg hn=>hs.block g hg (fun e=>hn (.inl e))⟩ (by rw [HVJ.out];exact hb) hown (fun g hg=>.inl hg) (fun x hx=>by cases hx;exact (h6.pl i p _ HP.out (set_at HPP.out) HU_.out).job _ rfl)
    simp only [List.set_set] at hJ
    have hvp:base.n≤p∧¬ base.K p:=(HH5.out.ok p (by rw [HV5.out.cp];omega)).1
    rw [← endJ_no HDF.out] at hJ
    exact ⟨rfl,_,rb1,va1,P.vj,AL1,hJ,HAA.out,Sets.bek (HBB.out.trans (HH5.out.bek HG6.out)) hs (fun g e=>by rw [e];exact hvp) h6.bl⟩
   ·have HDF:=hide hdn
    rw [hdn] at hd
    have ho9:=hv5.jobs
    rw [show P.vj=_ from HVJ.out] at ho9
    have HDL:=hide (jdel_done (c:=cj) ho9 hd)
    clear hdn hd hH hv5 hA hB hv9 hc9 hg9 ho9
    go_wp2_with ((with_reducible refine (HDL.out).mono ?_);rintro e w6 ⟨rfl,ho6,hs6⟩;have hz6:=(hs6.block p hlp (fun e=>hpj e.symm)).trans HV5.out.box;obtain ⟨_,_,_,d3⟩:=four_cells hz6;rw [show P.vj=_ from HVJ.out] at d3;have z3:w6.frozen? ⟨p,3,none⟩=false:=(by simp [World.frozen?,hz6]);have HZ6:=hide hz6;have HO6:=hide ho6;have HS6:=hide hs6;clear ho6 hs6 hz6 k3 c3)
    go_end0
    have hs:=sets1 w6 p 3 (.slice (some ⟨gj,0,none⟩) 0 cj)
    have hb:=place_put HZ6.out (.slice (some ⟨gj,0,none⟩) 0 cj)
    have hown:=OwnL.sets HO6.out hs (fun g hg e=>by
     have h3:=Option.some.inj hg
     exact hpj (h3.trans e))
    have hss:Sets (fun g=>g=p ∨ P.vj.ownBlock=some g) wr (w6.setCell ⟨p,3,none⟩ (.slice (some ⟨gj,0,none⟩) 0 cj)):=((Sets.refl (S:=fun g=>g=p ∨ P.vj.ownBlock=some g) wr).trans HS6.out (fun g _ e=>.inr (by rw [HVJ.out,e];rfl))).trans hs (fun g _ e=>.inl e)
    have hJ:=HH5.out.jobs (job':=none) (vj':=.slice (some ⟨gj,0,none⟩) 0 cj) HP.out (set_at HPP.out) HU_.out hss hb hown (fun g hg=>.inl (by show P.vj.ownBlock=_;rw [HVJ.out];exact hg)) (fun x hx=>by cases hx)
    simp only [List.set_set] at hJ
    have hvp:base.n≤p∧¬ base.K p:=(HH5.out.ok p (by rw [HV5.out.cp];omega)).1
    have hvg:base.n≤gj∧¬ base.K gj:=(HH5.out.ok gj (by rw [HV5.out.cj gj (by show P.vj.ownBlock=_;rw [HVJ.out];rfl)];omega)).1
    rw [← endJ_yes (b:=b) HDF.out] at hJ
    exact ⟨rfl,_,rb1,va1,_,AL1,hJ,HAA.out,Sets.bek HBB.out hss (fun g e=>by
     rcases e with e | e
     ·rw [e];exact hvp
     ·rw [HVJ.out] at e
      have h3:=Option.some.inj e
      rw [← h3];exact hvg) HH5.out.bl⟩
theorem Tryz.inDel1:Enters Tryz.prog 113:=fun _ _=>by kernel_rfl
theorem each_one {w:World} {base:Bs} {c i p b g5:Nat} {col:Nat→Nat} {a:Cl} {P:Pl} {R:Co} (H:CluV w base c col a) (hp:a.ps[i]? = some p) (hP:a.P[i]? = some P) (hu:P.up=true) (hj:P.job=some (b,R)) (m:Mg)
 (h5:w.heap[g5]? = some (.cells #[.int .i64 m.k,.int .i64 m.f,.int .i64 m.t,.int .u64 m.id,.int .u64 m.n,.slice m.A m.L.length m.c] 33 (0,0))) (hm:m.rd w) (hmx:∀ ad,m.A=some ad→m.L ≠ []→col ad.block=0) (hml:m.L.length≤1500) (k:CoK R) (hsm:SmallC R)
 (R1:Co) (hR1:conR R m=R1) (hal:R1.AL.length≤1099511627776) (hAL:a.AL.length≤1000) (hC:a.C.length≤300) (hse:0≤a.se∧a.se≤549755813888) :
 Calls Tryz.prog 112 #[ptv c,ptv p,.func (.func 113) #[] #[.pointer (some ⟨g5,0,none⟩)]] w fun e w'=>e=.returned (.tuple #[])∧∃ col' rb' va' vj' AL',CluV w' base c col' { a with P:=a.P.set i { P with vj:=vj',job:=endJ b R1 },rb:=rb',va:=va',AL:=AL' }∧AddA R1 a.AL AL'∧Bek base w w':=by
 have hv:=H.pl i p P hp hP hu
 have hdel:=del1_any (hv.job _ hj) m h5 hm (fun ad ha hn e=>by have:=hmx ad ha hn;omega) hml k hsm
 rw [hR1] at hdel
 refine (each_do H hp hP hu hj 113 #[.pointer (some ⟨g5,0,none⟩)] Tryz.inDel1 [] R1 (hdel.mono ?_) (fun x hx=>by cases hx) hal hAL hC hse).mono ?_
 ·rintro e w' ⟨h1,h2,h3⟩
  exact ⟨_,[],h1,MsR.nil_ _ _ _ _,rfl,h2,h3⟩
 ·rintro e w' ⟨h1,col',rb',va',vj',AL',h2,h3,h4⟩
  rw [List.append_nil,List.length_nil,Int.natCast_zero,Int.add_zero] at h2
  exact ⟨h1,col',rb',va',vj',AL',h2,h3,h4⟩
end Go.Proofs.YtgmkckjedngkdaaGreatDoor
namespace Go.Proofs.YtgmkckjedngkdaaGreatDoor
open Go.ChangeShapes Go.WideShapes Go.ChangeAt Go.RowKit
theorem CluV.at_ {w w':World} {base:Bs} {c i p:Nat} {col:Nat→Nat} {a:Cl} (H:CluV w base c col a) (hb:Below w.heap.size w w') (hp:a.ps[i]? = some p):∃ g off cp,a.vp=.slice (some ⟨g,off,none⟩) a.ps.length cp∧g < w.heap.size∧w'.cell? ⟨g,off+i,none⟩=some (ptv p):=by
 obtain ⟨A,cp,h1,h2,_⟩:=H.row
 have hil:i < a.ps.length:=by
  rw [List.getElem?_eq_some_iff] at hp
  exact hp.1
 obtain ⟨b,off,rfl,hbb,q0⟩:=RowAt.one h2 hb hil
 refine ⟨b,off,cp,h1,hbb,?_⟩
 rw [List.getElem?_eq_getElem hil] at hp
 cases hp
 exact q0
theorem cis_any {w:World} {base:Bs} {c i p:Nat} {col:Nat→Nat} {a:Cl} (H:CluV w base c col a) (hp:a.ps[i]? = some p):Calls Tryz.prog 43 #[ptv c,.int .i64 i] w fun e w'=>e=.returned (.bool true)∧w'=w:=by
 obtain ⟨g,off,cp,hvp,hg,hc⟩:=H.at_ (Below.refl _ _) hp
 have hil:i < a.ps.length:=by
  rw [List.getElem?_eq_some_iff] at hp
  exact hp.1
 have c0:=H.cells.2.1
 rw [hvp] at c0
 have d0:decide (0≤(i:Int))=true:=decide_eq_true (by omega)
 have d1:decide ((i:Int) < (a.ps.length:Int))=true:=decide_eq_true (by omega)
 have f0:(0:Int)≤(i:Int):=by omega
 have f1:(i:Int) < (a.ps.length:Int):=by omega
 clear H hp hvp hc
 go_enter Tryz.func43,Tryz.ntmps43
 go_wp2
 go_ret
 exact ⟨rfl,rfl⟩
theorem cup_any {w:World} {base:Bs} {c i p:Nat} {col:Nat→Nat} {a:Cl} {P:Pl} (H:CluV w base c col a) (hp:a.ps[i]? = some p) (hP:a.P[i]? = some P) (hu:P.up=true):Calls Tryz.prog 18 #[ptv c,.int .i64 i] w fun e w'=>e=.returned (.bool true)∧w'=w:=by
 obtain ⟨g,off,cp,hvp,hg,hc⟩:=H.at_ (Below.refl _ _) hp
 have hil:i < a.ps.length:=by
  rw [List.getElem?_eq_some_iff] at hp
  exact hp.1
 have c0:=H.cells.2.1
 rw [hvp] at c0
 have k1:=(H.pl i p P hp hP hu).cells.2.1
 have HI:=hide (cis_any H hp)
 have f0:(0:Int)≤(i:Int):=by omega
 have f1:(i:Int) < (a.ps.length:Int):=by omega
 clear H hp hvp hP hu
 go_enter Tryz.func18,Tryz.ntmps18
 go_wp2_with ((with_reducible refine (HI.out).mono ?_);rintro e w1 ⟨rfl,rfl⟩)
 go_ret
 exact ⟨rfl,rfl⟩
theorem cmay_any {w:World} {base:Bs} {c i p:Nat} {col:Nat→Nat} {a:Cl} {P:Pl} (H:CluV w base c col a) (hp:a.ps[i]? = some p) (hP:a.P[i]? = some P) (hu:P.up=true):Calls Tryz.prog 45 #[ptv c,.int .i64 i] w fun e w'=>e=.returned (.int .i64 0)∧w'=w:=by
 obtain ⟨g,off,cp,hvp,hg,hc⟩:=H.at_ (Below.refl _ _) hp
 have hil:i < a.ps.length:=by
  rw [List.getElem?_eq_some_iff] at hp
  exact hp.1
 have c0:=H.cells.2.1
 rw [hvp] at c0
 have hv:=H.pl i p P hp hP hu
 have k3:=hv.cells.2.2.2
 have hjl:∃ A n cj,P.vj=.slice A n cj∧n≤1:=by
  obtain ⟨A,cj,e,_⟩:=OwnL.row (cells:=one1 (fun v:Value=>v)) (sz:=1) (fun _=>rfl) hv.jobs
  refine ⟨A,_,cj,e,?_⟩
  cases P.job <;> simp [jobVs]
 obtain ⟨Aj,nj,cj,hvj,hnj⟩:=hjl
 rw [hvj] at k3
 have HI:=hide (cup_any H hp hP hu)
 have f0:(0:Int)≤(i:Int):=by omega
 have f1:(i:Int) < (a.ps.length:Int):=by omega
 have d8:decide (8≤(nj:Int))=false:=decide_eq_false (by omega)
 have f8:¬ 8≤(nj:Int):=by omega
 clear H hp hvp hP hv hvj hu
 go_enter Tryz.func45,Tryz.ntmps45
 go_wp2_with ((with_reducible refine (HI.out).mono ?_);rintro e w1 ⟨rfl,rfl⟩)
 go_ret
 exact ⟨rfl,rfl⟩
end Go.Proofs.YtgmkckjedngkdaaGreatDoor
