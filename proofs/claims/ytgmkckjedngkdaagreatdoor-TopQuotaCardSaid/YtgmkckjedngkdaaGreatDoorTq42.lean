/- A part of the proof that TopQuotaLaw holds: XZLig, XZOn. Conditions: as typed. -/
import Derived.Test.YtgmkckjedngkdaaGreatDoorTq40
import Derived.Test.YtgmkckjedngkdaaGreatDoorTq41
set_option linter.unusedVariables false
set_option linter.unusedSimpArgs false
namespace Go.Proofs.YtgmkckjedngkdaaGreatDoor
open Go.ChangeShapes Go.WideShapes Go.ChangeAt Go.RowKit
section
variable {w w':World} {base c i p j j2:Nat} {col col':Nat→Nat} {P:Pl} {a:Cl}
theorem turn_two (hk:ColOk w base col) (hb:base≤w.heap.size) {hi:Nat} (hs:Sets (fun g=>col g=j ∨ col g=j2) w w') (hj:j ≠ 0) (hhi:hi≤w'.heap.size):Turn w w' base col (colN col w.heap.size hi j) j j2 :=
 ⟨hs,hk.next hb hs.size hhi,fun g k h1 _ h2=>colN_other hk h2 h1 g,fun g hg h0=>by rw [colN_old hg];exact h0⟩
theorem CluV.jobs (H:CluV w base c col a) (hp:a.ps[i]? = some p) (hP:a.P[i]? = some P) {vj':Value} {job':Option (Nat × Co)} (hs:Sets (fun g=>g=p ∨ P.vj.ownBlock=some g) w w') (hbox:w'.heap[p]? = some (.cells #[ptv P.d,ptv P.n,ptv P.k,vj'] 104 (0,0)))
   (hown:OwnL (one1 (fun v:Value=>v)) 1 192 base w' vj' (jobVs job')) (hmv:∀ g,vj'.ownBlock=some g→P.vj.ownBlock=some g ∨ w.heap.size≤g) (hjob:∀ x,job'=some x→CoB w base x.1 (fun g=>col g=14+5 * i) x.2) :
   CluV w' base c (colN col w.heap.size w'.heap.size (13+5 * i)) { a with P:=a.P.set i { P with vj:=vj',job:=job' } }:=by
 have h:=H.pl i p P hp hP
 have hs2:Sets (fun g=>col g=13+5 * i ∨ col g=10+5 * i) w w':=⟨hs.os,hs.tape,hs.output,hs.size,fun g hg hn=>hs.block g hg (fun e=>hn (by
   rcases e with e | e
   · rw [e];exact .inr h.cp
   · exact .inl (h.cj g e)))⟩
 have t:=turn_two (j:=13+5 * i) (j2:=10+5 * i) (hi:=w'.heap.size) H.ok H.bl hs2 (by omega) (Nat.le_refl _)
 have hil:i < a.P.length:=by
   rw [List.getElem?_eq_some_iff] at hP
   exact hP.1
 have hpl:p < w.heap.size:=(H.ok p (by rw [h.cp];omega)).2
 refine H.place t ⟨⟨by omega,by omega⟩,by omega,by omega⟩ hil (fun q hq=>?_)
 rw [hp] at hq
 cases hq
 exact {
   box:=hbox
   cp:=by rw [colN_old hpl];exact h.cp
   node:=h.oNode t (by omega)
   id:=h.id
   clk:=(h.oClk t (by omega)).1
   ck:=(h.oClk t (by omega)).2
   jobs:=hown
   cj:=fun g hg=>(colN_self H.ok (by omega) g).2 (by
     rcases hmv g hg with e | e
     · exact .inl (h.cj g e)
     · exact .inr ⟨e,(OwnL.lt hown g hg).2⟩)
   job:=fun x hx=>by
     refine ((hjob x hx).sets t.sets (fun g hg e=>by omega)).wide (fun g hg=>(t.same g _ (by omega) (by omega) (by omega)).2 hg) (fun g hg=>t.ok g (by rw [hg];omega)) }
theorem CluV.fresh (H:CluV w base c col a) (hp:a.ps[i]? = some p) (hP:a.P[i]? = some P) (hj:P.job=none) (hb:Below w.heap.size w w'):CluV w' base c (colN col w.heap.size w'.heap.size (14+5 * i)) a:=by
 have t:=turn_two (j:=14+5 * i) (j2:=14+5 * i) (hi:=w'.heap.size) H.ok H.bl (Sets.of hb) (by omega) (Nat.le_refl _)
 have hil:i < a.P.length:=by
   rw [List.getElem?_eq_some_iff] at hP
   exact hP.1
 have h:=H.pl i p P hp hP
 have he:{ a with P:=a.P.set i P }=a:=by
   have:a.P.set i P=a.P:=by
     refine List.ext_getElem? (fun k=>?_)
     by_cases e:k=i
     · rw [e,List.getElem?_set_self hil,hP]
     · rw [List.getElem?_set_ne (fun e2=>e e2.symm)]
   rw [this]
 rw [← he]
 refine H.place t ⟨⟨by omega,by omega⟩,by omega,by omega⟩ hil (fun q hq=>?_)
 rw [hp] at hq
 cases hq
 exact {
   box:=h.oBox t H.ok (by omega)
   cp:=(h.oCp t).resolve_right (by omega)
   node:=h.oNode t (by omega)
   id:=h.id
   clk:=(h.oClk t (by omega)).1
   ck:=(h.oClk t (by omega)).2
   jobs:=(h.oJobs t (by omega)).1
   cj:=(h.oJobs t (by omega)).2
   job:=fun x hx=>by rw [hj] at hx;cases hx }
theorem CluV.answered (H:CluV w base c col a) {va':Value} {AL':List (An × List It)} (hs:Sets (fun g=>g=c ∨ a.va.ownBlock=some g) w w') (hbox:w'.heap[c]? = some (.cells #[a.vp,.int .u64 a.grace,ptv a.nb,.int .u64 a.ids,va',a.vi] 99 (0,0)))
   (hown:OwnL An.cells 8 50 base w' va' (AL'.map Prod.fst)) (hmv:∀ g,va'.ownBlock=some g→a.va.ownBlock=some g ∨ w.heap.size≤g) (hits:∀ x ∈ AL',x.2.length=x.1.ln∧ItemsAt w x.1.la x.2∧x.1.ln≤x.1.lc∧x.1.lc≤maxLen∧∀ ad,x.1.la=some ad→x.2 ≠ []→col ad.block=0) :
   CluV w' base c (colN col w.heap.size w'.heap.size 4) { a with va:=va',AL:=AL' }:=by
 have hs2:Sets (fun g=>col g=4 ∨ col g=1) w w':=⟨hs.os,hs.tape,hs.output,hs.size,fun g hg hn=>hs.block g hg (fun e=>hn (by
   rcases e with e | e
   · rw [e];exact .inr H.cc
   · exact .inl (H.ca g e)))⟩
 have t:=turn_two (j:=4) (j2:=1) (hi:=w'.heap.size) H.ok H.bl hs2 (by omega) (Nat.le_refl _)
 exact {
   ok:=t.ok
   bl:=Nat.le_trans H.bl t.sets.size
   box:=hbox
   cc:=by rw [colN_old (H.ok c (by rw [H.cc];omega)).2];exact H.cc
   row:=H.oRow t (by omega)
   len:=H.len
   pl:=fun k p P hk hP=>H.oPl t k p P hk hP ⟨by omega,by omega⟩
   net:=(H.oNet t (by omega) (by omega)).1
   cn:=(H.oNet t (by omega) (by omega)).2
   ans:=hown
   ca:=fun g hg=>(colN_self H.ok (by omega) g).2 (by
     rcases hmv g hg with e | e
     · exact .inl (H.ca g e)
     · exact .inr ⟨e,(OwnL.lt hown g hg).2⟩)
   its:=fun x hx=>its_turn t (by omega) (hits x hx)
   iss:=(H.oIss t (by omega)).1
   ci:=(H.oIss t (by omega)).2 }
theorem CluV.issued (H:CluV w base c col a) {vi':Value} {IL':List An} (hs:Sets (fun g=>g=c ∨ a.vi.ownBlock=some g) w w') (hbox:w'.heap[c]? = some (.cells #[a.vp,.int .u64 a.grace,ptv a.nb,.int .u64 a.ids,a.va,vi'] 99 (0,0)))
   (hown:OwnL An.cells 8 50 base w' vi' IL') (hmv:∀ g,vi'.ownBlock=some g→a.vi.ownBlock=some g ∨ w.heap.size≤g) :
   CluV w' base c (colN col w.heap.size w'.heap.size 5) { a with vi:=vi',IL:=IL' }:=by
 have hs2:Sets (fun g=>col g=5 ∨ col g=1) w w':=⟨hs.os,hs.tape,hs.output,hs.size,fun g hg hn=>hs.block g hg (fun e=>hn (by
   rcases e with e | e
   · rw [e];exact .inr H.cc
   · exact .inl (H.ci g e)))⟩
 have t:=turn_two (j:=5) (j2:=1) (hi:=w'.heap.size) H.ok H.bl hs2 (by omega) (Nat.le_refl _)
 exact {
   ok:=t.ok
   bl:=Nat.le_trans H.bl t.sets.size
   box:=hbox
   cc:=by rw [colN_old (H.ok c (by rw [H.cc];omega)).2];exact H.cc
   row:=H.oRow t (by omega)
   len:=H.len
   pl:=fun k p P hk hP=>H.oPl t k p P hk hP ⟨by omega,by omega⟩
   net:=(H.oNet t (by omega) (by omega)).1
   cn:=(H.oNet t (by omega) (by omega)).2
   ans:=(H.oAns t (by omega)).1
   ca:=(H.oAns t (by omega)).2
   its:=H.oIts t (by omega)
   iss:=hown
   ci:=fun g hg=>(colN_self H.ok (by omega) g).2 (by
     rcases hmv g hg with e | e
     · exact .inl (H.ci g e)
     · exact .inr ⟨e,(OwnL.lt hown g hg).2⟩) }
theorem CluV.counted (H:CluV w base c col a) {n':Int} (hs:Sets (fun g=>g=c) w w') (hbox:w'.heap[c]? = some (.cells #[a.vp,.int .u64 a.grace,ptv a.nb,.int .u64 n',a.va,a.vi] 99 (0,0))):CluV w' base c col { a with ids:=n' }:=by
 have t:Turn w w' base col col 1 1:=turn_none H.ok ⟨hs.os,hs.tape,hs.output,hs.size,fun g hg hn=>hs.block g hg (fun e=>hn (by rw [e];exact .inl H.cc))⟩
 exact {
   ok:=t.ok
   bl:=Nat.le_trans H.bl t.sets.size
   box:=hbox
   cc:=H.cc
   row:=H.oRow t (by omega)
   len:=H.len
   pl:=fun k p P hk hP=>H.oPl t k p P hk hP ⟨by omega,by omega⟩
   net:=(H.oNet t (by omega) (by omega)).1
   cn:=H.cn
   ans:=(H.oAns t (by omega)).1
   ca:=H.ca
   its:=H.oIts t (by omega)
   iss:=(H.oIss t (by omega)).1
   ci:=H.ci }
theorem CluV.cells (H:CluV w base c col a):c < w.heap.size∧w.cell? ⟨c,0,none⟩=some a.vp∧w.cell? ⟨c,1,none⟩=some (.int .u64 a.grace)∧w.cell? ⟨c,2,none⟩=some (ptv a.nb)∧w.cell? ⟨c,3,none⟩=some (.int .u64 a.ids)∧w.cell? ⟨c,4,none⟩=some a.va∧w.cell? ⟨c,5,none⟩=some a.vi:=by
 have h:=H.box
 exact ⟨(Array.getElem?_eq_some_iff.1 h).1,(cell_of_row w c 0 _ _ _ h).trans rfl,(cell_of_row w c 1 _ _ _ h).trans rfl,(cell_of_row w c 2 _ _ _ h).trans rfl,(cell_of_row w c 3 _ _ _ h).trans rfl,(cell_of_row w c 4 _ _ _ h).trans rfl,(cell_of_row w c 5 _ _ _ h).trans rfl⟩
theorem PlV.cells (H:PlV w base col i p P):w.cell? ⟨p,0,none⟩=some (ptv P.d)∧w.cell? ⟨p,1,none⟩=some (ptv P.n)∧w.cell? ⟨p,2,none⟩=some (ptv P.k)∧w.cell? ⟨p,3,none⟩=some P.vj:=four_cells H.box
end
end Go.Proofs.YtgmkckjedngkdaaGreatDoor
namespace Go.Proofs.YtgmkckjedngkdaaGreatDoor
open Go.ChangeShapes Go.WideShapes Go.ChangeAt Go.RowKit
def SmallC (R:Co):Prop:=R.G.length≤900∧∀ g ∈ R.G,g.L.length≤1500
set_option maxRecDepth 100000 in
set_option maxHeartbeats 1600000 in
theorem jon_any {w:World} {base b:Nat} {X:Nat→Prop} {R:Co} (h:CoB w base b X R) (m:Mg) (hm:m.rd w) (hmx:∀ a,m.A=some a→m.L ≠ []→¬ X a.block) (hml:m.L.length≤1500) (k:CoK R) (hs:SmallC R) :
   Calls Tryz.prog 420 #[.agg #[ptv b],m.val] w fun e w'=>e=.returned (.slice none 0 0)∧CoB w' base b (Xn X w w') (conR R m)∧Sets X w w':=by
 have hbl:base≤w.heap.size:=by have:=h.xs b h.xb;omega
 obtain ⟨w0,hw0⟩:∃ w0,(w.alloc (.cells #[ptv b] 116)).alloc (.cells #[.int .i64 m.k,.int .i64 m.f,.int .i64 m.t,.int .u64 m.id,.int .u64 m.n,.slice m.A m.L.length m.c] 33)=w0:=⟨_,rfl⟩
 have hb0:Below w.heap.size w w0:=by rw [← hw0];exact below_alloc (below_alloc (Below.refl w.heap.size w) _) _
 have hz2:w0.heap[w.heap.size]? = some (.cells #[ptv b] 116 (0,0)):=by rw [← hw0];exact (Below.heap_alloc _ _ _ (by simp)).trans (heap_alloc_new w _)
 have hz3:w0.heap[w.heap.size+1]? = some (.cells #[.int .i64 m.k,.int .i64 m.f,.int .i64 m.t,.int .u64 m.id,.int .u64 m.n,.slice m.A m.L.length m.c] 33 (0,0)):=by
   have:=heap_alloc_new (w.alloc (.cells #[ptv b] 116)) (.cells #[.int .i64 m.k,.int .i64 m.f,.int .i64 m.t,.int .u64 m.id,.int .u64 m.n,.slice m.A m.L.length m.c] 33)
   rw [hw0,World.size_alloc] at this
   exact this
 obtain ⟨g2,hg2⟩:∃ g,w.heap.size=g:=⟨_,rfl⟩
 rw [hg2] at hz2 hz3
 have lg3:g2+1 < w0.heap.size:=(Array.getElem?_eq_some_iff.1 hz3).1
 have b2:=box_cell hz2
 obtain ⟨m0,m1,m2,m3,m4,m5⟩:=six_cells hz3
 have h0:=h.sets (S:=fun _=>False) (Sets.of hb0) (fun _ _=>id)
 have hgl:(gotC R m).G.length≤1000∧∀ g ∈ (gotC R m).G,g.L.length≤1000000:=by
   unfold gotC
   split
   · refine ⟨by simp only [List.length_append,List.length_singleton];have:=hs.1;omega,fun g hg=>?_⟩
     rcases List.mem_append.1 hg with e | e
     · have:=hs.2 g e;omega
     · rw [List.mem_singleton] at e;subst e;show m.L.length≤_;omega
   · exact ⟨by have:=hs.1;omega,fun g hg=>by have:=hs.2 g hg;omega⟩
 have hcon:=con_at h0.o m (hm.below hb0) hmx (by omega) k (fun _ _ _=>citems_any hgl.1 hgl.2)
 unfold Mg.val at hcon ⊢
 have HCON:=hide hcon
 have HB0:=hide hb0
 have HW0:=hide hw0
 have HG2:=hide hg2
 have HBL:=hide hbl
 have HXS:=hide h.xs
 have HCS:=hide (show (cutW w0 base).heap.size=base from cutW_size (Nat.le_trans hbl hb0.size))
 clear h hm hmx hml k hs hb0 hz2 hz3 hw0 hg2 h0 hgl hcon hbl
 go_enter Tryz.func420,Tryz.ntmps420
 go_upto_region 1 with fail
 rw [HW0.out,HG2.out]
 go_wp2_with ((with_reducible refine (HCON.out).mono ?_);rintro e w1 ⟨rfl,hc,hk⟩;have HC:=hide hc;have HK:=hide hk;clear hc hk)
 go_ret
 have hsx:Sets X w w1:=(Sets.of (S:=X) HB0.out).trans HK.out (fun _ _ e=>e)
 refine ⟨rfl,(HC.out.b (by rw [HCS.out];exact Nat.le_refl _)).wide (fun g e=>e.imp (fun h=>h) (fun e=>⟨Nat.le_trans HB0.out.size e.1,e.2⟩)) (fun g e=>?_),hsx⟩
 rcases e with e | e
 · exact ⟨(HXS.out g e).1,Nat.lt_of_lt_of_le (HXS.out g e).2 hsx.size⟩
 · exact ⟨Nat.le_trans HBL.out e.1,e.2⟩
set_option maxRecDepth 100000 in
set_option maxHeartbeats 1600000 in
theorem del1_any {w:World} {base b g5:Nat} {X:Nat→Prop} {R:Co} (h:CoB w base b X R) (m:Mg) (h5:w.heap[g5]? = some (.cells #[.int .i64 m.k,.int .i64 m.f,.int .i64 m.t,.int .u64 m.id,.int .u64 m.n,.slice m.A m.L.length m.c] 33 (0,0))) (hm:m.rd w) (hmx:∀ a,m.A=some a→m.L ≠ []→¬ X a.block) (hml:m.L.length≤1500) (k:CoK R) (hs:SmallC R) :
   Calls Tryz.prog 113 #[jobV b,.pointer (some ⟨g5,0,none⟩)] w fun e w'=>e=.returned (.slice none 0 0)∧CoB w' base b (Xn X w w') (conR R m)∧Sets X w w':=by
 obtain ⟨m0,m1,m2,m3,m4,m5⟩:=six_cells h5
 have hcon:=jon_any h m hm hmx hml k hs
 unfold Mg.val at hcon
 have HCON:=hide hcon
 unfold jobV
 clear h hm hmx hml k hs hcon h5
 go_enter Tryz.func113,Tryz.ntmps113
 go_wp2_with ((with_reducible refine (HCON.out).mono ?_);rintro e w1 ⟨rfl,hc,hk⟩;have HC:=hide hc;have HK:=hide hk;clear hc hk)
 go_ret
 exact ⟨rfl,HC.out,HK.out⟩
end Go.Proofs.YtgmkckjedngkdaaGreatDoor
