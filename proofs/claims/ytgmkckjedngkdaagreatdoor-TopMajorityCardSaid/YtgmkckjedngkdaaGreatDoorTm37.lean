/- A part of the proof that TopMajorityLaw holds: XZLif. Conditions: as typed. -/
import Derived.Test.YtgmkckjedngkdaaGreatDoorTm35
set_option linter.unusedVariables false
set_option linter.unusedSimpArgs false
namespace Go.Proofs.YtgmkckjedngkdaaGreatDoor
open Go.ChangeShapes Go.WideShapes Go.ChangeAt Go.RowKit
section
variable {w w':World} {base:Bs} {c i p j j2:Nat} {col col':Nat→Nat} {P:Pl} {a:Cl}
theorem PlV.oBox (H:PlV w base col i p P) (t:Turn w w' base col col' j j2) (hk:ColOk w base col) (hj:j ≠ 10+5 * i∧j2 ≠ 10+5 * i):w'.heap[p]? = some (.cells #[ptv P.d,ptv P.n,ptv P.k,P.vj] 104 (0,0)) :=
 (t.sets.block p (hk p (by rw [H.cp];omega)).2 (fun e=>by have:=H.cp;omega)).trans H.box
theorem PlV.oCp (H:PlV w base col i p P) (t:Turn w w' base col col' j j2):col' p=10+5 * i ∨ (j=10+5 * i ∨ j2=10+5 * i):=by
 by_cases h:j=10+5 * i ∨ j2=10+5 * i
 ·exact .inr h
 ·exact .inl ((t.same p _ (by omega) (by omega) (by omega)).2 H.cp)
theorem PlV.oNode (H:PlV w base col i p P) (t:Turn w w' base col col' j j2) (hj:j ≠ 11+5 * i∧j2 ≠ 11+5 * i):NodeO w' base P.n (fun g=>col' g=11+5 * i) P.N :=
 (H.node.sets t.sets (fun g hg e=>by omega)).wide (fun g hg=>(t.same g _ (by omega) (by omega) (by omega)).2 hg) (fun g hg=>t.ok.lt hg (by omega))
theorem PlV.oClk (H:PlV w base col i p P) (t:Turn w w' base col col' j j2) (hj:j ≠ 12+5 * i∧j2 ≠ 12+5 * i):ClkAt w' P.k i P.now P.lease∧col' P.k=12+5 * i :=
 ⟨H.clk.sets t.sets (fun e=>by have:=H.ck;omega),(t.same _ _ (by omega) (by omega) (by omega)).2 H.ck⟩
theorem PlV.oJobs (H:PlV w base col i p P) (t:Turn w w' base col col' j j2) (hj:j ≠ 13+5 * i∧j2 ≠ 13+5 * i):OwnL (one1 (fun v:Value=>v)) 1 192 base w' P.vj (jobVs P.job)∧∀ g,P.vj.ownBlock=some g→col' g=13+5 * i :=
 ⟨OwnL.sets H.jobs t.sets (fun g hg e=>by have:=H.cj g hg;omega),fun g hg=>(t.same _ _ (by omega) (by omega) (by omega)).2 (H.cj g hg)⟩
theorem PlV.oJob (H:PlV w base col i p P) (t:Turn w w' base col col' j j2) (hj:j ≠ 14+5 * i∧j2 ≠ 14+5 * i):∀ x,P.job=some x→CoB w' base x.1 (fun g=>col' g=14+5 * i) x.2:=fun x hx =>
 ((H.job x hx).sets t.sets (fun g hg e=>by omega)).wide (fun g hg=>(t.same g _ (by omega) (by omega) (by omega)).2 hg) (fun g hg=>t.ok.lt hg (by omega))
theorem turn_all (hk:ColOk w base col) (hb:base.le w) {hi:Nat} (hs:Sets (fun g=>col g=j) w w') (hj:j ≠ 0) (hhi:hi≤w'.heap.size):Turn w w' base col (colN col w.heap.size hi j) j j :=
 ⟨⟨hs.os,hs.tape,hs.output,hs.size,fun g hg hn=>hs.block g hg (fun e=>hn (.inl e))⟩,hk.next hb hs.size hhi,fun g k h1 _ h2=>colN_other hk h2 h1 g,fun g hg h0=>by rw [colN_old hg];exact h0⟩
theorem turn_none (hk:ColOk w base col) (hs:Sets (fun g=>col g=j ∨ col g=j2) w w'):Turn w w' base col col j j2 :=
 ⟨hs,fun g hg=>⟨(hk g hg).1,Nat.lt_of_lt_of_le (hk g hg).2 hs.size⟩,fun _ _ _ _ _=>Iff.rfl,fun _ _ h=>h⟩
theorem CluV.oBox (H:CluV w base c col a) (t:Turn w w' base col col' j j2) (hj:j ≠ 1∧j2 ≠ 1):w'.heap[c]? = some (.cells #[a.vp,.int .u64 a.grace,ptv a.nb,.int .u64 a.ids,a.va,a.vi] 99 (0,0))∧col' c=1 :=
 ⟨(t.sets.block c (H.ok c (by rw [H.cc];omega)).2 (fun e=>by have:=H.cc;omega)).trans H.box,(t.same c 1 (by omega) (by omega) (by omega)).2 H.cc⟩
theorem CluV.oRow (H:CluV w base c col a) (t:Turn w w' base col col' j j2) (hj:j ≠ 3∧j2 ≠ 3):∃ A cp,a.vp=.slice A a.ps.length cp∧RowAt (one1 ptv) 1 w' A a.ps∧∀ ad,A=some ad→a.ps ≠ []→col' ad.block=3:=by
 obtain ⟨A,cp,h1,h2,h3⟩:=H.row
 exact ⟨A,cp,h1,row_turn t hj h2 h3⟩
theorem CluV.oPl (H:CluV w base c col a) (t:Turn w w' base col col' j j2):∀ i p P,a.ps[i]? = some p→a.P[i]? = some P→P.up=true→((j < 10+5 * i ∨ 14+5 * i < j)∧(j2 < 10+5 * i ∨ 14+5 * i < j2))→PlV w' base col' i p P :=
 fun i p P h1 h2 hu hj=>(H.pl i p P h1 h2 hu).turn t hj H.ok
theorem CluV.oPd (H:CluV w base c col a) (t:Turn w w' base col col' j j2):∀ i p P,a.ps[i]? = some p→a.P[i]? = some P→P.up=false→j ≠ 10+5 * i∧j2 ≠ 10+5 * i→PlD w' col' i p P :=
 fun i p P h1 h2 hu hj=>(H.pd i p P h1 h2 hu).turn t hj H.ok
theorem CluV.oNet (H:CluV w base c col a) (t:Turn w w' base col col' j j2) (hj:j ≠ 2∧j2 ≠ 2) (h0:j ≠ 0∧j2 ≠ 0):NetX w' a.nb a.rb (fun g=>col' g=0) 300 a.C 0 a.se∧∀ g,NBlk a.nb a.rb g→col' g=2 :=
 ⟨net_turn H t hj h0,fun g hg=>(t.same g 2 (by omega) (by omega) (by omega)).2 (H.cn g hg)⟩
theorem CluV.oAns (H:CluV w base c col a) (t:Turn w w' base col col' j j2) (hj:j ≠ 4∧j2 ≠ 4):OwnL An.cells 8 50 base w' a.va (a.AL.map Prod.fst)∧∀ g,a.va.ownBlock=some g→col' g=4 :=
 ⟨OwnL.sets H.ans t.sets (fun g hg e=>by have:=H.ca g hg;omega),fun g hg=>(t.same g 4 (by omega) (by omega) (by omega)).2 (H.ca g hg)⟩
theorem CluV.oIss (H:CluV w base c col a) (t:Turn w w' base col col' j j2) (hj:j ≠ 5∧j2 ≠ 5):OwnL An.cells 8 50 base w' a.vi a.IL∧∀ g,a.vi.ownBlock=some g→col' g=5 :=
 ⟨OwnL.sets H.iss t.sets (fun g hg e=>by have:=H.ci g hg;omega),fun g hg=>(t.same g 5 (by omega) (by omega) (by omega)).2 (H.ci g hg)⟩
theorem CluV.oIts (H:CluV w base c col a) (t:Turn w w' base col col' j j2) (h0:j ≠ 0∧j2 ≠ 0):∀ x ∈ a.AL,x.2.length=x.1.ln∧ItemsAt w' x.1.la x.2∧x.1.ln≤x.1.lc∧x.1.lc≤maxLen∧∀ ad,x.1.la=some ad→x.2 ≠ []→col' ad.block=0 :=
 fun x hx=>its_turn t h0 (H.its x hx)
theorem CluV.place (H:CluV w base c col a) (t:Turn w w' base col col' j j2) (hj:(10+5 * i≤j∧j≤14+5 * i)∧(10+5 * i≤j2∧j2≤14+5 * i)) (hi:i < a.P.length) {P':Pl} (hu':P'.up=true) (hp:∀ p,a.ps[i]? = some p→PlV w' base col' i p P'):CluV w' base c col' { a with P:=a.P.set i P' } :=
 { ok:=t.ok
   bl:=H.bl.up t.sets.size
   box:=(H.oBox t (by omega)).1
   cc:=(H.oBox t (by omega)).2
   row:=H.oRow t (by omega)
   len:=by rw [← H.len];exact List.length_set
   pd:=fun k p P hk hP hu=>by
    have hP':(a.P.set i P')[k]? = some P:=hP
    by_cases h:k=i
    ·subst h
     rw [List.getElem?_set_self hi] at hP'
     cases hP'
     rw [hu'] at hu
     cases hu
    ·rw [List.getElem?_set_ne (fun e=>h e.symm)] at hP'
     exact H.oPd t k p P hk hP' hu (by omega)
   pl:=fun k p P hk hP hu=>by
    by_cases h:k=i
    ·subst h
     have hP':(a.P.set k P')[k]? = some P:=hP
     rw [List.getElem?_set_self hi] at hP'
     cases hP'
     exact hp p hk
    ·have hP':(a.P.set i P')[k]? = some P:=hP
     rw [List.getElem?_set_ne (fun e=>h e.symm)] at hP'
     exact H.oPl t k p P hk hP' hu (by omega)
   net:=(H.oNet t (by omega) (by omega)).1
   cn:=(H.oNet t (by omega) (by omega)).2
   ans:=(H.oAns t (by omega)).1
   ca:=(H.oAns t (by omega)).2
   its:=H.oIts t (by omega)
   iss:=(H.oIss t (by omega)).1
   ci:=(H.oIss t (by omega)).2 }
theorem CluV.below (H:CluV w base c col a) (hb:Below w.heap.size w w'):CluV w' base c col a:=by
 have t:Turn w w' base col col 7 7:=turn_none H.ok (Sets.of hb)
 exact {
  ok:=t.ok
  bl:=H.bl.up hb.size
  box:=(H.oBox t (by omega)).1
  cc:=H.cc
  row:=H.oRow t (by omega)
  len:=H.len
  pl:=fun k p P hk hP hu=>H.oPl t k p P hk hP hu (by omega)
  pd:=fun k p P hk hP hu=>H.oPd t k p P hk hP hu (by omega)
  net:=(H.oNet t (by omega) (by omega)).1
  cn:=H.cn
  ans:=(H.oAns t (by omega)).1
  ca:=H.ca
  its:=H.oIts t (by omega)
  iss:=(H.oIss t (by omega)).1
  ci:=H.ci }
theorem CluV.node (H:CluV w base c col a) {P:Pl} (hP:a.P[i]? = some P) (hu:P.up=true) {X':Nat→Prop} {N':Nr} {hi:Nat} (hs:Sets (fun g=>col g=11+5 * i) w w') (hn:NodeO w' base P.n X' N') (hx:∀ g,X' g→col g=11+5 * i ∨ (w.heap.size≤g∧g < hi)) (hhi:hi≤w'.heap.size) (hid:N'.id=P.N.id) (hdd:N'.R.d=P.N.R.d) :
 CluV w' base c (colN col w.heap.size hi (11+5 * i)) { a with P:=a.P.set i { P with N:=N' } }:=by
 have t:=turn_all (j:=11+5 * i) H.ok H.bl hs (by omega) hhi
 have hil:i < a.P.length:=by
  rw [List.getElem?_eq_some_iff] at hP
  exact hP.1
 refine H.place t ⟨⟨by omega,by omega⟩,by omega,by omega⟩ hil hu (fun p hp=>?_)
 have h:=H.pl i p P hp hP hu
 exact {
  box:=h.oBox t H.ok (by omega)
  cp:=(h.oCp t).resolve_right (by omega)
  node:=hn.wide (fun g hg=>(colN_self H.ok (by omega) g).2 (hx g hg)) (fun g hg=>t.ok.lt hg (by omega))
  id:=by show N'.id=_;rw [hid];exact h.id
  dsk:=hdd.trans h.dsk
  clk:=(h.oClk t (by omega)).1
  ck:=(h.oClk t (by omega)).2
  jobs:=(h.oJobs t (by omega)).1
  cj:=(h.oJobs t (by omega)).2
  job:=h.oJob t (by omega) }
theorem CluV.clock (H:CluV w base c col a) {P:Pl} (hP:a.P[i]? = some P) (hu:P.up=true) {nw ls:Int} (hs:Sets (fun g=>g=P.k) w w') (hk:ClkAt w' P.k i nw ls) (hps:i < a.ps.length):CluV w' base c col { a with P:=a.P.set i { P with now:=nw,lease:=ls } }:=by
 have hil:i < a.P.length:=by
  rw [List.getElem?_eq_some_iff] at hP
  exact hP.1
 obtain ⟨p0,hp0⟩:∃ p0,a.ps[i]? = some p0:=⟨_,List.getElem?_eq_getElem hps⟩
 have hck:=(H.pl i p0 P hp0 hP hu).ck
 have t:Turn w w' base col col (12+5 * i) (12+5 * i):=turn_none H.ok ⟨hs.os,hs.tape,hs.output,hs.size,fun g hg hn=>hs.block g hg (fun e=>hn (.inl (by rw [e];exact hck)))⟩
 refine H.place t ⟨⟨by omega,by omega⟩,by omega,by omega⟩ hil hu (fun p hp=>?_)
 have h:=H.pl i p P hp hP hu
 exact {
  box:=h.oBox t H.ok (by omega)
  cp:=(h.oCp t).resolve_right (by omega)
  node:=h.oNode t (by omega)
  id:=h.id
  dsk:=h.dsk
  clk:=hk
  ck:=h.ck
  jobs:=(h.oJobs t (by omega)).1
  cj:=(h.oJobs t (by omega)).2
  job:=h.oJob t (by omega) }
theorem CluV.call (H:CluV w base c col a) {P:Pl} (hP:a.P[i]? = some P) (hu:P.up=true) {b:Nat} {R R':Co} (hj:P.job=some (b,R)) (hs:Sets (fun g=>col g=14+5 * i) w w') (hc:CoB w' base b (Xn (fun g=>col g=14+5 * i) w w') R') :
 CluV w' base c (colN col w.heap.size w'.heap.size (14+5 * i)) { a with P:=a.P.set i { P with job:=some (b,R') } }:=by
 have t:=turn_all (j:=14+5 * i) H.ok H.bl hs (by omega) (Nat.le_refl _)
 have hil:i < a.P.length:=by
  rw [List.getElem?_eq_some_iff] at hP
  exact hP.1
 refine H.place t ⟨⟨by omega,by omega⟩,by omega,by omega⟩ hil hu (fun p hp=>?_)
 have h:=H.pl i p P hp hP hu
 exact {
  box:=h.oBox t H.ok (by omega)
  cp:=(h.oCp t).resolve_right (by omega)
  node:=h.oNode t (by omega)
  id:=h.id
  dsk:=h.dsk
  clk:=(h.oClk t (by omega)).1
  ck:=(h.oClk t (by omega)).2
  jobs:=by have:=(h.oJobs t (by omega)).1;rw [hj] at this;exact this
  cj:=(h.oJobs t (by omega)).2
  job:=fun x hx=>by
   cases hx
   exact hc.wide (fun g hg=>(colN_self H.ok (by omega) g).2 hg) (fun g hg=>t.ok.lt hg (by omega)) }
theorem NetX.trim {w:World} {b:Nat} {rb:Option Nat} {D:Nat→Prop} {m:Nat} {C:List Mg} {l s:Int} (h:NetX w b rb D m C l s):NetX w b rb (fun g=>D g∧¬ NBlk b rb g∧g < w.heap.size) m C l s:=by
 obtain ⟨v,M,h1,h2,h3,h4⟩:=h.at_
 refine ⟨⟨v,M,h1,h2,h3,fun x hx ad ha hn=>⟨h4 x hx ad ha hn,fun e=>?_,(h1.rd x hx).1.lt ad ha hn⟩⟩,h.ok⟩
 have h5:=(h1.rd x hx).2 ad ha hn
 rcases e with e | e
 ·omega
 ·exact h5.2 (by rw [h2];exact e)
def colM (col:Nat→Nat) (lo:Nat) (rb:Option Nat) (g:Nat):Nat:=if g < lo then col g else if rb=some g then 2 else 0
theorem CluV.netted (H:CluV w base c col a) {rb':Option Nat} {C':List Mg} {se':Int} (hs:Sets (NBlk a.nb a.rb) w w') (hm:MovedB w a.rb rb') (hn:NetX w' a.nb rb' (Xn (fun g=>col g=0) w w') 300 C' 0 se') :
 CluV w' base c (colM col w.heap.size rb') { a with rb:=rb',C:=C',se:=se' }:=by
 have hlt:∀ g,rb'=some g→g < w'.heap.size:=fun g e=>(hn.w.row_lt g e).2
 have hold:∀ g,g < w.heap.size→colM col w.heap.size rb' g=col g:=fun g h=>by unfold colM;rw [if_pos h]
 have hnew:∀ g,¬ g < w.heap.size→colM col w.heap.size rb' g=if rb'=some g then 2 else 0:=fun g h=>by unfold colM;rw [if_neg h]
 have t:Turn w w' base col (colM col w.heap.size rb') 2 2:=by
  refine ⟨⟨hs.os,hs.tape,hs.output,hs.size,fun g hg hn2=>hs.block g hg (fun e=>hn2 (.inl (H.cn g e)))⟩,fun g hg=>?_,fun g k h1 _ h2=>?_,fun g hg h0=>by rw [hold g hg];exact h0⟩
  ·by_cases h:g < w.heap.size
   ·rw [hold g h] at hg
    exact ⟨(H.ok g hg).1,Nat.lt_of_lt_of_le h hs.size⟩
   ·rw [hnew g h] at hg
    by_cases e:rb'=some g
    ·exact ⟨⟨by have:=H.bl.1;omega,fun e3=>h (H.bl.2 g e3)⟩,hlt g e⟩
    ·rw [if_neg e] at hg;exact absurd rfl hg
  ·by_cases h:g < w.heap.size
   ·rw [hold g h]
   ·rw [hnew g h]
    refine ⟨fun e=>?_,fun e=>absurd (H.ok g (by rw [e];exact h2)).2 h⟩
    by_cases e2:rb'=some g
    ·rw [if_pos e2] at e;exact absurd e.symm h1
    ·rw [if_neg e2] at e;exact absurd e.symm h2
 have hblk:∀ g,NBlk a.nb rb' g→colM col w.heap.size rb' g=2:=fun g e=>by
  have hnb:=H.cn a.nb (.inl rfl)
  rcases e with e | e
  ·rw [e,hold _ (H.ok _ (by rw [hnb];omega)).2];exact hnb
  ·by_cases h:g < w.heap.size
   ·rw [hold g h]
    exact H.cn g (hm.blk h (.inr e))
   ·rw [hnew g h,if_pos e]
 exact {
  ok:=t.ok
  bl:=H.bl.up t.sets.size
  box:=(H.oBox t (by omega)).1
  cc:=(H.oBox t (by omega)).2
  row:=H.oRow t (by omega)
  len:=H.len
  pl:=fun k p P hk hP hu=>H.oPl t k p P hk hP hu (by omega)
  pd:=fun k p P hk hP hu=>H.oPd t k p P hk hP hu (by omega)
  net:=hn.trim.wide (fun g e=>by
   rcases e.1 with e1 | e1
   ·by_cases h:g < w.heap.size
    ·rw [hold g h];exact e1
    ·rw [hnew g h,if_neg (fun e2=>e.2.1 (.inr e2))]
   ·rw [hnew g (by omega),if_neg (fun e2=>e.2.1 (.inr e2))])
  cn:=hblk
  ans:=(H.oAns t (by omega)).1
  ca:=(H.oAns t (by omega)).2
  its:=H.oIts t (by omega)
  iss:=(H.oIss t (by omega)).1
  ci:=(H.oIss t (by omega)).2 }
end
end Go.Proofs.YtgmkckjedngkdaaGreatDoor
