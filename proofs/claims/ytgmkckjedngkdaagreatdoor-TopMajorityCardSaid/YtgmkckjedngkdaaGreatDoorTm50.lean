/- A part of the proof that TopMajorityLaw holds: XZAsk. Conditions: as typed. -/
import Derived.Test.YtgmkckjedngkdaaGreatDoorTm42
import Derived.Test.YtgmkckjedngkdaaGreatDoorTm43
set_option linter.unusedVariables false
set_option linter.unusedSimpArgs false
namespace Go.Proofs.YtgmkckjedngkdaaGreatDoor
open Go.ChangeShapes Go.WideShapes Go.ChangeAt Go.RowKit
section
variable {w w':World} {n c b:Nat} {K K':Nat→Prop} {col:Nat→Nat} {a:Cl}
theorem CluV.guard (H:CluV w ⟨n,K⟩ c col a) (h:∀ g,K' g→K g ∨ (g < w.heap.size∧col g=0)):CluV w ⟨n,K'⟩ c col a :=
 { ok:=fun g hg=>⟨⟨(H.ok g hg).1.1,fun e=>(h g e).elim (fun e=>(H.ok g hg).1.2 e) (fun e=>hg e.2)⟩,(H.ok g hg).2⟩
   bl:=⟨H.bl.1,fun g e=>(h g e).elim (fun e=>H.bl.2 g e) (fun e=>e.1)⟩
   box:=H.box
   cc:=H.cc
   row:=H.row
   len:=H.len
   pl:=H.pl
   pd:=H.pd
   net:=H.net
   cn:=H.cn
   ans:=H.ans
   ca:=H.ca
   its:=H.its
   iss:=H.iss
   ci:=H.ci }
theorem Bek.less (h:Bek ⟨n,K'⟩ w w') (hk:∀ g,K g→K' g):Bek ⟨n,K⟩ w w':=⟨h.low,fun g hg hl=>h.keep g (hk g hg) hl⟩
theorem CluV.col0 {base:Bs} (H:CluV w base c col a) {g:Nat} (hg:w.heap.size≤g):col g=0:=by
 by_cases h:col g=0
 ·exact h
 ·have:=(H.ok g h).2;omega
theorem CluV.set0 {base:Bs} (H:CluV w base c col a) (hs:Sets (fun g=>g=b) w w') (hc:col b=0) (hC:a.C=[]) (hI:∀ x ∈ a.AL,∀ ad,x.1.la=some ad→x.2 ≠ []→ad.block ≠ b):CluV w' base c col a:=by
 have t:Turn w w' base col col 0 0:=⟨hs.up (fun g e=>.inl (by rw [e];exact hc)),fun g hg=>⟨(H.ok g hg).1,Nat.lt_of_lt_of_le (H.ok g hg).2 hs.size⟩,fun g k _ _ _=>Iff.rfl,fun g _ e=>e⟩
 exact {
  ok:=t.ok
  bl:=H.bl.up hs.size
  box:=(H.oBox t (by omega)).1
  cc:=H.cc
  row:=H.oRow t (by omega)
  len:=H.len
  pl:=fun i p P h1 h2 h3=>H.oPl t i p P h1 h2 h3 (by omega)
  pd:=fun i p P h1 h2 h3=>H.oPd t i p P h1 h2 h3 (by omega)
  net:=by
   have hn:=H.net
   rw [hC] at hn ⊢
   obtain ⟨v,M,h1,h2,h3,h4⟩:=hn.at_
   obtain rfl:M=[]:=List.map_eq_nil_iff.1 h3
   have hnb:∀ g,NBlk a.nb a.rb g→¬ g=b:=fun g hg e=>by have:=H.cn g hg;rw [e,hc] at this;cases this
   exact ⟨⟨v,[],h1.sets hs (hnb _ (.inl rfl)) (fun g hg=>hnb g (.inr (by rw [← h2];exact hg))) (fun x hx=>by cases hx),h2,h3,fun y hy=>by cases hy⟩,fun x hx=>by cases hx⟩
  cn:=H.cn
  ans:=(H.oAns t (by omega)).1
  ca:=H.ca
  its:=fun x hx=>by
   obtain ⟨h1,h2,h3,h4,h5⟩:=H.its x hx
   exact ⟨h1,h2.sets hs (fun ad ha hn e=>hI x hx ad ha hn e),h3,h4,h5⟩
  iss:=(H.oIss t (by omega)).1
  ci:=H.ci }
theorem its_apart {la:Option Addr} {L:List It} {T:TypeId} (h:ItemsAt w la L) (hk:∀ y ∈ L,y.k=2) (hb:w.heap[b]? = some (.cells #[.int .u64 0,.int .i64 0,.int .i64 0,.int .u64 0,.int .i64 0,.int .i64 0,.int .u64 0,.slice none 0 0] T (0,0))):∀ ad,la=some ad→L ≠ []→ad.block ≠ b:=fun ad ha hn e=>by
 have hl:0 < L.length:=List.length_pos_iff.2 hn
 obtain ⟨g,off,rfl,hlt,hc⟩:=h.item (Below.refl _ _) (k:=0) hl
 cases ha
 simp only at e
 subst e
 have h1:=hc.2.1
 rw [hk _ (List.getElem_mem hl),cell_of_row w g _ _ _ _ hb] at h1
 have h2:=Array.mem_of_getElem? h1
 simp at h2
end
def AskP (w:World) (base:Bs) (c:Nat) (J:Cl→Prop) (id v:Int) (L:List It) (e:Ending) (w':World):Prop :=
 ∃ y:An,e=.returned (.tuple #[y.val,.bool true])∧y.id=id∧y.v=v∧y.ln=L.length∧ItemsAt w' y.la L∧∃ col' a',CluV w' base c col' a'∧J a'∧Bek base w w'
theorem ans_all {w:World} {g:Nat} {d0 d1 d2 d3 d4 d5 d6 d7:Value} {t:TypeId} (h:w.heap[g]? = some (.cells #[d0,d1,d2,d3,d4,d5,d6,d7] t (0,0))) (v0 v1 v2 v3 v4 v5 v6 v7:Value) :
 ((((((((w.setCell ⟨g,0,none⟩ v0).setCell ⟨g,1,none⟩ v1).setCell ⟨g,2,none⟩ v2).setCell ⟨g,3,none⟩ v3).setCell ⟨g,4,none⟩ v4).setCell ⟨g,5,none⟩ v5).setCell ⟨g,6,none⟩ v6).setCell ⟨g,7,none⟩ v7).drew.heap[g]? = some (.cells #[v0,v1,v2,v3,v4,v5,v6,v7] t (0,0)) ∧
 Sets (fun x=>x=g) w ((((((((w.setCell ⟨g,0,none⟩ v0).setCell ⟨g,1,none⟩ v1).setCell ⟨g,2,none⟩ v2).setCell ⟨g,3,none⟩ v3).setCell ⟨g,4,none⟩ v4).setCell ⟨g,5,none⟩ v5).setCell ⟨g,6,none⟩ v6).setCell ⟨g,7,none⟩ v7).drew :=
 ⟨by simp [World.setCell,World.drew,Array.getElem?_modify,h],Sets.drew (((((((((Sets.refl (S:=fun x=>x=g) w).set (fun _=>rfl) 0 v0).set (fun _=>rfl) 1 v1).set (fun _=>rfl) 2 v2).set (fun _=>rfl) 3 v3).set (fun _=>rfl) 4 v4).set (fun _=>rfl) 5 v5).set (fun _=>rfl) 6 v6).set (fun _=>rfl) 7 v7)⟩
def LastA (w:World) (m:Nat) (y:An × List It) (e:Ending) (w':World):Prop :=
 ∃ g o ln k la lc,e=.returned (.slice (some ⟨g,o,none⟩) ln k)∧ln=m+1∧Below w.heap.size w w'∧g < w'.heap.size∧w'.cell? ⟨g,o+m * 8,none⟩=some (.int .u64 y.1.id)∧w'.cell? ⟨g,o+m * 8+1,none⟩=some (.int .i64 y.1.k)∧w'.cell? ⟨g,o+m * 8+2,none⟩=some (.int .i64 y.1.s)∧w'.cell? ⟨g,o+m * 8+3,none⟩=some (.int .u64 y.1.t)∧w'.cell? ⟨g,o+m * 8+4,none⟩=some (.int .i64 y.1.x)∧w'.cell? ⟨g,o+m * 8+5,none⟩=some (.int .i64 y.1.e)∧w'.cell? ⟨g,o+m * 8+6,none⟩=some (.int .u64 y.1.v)∧w'.cell? ⟨g,o+m * 8+7,none⟩=some (.slice la y.2.length lc)∧ItemsAt w' la y.2
theorem answers_last {w:World} {base:Bs} {c:Nat} {col:Nat→Nat} {a:Cl} (H:CluV w base c col a) (hl:a.AL.length≤1000) (hl2:∀ x ∈ a.AL,x.2.length≤100000) {r:List (An × List It)} {y:An × List It} (hAL:a.AL=r ++ [y]) :
 Calls Tryz.prog 21 #[ptv c] w (LastA w r.length y):=by
 refine (canswers_any H hl hl2).mono ?_
 rintro e w' ⟨v,rfl,⟨L,h1,h2,h3⟩,h4⟩
 obtain ⟨A,cc,rfl,hr,_⟩:=OwnL.row An.cells_len h1
 have hll:a.AL.length=r.length+1:=by rw [hAL,List.length_append];rfl
 have hx1:r.length < L.length:=by omega
 obtain ⟨g,o,rfl,hg,k0,k1,k2,k3,k4,k5,k6,k7⟩:=RowAt.ans hr (Below.refl _ _) hx1
 have hy:a.AL[r.length]? = some y:=by rw [hAL,List.getElem?_append_right (Nat.le_refl _),Nat.sub_self];rfl
 obtain ⟨q1,q2,_⟩:=h3 r.length L[r.length] y (List.getElem?_eq_getElem hx1) hy
 have hit:=(H.its y (List.mem_of_getElem? hy)).1
 rw [q1] at k0 k1 k2 k3 k4 k5 k6 k7
 rw [hit.symm] at k7
 exact ⟨g,o,_,cc,_,_,rfl,by omega,h4,hg,k0,k1,k2,k3,k4,k5,k6,k7,q2⟩
set_option maxRecDepth 100000 in
set_option maxHeartbeats 1600000 in
theorem ask_any {w:World} {n c:Nat} {K:Nat→Prop} {col:Nat→Nat} {a:Cl} (H:CluV w ⟨n,K⟩ c col a) (k s t x id v:Int) (L:List It) (I J:Cl→Prop)
 (hcall:∀ (W:World) (K':Nat→Prop) (col:Nat→Nat),CluV W ⟨n,K'⟩ c col a→Calls Tryz.prog 19 #[ptv c,.int .i64 0,client4 k s t x] W fun e w'=>e=.returned (.tuple #[.int .u64 id,.int .i64 0])∧∃ col' a',CluV w' ⟨n,K'⟩ c col' a'∧I a'∧Bek ⟨n,K'⟩ W w')
 (hcalm:∀ (W:World) (K':Nat→Prop) (col:Nat→Nat) (a:Cl),CluV W ⟨n,K'⟩ c col a→I a→Calls Tryz.prog 20 #[ptv c,.int .i64 2000] W fun e w'=>e=.returned (.bool true)∧∃ col' a',CluV w' ⟨n,K'⟩ c col' a'∧J a'∧Bek ⟨n,K'⟩ W w')
 (hJ:∀ a,J a→a.C=[]∧a.AL.length≤1000∧(∀ y ∈ a.AL,y.2.length≤100000∧∀ z ∈ y.2,z.k=2)∧∃ r y,a.AL=r ++ [y]∧AnS y=(id,0,v,L)) :
 Calls Tryz.prog 17 #[ptv c,.int .i64 0,client4 k s t x] w (AskP w ⟨n,K⟩ c J id v L):=by
 have hz5:=heap_alloc_new w (.cells #[.int .i64 k,.int .i64 s,.int .u64 t,.int .i64 x] 48)
 have hb5:=below_alloc (Below.refl w.heap.size w) (.cells #[.int .i64 k,.int .i64 s,.int .u64 t,.int .i64 x] 48)
 obtain ⟨w1,hw1⟩:∃ w1,w.alloc (.cells #[.int .i64 k,.int .i64 s,.int .u64 t,.int .i64 x] 48)=w1:=⟨_,rfl⟩
 have hsz1:w.heap.size+1=w1.heap.size:=by rw [← hw1,World.size_alloc]
 rw [hw1] at hz5 hb5
 obtain ⟨g5,hg5⟩:∃ g,w.heap.size=g:=⟨_,rfl⟩
 rw [hg5] at hz5
 have lg5:=(Array.getElem?_eq_some_iff.1 hz5).1
 have hz6:=heap_alloc_new w1 (.cells #[.int .u64 0,.int .i64 0,.int .i64 0,.int .u64 0,.int .i64 0,.int .i64 0,.int .u64 0,.slice none 0 0] 50)
 have hb6:=below_alloc (Below.refl w1.heap.size w1) (.cells #[.int .u64 0,.int .i64 0,.int .i64 0,.int .u64 0,.int .i64 0,.int .i64 0,.int .u64 0,.slice none 0 0] 50)
 obtain ⟨w2,hw2⟩:∃ w2,w1.alloc (.cells #[.int .u64 0,.int .i64 0,.int .i64 0,.int .u64 0,.int .i64 0,.int .i64 0,.int .u64 0,.slice none 0 0] 50)=w2:=⟨_,rfl⟩
 rw [hw2] at hz6 hb6
 obtain ⟨g6,hg6⟩:∃ g,w1.heap.size=g:=⟨_,rfl⟩
 rw [hg6] at hz6
 have hg56:g5+1=g6:=by omega
 have lg6:=(Array.getElem?_eq_some_iff.1 hz6).1
 have hz52:=(hb6.block g5 lg5).trans hz5
 have lg52:g5 < w2.heap.size:=Nat.lt_of_lt_of_le lg5 hb6.size
 have hlt56:g5≤g6:=by have:=hb5.size;omega
 have c5:col g5=0:=H.col0 (by omega)
 have c6:col g6=0:=H.col0 (by omega)
 have hK0:∀ g,K g→g < g5:=fun g hg=>by have:=H.bl.2 g hg;omega
 have H2:CluV w2 ⟨n,K⟩ c col a:=(H.below hb5).below hb6
 have hg02:Below w.heap.size w w2:=below_step hb5 hb6
 have hbk:=H.bek hg02
 have H3:=H2.guard (K':=fun g=>K g ∨ g=g5 ∨ g=g6) (fun g e=>e.imp (fun e=>e) (fun e=>e.elim (fun e=>⟨by omega,by rw [e];exact c5⟩) (fun e=>⟨by omega,by rw [e];exact c6⟩)))
 have HCL:=hide (hcall w2 _ col H3)
 have HBL:=hide H3.bl
 have HCM:=hide hcalm
 have HJ:=hide hJ
 have HBK:=hide hbk
 have HW1:=hide hw1
 have HG5:=hide hg5
 have HW2:=hide hw2
 have HG6:=hide hg56
 have HZ5:=hide hz52
 have HZ6:=hide hz6
 have HL5:=hide lg52
 have HL6:=hide lg6
 have HK0:=hide hK0
 have HL56:=hide hlt56
 have HNB:=hide H.bl
 clear H H2 H3 hcall hcalm hJ hz5 hb5 hw1 hg5 lg5 hz6 hb6 hw2 hg6 hg56 hsz1 hz52 hlt56 c5 c6 hg02 hbk hK0
 go_enter Tryz.func17,Tryz.ntmps17
 go_upto_region 1 with fail
 rw [HW1.out,HG5.out,HW2.out,HG6.out]
 obtain ⟨z0,z1,z2,z3⟩:=four_cells HZ5.out
 go_wp2_with fail
 go_loopw [8] (fun i wr=>i=.int .i64 0∧wr=w2) (fun _ _=>0)
 case atStart=>exact ⟨rfl,rfl⟩
 case round =>
  obtain ⟨rfl,rfl⟩:=hrel
  go_upto_region 10 with (first
   | ((with_reducible refine (HCL.out).mono ?_);rintro e w3 ⟨rfl,col3,a3,h3,hi3,hg3⟩;have HG3:=hide hg3;have HCA:=hide (HCM.out w3 _ col3 a3 h3 hi3);clear h3 hi3 hg3)
   | ((with_reducible refine (HCA.out).mono ?_);rintro e w4 ⟨rfl,col4,a4,h4,hj4,hg4⟩;have HG4:=hide hg4;have H4:=hide h4;have HJ4:=hide hj4;obtain ⟨r4,y4,hr4,hy4⟩:=(HJ.out a4 hj4).2.2.2;have HAN:=hide (answers_last h4 (HJ.out a4 hj4).2.1 (fun y hy=>((HJ.out a4 hj4).2.2.1 y hy).1) hr4);have hm4:r4.length≤1000:=(by have h:=(HJ.out a4 hj4).2.1;rw [hr4,List.length_append] at h;simp only [List.length_singleton] at h;omega);have HR4:=hide hr4;have HY4:=hide (show y4.1.id=id∧y4.1.e=0∧y4.1.v=v∧y4.2=L by simpa [AnS] using hy4);have HM4:=hide hm4;clear h4 hj4 hg4 hr4 hy4 hm4)
   | ((with_reducible refine (HAN.out).mono ?_);rintro e w5 ⟨g7,o7,ln,k5,la,lc,rfl,hln,hg5,hl7,q0,q1,q2,q3,q4,q5,q6,q7,hit⟩;obtain ⟨e1,e2,e3,e4⟩:=HY4.out;rw [e1] at q0;rw [e2] at q5;rw [e3] at q6;rw [e4] at q7 hit;have HG5b:=hide hg5;have HIT:=hide hit;have hm4:=HM4.out;obtain ⟨m,hm⟩:∃ m,r4.length=m:=⟨_,rfl⟩;rw [hm] at hln q0 q1 q2 q3 q4 q5 q6 q7 hm4;have hne:¬ (ln:Int)=0:=(by omega);have hsub:(ln:Int) - 1=(m:Int):=(by omega);have hlt:(m:Int) < (ln:Int):=(by omega);have hm0:(0:Int)≤(m:Int):=(by omega);have hw:IntKind.i64.wrap ((ln:Int) - 1)=(m:Int):=(by rw [hsub,IntKind.wrap_i64];omega);have HLN:=hide hln;clear hg5 hit hm hln e1 e2 e3 e4))
  go_upto_region 11 with fail
  have hz7:=heap_alloc_new w5 (.cells #[.int .u64 id,.int .i64 y4.1.k,.int .i64 y4.1.s,.int .u64 y4.1.t,.int .i64 y4.1.x,.int .i64 0,.int .u64 v,.slice la L.length lc] 50)
  have hb7:=below_alloc (Below.refl w5.heap.size w5) (.cells #[.int .u64 id,.int .i64 y4.1.k,.int .i64 y4.1.s,.int .u64 y4.1.t,.int .i64 y4.1.x,.int .i64 0,.int .u64 v,.slice la L.length lc] 50)
  obtain ⟨w6,hw6⟩:∃ w6,w5.alloc (.cells #[.int .u64 id,.int .i64 y4.1.k,.int .i64 y4.1.s,.int .u64 y4.1.t,.int .i64 y4.1.x,.int .i64 0,.int .u64 v,.slice la L.length lc] 50)=w6:=⟨_,rfl⟩
  rw [hw6] at hz7 hb7 ⊢
  obtain ⟨g8,hg8⟩:∃ g,w5.heap.size=g:=⟨_,rfl⟩
  rw [hg8] at hz7 ⊢
  obtain ⟨r0,r1,r2,r3,r4',r5,r6,r7⟩:=ans_cells hz7
  have hl8:=(Array.getElem?_eq_some_iff.1 hz7).1
  have HB56:Hid (Below w5.heap.size w5 w6):=hide hb7
  have HB7:=hide (below_step HG5b.out HB56.out)
  have hs3:=HG3.out.size
  have hs4:=HG4.out.size
  have hz34:=(HG3.out.keep g6 (.inr (.inr rfl)) HL6.out).trans HZ6.out
  have hz44:=(HG4.out.keep g6 (.inr (.inr rfl)) (Nat.lt_of_lt_of_le HL6.out hs3)).trans hz34
  have hl64:g6 < w4.heap.size:=Nat.lt_of_lt_of_le HL6.out (Nat.le_trans hs3 hs4)
  have hz66:=(HB7.out.block g6 hl64).trans hz44
  have hl66:g6 < w6.heap.size:=Nat.lt_of_lt_of_le hl64 HB7.out.size
  have hne6:¬ g6=g8:=by have:=HG5b.out.size;omega
  have hne8:¬ g8=g6:=fun e=>hne6 e.symm
  have HZ66:=hide hz66
  have HL64:=hide hl64
  have HZ7:=hide hz7
  clear hz34 hz44 hs3 hs4 hw6 hg8 hb7 q0 q1 q2 q3 q4 q5 q6 q7 z0 z1 z2 z3 hm0 hlt hsub hw hne hz7
  go_upto_region 14 with fail
  obtain ⟨p0,p1,p2,p3,p4,p5,p6,p7⟩:=ans_cells hz66
  have zf:∀ o,w6.frozen? ⟨g6,o,none⟩=false:=fun o=>by simp [World.frozen?,hz66]
  have zf0:=zf 0
  have zf1:=zf 1
  have zf2:=zf 2
  have zf3:=zf 3
  have zf4:=zf 4
  have zf5:=zf 5
  have zf6:=zf 6
  have zf7:=zf 7
  clear zf hz66
  have hd1:((0:Int) == 0)=true:=rfl
  have hd2:((0:Int) != 0)=false:=rfl
  go_region
  have h9:=ans_all HZ66.out (.int .u64 id) (.int .i64 y4.1.k) (.int .i64 y4.1.s) (.int .u64 y4.1.t) (.int .i64 y4.1.x) (.int .i64 0) (.int .u64 v) (.slice la L.length lc)
  clear p0 p1 p2 p3 p4 p5 p6 p7 zf0 zf1 zf2 zf3 zf4 zf5 zf6 zf7
  revert h9
  generalize World.drew (World.setCell _ _ _)=wq
  rintro ⟨hz9,hs9⟩
  obtain ⟨p0,p1,p2,p3,p4,p5,p6,p7⟩:=ans_cells hz9
  have HS9:=hide hs9
  clear hz9 hs9 r0 r1 r2 r3 r4' r5 r6 r7
  go_wp2_with fail
  (try simp only [Exit.inBlock,Exit.then])
  refine bodyPost_ret (by simp [results,Tryz.results17,go_sem,p0,p1,p2,p3,p4,p5,p6,p7];try rfl) rfl ?_
  obtain ⟨e1,e2,e3,e4⟩:=HY4.out
  obtain ⟨hC4,_,hL4,_⟩:=HJ.out a4 HJ4.out
  have hyk:∀ z ∈ L,z.k=2:=fun z hz=>(hL4 y4 (by rw [HR4.out];simp)).2 z (by rw [e4];exact hz)
  have h6:=H4.out.below HB7.out
  have hb56:Below w5.heap.size w5 w6:=HB56.out
  have c6:col4 g6=0:=by
   by_cases h:col4 g6=0
   ·exact h
   ·exact absurd (.inr (.inr rfl)) (H4.out.ok g6 h).1.2
  have hit6:=HIT.out.below hb56
  have h9:=h6.set0 HS9.out c6 hC4 (fun x hx=>its_apart (h6.its x hx).2.1 (hL4 x hx).2 HZ66.out)
  refine ⟨{ y4.1 with id:=id,e:=0,v:=v,la:=la,ln:=L.length,lc:=lc },rfl,rfl,rfl,rfl,hit6.sets HS9.out (fun ad ha hn e=>its_apart hit6 hyk HZ66.out ad ha hn e),col4,a4,h9.guard (fun g e=>.inl (.inl e)),HJ4.out,?_⟩
  have hb6:Bek ⟨n,K⟩ w w6:=((HBK.out.trans (HG3.out.less (fun g e=>.inl e))).trans (HG4.out.less (fun g e=>.inl e))).trans ((H4.out.bek HB7.out).less (fun g e=>.inl e))
  have hnb:=HNB.out
  have h56:=HL56.out
  refine Sets.bek hb6 HS9.out (fun g e=>?_) (hnb.up hb6.size)
  rw [e]
  have hg5':=HG5.out
  have h1:n≤w.heap.size:=hnb.1
  exact ⟨by show n≤g6;omega,fun hk=>by have:=HK0.out g6 hk;omega⟩
end Go.Proofs.YtgmkckjedngkdaaGreatDoor
