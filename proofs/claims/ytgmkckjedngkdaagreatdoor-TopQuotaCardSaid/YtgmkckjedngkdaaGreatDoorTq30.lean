/- A part of the proof that TopQuotaLaw holds: XZLas. Conditions: as typed. -/
import Derived.Test.YtgmkckjedngkdaaGreatDoorTq28
import Derived.Test.YtgmkckjedngkdaaGreatDoorTq29
set_option linter.unusedVariables false
set_option linter.unusedSimpArgs false
namespace Go.Proofs.YtgmkckjedngkdaaGreatDoor
open Go.ChangeShapes Go.WideShapes Go.ChangeAt Go.RowKit Go.Shelf
def LastTo (R:Sr) (L:List It) (M:Nat) (B:Bool) (R':Sr):Prop :=
 (joinL R.S L=R.S∧B=true∧∃ K',SameD R.K K'∧R'={ R with K:=K' }) ∨
 (joinL R.S L ≠ R.S∧B=true∧∃ R1 K',AplTo R L M 0 R1∧SameD R1.K K'∧R'={ R1 with K:=K' }) ∨
 (joinL R.S L ≠ R.S∧B=false∧∃ ee,ee ≠ 0∧AplTo R L M ee R')
theorem box_put {w:World} {g:Nat} {v0:Value} {t:TypeId} (h:w.heap[g]? = some (.cells #[v0] t (0,0))) (v:Value):(w.setCell ⟨g,0,none⟩ v).heap[g]? = some (.cells #[v] t (0,0)):=by
 simp [World.setCell,Array.getElem?_modify,h]
theorem box_cell {w:World} {g:Nat} {v0:Value} {t:TypeId} (h:w.heap[g]? = some (.cells #[v0] t (0,0))):w.cell? ⟨g,0,none⟩=some v0:=(cell_of_row w g 0 _ _ _ h).trans rfl
set_option maxRecDepth 100000 in
set_option maxHeartbeats 3200000 in
theorem nlast_same {w:World} {base n:Nat} {X:Nat→Prop} {N:Nr} (H:NodeO w base n X N) (A:Option Addr) (c:Nat) (L:List It) (hL:ItemsAt w A L) (hcc:L.length≤c∧c≤maxLen) (hl:L.length≤1000) (hs:joinL N.R.S L=N.R.S) :
   Calls Tryz.prog 28 #[ptv n,.slice A L.length c] w fun e w'=>∃ K',e=.returned (.bool true)∧SameD N.R.K K'∧NodeO w' base n (Xw X w w') { N with R:={ N.R with K:=K' } }∧Sets X w w':=by
 have hbd:=H.bd
 have hnl:=H.lt
 have hbl:base≤w.heap.size:=by obtain ⟨s,Y,H⟩:=H;have:=H.bd n H.nX;omega
 obtain ⟨w0,hw0⟩:∃ w0,(w.alloc (.cells #[ptv n] 25)).alloc (.cells #[.bool false] 4)=w0:=⟨_,rfl⟩
 have hb0:Below w.heap.size w w0:=by rw [← hw0];exact below_alloc (below_alloc (Below.refl w.heap.size w) _) _
 have hz2:w0.heap[w.heap.size]? = some (.cells #[ptv n] 25 (0,0)):=by rw [← hw0];exact (Below.heap_alloc _ _ _ (by simp)).trans (heap_alloc_new w _)
 have hz4:w0.heap[w.heap.size+1]? = some (.cells #[.bool false] 4 (0,0)):=by
   have:=heap_alloc_new (w.alloc (.cells #[ptv n] 25)) (.cells #[.bool false] 4)
   rw [hw0,World.size_alloc] at this
   exact this
 obtain ⟨g2,hg2⟩:∃ g,w.heap.size=g:=⟨_,rfl⟩
 rw [hg2] at hz2 hz4
 have hl4:g2+1 < w0.heap.size:=(Array.getElem?_eq_some_iff.1 hz4).1
 obtain ⟨s,Y,H0⟩:=H.below hb0
 have k1:=H0.cells.2.1
 have b2:=box_cell hz2
 have HS:=hide (sstate_any H0.st)
 have HH:=hide H0
 have HB0:=hide hb0
 have HZ4:=hide hz4
 have HZ2:=hide hz2
 have HG2:=hide hg2
 have HW0:=hide hw0
 have HLI:=hide (hL.below hb0)
 have HBD:=hide hbd
 have HBL:=hide hbl
 have HCC:=hide hcc
 have HLL:=hide hl
 have hn0:n < w0.heap.size:=H0.lt
 have hns:∀ W,Sets Y w0 W→_:=fun W k=>(k.block n H0.lt H0.nY).trans H0.box
 have hYg:∀ g,Y g→g < g2:=fun g hg=>by have:=(hbd g (H0.inX g hg)).2;omega
 have HYG:=hide hYg
 obtain ⟨S0,hS0⟩:∃ S0,N.R.S=S0:=⟨_,rfl⟩
 have hSl:S0.length≤1500:=by rw [← hS0];obtain ⟨h,h1⟩:=H0.st;exact h1.few.1
 rw [hS0] at HS hs
 have HSE:=hide hs
 have HSL:=hide hSl
 clear H hbd hbl hcc hl hL hb0 hz2 hz4 hg2 hw0 H0 hnl hs hns hYg hSl hS0
 go_enter Tryz.func28,Tryz.ntmps28
 go_upto_region 1 with fail
 rw [HW0.out,HG2.out]
 go_wp2_with ((with_reducible refine (HS.out).mono ?_);rintro e w1 ⟨v1,rfl,ho1,hg1⟩;obtain ⟨bc1,bf1⟩:=bcell hg1;have e2:=(bc1 g2 0 (by omega)).trans b2;have e1:=(bc1 n 1 hn0).trans k1;obtain ⟨A1,c1,rfl,hr1,hq1⟩:=ho1.sl;have HO1:=hide ho1;have HG1:=hide hg1;clear ho1 hg1 b2 k1 bc1 bf1)
 refine (Calls.mono (pjoin_sl (Sl.mk_ hr1 hq1.1 hq1.2) (Sl.mk_ (HLI.out.below HG1.out) HCC.out.1 HCC.out.2) (by have:=HSL.out;omega) (by have:=HLL.out;omega)) ?_);rintro e w2 ⟨v2,rfl,ho2,hg2⟩
 rw [HSE.out] at ho2
 obtain ⟨A2,c2,rfl,hr2,hq2⟩:=ho2.sl
 have hsm:=psame_any_ A1 A2 c1 c2 S0 S0 w2 (hr1.below hg2) hr2 (by have:=HSL.out;omega) (by have:=HSL.out;omega)
 rw [show eqL S0 S0=true from eqL_iff.2 rfl] at hsm
 have HSM:=hide hsm
 have HG12:=hide (below_step HG1.out hg2)
 clear ho2 hsm hr1 hq1 hr2 hq2 hg2 e2 e1 HO1 HG1
 go_wp2_with fail
 refine (Calls.mono HSM.out ?_);rintro e w3 ⟨rfl,hg3⟩
 have HG3:=hide (below_step HG12.out hg3)
 have HY:=hide (ssync_any (HH.out.st.below HG3.out))
 have e2:w3.cell? ⟨g2,0,none⟩=some (ptv n):=(HG3.out.cell (p:=⟨g2,0,none⟩) (show g2 < w0.heap.size by omega)).trans (box_cell HZ2.out)
 have e1:w3.cell? ⟨n,1,none⟩=some (ptv s):=(HG3.out.cell (p:=⟨n,1,none⟩) hn0).trans HH.out.cells.2.1
 clear hg3 HG12 HSM
 go_wp2_with ((with_reducible refine (HY.out).mono ?_);rintro e w4 ⟨K',rfl,hsd,hst,hk⟩;have HSD:=hide hsd;have HST:=hide hst;have HK:=hide hk;have hz4:=(hk.block (g2+1) (Nat.lt_of_lt_of_le hl4 HG3.out.size) (fun e=>by have:=HYG.out _ e;omega)).trans ((HG3.out.block (g2+1) hl4).trans HZ4.out);have p4:=box_cell hz4;have f4:w4.frozen? ⟨g2+1,0,none⟩=false:=(by simp [World.frozen?,hz4]);have HZ:=hide hz4;clear hsd hst hk hz4)
 have hp:=box_put HZ.out (.bool true)
 have hS:=sets1 w4 (g2+1) 0 (.bool true)
 have hc5:=box_cell hp
 obtain ⟨w5,hw5⟩:∃ w5,w4.setCell ⟨g2+1,0,none⟩ (.bool true)=w5:=⟨_,rfl⟩
 rw [hw5] at hp hS hc5 ⊢
 refine bodyPost_ret (v:=.bool true) (by simp [results,Tryz.results28,go_sem,hc5]) rfl ?_
 have H3:=HH.out.sets (S:=fun _=>False) (Sets.of HG3.out) (fun _ _=>id)
 have H4:=H3.put HK.out HST.out
 have hX4:Sets X w w4:=((Sets.of (S:=X) HB0.out).trans (Sets.of (S:=fun _=>False) HG3.out) (fun _ _ h=>h.elim)).trans (H3.up HK.out) (fun _ _ e=>e)
 have hX5:Sets X w w5:=hX4.trans hS (fun g hg e=>by subst e;have:=HG2.out;omega)
 have hg1lt:g2+1 < w3.heap.size:=Nat.lt_of_lt_of_le hl4 HG3.out.size
 have H5:=H4.sets hS (fun g hg e=>by
   subst e
   rcases hg with e | e
   · have:=(HBD.out _ e).2;have:=HG2.out;omega
   · omega)
 refine ⟨K',rfl,HSD.out,⟨s,_,H5.wide (fun g hg=>hg.imp (fun h=>h) (fun e=>⟨?_,?_⟩)) (Xw.bd HBD.out HBL.out hX5.size)⟩,hX5⟩
 · exact Nat.le_trans (Nat.le_trans HB0.out.size HG3.out.size) e.1
 · exact Nat.lt_of_lt_of_le e.2 hS.size
attribute [local go_sem] Oper.semAt_some
set_option maxRecDepth 100000 in
set_option maxHeartbeats 3200000 in
theorem nlast_new {w:World} {base n:Nat} {X:Nat→Prop} {N:Nr} (H:NodeO w base n X N) (A:Option Addr) (c:Nat) (L:List It) (hL:ItemsAt w A L) (hcc:L.length≤c∧c≤maxLen) (hA:∀ a,A=some a→L ≠ []→¬ X a.block) (h0:1≤L.length) (hl:L.length≤1000) (hW:∀ x ∈ L,x.wf) (hg:L.all goodB=true)
   (M:Nat) (hM:∀ z ∈ N.R.K.Z,z.L.length≤M) (hM2:M≤250000) (hmf:N.R.mf+L.length≤1000000000) (hs:joinL N.R.S L ≠ N.R.S) :
   Calls Tryz.prog 28 #[ptv n,.slice A L.length c] w fun e w'=>∃ B R',e=.returned (.bool B)∧LastTo N.R L M B R'∧NodeO w' base n (Xw X w w') { N with R:=R' }∧Sets X w w':=by
 obtain ⟨s,Y,H⟩:=H
 have hbd:=H.bd
 have hnl:=H.lt
 have kw:=H.cells.2.1
 have hbl:base≤w.heap.size:=by have:=H.bd n H.nX;omega
 obtain ⟨w0,hw0⟩:∃ w0,(w.alloc (.cells #[ptv n] 25)).alloc (.cells #[.bool false] 4)=w0:=⟨_,rfl⟩
 have hb0:Below w.heap.size w w0:=by rw [← hw0];exact below_alloc (below_alloc (Below.refl w.heap.size w) _) _
 have hz2:w0.heap[w.heap.size]? = some (.cells #[ptv n] 25 (0,0)):=by rw [← hw0];exact (Below.heap_alloc _ _ _ (by simp)).trans (heap_alloc_new w _)
 have hz4:w0.heap[w.heap.size+1]? = some (.cells #[.bool false] 4 (0,0)):=by
   have:=heap_alloc_new (w.alloc (.cells #[ptv n] 25)) (.cells #[.bool false] 4)
   rw [hw0,World.size_alloc] at this
   exact this
 obtain ⟨g2,hg2⟩:∃ g,w.heap.size=g:=⟨_,rfl⟩
 rw [hg2] at hz2 hz4
 have hl4:g2+1 < w0.heap.size:=(Array.getElem?_eq_some_iff.1 hz4).1
 have H0:=H.sets (S:=fun _=>False) (Sets.of hb0) (fun _ _=>id)
 have k1:=H0.cells.2.1
 have b2:=box_cell hz2
 have HS:=hide (sstate_any H0.st)
 have HH:=hide H0
 have HB0:=hide hb0
 have HZ4:=hide hz4
 have HZ2:=hide hz2
 have HG2:=hide hg2
 have HW0:=hide hw0
 have HLI:=hide (hL.below hb0)
 have HBD:=hide hbd
 have HBL:=hide hbl
 have HCC:=hide hcc
 have HLL:=hide hl
 have hn0:n < w0.heap.size:=H0.lt
 have hYg:∀ g,Y g→g < g2:=fun g hg=>by have:=(hbd g (H0.inX g hg)).2;omega
 have HYG:=hide hYg
 obtain ⟨S0,hS0⟩:∃ S0,N.R.S=S0:=⟨_,rfl⟩
 have hSl:S0.length≤1500:=by rw [← hS0];obtain ⟨h,h1⟩:=H0.st;exact h1.few.1
 have hjl:(joinL S0 L).length≤4611686018427387904:=by have:=joinL_len S0 L;omega
 have HSN:=hide hs
 rw [hS0] at HS
 have hse:eqL S0 (joinL S0 L)=false:=eqL_false (fun e=>hs (by rw [hS0];exact e.symm))
 have HSE:=hide hse
 have HSL:=hide hSl
 have HJL:=hide hjl
 have HAX:=hide (fun (g:Nat) (o:Nat) (e:A=some ⟨g,o,none⟩) (hY:Y g)=>hA _ e (fun e2=>by rw [e2] at h0;simp at h0) (H0.inX g hY))
 have HAP:=hide (fun (W:World) (hSt:StoreO W base s Y N.R) (hI:ItemsAt W A L) (hA2:∀ a,A=some a→L ≠ []→¬ Y a.block)=>sapply_any hSt A L.length L hI ⟨Nat.le_refl _,by omega⟩ hA2 h0 hl hW hg M hM hM2 hmf)
 have hN1:1≤L.length∧L.length≤1000:=⟨h0,hl⟩
 have HN1:=hide hN1
 clear H hbd hbl hcc hl hb0 hz2 hz4 hg2 hw0 H0 hs hYg hSl hS0 hse hW hg hM hM2 hmf hA h0 hjl hL hN1
 refine (callsIn_wide (n:=6)).1 ?_
 refine callsIn_of_wp_marks Tryz.func28 rfl trivial ?_ rfl
 simp only [Tryz.ntmps28,List.size_toArray,List.length_cons,List.length_nil,Nat.reduceAdd,Nat.reduceSub,Array.replicate_succ,Array.replicate_zero,List.push_toArray,List.append_toArray,List.nil_append,List.cons_append]
 gi_wp2_with (first
   | (refine ⟨trivial,?_⟩;gi_at_call 33;rw [HW0.out,HG2.out];refine (callsIn_wide.2 HS.out).mono ?_;rintro e w1 ⟨v1,rfl,ho1,hg1⟩;obtain ⟨bc1,bf1⟩:=bcell hg1;have e2:=(bc1 g2 0 (by omega)).trans b2;have e1:=(bc1 n 1 hn0).trans k1;obtain ⟨A1,c1,rfl,hr1,hq1⟩:=ho1.sl;have HR1:=hide (And.intro hr1 hq1);have HG1:=hide hg1;clear ho1 hg1 b2 k1 kw hnl bc1 bf1 hr1 hq1)
   | (refine ⟨trivial,?_⟩;gi_at_call 69;refine (callsIn_wide.2 (pjoin_sl (Sl.mk_ HR1.out.1 HR1.out.2.1 HR1.out.2.2) (Sl.mk_ (HLI.out.below HG1.out) HCC.out.1 HCC.out.2) (by have:=HSL.out;omega) (by have:=HLL.out;omega))).mono ?_;rintro e w2 ⟨v2,rfl,ho2,hg2⟩;obtain ⟨A2,c2,rfl,hr2,hq2⟩:=ho2.sl;have hsm:=psame_any_ A1 A2 c1 c2 S0 (joinL S0 L) w2 (HR1.out.1.below hg2) hr2 (by have:=HSL.out;omega) HJL.out;rw [HSE.out] at hsm;have HSM:=hide hsm;have HG12:=hide (below_step HG1.out hg2);clear ho2 hsm hr2 hq2 hg2 e2 e1)
   | (refine ⟨trivial,?_⟩;gi_at_call 80;refine (callsIn_wide.2 HSM.out).mono ?_;rintro e w3 ⟨rfl,hg3⟩;have HG3:=hide (below_step HG12.out hg3);clear hg3 HG12 HSM))
 refine ⟨trivial,(callsIn_wide.2 (chunk_any A L.length c w3)).mono ?_⟩
 rintro e w4 ⟨rfl,hw4⟩
 have hgb:∃ gb off,A=some ⟨gb,off,none⟩:=by
   obtain ⟨gb,off,h,_⟩:=HLI.out (fun e=>by have:=HN1.out.1;rw [e] at this;simp at this)
   exact ⟨gb,off,h⟩
 obtain ⟨gb,off,hAe⟩:=hgb
 have HAE:=hide hAe
 have hb4:Below w3.heap.size w3 w4:=by rw [hw4];exact below_alloc (below_alloc (Below.refl _ _) _) _
 have hs4:w4.heap.size=w3.heap.size+2:=by rw [hw4];simp
 have hcs:w4.cell? ⟨w3.heap.size,0,none⟩=some (.slice (some ⟨gb,off,none⟩) L.length c):=by
   rw [hw4,← HAE.out]
   exact box_cell (t:=31) ((Below.heap_alloc _ _ _ (by simp)).trans (heap_alloc_new w3 _))
 have hcn:w4.cell? ⟨w3.heap.size+1,0,none⟩=some (.int .i64 1000):=by
   rw [hw4]
   have:=heap_alloc_new (w3.alloc (.cells #[.slice A L.length c] 31)) (.cells #[.int .i64 1000] 3)
   rw [World.size_alloc] at this
   exact box_cell this
 obtain ⟨bs,hbs⟩:∃ b,w3.heap.size=b:=⟨_,rfl⟩
 rw [hbs] at hcs hcn hs4 ⊢
 have HB4:=hide (below_step HG3.out hb4)
 have HCS:=hide hcs
 have HCN:=hide hcn
 have HS4:=hide hs4
 have HBS:=hide hbs
 have h3s:w0.heap.size≤w3.heap.size:=HG3.out.size
 clear hw4 hb4 hcs hcn hs4 hbs hAe
 have FIN:∀ (Wb W9:World) (Y9 Z:Nat→Prop) (R9:Sr),Below w0.heap.size w0 Wb→StoreO W9 base s Y9 R9→Sets Z Wb W9→(∀ g,Z g→Y g ∨ (g2≤g∧g ≠ n))→(∀ g,Y9 g→Y g ∨ (Wb.heap.size≤g∧g < W9.heap.size)) →
     NodeO W9 base n (Xw X w W9) { N with R:=R9 }∧Sets X w W9:=fun Wb W9 Y9 Z R9 hb hst hs hZ hY9=>by
   have hgw:=HG2.out
   have hn2:n < w0.heap.size:=hn0
   have hwb:Below w.heap.size w Wb:=below_step HB0.out hb
   have hsX:Sets X w W9:=(Sets.of (S:=X) hwb).trans hs (fun g hg e=>by
     rcases hZ g e with e | e
     · exact HH.out.inX g e
     · omega)
   have hnW:n < Wb.heap.size:=Nat.lt_of_lt_of_le hn2 hb.size
   refine ⟨⟨s,Y9,?_⟩,hsX⟩
   exact {
     box:=(hs.block n hnW (fun e=>by
       rcases hZ n e with e | e
       · exact HH.out.nY e
       · exact e.2 rfl)).trans ((hb.block n hn2).trans HH.out.box)
     st:=hst
     inX:=fun g e=>by
       rcases hY9 g e with e | e
       · exact .inl (HH.out.inX g e)
       · exact .inr ⟨Nat.le_trans hwb.size e.1,e.2⟩
     nX:=.inl HH.out.nX
     nY:=fun e=>by
       rcases hY9 n e with e | e
       · exact HH.out.nY e
       · omega
     bd:=Xw.bd HBD.out HBL.out hsX.size }
 have FINH:=hide FIN
 clear FIN
 gi_wp2
 refine range_one rfl (by omega) (gf:=160) (lb:=#[.pointer (some ⟨bs,0,none⟩),.pointer (some ⟨bs+1,0,none⟩)]) rfl trivial (enters_of Tryz.func160 (by kernel_rfl) rfl) (xs:=#[.slice (some ⟨gb,off,none⟩) L.length L.length]) rfl
   { tmps:=#[ptv n,.slice A L.length c,.pointer (some ⟨g2,0,none⟩),undef,.pointer (some ⟨g2+1,0,none⟩),.slice A1 S0.length c1,.slice (some ⟨gb,off,none⟩) L.length L.length,ptv n,.pointer (some ⟨n,0,none⟩),.pointer (some ⟨n,1,none⟩),ptv s,.slice A1 S0.length c1,.slice A1 S0.length c1,.slice A1 S0.length c1,.slice A L.length c,.slice A2 (joinL S0 L).length c2,.bool false,.bool true,.slice A L.length c,.func (.func 160) #[] #[.pointer (some ⟨bs,0,none⟩),.pointer (some ⟨bs+1,0,none⟩)],.slice (some ⟨gb,off,none⟩) L.length L.length,undef,undef,undef,undef,undef,undef,undef,undef,undef,undef,undef,undef,undef],defers:=[] } ?assign
   (fun W=>W.cell? ⟨bs,0,none⟩=some (.slice (some ⟨gb,off,none⟩) L.length c)∧W.cell? ⟨bs+1,0,none⟩=some (.int .i64 1000)) ?keep
   (fun Wb W3=>(W3.cell? ⟨bs,0,none⟩=some (.slice (some ⟨gb,off,none⟩) L.length c)∧W3.cell? ⟨bs+1,0,none⟩=some (.int .i64 1000))∧∃ R1,AplTo N.R L M 0 R1∧StoreO W3 base s (Xw Y Wb W3) R1∧Sets Y Wb W3)
   (fun Wb W3=>∃ ee R1 W',ee ≠ 0∧AplTo N.R L M ee R1∧StoreO W' base s (Xw Y Wb W') R1∧Sets Y Wb W'∧W3=W'.setCell ⟨g2+1,0,none⟩ (.bool false))
   (fun _ _ h=>h.1) ?hit ?body ?done ?stop
 case assign =>
   intro l W K hK
   gi_wp2
   exact hK
 case keep =>
   intro W W' hS h
   have hlt:∀ k (v:Value),W.cell? ⟨k,0,none⟩=some v→k < W.heap.size:=fun k v e=>by
     by_cases hk:k < W.heap.size
     · exact hk
     · have:W.heap[k]? = none:=by simp;omega
       simp [World.cell?,this] at e
   have hs:=HS4.out
   exact ⟨(World.cell?_of_block (hS.block bs (hlt _ _ h.1) (by omega))).trans h.1,(World.cell?_of_block (hS.block (bs+1) (hlt _ _ h.2) (by omega))).trans h.2⟩
 case hit =>
   intro l W J1 Jx hW hY
   exact chunk_one Fence.wide _ trivial rfl (by omega) l bs (bs+1) gb off L.length c HN1.out HCC.out J1 Jx W ((hW.cell (p:=⟨bs,0,none⟩) (show bs < w4.heap.size by have:=HS4.out;omega)).trans HCS.out) ((hW.cell (p:=⟨bs+1,0,none⟩) (show bs+1 < w4.heap.size by have:=HS4.out;omega)).trans HCN.out) (by have:=hW.size;have:=HS4.out;omega) (by have:=hW.size;have:=HS4.out;omega) hY
 case body =>
   intro l Wb hWb hlt
   have hb:=below_step HB4.out hWb
   have e2:Wb.cell? ⟨g2,0,none⟩=some (ptv n):=(hb.cell (p:=⟨g2,0,none⟩) (show g2 < w0.heap.size by omega)).trans (box_cell HZ2.out)
   have e1:Wb.cell? ⟨n,1,none⟩=some (ptv s):=(hb.cell (p:=⟨n,1,none⟩) hn0).trans HH.out.cells.2.1
   have hap:=HAP.out Wb (HH.out.st.below hb) (HLI.out.below hb) (fun a ha=>by obtain ⟨ab,ao,_⟩:=a;rw [HAE.out] at ha;cases ha;exact fun _ hY=>HAX.out gb off HAE.out hY)
   have hz4:=(hb.block (g2+1) hl4).trans HZ4.out
   have hz2:=(hb.block g2 (by omega)).trans HZ2.out
   have hg4:g2+1 < Wb.heap.size:=Nat.lt_of_lt_of_le hl4 hb.size
   have hsz4:=HS4.out
   have hkp:∀ W2,Sets Y Wb W2→KeepsFrom w4.heap.size Wb W2:=fun W2 k=>⟨k.size,fun j o hj ho _=>(k.block j (Array.getElem?_eq_some_iff.1 ho).1 (fun e=>by have:=HYG.out _ e;have:=HBS.out;omega)).trans ho⟩
   have hcb:∀ W2,Sets Y Wb W2→W2.cell? ⟨bs,0,none⟩=some (.slice (some ⟨gb,off,none⟩) L.length c)∧W2.cell? ⟨bs+1,0,none⟩=some (.int .i64 1000):=fun W2 k=>by
     have b1:Wb.heap[bs]? = w4.heap[bs]?:=hWb.block bs (by omega)
     have b2:Wb.heap[bs+1]? = w4.heap[bs+1]?:=hWb.block (bs+1) (by omega)
     exact ⟨(World.cell?_of_block ((k.block bs (by omega) (fun e=>by have:=HYG.out _ e;have:=HBS.out;omega)).trans b1)).trans HCS.out,(World.cell?_of_block ((k.block (bs+1) (by omega) (fun e=>by have:=HYG.out _ e;have:=HBS.out;omega)).trans b2)).trans HCN.out⟩
   have HKP:=hide hkp
   have HCB:=hide hcb
   have HZ4b:=hide hz4
   rw [HAE.out] at hap
   have HAPb:=hide hap
   clear hap hkp hcb hz4 hz2 hsz4 hb
   gi_wp2
   refine ⟨trivial,(CallsIn.inRound l (callsIn_wide.2 HAPb.out)).mono ?_⟩
   rintro e W2 ⟨ee,R1,rfl,hto,hst,hk⟩
   by_cases hee:ee=0
   · subst hee
     have HF:=hide (And.intro (HKP.out W2 hk) (And.intro (HCB.out W2 hk) (And.intro hto (And.intro hst hk))))
     clear hto hst hk
     gi_wp2
     exact ⟨HF.out.1,HF.out.2.1,R1,HF.out.2.2.1,HF.out.2.2.2.1,HF.out.2.2.2.2⟩
   · have hne:(ee != 0)=true:=by simp [hee]
     have hzz:=(hk.block (g2+1) hg4 (fun e=>by have:=HYG.out _ e;omega)).trans HZ4b.out
     have p4:=box_cell hzz
     have f4:W2.frozen? ⟨g2+1,0,none⟩=false:=by simp [World.frozen?,hzz]
     have HF:=hide (And.intro (HKP.out W2 hk) (And.intro hto (And.intro hst hk)))
     have HEE:=hide hee
     clear hto hst hk hee hzz
     gi_wp2
     have hkf:=HF.out.1
     refine ⟨⟨Nat.le_trans hkf.size (by simp [World.setCell]),fun j o hj ho hc=>?_⟩,ee,R1,W2,HEE.out,HF.out.2.1,HF.out.2.2.1,HF.out.2.2.2,rfl⟩
     have h1:=hkf.same j o hj ho hc
     exact (Below.heap_setCell W2 ⟨g2+1,0,none⟩ (.bool false) j (fun e=>by have h2:j=g2+1:=e;have:=HS4.out;have:=HBS.out;omega)).trans h1
 case done =>
   rintro Wb W3 W5 hWb hlt ⟨hkb,R1,hto,hst,hk⟩ hS hD
   have hb:=below_step HB4.out hWb
   have hsz4:=HS4.out
   have hbs:=HBS.out
   have hold:∀ j o,j < w0.heap.size→w0.heap[j]? = some o→¬ Y j→j < bs→W5.heap[j]? = some o:=fun j o hj ho hY hjb=>(hS.block j (Nat.lt_of_lt_of_le (Nat.lt_of_lt_of_le hj hb.size) hk.size) (by omega)).trans ((hk.block j (Nat.lt_of_lt_of_le hj hb.size) hY).trans ((hb.block j hj).trans ho))
   have hz4:=hold (g2+1) _ hl4 HZ4.out (fun e=>by have:=HYG.out _ e;omega) (by omega)
   have e2:=box_cell (hold g2 _ (by omega) HZ2.out (fun e=>by have:=HYG.out _ e;omega) (by omega))
   have hbx:=hold n _ hn0 HH.out.box HH.out.nY (by omega)
   have e1:W5.cell? ⟨n,1,none⟩=some (ptv s):=(four_cells hbx).2.1
   have hst5:=hst.sets hS (fun g hg e=>by
     rcases hg with hg | hg
     · have:=HYG.out _ hg;omega
     · omega)
   have HY5:=hide (ssync_any hst5)
   have HSW:Hid (Sets Y w0 W5→True):=hide (fun _=>trivial)
   have HZ5:=hide hz4
   have HD5:=hide hD
   have HTO:=hide hto
   have HBB:=hide hb
   have HSS:=hide hS
   have HK3:=hide hk
   have hy5:∀ g,Xw Y Wb W3 g→g < g2 ∨ bs+3 < g:=fun g hg=>by
     rcases hg with hg | hg
     · exact .inl (HYG.out _ hg)
     · exact .inr (by omega)
   have HYX:=hide hy5
   have h53:W3.heap.size≤W5.heap.size:=hS.size
   have hg5:bs+3 < W5.heap.size:=by have:=hk.size;omega
   have HBX:=hide hbx
   clear hold hkb hto hst hk hS hD hz4 hbx hst5 hb hWb hy5
   gi_wp2_with (refine ⟨trivial,?_⟩;gi_at_call 83;refine (callsIn_wide.2 HY5.out).mono ?_;rintro e W6 ⟨K',rfl,hsd,hst,hk6⟩;have hz6:=(hk6.block (g2+1) (by omega) (fun e=>by have:=HYX.out _ e;omega)).trans HZ5.out;have p6:=box_cell hz6;have f6:W6.frozen? ⟨g2+1,0,none⟩=false:=(by simp [World.frozen?,hz6]);have HZ6:=hide hz6;have HSD:=hide hsd;have HST:=hide hst;have HK6:=hide hk6;clear hsd hst hk6 hz6)
   have hz7:=box_put HZ6.out (.bool true)
   have hd7:(W6.setCell ⟨g2+1,0,none⟩ (.bool true)).heap[bs+2]? = some (.deferred (some [])):=by
     have hd5:=HD5.out
     rw [HS4.out] at hd5
     have h1:=(HK6.out.block (bs+2) (by omega) (fun e=>by have:=HYX.out _ e;omega)).trans hd5
     exact (Below.heap_setCell W6 ⟨g2+1,0,none⟩ (.bool true) (bs+2) (fun e=>by have h2:bs+2=g2+1:=e;omega)).trans h1
   have hS7:=sets1 W6 (g2+1) 0 (.bool true)
   obtain ⟨W7,hW7⟩:∃ W7,W6.setCell ⟨g2+1,0,none⟩ (.bool true)=W7:=⟨_,rfl⟩
   rw [hW7] at hz7 hd7 hS7 ⊢
   have hlt7:bs+2 < W7.heap.size:=(Array.getElem?_eq_some_iff.1 hd7).1
   have hS8:=sets_putObj W7 (bs+2) (.deferred none) hlt7
   have hz8:(W7.putObj (bs+2) (.deferred none)).heap[g2+1]? = some (.cells #[.bool true] 4 (0,0)):=(World.putObj_heap_other (by omega)).trans hz7
   refine ⟨by simp,.inl ⟨_,_,rfl,run_takeDeferred hd7,?_⟩⟩
   obtain ⟨W8,hW8⟩:∃ W8,W7.putObj (bs+2) (.deferred none)=W8:=⟨_,rfl⟩
   rw [hW8] at hS8 hz8 ⊢
   have c8:=box_cell hz8
   have hy6:∀ g,Xw (Xw Y Wb W3) W5 W6 g→g ≠ g2+1∧g ≠ bs+2:=fun g hg=>by
     rcases hg with hg | hg
     · have:=HYX.out _ hg;omega
     · omega
   have hst8:=(HST.out.sets hS7 (fun g hg e=>(hy6 g hg).1 e)).sets hS8 (fun g hg e=>(hy6 g hg).2 e)
   have hZ8:Sets (fun g=>Y g ∨ (g2≤g∧g ≠ n)) Wb W8:=by
     have hnb:n ≠ bs+3∧n ≠ bs+2∧n ≠ g2+1:=by
       refine ⟨by omega,by omega,fun e=>?_⟩
       have:=HBX.out
       rw [e,HZ5.out] at this
       cases this
     refine (((((Sets.refl (S:=fun g=>Y g ∨ (g2≤g∧g ≠ n)) Wb).trans HK3.out (fun g _ e=>.inl e)).trans HSS.out (fun g _ e=>.inr ⟨by omega,by omega⟩)).trans HK6.out (fun g hg e=>?_)).trans hS7 (fun g _ e=>.inr ⟨by omega,by omega⟩)).trans hS8 (fun g _ e=>.inr ⟨by omega,by omega⟩)
     rcases e with e | e
     · exact .inl e
     · omega
   have hF:=FINH.out Wb W8 _ _ _ HBB.out hst8 hZ8 (fun g e=>e) (fun g e=>by
     have h65:=HK6.out.size
     have h7:=hS7.size
     have h8:=hS8.size
     have h3:=HK3.out.size
     rcases e with (e | e) | e
     · exact .inl e
     · exact .inr ⟨e.1,by omega⟩
     · exact .inr ⟨by omega,by omega⟩)
   exact ⟨.bool true,by simp [results,Tryz.results28,go_sem,c8],true,{ R1 with K:=K' },rfl,.inr (.inl ⟨HSN.out,rfl,R1,K',HTO.out,HSD.out,rfl⟩),hF.1,hF.2⟩
 case stop =>
   rintro Wb W3 W5 hWb hlt ⟨ee,R1,W',hee,hto,hst,hk,rfl⟩ hS hD
   gi_wp2
   have hb:=below_step HB4.out hWb
   have hsz4:=HS4.out
   have hbs:=HBS.out
   have hksz:=hk.size
   have hbsz:=hb.size
   have hz1:=(hk.block (g2+1) (by omega) (fun e=>by have:=HYG.out _ e;omega)).trans ((hb.block (g2+1) hl4).trans HZ4.out)
   have hz2:=box_put hz1 (.bool false)
   have hS2:=sets1 W' (g2+1) 0 (.bool false)
   obtain ⟨W2,hW2⟩:∃ W2,W'.setCell ⟨g2+1,0,none⟩ (.bool false)=W2:=⟨_,rfl⟩
   rw [hW2] at hz2 hS2 hS
   have hl2:g2+1 < W2.heap.size:=(Array.getElem?_eq_some_iff.1 hz2).1
   have hz5:=(hS.block (g2+1) hl2 (by omega)).trans hz2
   rw [hsz4] at hD hS ⊢
   have hlt5:bs+2 < W5.heap.size:=(Array.getElem?_eq_some_iff.1 hD).1
   have hS8:=sets_putObj W5 (bs+2) (.deferred none) hlt5
   have hz8:(W5.putObj (bs+2) (.deferred none)).heap[g2+1]? = some (.cells #[.bool false] 4 (0,0)):=(World.putObj_heap_other (by omega)).trans hz5
   refine ⟨by simp,.inl ⟨_,_,rfl,run_takeDeferred hD,?_⟩⟩
   obtain ⟨W8,hW8⟩:∃ W8,W5.putObj (bs+2) (.deferred none)=W8:=⟨_,rfl⟩
   rw [hW8] at hS8 hz8 ⊢
   have c8:=box_cell hz8
   have hnb:n ≠ bs+3∧n ≠ bs+2∧n ≠ g2+1:=by
     refine ⟨by omega,by omega,fun e=>?_⟩
     have:=HH.out.box
     rw [e,HZ4.out] at this
     cases this
   have hy:∀ g,Xw Y Wb W' g→g < g2 ∨ bs+3 < g:=fun g hg=>by
     rcases hg with hg | hg
     · exact .inl (HYG.out _ hg)
     · exact .inr (by omega)
   have hst8:=((hst.sets hS2 (fun g hg e=>by have:=hy g hg;omega)).sets hS (fun g hg e=>by have:=hy g hg;omega)).sets hS8 (fun g hg e=>by have:=hy g hg;omega)
   have hZ8:Sets (fun g=>Y g ∨ (g2≤g∧g ≠ n)) Wb W8 :=
     ((((Sets.refl (S:=fun g=>Y g ∨ (g2≤g∧g ≠ n)) Wb).trans hk (fun g _ e=>.inl e)).trans hS2 (fun g _ e=>.inr ⟨by omega,by omega⟩)).trans hS (fun g _ e=>.inr ⟨by omega,by omega⟩)).trans hS8 (fun g _ e=>.inr ⟨by omega,by omega⟩)
   have hF:=FINH.out Wb W8 _ _ _ hb hst8 hZ8 (fun g e=>e) (fun g e=>by
     have h2:=hS2.size
     have h5:=hS.size
     have h8:=hS8.size
     rcases e with e | e
     · exact .inl e
     · exact .inr ⟨e.1,by omega⟩)
   exact ⟨.bool false,by simp [results,Tryz.results28,go_sem,c8],false,R1,rfl,.inr (.inr ⟨HSN.out,rfl,ee,hee,hto⟩),hF.1,hF.2⟩
theorem nlast_any {w:World} {base n:Nat} {X:Nat→Prop} {N:Nr} (H:NodeO w base n X N) (A:Option Addr) (c:Nat) (L:List It) (hL:ItemsAt w A L) (hcc:L.length≤c∧c≤maxLen) (hA:∀ a,A=some a→L ≠ []→¬ X a.block) (h0:joinL N.R.S L ≠ N.R.S→1≤L.length) (hl:L.length≤1000) (hW:∀ x ∈ L,x.wf) (hg:L.all goodB=true)
   (M:Nat) (hM:∀ z ∈ N.R.K.Z,z.L.length≤M) (hM2:M≤250000) (hmf:N.R.mf+L.length≤1000000000) :
   Calls Tryz.prog 28 #[ptv n,.slice A L.length c] w fun e w'=>∃ B R',e=.returned (.bool B)∧LastTo N.R L M B R'∧NodeO w' base n (Xw X w w') { N with R:=R' }∧Sets X w w':=by
 by_cases hs:joinL N.R.S L=N.R.S
 · refine (nlast_same H A c L hL hcc hl hs).mono ?_
   rintro e w' ⟨K',rfl,h1,h2,h3⟩
   exact ⟨true,_,rfl,.inl ⟨hs,rfl,K',h1,rfl⟩,h2,h3⟩
 · exact nlast_new H A c L hL hcc hA (h0 hs) hl hW hg M hM hM2 hmf hs
end Go.Proofs.YtgmkckjedngkdaaGreatDoor
