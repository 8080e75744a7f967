/- A part of the proof that TopQuotaLaw holds: XZDskF, XZDskG. Conditions: as typed. -/
import Derived.Test.YtgmkckjedngkdaaGreatDoorTq15
set_option linter.unusedVariables false
set_option linter.unusedSimpArgs false
namespace Go.Proofs.YtgmkckjedngkdaaGreatDoor
open Go.ChangeShapes Go.WideShapes Go.ChangeAt Go.RowKit
abbrev Tn.val (t:Tn):Value:=.agg #[.int .i64 t.k,.int .i64 t.f,.string t.a,.string t.b]
def renD (D:DataW Unit) (a b:ByteArray) (i:Nat):DataW Unit:=(D.put (nkey b) (.lit (.int .i64 i))).del (nkey a)
set_option maxRecDepth 100000 in
set_option maxHeartbeats 1600000 in
theorem do_ren {w:World} {m n:Nat} {D:DataW Unit} (h:NamesAt w m n D) (a b:ByteArray) (f:Int) (i:Nat) (ha:a.size≤maxLen) (hb:b.size≤maxLen) (hh:hitN D a i) (hn:n < 1000) (hi:i < 1000000) :
   Calls Tryz.prog 99 #[.agg #[.int .i64 2,.int .i64 f,.string a,.string b],.map (some m)] w fun e w'=>e=.returned (.tuple #[])∧NamesAt w' m (Maps.size (renD D a b i)) (renD D a b i)∧Sets (fun g=>g=m) w w':=by
 have hba:=below_alloc (Below.refl w.heap.size w) (.cells #[.int .i64 2,.int .i64 f,.string a,.string b] 177)
 have hz:=heap_alloc_new w (.cells #[.int .i64 2,.int .i64 f,.string a,.string b] 177)
 obtain ⟨wa,hwa⟩:∃ wa,w.alloc (.cells #[.int .i64 2,.int .i64 f,.string a,.string b] 177)=wa:=⟨_,rfl⟩
 rw [hwa] at hba hz
 have h0:NamesAt wa m n D:=h.sets (Sets.of (S:=fun _=>False) hba) id
 have hlk:=names_look h0 ha i true hh.1 (hh.2 _)
 obtain ⟨w1,hr1,h1,hg1⟩:=World.ownsMap.update h0 keyS Tryz.underlying61 (by unfold maxLen;omega) (Go.WideMaps.keyOf_string_mk Tryz.underlying9 hb) (plainElem_int (H:=Unit) Tryz.underlying3 (a:=(i:Int)) (wfI64 (by omega)))
 obtain ⟨w2,hr2,h2,hg2⟩:=World.ownsMap.drop h1 keyS Tryz.underlying61 (Go.WideMaps.keyOf_string_mk Tryz.underlying9 ha) 0
 have HF:=hide (NamesAt.tight h2)
 have HS:Hid (Sets (fun g=>g=m) w w2):=hide (((Sets.of (S:=fun g=>g=m) hba).trans (sets_grown hg1) (fun g _ e=>by injection e with e;exact e.symm)).trans (sets_grown hg2.grown) (fun g _ e=>by injection e with e;exact e.symm))
 have z0:=(cell_of_row wa w.heap.size 0 _ _ _ hz).trans rfl
 have z1:=(cell_of_row wa w.heap.size 1 _ _ _ hz).trans rfl
 have z2:=(cell_of_row wa w.heap.size 2 _ _ _ hz).trans rfl
 have z3:=(cell_of_row wa w.heap.size 3 _ _ _ hz).trans rfl
 have hne:w.heap.size ≠ m:=fun e=>not_map hz h0 e.symm
 have hzl:w.heap.size < wa.heap.size:=(Array.getElem?_eq_some_iff.1 hz).1
 have hz1:w1.heap[w.heap.size]? = some (.cells #[.int .i64 2,.int .i64 f,.string a,.string b] 177 (0,0)):=(hg1.block w.heap.size hzl (fun e=>hne (by injection e))).trans hz
 have y2:=(cell_of_row w1 w.heap.size 2 _ _ _ hz1).trans rfl
 have HWA:=hide hwa
 clear hba hz h0 h1 hg1 h2 hg2 hz1 hne hzl h hwa
 go_enter Tryz.func99,Tryz.ntmps99
 go_upto_region 1 with fail
 rw [HWA.out]
 go_wp2_with fail
 go_end0
 exact ⟨rfl,HF.out,HS.out⟩
end Go.Proofs.YtgmkckjedngkdaaGreatDoor
namespace Go.Proofs.YtgmkckjedngkdaaGreatDoor
open Go.ChangeShapes Go.WideShapes Go.ChangeAt Go.RowKit
theorem tn_cells {w:World} {g:Nat} {k f:Int} {a b:ByteArray} {t:TypeId} (h:w.heap[g]? = some (.cells #[.int .i64 k,.int .i64 f,.string a,.string b] t (0,0))) :
   w.cell? ⟨g,0,none⟩=some (.int .i64 k)∧w.cell? ⟨g,1,none⟩=some (.int .i64 f)∧w.cell? ⟨g,2,none⟩=some (.string a)∧w.cell? ⟨g,3,none⟩=some (.string b) :=
 ⟨(cell_of_row w g 0 _ _ _ h).trans rfl,(cell_of_row w g 1 _ _ _ h).trans rfl,(cell_of_row w g 2 _ _ _ h).trans rfl,(cell_of_row w g 3 _ _ _ h).trans rfl⟩
def TuS (p:Nat) (h:Dh) (x:Nat):Prop:=x=p ∨ x=h.bn ∨ h.vt.ownBlock=some x
theorem DiskV.turned {w w':World} {X:Nat→Prop} {base p:Nat} {K:Dk} {h:Dh} (H:DiskV w base p X K h) {vt:Value} {D:DataW Unit} {t:Tn}
   (k:Sets (TuS p h) w w') (hbox:w'.heap[p]? = some (.cells (dkL { K with D:=D } { h with vt:=vt,T:=h.T ++ [t] }).toArray 70 (0,0))) (hn:NamesAt w' h.bn (Maps.size D) D)
   (ht:OwnL Tn.cells 4 177 base w' vt (h.T ++ [t])) (mt:∀ g,vt.ownBlock=some g→h.vt.ownBlock=some g ∨ w.heap.size≤g) (ft:K.tn < 1000000) (led:Led D K.Z.length) :
   DiskV w' base p (Xw X w w') { K with D:=D,tn:=K.tn+1,calm:=false } { h with vt:=vt,T:=h.T ++ [t] } where
 box:=hbox
 low:=H.low
 names:=hn
 lasted:=H.lasted.sets k (by
   rintro (e | e | e)
   · exact not_map H.box H.lasted e
   · exact H.two e.symm
   · exact own_not_map H.turns H.lasted e)
 two:=H.two
 files:=H.files.sets k (by
   rintro g hg (e | e | e)
   · exact own_ne_box H.files H.box (by decide) (e ▸ hg)
   · exact own_not_map H.files H.names (e ▸ hg)
   · exact own_ne_own H.files H.turns (by decide) hg e)
 turns:=ht
 each:=by
   intro y hy
   refine (H.each y hy).sets k ?_ ?_
   · rintro (e | e | e)
     · exact box_ne (H.each y hy).box H.box (by decide) e
     · exact not_map (H.each y hy).box H.names e.symm
     · exact own_ne_box H.turns (H.each y hy).box (by decide) e
   · rintro g hg (e | e | e)
     · exact own_ne_box (H.each y hy).own H.box (by decide) (e ▸ hg)
     · exact own_not_map (H.each y hy).own H.names (e ▸ hg)
     · exact own_ne_own H.turns (H.each y hy).own (by decide) e hg
 far:=H.far
 inX:=by
   refine ⟨.inl H.inX.1,.inl H.inX.2.1,.inl H.inX.2.2.1,fun g e=>.inl (H.inX.2.2.2.1 g e),fun g e=>?_,fun y hy=>⟨.inl (H.inX.2.2.2.2.2 y hy).1,fun g e=>.inl ((H.inX.2.2.2.2.2 y hy).2 g e)⟩⟩
   rcases mt g e with e2 | e2
   · exact .inl (H.inX.2.2.2.2.1 g e2)
   · exact .inr ⟨e2,(own_lt ht g e).2⟩
 bd:=Xw.bd H.bd H.base_le k.size
 few:=by
   show K.Z.length≤1000∧(h.T ++ [t]).length≤K.tn+1∧K.tn+1≤1000000
   have:=H.few
   simp only [List.length_append,List.length_cons,List.length_nil]
   omega
 led:=led
 stop0:=H.stop0
 quota:=H.quota
 calm_:=fun h=>by cases h
def rnD (K:Dk) (a b:ByteArray) (i:Nat):Dk:={ K with D:=renD K.D a b i,tn:=K.tn+1,calm:=false }
theorem led_ren {D:DataW Unit} {n i:Nat} (h:Led D n) (hD:Maps.IsMap D) (hi:i < n) (a b:ByteArray):Led (renD D a b i) n:=by
 intro kl y hy
 by_cases e:kl=nkey a
 · subst e
   have h1:=hy (.lit (.int .i64 0))
   have h2:=hy (.lit (.int .i64 1))
   unfold renD at h1 h2
   rw [Maps.atKey_del_same] at h1 h2
   rw [← h1] at h2
   cases h2
 · by_cases e2:kl=nkey b
   · subst e2
     refine ⟨i,hi,?_⟩
     rw [← hy (.lit (.int .i64 0))]
     unfold renD
     rw [Maps.atKey_del_other e]
     exact Maps.atKey_put_same hD (show WideAt.IsKeyLit (nkey b) from trivial) _ _
   · exact h kl y (fun z=>by
       rw [← hy z]
       unfold renD
       rw [Maps.atKey_del_other e,Maps.atKey_put_other e2])
theorem name_row2 {w:World} {a b:ByteArray}:ValsAt strv (w.alloc (.cells #[.string a,.string b] 9)) (some ⟨w.heap.size,0,none⟩) [a,b]:=by
 intro _
 have hz:=heap_alloc_new w (.cells #[.string a,.string b] 9)
 refine ⟨w.heap.size,0,rfl,by simp,fun k hk j u hu=>?_⟩
 have hk2:k=0 ∨ k=1:=by simp at hk;omega
 rcases hk2 with rfl | rfl
 · rcases j with _ | j
   · simp at hu;subst hu;exact (cell_of_row _ _ 0 _ _ _ hz).trans rfl
   · simp at hu
 · rcases j with _ | j
   · simp at hu;subst hu;exact (cell_of_row _ _ 1 _ _ _ hz).trans rfl
   · simp at hu
theorem call_two {w:World} {base p:Nat} {X:Nat→Prop} {K:Dk} {h:Dh} (H:DiskV w base p X K h) {a b:ByteArray} (ha:namedB a=true) (hb:namedB b=true) :
   Calls Tryz.prog 191 #[ptv p,.slice (some ⟨w.heap.size,0,none⟩) 2 2] (w.alloc (.cells #[.string a,.string b] 9)) fun e w'=>e=.returned (.int .i64 (callE K))∧(∃ n,DiskV w' base p X (callD K) { h with calls:=n })∧Sets (fun g=>g=p) w w':=by
 have hba:=below_alloc (Below.refl w.heap.size w) (.cells #[.string a,.string b] 9)
 refine (call_any (H.below hba) (some ⟨w.heap.size,0,none⟩) 2 [a,b] name_row2 (by simp) (by intro s hs;simp only [List.mem_cons,List.not_mem_nil,or_false] at hs;rcases hs with rfl | rfl;exact ha;exact hb)).mono ?_
 rintro e w' ⟨rfl,h1,h2⟩
 exact ⟨rfl,h1,(Sets.of (S:=fun g=>g=p) hba).trans h2 (fun _ _ h=>h)⟩
set_option maxRecDepth 100000 in
set_option maxHeartbeats 3200000 in
theorem rename_in {w:World} {base p:Nat} {X:Nat→Prop} {R:Dk} {h:Dh} (H:DiskV w base p X R h) {a b:ByteArray} (ha:namedB a=true) (hb:namedB b=true) {i:Nat} (hh:hitN R.D a i) (hi:i < R.Z.length) (hab:(a.toList == b.toList)=false) (hd:R.dead=false) (hst:R.stop=0) (hsz:Maps.size R.D < 64) (htl:R.tn < 900000) :
   Calls Tryz.prog 223 #[ptv p,.string a,.string b] w fun e w'=>e=.returned (.int .i64 0)∧DiskO w' base p (Xw X w w') (rnD R a b i)∧Sets X w w':=by
 have hK:callD R=R:=by unfold callD;rw [hd,hst];rfl
 have hE:callE R=0:=by unfold callE;rw [hd];rfl
 have hcl:=call_two H ha hb
 rw [hK,hE] at hcl
 have HCL:=hide hcl
 have HA:=hide ha
 have HB:=hide hb
 have HH:=hide hh
 have HI:=hide hi
 have HBD:=hide (fun (W:World) (hs:w.heap.size≤W.heap.size)=>Xw.bd H.bd H.base_le hs)
 have HL:=hide (show Maps.size R.D < 64∧R.tn < 900000 from ⟨hsz,htl⟩)
 clear H hK hE hcl ha hb hh hd hst hsz htl hi
 go_enter Tryz.func223,Tryz.ntmps223
 go_upto_region 2 with ((with_reducible refine (HCL.out).mono ?_);rintro e w1 ⟨rfl,⟨n,h1⟩,hS⟩)
 have HS1:=hide hS
 clear HCL hS
 obtain ⟨h,hh⟩:∃ k,{ h with calls:=n }=k:=⟨_,rfl⟩
 rw [hh] at h1
 clear hh
 have HH1:=hide h1
 have HF:=hide (find_hit_D h1 a (namedB_size HA.out) i HI.out HH.out)
 clear h1
 have hzt:=heap_alloc_new w1 (.cells #[.int .i64 2,.int .i64 0,.string a,.string b] 177)
 have hbt:=below_alloc (Below.refl w1.heap.size w1) (.cells #[.int .i64 2,.int .i64 0,.string a,.string b] 177)
 generalize (R.Z[i]'HI.out).g=gz at *
 go_upto_region 9 with ((with_reducible refine (HF.out).mono ?_);rintro e w2 ⟨rfl,rfl⟩)
 obtain ⟨gt,hgt⟩:∃ gt,w2.heap.size=gt:=⟨_,rfl⟩
 have HBT:=hide hbt
 obtain ⟨wt,hwt⟩:∃ wt,w2.alloc (.cells #[.int .i64 2,.int .i64 0,.string a,.string b] 177)=wt:=⟨_,rfl⟩
 rw [hwt] at hzt HBT ⊢
 rw [hgt] at hzt ⊢
 clear hwt hbt HF
 have HZT:=hide hzt
 have HGT:=hide hgt
 clear hzt hgt
 have HHt:=hide (HH1.out.below HBT.out)
 have hlt:gt < wt.heap.size:=(Array.getElem?_eq_some_iff.1 HZT.out).1
 have hp1:p < wt.heap.size:=(Array.getElem?_eq_some_iff.1 HHt.out.box).1
 have HDO:Hid (Calls Tryz.prog 99 #[.agg #[.int .i64 2,.int .i64 0,.string a,.string b],.map (some h.bn)] wt.drew fun e w'=>e=.returned (.tuple #[])∧NamesAt w' h.bn (Maps.size (renD R.D a b i)) (renD R.D a b i)∧Sets (fun g=>g=h.bn) wt.drew w') :=
   hide (do_ren (HHt.out.names.drew) a b 0 i (namedB_size HA.out) (namedB_size HB.out) HH.out (by have:=HL.out;omega) (by have:=HI.out;have:=HHt.out.few;omega))
 obtain ⟨At,ct,hvt,hrt,_⟩:=OwnL.row Tn.len HHt.out.turns
 have HVT:=hide hvt
 have HC:Hid (∀ W,Below wt.drew.heap.size wt.drew W→W.cell? ⟨p,2,none⟩=some (.map (some h.bn))∧W.cell? ⟨gt,0,none⟩=some (.int .i64 2)∧W.cell? ⟨gt,1,none⟩=some (.int .i64 0)∧W.cell? ⟨gt,2,none⟩=some (.string a)∧W.cell? ⟨gt,3,none⟩=some (.string b)):=hide (fun W hW =>
   ⟨(hW.cell (p:=⟨p,2,none⟩) hp1).trans (dk_box HHt.out.box).2.1.2.2.1,tn_cells ((hW.block gt hlt).trans HZT.out)⟩)
 clear hvt hrt
 refine j_start [5] (by kernel_rfl) ?_
 refine' j_t 0 [5] rfl (by kernel_rfl) rfl ?y0a ?r0a
 case y0a=>(intro w' hw';obtain ⟨_,t0,t1,t2,t3⟩:=HC.out _ hw';go_simp;try with_reducible rfl)
 try go_frame
 refine' j_t 1 [2,3,4,5] rfl (by kernel_rfl) rfl ?y1a ?r1a
 case y1a=>(intro w' hw';go_simp;try with_reducible rfl)
 try go_frame
 refine' j_t 2 [3,4,5] rfl (by kernel_rfl) rfl ?y2a ?r2a
 case y2a=>(intro w' hw';go_simp;try with_reducible rfl)
 try go_frame
 refine' j_t 3 [4,5] rfl (by kernel_rfl) rfl ?y3a ?r3a
 case y3a=>(intro w' hw';go_simp;try with_reducible rfl)
 try go_frame
 refine' j_t 4 [5] rfl (by kernel_rfl) rfl ?y4a ?r4a
 case y4a=>(intro w' hw';have h0:=(HC.out _ hw').1;go_simp;try with_reducible rfl)
 try go_frame
 refine' j_l 5 (by kernel_rfl) rfl (by kernel_rfl) (fun K hK=>?s5a)
 go_simp
 refine (Calls.mono (HDO.out) ?_);rintro e u1a ⟨rfl,hnm,hsm⟩
 have HNM:=hide hnm;have HSM:=hide hsm
 clear hnm hsm
 refine hK.out _ _ ?_
 clear hK K
 try go_frame
 refine wpAnyJ_done (by kernel_rfl) ?_ _
 refine NoPanic.normal ?_
 clear HC HDO
 have hsm:Sets (fun g=>g=h.bn) wt u1a:=⟨HSM.out.os,HSM.out.tape,HSM.out.output,HSM.out.size,HSM.out.block⟩
 have hpm:p < u1a.heap.size:=Nat.lt_of_lt_of_le hp1 hsm.size
 have HBXm:Hid (u1a.heap[p]? = some (.cells (dkL R h).toArray 70 (0,0))):=hide ((hsm.block p hp1 (fun e=>not_map HHt.out.box HHt.out.names e.symm)).trans HHt.out.box)
 have HZm:Hid (u1a.heap[gt]? = some (.cells #[.int .i64 2,.int .i64 0,.string a,.string b] 177 (0,0))):=hide ((hsm.block gt hlt (fun e=>not_map HZT.out HHt.out.names e.symm)).trans HZT.out)
 have HT9:Hid (OwnL Tn.cells 4 177 base u1a (.slice At h.T.length ct) h.T):=hide (by rw [← HVT.out];exact HHt.out.turns.sets hsm (fun g hg e=>own_not_map HHt.out.turns HHt.out.names (e ▸ hg)))
 have HTL:Hid (h.T.length < 900000):=hide (by have:=HH1.out.few;have:=HL.out;omega)
 have HBL2:Hid (base≤u1a.heap.size):=hide (by have:=HHt.out.base_le;have:=hsm.size;omega)
 have HNT:Hid (h.vt.ownBlock ≠ some p):=hide (fun e=>own_ne_box HHt.out.turns HHt.out.box (by decide) e)
 have hc9:=dk_box HBXm.out
 have HC9:Hid (∀ W,Below u1a.drew.heap.size u1a.drew W→W.cell? ⟨p,4,none⟩=some (.slice At h.T.length ct)∧W.cell? ⟨gt,0,none⟩=some (.int .i64 2)∧W.cell? ⟨gt,1,none⟩=some (.int .i64 0)∧W.cell? ⟨gt,2,none⟩=some (.string a)∧W.cell? ⟨gt,3,none⟩=some (.string b)):=hide (fun W hW =>
   ⟨(hW.cell (p:=⟨p,4,none⟩) hpm).trans (hc9.2.1.2.2.2.2.trans (by rw [HVT.out])),tn_cells ((hW.block gt (Nat.lt_of_lt_of_le hlt hsm.size)).trans HZm.out)⟩)
 have HS9:=hide hsm
 clear hc9 hsm
 go_upto_region 10 with fail
 refine j_start [7,10,8,9,0] (by kernel_rfl) ?_
 refine' j_tw 0 rfl (by kernel_rfl) rfl ?y0b ?r0b
 case y0b=>(intro w' hw';go_simp;try with_reducible rfl)
 try go_frame
 refine' j_t 1 [2,3,4,7,8,9,10] rfl (by kernel_rfl) rfl ?y1b ?r1b
 case y1b=>(intro w' hw';go_simp;try with_reducible rfl)
 try go_frame
 refine' j_t 2 [3,4,7,8,9,10] rfl (by kernel_rfl) rfl ?y2b ?r2b
 case y2b=>(intro w' hw';go_simp;try with_reducible rfl)
 try go_frame
 refine' j_t 3 [4,7,8,9,10] rfl (by kernel_rfl) rfl ?y3b ?r3b
 case y3b=>(intro w' hw';go_simp;try with_reducible rfl)
 try go_frame
 refine' j_t 4 [7,8,9,10] rfl (by kernel_rfl) rfl ?y4b ?r4b
 case y4b=>(intro w' hw';have h0:=(HC9.out _ hw').1;go_simp;try with_reducible rfl)
 try go_frame
 refine' j_t 5 [6,7,8,9,10] rfl (by kernel_rfl) rfl ?y5b ?r5b
 case y5b=>(intro w' hw';obtain ⟨_,t0,t1,t2,t3⟩:=HC9.out _ hw';go_simp;try with_reducible rfl)
 try go_frame
 refine' j_s 6 (by kernel_rfl) rfl (fun K hK=>?s6b)
 go_simp
 have ha:=below_alloc (Below.refl u1a.drew.heap.size u1a.drew) (.cells #[.int .i64 2,.int .i64 0,.string a,.string b] 177)
 have HN:=hide (RowAt.new_one (cells:=Tn.cells) (sz:=4) (y:=⟨2,0,a,b⟩) (heap_alloc_new u1a.drew (.cells #[.int .i64 2,.int .i64 0,.string a,.string b] 177)))
 have HGA:=hide ha
 refine hK.out _ _ ha (j_switch ha ?_)
 clear hK K ha
 try go_frame
 refine' j_l 7 (by kernel_rfl) rfl (by kernel_rfl) (fun K hK=>?s7b)
 refine step_app_row rfl (.tmp 39) (.tmp 41) 63 177 _ 4 48 rfl Tryz.underlying63 infoTurn rfl (by omega) Tn.len Tn.one (by omega) base _ h.T rfl (HT9.out.below (below_step (Below.refl _ u1a).drew HGA.out)) (some ⟨u1a.drew.heap.size,0,none⟩) 1 1 [⟨2,0,a,b⟩] rfl rfl HN.out (by have:=HTL.out;omega) (by have:=HBL2.out;have:=HGA.out.size;simp only [World.size_drew] at *;omega) ?_
 intro v3 w3 ho3 hg3 hm3
 obtain ⟨A3,c3,rfl,_⟩:=OwnL.row Tn.len ho3
 obtain ⟨n3,hn3⟩:∃ n3,(h.T ++ [(⟨2,0,a,b⟩:Tn)]).length=n3:=⟨_,rfl⟩
 rw [hn3] at ho3 hm3 ⊢
 clear hn3
 have HO3:=hide ho3;have HG3:=hide hg3;have HM3:=hide hm3
 clear ho3 hg3 hm3
 obtain ⟨wa,hwa⟩:∃ wa,u1a.drew.alloc (.cells #[.int .i64 2,.int .i64 0,.string a,.string b] 177)=wa:=⟨_,rfl⟩
 rw [hwa] at HGA HN HG3 HM3
 clear hwa HN
 have hWA:Below u1a.heap.size u1a wa:=below_step (Below.refl _ u1a).drew HGA.out
 have hnt:(Value.slice At h.T.length ct).ownBlock ≠ some p:=(by rw [← HVT.out];exact HNT.out)
 have hb3:w3.heap[p]? = some (.cells (dkL R h).toArray 70 (0,0)):=(HG3.out.block p (Nat.lt_of_lt_of_le hpm hWA.size) (fun e=>hnt e.symm)).trans ((hWA.block p hpm).trans HBXm.out)
 obtain ⟨_,⟨e0,e1,e2,e3,e4⟩,ez⟩:=dk_box hb3
 rw [HVT.out] at e4
 have ez4:=ez 4
 have HB3:=hide hb3
 clear hb3 ez hnt
 refine hK.out _ _ ?_
 clear hK K
 try go_frame
 refine' j_l 8 (by kernel_rfl) rfl (by kernel_rfl) (fun K hK=>?s8b)
 go_simp
 refine hK.out _ _ ?_
 clear hK K
 try go_frame
 refine' j_l 9 (by kernel_rfl) rfl (by kernel_rfl) (fun K hK=>?s9b)
 go_simp
 refine hK.out _ _ ?_
 clear hK K
 try go_frame
 refine' j_l 10 (by kernel_rfl) rfl (by kernel_rfl) (fun K hK=>?s10b)
 go_simp
 refine hK.out _ _ ?_
 clear hK K
 try go_frame
 refine wpAnyJ_done (by kernel_rfl) ?_ _
 refine NoPanic.normal ?_
 go_wp2_with fail
 go_ret
 obtain ⟨vt,hvt⟩:∃ v,Value.slice A3 n3 c3=v:=⟨_,rfl⟩
 rw [hvt] at HO3 HM3 ⊢
 have hS3a:Sets (fun g=>h.vt.ownBlock=some g) wa w3:=by
   have h1:=sets_grown HG3.out
   rw [HVT.out]
   exact h1
 have hS2:Sets (TuS p h) wt (w3.setCell ⟨p,4,none⟩ vt) :=
   (((HS9.out.up (T:=TuS p h) (fun g e=>.inr (.inl e))).trans (Sets.of (S:=fun _=>False) hWA) (fun _ _ e=>e.elim)).trans hS3a (fun _ _ e=>.inr (.inr e))).set (fun _=>.inl rfl) 4 vt
 have hS2b:Sets (fun x=>x=p ∨ h.vt.ownBlock=some x) u1a (w3.setCell ⟨p,4,none⟩ vt) :=
   ((Sets.of (S:=fun x=>x=p ∨ h.vt.ownBlock=some x) hWA).trans hS3a (fun _ _ e=>.inr e)).set (fun _=>.inl rfl) 4 vt
 have hmapT:OwnL Tn.cells 4 177 base u1a h.vt h.T:=by rw [HVT.out];exact HT9.out
 have hN6:=HNM.out.sets hS2b (by
   rintro (e | e)
   · exact not_map HBXm.out HNM.out e
   · exact own_not_map hmapT HNM.out e)
 have hpt:vt.ownBlock ≠ some p:=fun e=>own_ne_box HO3.out HB3.out (by decide) e
 have hT6:OwnL Tn.cells 4 177 base (w3.setCell ⟨p,4,none⟩ vt) vt (h.T ++ [⟨2,0,a,b⟩]):=OwnL.setFar HO3.out hpt vt
 have hlc:=HL.out
 have hfz:=HHt.out.few
 have hC:=HHt.out.turned (t:=⟨2,0,a,b⟩) (vt:=vt) (D:=renD R.D a b i) hS2 (dk_set 4 vt HB3.out) hN6 hT6
   (fun g e=>by
     rcases HM3.out with h1 | h1
     · left;rw [HVT.out];exact h1.symm.trans e
     · right;rw [h1] at e;injection e with e;have:=hWA.size;have:=HS9.out.size;omega)
   (by omega) (led_ren HHt.out.led HHt.out.names.isMap HI.out a b)
 have hszt:w.heap.size≤wt.heap.size:=Nat.le_trans HS1.out.size HBT.out.size
 have hSX:Sets X w (w3.setCell ⟨p,4,none⟩ vt):=by
   have h1:=HHt.out.inX
   refine ((HS1.out.up (T:=X) (fun g e=>e ▸ h1.1)).trans (Sets.of (S:=fun _=>False) HBT.out) (fun _ _ e=>e.elim)).trans hS2 (fun g _ e=>?_)
   rcases e with e | e | e
   · exact e ▸ h1.1
   · exact e ▸ h1.2.1
   · exact h1.2.2.2.2.1 g e
 exact ⟨rfl,⟨_,hC.wide (Xw.more hszt) (HBD.out _ hSX.size)⟩,hSX⟩
end Go.Proofs.YtgmkckjedngkdaaGreatDoor
