/- A part of the proof that TopMajorityLaw holds: XZDskE, XZDskF, XZDskG. Conditions: as typed. -/
import Derived.Test.YtgmkckjedngkdaaGreatDoorTm08
import Derived.Test.YtgmkckjedngkdaaGreatDoorTm11
set_option linter.unusedVariables false
set_option linter.unusedSimpArgs false
namespace Go.Proofs.YtgmkckjedngkdaaGreatDoor
open Go.ChangeShapes Go.WideShapes Go.ChangeAt Go.RowKit
theorem infoTurn:(Tryz.prog.info? 177).map (fun i=>(i.zero,i.size,i.bytes))=some (some (.agg #[.int .i64 0,.int .i64 0,.string ⟨#[]⟩,.string ⟨#[]⟩]),4,48):=by kernel_rfl
theorem infoPFile:(Tryz.prog.info? 172).map (fun i=>(i.zero,i.size,i.bytes))=some (some (.pointer none),1,8):=by kernel_rfl
theorem Tn.one (x:Tn):∀ u ∈ Tn.cells x,u.oneCell'=true:=by
 intro u hu
 simp only [Tn.cells,List.mem_cons,List.not_mem_nil,or_false] at hu
 rcases hu with rfl | rfl | rfl | rfl <;> rfl
theorem wfI64 {a:Int} (h:-9223372036854775808≤a∧a≤9223372036854775807):(Lit.int .i64 a).wf=true:=by
 unfold Lit.wf
 rw [Bool.and_eq_true,decide_eq_true_iff,decide_eq_true_iff]
 exact h
theorem NamesAt.tight {w:World} {b n:Nat} {D:DataW Unit} (h:NamesAt w b n D):NamesAt w b (Maps.size D) D:=by
 obtain ⟨es,clock,hb,F,hs,rfl⟩:=h
 exact ⟨es,clock,hb,F,by rw [Maps.size_eq,length_read];exact Nat.le_refl _,rfl⟩
theorem Sets.up {S T:Nat→Prop} {w w':World} (h:Sets S w w') (hT:∀ g,S g→T g):Sets T w w':=⟨h.os,h.tape,h.output,h.size,fun b hb hn=>h.block b hb (fun e=>hn (hT b e))⟩
theorem led_put {D:DataW Unit} {n:Nat} (h:Led D n) (hD:Maps.IsMap D) (s:ByteArray):Led (D.put (nkey s) (.lit (.int .i64 n))) (n+1):=by
 intro kl y hy
 by_cases e:kl=nkey s
 ·subst e
  exact ⟨n,by omega,by rw [← hy (.lit (.int .i64 0))];exact Maps.atKey_put_same hD (show WideAt.IsKeyLit (nkey s) from trivial) _ _⟩
 ·obtain ⟨i,hi,e2⟩:=h kl y (fun z=>by rw [← hy z];exact (Maps.atKey_put_other e _ _).symm)
  exact ⟨i,by omega,e2⟩
theorem dk_box {w:World} {p:Nat} {K:Dk} {h:Dh} (H:w.heap[p]? = some (.cells (dkL K h).toArray 70 (0,0))):p < w.heap.size∧(w.cell? ⟨p,0,none⟩=some (.int .i64 K.q)∧w.cell? ⟨p,1,none⟩=some h.vf∧w.cell? ⟨p,2,none⟩=some (.map (some h.bn))∧w.cell? ⟨p,3,none⟩=some (.map (some h.bl))∧w.cell? ⟨p,4,none⟩=some h.vt)∧∀ o,w.frozen? ⟨p,o,none⟩=false :=
 ⟨(Array.getElem?_eq_some_iff.1 H).1,⟨(cell_of_row w p 0 _ _ _ H).trans rfl,(cell_of_row w p 1 _ _ _ H).trans rfl,(cell_of_row w p 2 _ _ _ H).trans rfl,(cell_of_row w p 3 _ _ _ H).trans rfl,(cell_of_row w p 4 _ _ _ H).trans rfl⟩,fun o=>by simp [World.frozen?,H]⟩
def CrS (p:Nat) (h:Dh) (x:Nat):Prop:=x=p ∨ x=h.bn ∨ h.vf.ownBlock=some x ∨ h.vt.ownBlock=some x
theorem DiskV.created {w w':World} {X:Nat→Prop} {base p:Nat} {K:Dk} {h:Dh} (H:DiskV w base p X K h) {vf vt:Value} {D:DataW Unit} {z:Fz} {t:Tn}
 (k:Sets (CrS p h) w w') (hbox:w'.heap[p]? = some (.cells (dkL { K with D:=D,Z:=K.Z ++ [z],tn:=K.tn+1,calm:=false } { h with vf:=vf,vt:=vt,T:=h.T ++ [t] }).toArray 70 (0,0))) (hn:NamesAt w' h.bn (Maps.size D) D)
 (hf:OwnL (one1 ptv) 1 172 base w' vf (K.Z.map Fz.g ++ [z.g])) (ht:OwnL Tn.cells 4 177 base w' vt (h.T ++ [t])) (hz:FzAt w' base z) (hzg:w.heap.size≤z.g) (hzv:z.v.ownBlock=none)
 (mf:∀ g,vf.ownBlock=some g→h.vf.ownBlock=some g ∨ w.heap.size≤g) (mt:∀ g,vt.ownBlock=some g→h.vt.ownBlock=some g ∨ w.heap.size≤g) (fz:K.Z.length < 1000) (ft:K.tn < 1000000) (led:Led D (K.Z.length+1)) :
 DiskV w' base p (Xw X w w') { K with D:=D,Z:=K.Z ++ [z],tn:=K.tn+1,calm:=false } { h with vf:=vf,vt:=vt,T:=h.T ++ [t] } where
 box:=hbox
 low:=H.low
 names:=hn
 lasted:=H.lasted.sets k (by
  rintro (e | e | e | e)
  ·exact not_map H.box H.lasted e
  ·exact H.two e.symm
  ·exact own_not_map H.files H.lasted e
  ·exact own_not_map H.turns H.lasted e)
 two:=H.two
 files:=by
  show OwnL (one1 ptv) 1 172 base w' vf ((K.Z ++ [z]).map Fz.g)
  rw [List.map_append]
  exact hf
 turns:=ht
 each:=by
  intro y hy
  rcases List.mem_append.1 hy with hy | hy
  ·refine (H.each y hy).sets k ?_ ?_
   ·rintro (e | e | e | e)
    ·exact box_ne (H.each y hy).box H.box (by decide) e
    ·exact not_map (H.each y hy).box H.names e.symm
    ·exact own_ne_box H.files (H.each y hy).box (by decide) e
    ·exact own_ne_box H.turns (H.each y hy).box (by decide) e
   ·rintro g hg (e | e | e | e)
    ·exact own_ne_box (H.each y hy).own H.box (by decide) (e ▸ hg)
    ·exact own_not_map (H.each y hy).own H.names (e ▸ hg)
    ·exact own_ne_own H.files (H.each y hy).own (by decide) e hg
    ·exact own_ne_own H.turns (H.each y hy).own (by decide) e hg
  ·rw [List.mem_singleton.1 hy];exact hz
 far:=by
  have hold:∀ y ∈ K.Z,y.g < w.heap.size:=fun y hy=>(Array.getElem?_eq_some_iff.1 (H.each y hy).box).1
  intro i j hi hj hne
  show FzFar ((K.Z ++ [z])[i]'hi) ((K.Z ++ [z])[j]'hj)
  have hi':i < K.Z.length+1:=by simpa using hi
  have hj':j < K.Z.length+1:=by simpa using hj
  by_cases h1:i < K.Z.length
  ·rw [List.getElem_append_left h1]
   by_cases h2:j < K.Z.length
   ·rw [List.getElem_append_left h2];exact H.far i j h1 h2 hne
   ·have e:(K.Z ++ [z])[j]'hj=z:=by rw [List.getElem_append_right (by omega)];simp
    rw [e]
    exact ⟨fun e2=>by have:=hold _ (List.getElem_mem h1);omega,fun g _ e2=>by rw [hzv] at e2;cases e2⟩
  ·have e:(K.Z ++ [z])[i]'hi=z:=by rw [List.getElem_append_right (by omega)];simp
   rw [e]
   have h2:j < K.Z.length:=by omega
   rw [List.getElem_append_left h2]
   exact ⟨fun e2=>by have:=hold _ (List.getElem_mem h2);omega,fun g e2=>by rw [hzv] at e2;cases e2⟩
 inX:=by
  refine ⟨.inl H.inX.1,.inl H.inX.2.1,.inl H.inX.2.2.1,fun g e=>?_,fun g e=>?_,fun y hy=>?_⟩
  ·rcases mf g e with e2 | e2
   ·exact .inl (H.inX.2.2.2.1 g e2)
   ·exact .inr ⟨e2,(own_lt hf g e).2⟩
  ·rcases mt g e with e2 | e2
   ·exact .inl (H.inX.2.2.2.2.1 g e2)
   ·exact .inr ⟨e2,(own_lt ht g e).2⟩
  ·rcases List.mem_append.1 hy with hy | hy
   ·exact ⟨.inl (H.inX.2.2.2.2.2 y hy).1,fun g e=>.inl ((H.inX.2.2.2.2.2 y hy).2 g e)⟩
   ·rw [List.mem_singleton.1 hy]
    exact ⟨.inr ⟨hzg,(Array.getElem?_eq_some_iff.1 hz.box).1⟩,fun g e=>by rw [hzv] at e;cases e⟩
 bd:=Xw.bd H.bd H.base_le k.size
 few:=by
  show (K.Z ++ [z]).length≤1000∧(h.T ++ [t]).length≤K.tn+1∧K.tn+1≤1000000
  have:=H.few
  simp only [List.length_append,List.length_cons,List.length_nil]
  omega
 led:=by
  show Led D (K.Z ++ [z]).length
  rw [List.length_append]
  exact led
 stop0:=H.stop0
 quota:=H.quota
 calm_:=fun h=>by cases h
def crD (K:Dk) (s:ByteArray) (z:Fz):Dk:={ K with D:=K.D.put (nkey s) (.lit (.int .i64 K.Z.length)),Z:=K.Z ++ [z],tn:=K.tn+1,calm:=false }
set_option maxRecDepth 100000 in
set_option maxHeartbeats 3200000 in
theorem create_in {w:World} {base p:Nat} {X:Nat→Prop} {R:Dk} {h:Dh} (H:DiskV w base p X R h) {s:ByteArray} (hs:namedB s=true) (hh:missN R.D s) (hd:R.dead=false) (hst:R.stop=0) (hsz:Maps.size R.D < 64) (hzl:R.Z.length < 1000) (htl:R.tn < 900000) :
 Calls Tryz.prog 192 #[ptv p,.string s] w fun e w'=>e=.returned (.int .i64 0)∧(∃ z,z.L=[]∧z.last=0∧DiskO w' base p (Xw X w w') (crD R s z))∧Sets X w w':=by
 have hK:callD R=R:=by unfold callD;rw [hd,hst];rfl
 have hE:callE R=0:=by unfold callE;rw [hd];rfl
 have hcl:=call_one H hs
 rw [hK,hE] at hcl
 have HCL:=hide hcl
 have HS:=hide hs
 have HH:=hide hh
 have HX:=hide H.inX
 have HBD:=hide (fun (W:World) (hs:w.heap.size≤W.heap.size)=>Xw.bd H.bd H.base_le hs)
 have HBL:=hide H.base_le
 have HL:=hide (show Maps.size R.D < 64∧R.Z.length < 1000∧R.tn < 900000 from ⟨hsz,hzl,htl⟩)
 clear H hK hE hcl hs hh hd hst hsz hzl htl
 go_enter Tryz.func192,Tryz.ntmps192
 go_upto_region 2 with ((with_reducible refine (HCL.out).mono ?_);rintro e w1 ⟨rfl,⟨n,h1⟩,hS⟩)
 have HS1:=hide hS
 clear HCL HX
 obtain ⟨h,hh⟩:∃ k,{ h with calls:=n }=k:=⟨_,rfl⟩
 rw [hh] at h1
 clear hh
 have HH1:=hide h1
 have HF:=hide (find_miss_D h1 s (namedB_size HS.out) HH.out)
 obtain ⟨hp1,⟨c0,c1,c2,c3,c4,_⟩,_⟩:=h1.facts
 have hlen:(Builtin.len_ #[61] 3 #[.map (some h.bn)]).run Tryz.prog w1=.ok (.int .i64 (Maps.size R.D)) w1:=h1.names.len Tryz.underlying61 _
 have hls:(Maps.size R.D:Int) < 64:=by have:=HL.out.1;omega
 clear h1 hS
 go_upto_region 8 with ((with_reducible refine (HF.out).mono ?_);rintro e w2 ⟨rfl,rfl⟩)
 obtain ⟨Av,cv,hvf,hrf⟩:=HH1.out.row
 obtain ⟨At,ct,hvt,hrt,_⟩:=OwnL.row Tn.len HH1.out.turns
 rw [hvf] at c1
 rw [hvt] at c4
 have HC:Hid (∀ W,Below w2.drew.heap.size w2.drew W→W.cell? ⟨p,2,none⟩=some (.map (some h.bn))∧W.cell? ⟨p,1,none⟩=some (.slice Av R.Z.length cv)):=hide (fun W hW=>⟨(hW.cell (p:=⟨p,2,none⟩) hp1).trans c2,(hW.cell (p:=⟨p,1,none⟩) hp1).trans c1⟩)
 obtain ⟨wm,hrun,hnm,hgm⟩:=World.ownsMap.update (HH1.out.names.drew) keyS Tryz.underlying61 (by have:=HL.out.1;unfold maxLen;omega) (Go.WideMaps.keyOf_string_mk Tryz.underlying9 (namedB_size HS.out)) (plainElem_int (H:=Unit) Tryz.underlying3 (a:=(R.Z.length:Int)) (wfI64 (by have:=HL.out.2.1;omega)))
 have HRUN:=hide hrun
 have HNM:=hide hnm
 have HGM:=hide hgm
 clear hnm hgm hrf hrt
 refine j_start [10] (by kernel_rfl) ?_
 refine' j_t 0 [1,2,3,10] rfl (by kernel_rfl) rfl ?y0a ?r0a
 case y0a=>(intro w' hw';go_simp;try with_reducible rfl)
 try go_frame
 refine' j_t 1 [2,3,10] rfl (by kernel_rfl) rfl ?y1a ?r1a
 case y1a=>(intro w' hw';go_simp;try with_reducible rfl)
 try go_frame
 refine' j_t 2 [3,10] rfl (by kernel_rfl) rfl ?y2a ?r2a
 case y2a=>(intro w' hw';go_simp;try with_reducible rfl)
 try go_frame
 refine' j_t 3 [10] rfl (by kernel_rfl) rfl ?y3a ?r3a
 case y3a=>(intro w' hw';have h0:=(HC.out _ hw').1;go_simp;try with_reducible rfl)
 try go_frame
 refine' j_t 4 [10] rfl (by kernel_rfl) rfl ?y4a ?r4a
 case y4a=>(intro w' hw';go_simp;try with_reducible rfl)
 try go_frame
 refine' j_t 5 [6,7,8,9,10] rfl (by kernel_rfl) rfl ?y5a ?r5a
 case y5a=>(intro w' hw';go_simp;try with_reducible rfl)
 try go_frame
 refine' j_t 6 [7,8,9,10] rfl (by kernel_rfl) rfl ?y6a ?r6a
 case y6a=>(intro w' hw';go_simp;try with_reducible rfl)
 try go_frame
 refine' j_t 7 [8,9,10] rfl (by kernel_rfl) rfl ?y7a ?r7a
 case y7a=>(intro w' hw';go_simp;try with_reducible rfl)
 try go_frame
 refine' j_t 8 [9,10] rfl (by kernel_rfl) rfl ?y8a ?r8a
 case y8a=>(intro w' hw';have h0:=(HC.out _ hw').2;go_simp;try with_reducible rfl)
 try go_frame
 refine' j_t 9 [10] rfl (by kernel_rfl) rfl ?y9a ?r9a
 case y9a=>(intro w' hw';go_simp;try with_reducible rfl)
 try go_frame
 refine' j_l 10 (by kernel_rfl) rfl (by kernel_rfl) (fun K hK=>?s10a)
 go_simp
 refine hK.out _ _ ?_
 clear hK K
 try go_frame
 refine wpAnyJ_done (by kernel_rfl) ?_ _
 refine NoPanic.normal ?_
 clear HC HRUN hrun
 have hgm0:w2.grownBy wm (some h.bn):=⟨HGM.out.os,HGM.out.tape,HGM.out.output,HGM.out.size,HGM.out.block⟩
 have hpm:p < wm.heap.size:=Nat.lt_of_lt_of_le hp1 hgm0.size
 have HBXm:Hid (wm.heap[p]? = some (.cells (dkL R h).toArray 70 (0,0))):=hide ((hgm0.block p hp1 (fun e=>not_map HH1.out.box HH1.out.names (by injection e with e;exact e.symm))).trans HH1.out.box)
 have HT9:Hid (OwnL Tn.cells 4 177 base wm (.slice At h.T.length ct) h.T):=hide (by rw [← hvt];exact HH1.out.turns.sets (sets_grown hgm0) (fun g hg e=>own_not_map HH1.out.turns HH1.out.names (by rw [hg];exact e.symm)))
 have HF9:Hid (OwnL (one1 ptv) 1 172 base wm h.vf (R.Z.map Fz.g)):=hide (HH1.out.files.sets (sets_grown hgm0) (fun g hg e=>own_not_map HH1.out.files HH1.out.names (by rw [hg];exact e.symm)))
 have HTL:Hid (h.T.length < 900000):=hide (by have:=HH1.out.few;have:=HL.out;omega)
 have HBL2:Hid (base≤wm.heap.size):=hide (by have:=HH1.out.base_le;have:=hgm0.size;omega)
 have HNT:Hid (h.vt.ownBlock ≠ some p):=hide (fun e=>own_ne_box HH1.out.turns HH1.out.box (by decide) e)
 have HNF:Hid (h.vf.ownBlock ≠ some p):=hide (fun e=>own_ne_box HH1.out.files HH1.out.box (by decide) e)
 have hc9:=dk_box HBXm.out
 have HC9:Hid (∀ W,Below wm.drew.heap.size wm.drew W→W.cell? ⟨p,4,none⟩=some (.slice At h.T.length ct)∧W.cell? ⟨p,1,none⟩=some (.slice Av R.Z.length cv)):=hide (fun W hW=>⟨(hW.cell (p:=⟨p,4,none⟩) hpm).trans (hc9.2.1.2.2.2.2.trans (by rw [hvt])),(hW.cell (p:=⟨p,1,none⟩) hpm).trans (hc9.2.1.2.1.trans (by rw [hvf]))⟩)
 clear hc9 c0 c1 c2 c3 c4 hlen hgm0
 have HVF:=hide hvf
 have HVT:=hide hvt
 clear hvf hvt
 go_upto_region 9 with fail
 refine j_start [13,16,14,15,0] (by kernel_rfl) ?_
 refine' j_tw 0 rfl (by kernel_rfl) rfl ?y0b ?r0b
 case y0b=>(intro w' hw';go_simp;try with_reducible rfl)
 try go_frame
 refine' j_t 1 [2,3,4,13,14,15,16] rfl (by kernel_rfl) rfl ?y1b ?r1b
 case y1b=>(intro w' hw';go_simp;try with_reducible rfl)
 try go_frame
 refine' j_t 2 [3,4,13,14,15,16] rfl (by kernel_rfl) rfl ?y2b ?r2b
 case y2b=>(intro w' hw';go_simp;try with_reducible rfl)
 try go_frame
 refine' j_t 3 [4,13,14,15,16] rfl (by kernel_rfl) rfl ?y3b ?r3b
 case y3b=>(intro w' hw';go_simp;try with_reducible rfl)
 try go_frame
 refine' j_t 4 [13,14,15,16] rfl (by kernel_rfl) rfl ?y4b ?r4b
 case y4b=>(intro w' hw';have h0:=(HC9.out _ hw').1;go_simp;try with_reducible rfl)
 try go_frame
 refine' j_t 5 [6,7,8,9,11,12,13,14,15,16] rfl (by kernel_rfl) rfl ?y5b ?r5b
 case y5b=>(intro w' hw';go_simp;try with_reducible rfl)
 try go_frame
 refine' j_t 6 [7,8,9,11,12,13,14,15,16] rfl (by kernel_rfl) rfl ?y6b ?r6b
 case y6b=>(intro w' hw';go_simp;try with_reducible rfl)
 try go_frame
 refine' j_t 7 [8,9,11,12,13,14,15,16] rfl (by kernel_rfl) rfl ?y7b ?r7b
 case y7b=>(intro w' hw';go_simp;try with_reducible rfl)
 try go_frame
 refine' j_t 8 [9,11,12,13,14,15,16] rfl (by kernel_rfl) rfl ?y8b ?r8b
 case y8b=>(intro w' hw';have h0:=(HC9.out _ hw').2;go_simp;try with_reducible rfl)
 try go_frame
 refine' j_t 9 [11,12,13,14,15,16] rfl (by kernel_rfl) rfl ?y9b ?r9b
 case y9b=>(intro w' hw';go_simp;try with_reducible rfl)
 try go_frame
 refine' j_t 10 [11,12,13,14,15,16] rfl (by kernel_rfl) rfl ?y10b ?r10b
 case y10b=>(intro w' hw';go_simp;try with_reducible rfl)
 try go_frame
 refine' j_t 11 [12,13,14,15,16] rfl (by kernel_rfl) rfl ?y11b ?r11b
 case y11b=>(intro w' hw';go_simp;try with_reducible rfl)
 try go_frame
 refine' j_s 12 (by kernel_rfl) rfl (fun K hK=>?s12b)
 go_simp
 have ha:=below_alloc (Below.refl wm.drew.heap.size wm.drew) (.cells #[.int .i64 1,.int .i64 R.Z.length,.string s,.string ⟨#[]⟩] 177)
 have HN:=hide (RowAt.new_one (cells:=Tn.cells) (sz:=4) (y:=⟨1,R.Z.length,s,⟨#[]⟩⟩) (heap_alloc_new wm.drew (.cells #[.int .i64 1,.int .i64 R.Z.length,.string s,.string ⟨#[]⟩] 177)))
 have HGA:=hide ha
 refine hK.out _ _ ha (j_switch ha ?_)
 clear hK K ha
 try go_frame
 refine' j_l 13 (by kernel_rfl) rfl (by kernel_rfl) (fun K hK=>?s13b)
 refine step_app_row rfl (.tmp 39) (.tmp 47) 63 177 _ 4 48 rfl Tryz.underlying63 infoTurn rfl (by omega) Tn.len Tn.one (by omega) base _ h.T rfl (HT9.out.below (below_step (Below.refl _ wm).drew HGA.out)) (some ⟨wm.drew.heap.size,0,none⟩) 1 1 [⟨1,R.Z.length,s,⟨#[]⟩⟩] rfl rfl HN.out (by have:=HTL.out;omega) (by have:=HBL2.out;have:=HGA.out.size;simp only [World.size_drew] at *;omega) ?_
 intro v3 w3 ho3 hg3 hm3
 obtain ⟨A3,c3,rfl,_⟩:=OwnL.row Tn.len ho3
 obtain ⟨n3,hn3⟩:∃ n3,(h.T ++ [(⟨1,R.Z.length,s,⟨#[]⟩⟩:Tn)]).length=n3:=⟨_,rfl⟩
 rw [hn3] at ho3 hm3 ⊢
 clear hn3
 have HO3:=hide ho3;have HG3:=hide hg3;have HM3:=hide hm3
 clear ho3 hg3 hm3
 obtain ⟨wa,hwa⟩:∃ wa,wm.drew.alloc (.cells #[.int .i64 1,.int .i64 R.Z.length,.string s,.string ⟨#[]⟩] 177)=wa:=⟨_,rfl⟩
 rw [hwa] at HGA HN HG3 HM3
 clear hwa HN
 have hWA:Below wm.heap.size wm wa:=below_step (Below.refl _ wm).drew HGA.out
 have hnt:(Value.slice At h.T.length ct).ownBlock ≠ some p:=(by rw [← HVT.out];exact HNT.out)
 have hb3:w3.heap[p]? = some (.cells (dkL R h).toArray 70 (0,0)):=(HG3.out.block p (Nat.lt_of_lt_of_le hpm hWA.size) (fun e=>hnt e.symm)).trans ((hWA.block p hpm).trans HBXm.out)
 obtain ⟨_,⟨e0,e1,e2,e3,e4⟩,ez⟩:=dk_box hb3
 have ez4:=ez 4
 have HB3:=hide hb3
 clear hb3 ez hnt
 refine hK.out _ _ ?_
 clear hK K
 try go_frame
 refine' j_l 14 (by kernel_rfl) rfl (by kernel_rfl) (fun K hK=>?s14b)
 go_simp
 refine hK.out _ _ ?_
 clear hK K
 try go_frame
 refine' j_l 15 (by kernel_rfl) rfl (by kernel_rfl) (fun K hK=>?s15b)
 go_simp
 refine hK.out _ _ ?_
 clear hK K
 try go_frame
 refine' j_l 16 (by kernel_rfl) rfl (by kernel_rfl) (fun K hK=>?s16b)
 go_simp
 refine hK.out _ _ ?_
 clear hK K
 try go_frame
 refine wpAnyJ_done (by kernel_rfl) ?_ _
 refine NoPanic.normal ?_
 obtain ⟨vt,hvt⟩:∃ v,Value.slice A3 n3 c3=v:=⟨_,rfl⟩
 have hwe:w3.setCell ⟨p,4,none⟩ (.slice A3 n3 c3)=w3.setCell ⟨p,4,none⟩ vt:=by rw [hvt]
 rw [hvt] at HO3 HM3
 obtain ⟨w4,hw4⟩:∃ w4,w3.setCell ⟨p,4,none⟩ (.slice A3 n3 c3)=w4:=⟨_,rfl⟩
 rw [hw4]
 rw [hw4] at hwe
 have HVT2:=hide hvt
 clear hw4 hvt ez4 e0 e1 e2 e3 e4
 have HB4:Hid (w4.heap[p]? = some (.cells (dkL R { h with vt:=vt }).toArray 70 (0,0))):=hide (by rw [hwe];exact dk_set 4 vt HB3.out)
 have HS34:Hid (Sets (fun g=>g=p) w3 w4):=hide (by rw [hwe];exact sets1 w3 p 4 vt)
 have HO4:Hid (OwnL Tn.cells 4 177 base w4 vt (h.T ++ [⟨1,R.Z.length,s,⟨#[]⟩⟩])):=hide (by rw [hwe];exact OwnL.setFar HO3.out (fun e=>own_ne_box HO3.out HB3.out (by decide) e) vt)
 have hS3a:Hid (Sets (fun g=>h.vt.ownBlock=some g) wa w3):=hide (by
  have h1:=sets_grown HG3.out
  rw [HVT.out]
  exact h1)
 have HF4:Hid (OwnL (one1 ptv) 1 172 base w4 h.vf (R.Z.map Fz.g)):=hide (by
  have h1:=HF9.out.below hWA
  have h2:OwnL Tn.cells 4 177 base wa h.vt h.T:=by rw [HVT.out];exact HT9.out.below hWA
  have h3:=h1.sets hS3a.out (fun g hg e=>own_ne_own h1 h2 (by decide) hg e)
  exact h3.sets HS34.out (fun g hg e=>HNF.out (e ▸ hg)))
 obtain ⟨hp4,⟨_,d1,_⟩,dz⟩:=dk_box HB4.out
 rw [show ({ h with vt:=vt }:Dh).vf=.slice Av R.Z.length cv from HVF.out] at d1
 have dz1:=dz 1
 have HBL4:Hid (base≤w4.heap.size):=hide (by have:=HBL2.out;have:=hWA.size;have:=HG3.out.size;have:=HS34.out.size;omega)
 have hz4:=heap_alloc_new w4 (.cells #[.slice none 0 0,.int .i64 0] 175)
 have hz4b:=((below_alloc (Below.refl (w4.alloc (.cells #[.slice none 0 0,.int .i64 0] 175)).heap.size (w4.alloc (.cells #[.slice none 0 0,.int .i64 0] 175))) (.cells #[ptv w4.heap.size] 172)).block w4.heap.size (by simp)).trans hz4
 have hnb:=heap_alloc_new (w4.alloc (.cells #[.slice none 0 0,.int .i64 0] 175)) (.cells #[ptv w4.heap.size] 172)
 rw [World.size_alloc] at hnb
 have hbb:=below_alloc (below_alloc (Below.refl w4.heap.size w4) (.cells #[.slice none 0 0,.int .i64 0] 175)) (.cells #[ptv w4.heap.size] 172)
 have HNB:=hide (RowAt.new_one (cells:=one1 ptv) (sz:=1) (y:=w4.heap.size) hnb)
 have HZ4:=hide hz4b
 have HBB:=hide hbb
 have HBS:=hide (Nat.le_trans HBL4.out hbb.size)
 have HLN:Hid ((R.Z.map Fz.g).length+1≤1000000):=hide (by have:=HL.out;rw [List.length_map];omega)
 have HF5:=hide (HF4.out.below hbb)
 rw [HVF.out] at HF5
 clear hz4 hz4b hnb hbb dz hwe
 go_wp2_with (at_builtin;refine wpList_app_row rfl (.tmp 55) (.tmp 58) 62 172 _ 1 8 rfl Tryz.underlying62 infoPFile rfl (by omega) (fun _=>rfl) (fun a u hu=>by simp only [List.mem_singleton] at hu;subst hu;rfl) (by omega) base _ (R.Z.map Fz.g) rfl HF5.out (some ⟨w4.heap.size+1,0,none⟩) 1 1 [w4.heap.size] rfl rfl HNB.out HLN.out HBS.out ?_;intro v5 w5 ho5 hg5 hm5;obtain ⟨A5,c5,rfl,_⟩:=OwnL.row (cells:=one1 ptv) (sz:=1) (fun _=>rfl) ho5;obtain ⟨n5,hn5⟩:∃ n5,(R.Z.map Fz.g ++ [w4.heap.size]).length=n5:=⟨_,rfl⟩;rw [hn5] at ho5 hm5 ⊢;clear hn5;have hnf5:(Value.slice Av R.Z.length cv).ownBlock ≠ some p:=(by rw [← HVF.out];exact HNF.out);have hb5:=(hg5.block p (Nat.lt_of_lt_of_le hp4 HBB.out.size) (fun e=>hnf5 e.symm)).trans ((HBB.out.block p hp4).trans HB4.out);obtain ⟨_,⟨_,g1,_⟩,gz⟩:=dk_box hb5;rw [show ({ h with vt:=vt }:Dh).vf=.slice Av R.Z.length cv from HVF.out] at g1;have gz1:=gz 1;have HO5:=hide ho5;have HG5:=hide hg5;have HM5:=hide hm5;have HB5:=hide hb5;clear ho5 hg5 hm5 hb5 gz hnf5)
 go_ret
 obtain ⟨vf,hv5⟩:∃ v,Value.slice A5 n5 c5=v:=⟨_,rfl⟩
 rw [hv5] at HO5 HM5 ⊢
 obtain ⟨wb,hwb⟩:∃ wb,(w4.alloc (.cells #[.slice none 0 0,.int .i64 0] 175)).alloc (.cells #[ptv w4.heap.size] 172)=wb:=⟨_,rfl⟩
 rw [hwb] at HBB HZ4 HF5 HG5 HM5
 clear hwb HNB HBS g1 gz1 d1 dz1
 have hsz4:wm.heap.size≤w4.heap.size:=by have:=hWA.size;have:=hS3a.out.size;have:=HS34.out.size;omega
 have hszm:=HGM.out.size
 have hszb:=HBB.out.size
 have hF5:OwnL (one1 ptv) 1 172 base wb h.vf (R.Z.map Fz.g):=HF4.out.below HBB.out
 have hT5:=HO4.out.below HBB.out
 have hSf:Sets (fun g=>h.vf.ownBlock=some g) wb w5:=by
  have h1:=sets_grown HG5.out
  rw [HVF.out]
  exact h1
 have hS2:Sets (fun x=>x=p ∨ h.vf.ownBlock=some x ∨ h.vt.ownBlock=some x) wm (w5.setCell ⟨p,1,none⟩ vf) :=
  ((((Sets.of (S:=fun x=>x=p ∨ h.vf.ownBlock=some x ∨ h.vt.ownBlock=some x) hWA).trans hS3a.out (fun _ _ e=>.inr (.inr e))).trans HS34.out (fun _ _ e=>.inl e)).trans (Sets.of (S:=fun _=>False) HBB.out) (fun _ _ e=>e.elim)).trans (hSf.up (T:=fun x=>x=p ∨ h.vf.ownBlock=some x) (fun _ e=>.inr e)) (fun _ _ e=>e.imp id .inl) |>.set (fun _=>.inl rfl) 1 vf
 have hgm0:w2.grownBy wm (some h.bn):=⟨HGM.out.os,HGM.out.tape,HGM.out.output,HGM.out.size,HGM.out.block⟩
 have hS3:Sets (CrS p h) w2 (w5.setCell ⟨p,1,none⟩ vf):=((sets_grown hgm0).up (T:=CrS p h) (fun g e=>.inr (.inl (by injection e with e;exact e.symm)))).trans hS2 (fun g _ e=>by
  rcases e with e | e | e
  ·exact .inl e
  ·exact .inr (.inr (.inl e))
  ·exact .inr (.inr (.inr e)))
 have hnm:=NamesAt.tight HNM.out
 have hmapT:OwnL Tn.cells 4 177 base wm h.vt h.T:=by rw [HVT.out];exact HT9.out
 have hN6:=hnm.sets hS2 (by
  rintro (e | e | e)
  ·exact not_map HBXm.out HNM.out e
  ·exact own_not_map HF9.out HNM.out e
  ·exact own_not_map hmapT HNM.out e)
 have hpf:vf.ownBlock ≠ some p:=fun e=>own_ne_box HO5.out HB5.out (by decide) e
 have hF6:OwnL (one1 ptv) 1 172 base (w5.setCell ⟨p,1,none⟩ vf) vf (R.Z.map Fz.g ++ [w4.heap.size]):=OwnL.setFar HO5.out hpf vf
 have hpt:vt.ownBlock ≠ some p:=fun e=>own_ne_box HO4.out HB4.out (by decide) e
 have hT6:OwnL Tn.cells 4 177 base (w5.setCell ⟨p,1,none⟩ vf) vt (h.T ++ [⟨1,R.Z.length,s,⟨#[]⟩⟩]):=OwnL.setFar (hT5.sets hSf (fun g e1 e2=>own_ne_own hT5 hF5 (by decide) e1 e2)) hpt vf
 have hZ6:FzAt (w5.setCell ⟨p,1,none⟩ vf) base ⟨w4.heap.size,.slice none 0 0,[],0⟩:=by
  refine ⟨?_,OwnL.nil_ _ _ _ _ _,HBL4.out,by simp,by simp⟩
  have hlt:w4.heap.size < wb.heap.size:=(Array.getElem?_eq_some_iff.1 HZ4.out).1
  have h1:=(hSf.block w4.heap.size hlt (fun e=>by have:=own_lt HF4.out _ e;omega)).trans HZ4.out
  exact (Below.heap_setCell w5 ⟨p,1,none⟩ vf w4.heap.size (fun e=>Nat.lt_irrefl p (by have e2:w4.heap.size=p:=e;rw [← e2] at hp4 ⊢;exact hp4))).trans h1
 have hlc:=HL.out
 have hC:=HH1.out.created (z:=⟨w4.heap.size,.slice none 0 0,[],0⟩) (t:=⟨1,R.Z.length,s,⟨#[]⟩⟩) (vf:=vf) (vt:=vt) (D:=R.D.put (nkey s) (.lit (.int .i64 R.Z.length))) hS3 (dk_set 1 vf HB5.out) hN6 hF6 hT6 hZ6 (by show w2.heap.size≤w4.heap.size;have:w2.heap.size≤wm.heap.size:=hszm;omega) rfl
  (fun g e=>by
   rcases HM5.out with h1 | h1
   ·left;rw [HVF.out];exact h1.symm.trans e
   ·right;rw [h1] at e;injection e with e;have:w2.heap.size≤wm.heap.size:=hszm;omega)
  (fun g e=>by
   rcases HM3.out with h1 | h1
   ·left;rw [HVT.out];exact h1.symm.trans e
   ·right;rw [h1] at e;injection e with e;have:w2.heap.size≤wm.heap.size:=hszm;have:=hWA.size;omega)
  hlc.2.1 (by omega) (led_put HH1.out.led HH1.out.names.isMap s)
 have hSX:Sets X w (w5.setCell ⟨p,1,none⟩ vf):=by
  have h1:=HH1.out.inX
  refine (HS1.out.up (T:=X) (fun g e=>e ▸ h1.1)).trans hS3 (fun g _ e=>?_)
  rcases e with e | e | e | e
  ·exact e ▸ h1.1
  ·exact e ▸ h1.2.1
  ·exact h1.2.2.2.1 g e
  ·exact h1.2.2.2.2.1 g e
 exact ⟨rfl,⟨_,rfl,rfl,_,hC.wide (Xw.more HS1.out.size) (HBD.out _ hSX.size)⟩,hSX⟩
end Go.Proofs.YtgmkckjedngkdaaGreatDoor
namespace Go.Proofs.YtgmkckjedngkdaaGreatDoor
open Go.ChangeShapes Go.WideShapes Go.ChangeAt Go.RowKit
abbrev Tn.val (t:Tn):Value:=.agg #[.int .i64 t.k,.int .i64 t.f,.string t.a,.string t.b]
def renD (D:DataW Unit) (a b:ByteArray) (i:Nat):DataW Unit:=(D.put (nkey b) (.lit (.int .i64 i))).del (nkey a)
set_option maxRecDepth 100000 in
set_option maxHeartbeats 1600000 in
theorem do_ren {w:World} {m n:Nat} {D:DataW Unit} (h:NamesAt w m n D) (a b:ByteArray) (f:Int) (i:Nat) (ha:a.size≤maxLen) (hb:b.size≤maxLen) (hh:hitN D a i) (hn:n < 1000) (hi:i < 1000000) :
 Calls Tryz.prog 99 #[.agg #[.int .i64 2,.int .i64 f,.string a,.string b],.map (some m)] w fun e w'=>e=.returned (.tuple #[])∧NamesAt w' m (Maps.size (renD D a b i)) (renD D a b i)∧Sets (fun g=>g=m) w w':=by
 have hba:=below_alloc (Below.refl w.heap.size w) (.cells #[.int .i64 2,.int .i64 f,.string a,.string b] 177)
 have hz:=heap_alloc_new w (.cells #[.int .i64 2,.int .i64 f,.string a,.string b] 177)
 obtain ⟨wa,hwa⟩:∃ wa,w.alloc (.cells #[.int .i64 2,.int .i64 f,.string a,.string b] 177)=wa:=⟨_,rfl⟩
 rw [hwa] at hba hz
 have h0:NamesAt wa m n D:=h.sets (Sets.of (S:=fun _=>False) hba) id
 have hlk:=names_look h0 ha i true hh.1 (hh.2 _)
 obtain ⟨w1,hr1,h1,hg1⟩:=World.ownsMap.update h0 keyS Tryz.underlying61 (by unfold maxLen;omega) (Go.WideMaps.keyOf_string_mk Tryz.underlying9 hb) (plainElem_int (H:=Unit) Tryz.underlying3 (a:=(i:Int)) (wfI64 (by omega)))
 obtain ⟨w2,hr2,h2,hg2⟩:=World.ownsMap.drop h1 keyS Tryz.underlying61 (Go.WideMaps.keyOf_string_mk Tryz.underlying9 ha) 0
 have HF:=hide (NamesAt.tight h2)
 have HS:Hid (Sets (fun g=>g=m) w w2):=hide (((Sets.of (S:=fun g=>g=m) hba).trans (sets_grown hg1) (fun g _ e=>by injection e with e;exact e.symm)).trans (sets_grown hg2.grown) (fun g _ e=>by injection e with e;exact e.symm))
 have z0:=(cell_of_row wa w.heap.size 0 _ _ _ hz).trans rfl
 have z1:=(cell_of_row wa w.heap.size 1 _ _ _ hz).trans rfl
 have z2:=(cell_of_row wa w.heap.size 2 _ _ _ hz).trans rfl
 have z3:=(cell_of_row wa w.heap.size 3 _ _ _ hz).trans rfl
 have hne:w.heap.size ≠ m:=fun e=>not_map hz h0 e.symm
 have hzl:w.heap.size < wa.heap.size:=(Array.getElem?_eq_some_iff.1 hz).1
 have hz1:w1.heap[w.heap.size]? = some (.cells #[.int .i64 2,.int .i64 f,.string a,.string b] 177 (0,0)):=(hg1.block w.heap.size hzl (fun e=>hne (by injection e))).trans hz
 have y2:=(cell_of_row w1 w.heap.size 2 _ _ _ hz1).trans rfl
 have HWA:=hide hwa
 clear hba hz h0 h1 hg1 h2 hg2 hz1 hne hzl h hwa
 go_enter Tryz.func99,Tryz.ntmps99
 go_upto_region 1 with fail
 rw [HWA.out]
 go_wp2_with fail
 go_end0
 exact ⟨rfl,HF.out,HS.out⟩
end Go.Proofs.YtgmkckjedngkdaaGreatDoor
namespace Go.Proofs.YtgmkckjedngkdaaGreatDoor
open Go.ChangeShapes Go.WideShapes Go.ChangeAt Go.RowKit
theorem tn_cells {w:World} {g:Nat} {k f:Int} {a b:ByteArray} {t:TypeId} (h:w.heap[g]? = some (.cells #[.int .i64 k,.int .i64 f,.string a,.string b] t (0,0))) :
 w.cell? ⟨g,0,none⟩=some (.int .i64 k)∧w.cell? ⟨g,1,none⟩=some (.int .i64 f)∧w.cell? ⟨g,2,none⟩=some (.string a)∧w.cell? ⟨g,3,none⟩=some (.string b) :=
 ⟨(cell_of_row w g 0 _ _ _ h).trans rfl,(cell_of_row w g 1 _ _ _ h).trans rfl,(cell_of_row w g 2 _ _ _ h).trans rfl,(cell_of_row w g 3 _ _ _ h).trans rfl⟩
def TuS (p:Nat) (h:Dh) (x:Nat):Prop:=x=p ∨ x=h.bn ∨ h.vt.ownBlock=some x
theorem DiskV.turned {w w':World} {X:Nat→Prop} {base p:Nat} {K:Dk} {h:Dh} (H:DiskV w base p X K h) {vt:Value} {D:DataW Unit} {t:Tn}
 (k:Sets (TuS p h) w w') (hbox:w'.heap[p]? = some (.cells (dkL { K with D:=D } { h with vt:=vt,T:=h.T ++ [t] }).toArray 70 (0,0))) (hn:NamesAt w' h.bn (Maps.size D) D)
 (ht:OwnL Tn.cells 4 177 base w' vt (h.T ++ [t])) (mt:∀ g,vt.ownBlock=some g→h.vt.ownBlock=some g ∨ w.heap.size≤g) (ft:K.tn < 1000000) (led:Led D K.Z.length) :
 DiskV w' base p (Xw X w w') { K with D:=D,tn:=K.tn+1,calm:=false } { h with vt:=vt,T:=h.T ++ [t] } where
 box:=hbox
 low:=H.low
 names:=hn
 lasted:=H.lasted.sets k (by
  rintro (e | e | e)
  ·exact not_map H.box H.lasted e
  ·exact H.two e.symm
  ·exact own_not_map H.turns H.lasted e)
 two:=H.two
 files:=H.files.sets k (by
  rintro g hg (e | e | e)
  ·exact own_ne_box H.files H.box (by decide) (e ▸ hg)
  ·exact own_not_map H.files H.names (e ▸ hg)
  ·exact own_ne_own H.files H.turns (by decide) hg e)
 turns:=ht
 each:=by
  intro y hy
  refine (H.each y hy).sets k ?_ ?_
  ·rintro (e | e | e)
   ·exact box_ne (H.each y hy).box H.box (by decide) e
   ·exact not_map (H.each y hy).box H.names e.symm
   ·exact own_ne_box H.turns (H.each y hy).box (by decide) e
  ·rintro g hg (e | e | e)
   ·exact own_ne_box (H.each y hy).own H.box (by decide) (e ▸ hg)
   ·exact own_not_map (H.each y hy).own H.names (e ▸ hg)
   ·exact own_ne_own H.turns (H.each y hy).own (by decide) e hg
 far:=H.far
 inX:=by
  refine ⟨.inl H.inX.1,.inl H.inX.2.1,.inl H.inX.2.2.1,fun g e=>.inl (H.inX.2.2.2.1 g e),fun g e=>?_,fun y hy=>⟨.inl (H.inX.2.2.2.2.2 y hy).1,fun g e=>.inl ((H.inX.2.2.2.2.2 y hy).2 g e)⟩⟩
  rcases mt g e with e2 | e2
  ·exact .inl (H.inX.2.2.2.2.1 g e2)
  ·exact .inr ⟨e2,(own_lt ht g e).2⟩
 bd:=Xw.bd H.bd H.base_le k.size
 few:=by
  show K.Z.length≤1000∧(h.T ++ [t]).length≤K.tn+1∧K.tn+1≤1000000
  have:=H.few
  simp only [List.length_append,List.length_cons,List.length_nil]
  omega
 led:=led
 stop0:=H.stop0
 quota:=H.quota
 calm_:=fun h=>by cases h
def rnD (K:Dk) (a b:ByteArray) (i:Nat):Dk:={ K with D:=renD K.D a b i,tn:=K.tn+1,calm:=false }
theorem led_ren {D:DataW Unit} {n i:Nat} (h:Led D n) (hD:Maps.IsMap D) (hi:i < n) (a b:ByteArray):Led (renD D a b i) n:=by
 intro kl y hy
 by_cases e:kl=nkey a
 ·subst e
  have h1:=hy (.lit (.int .i64 0))
  have h2:=hy (.lit (.int .i64 1))
  unfold renD at h1 h2
  rw [Maps.atKey_del_same] at h1 h2
  rw [← h1] at h2
  cases h2
 ·by_cases e2:kl=nkey b
  ·subst e2
   refine ⟨i,hi,?_⟩
   rw [← hy (.lit (.int .i64 0))]
   unfold renD
   rw [Maps.atKey_del_other e]
   exact Maps.atKey_put_same hD (show WideAt.IsKeyLit (nkey b) from trivial) _ _
  ·exact h kl y (fun z=>by
    rw [← hy z]
    unfold renD
    rw [Maps.atKey_del_other e,Maps.atKey_put_other e2])
theorem name_row2 {w:World} {a b:ByteArray}:ValsAt strv (w.alloc (.cells #[.string a,.string b] 9)) (some ⟨w.heap.size,0,none⟩) [a,b]:=by
 intro _
 have hz:=heap_alloc_new w (.cells #[.string a,.string b] 9)
 refine ⟨w.heap.size,0,rfl,by simp,fun k hk j u hu=>?_⟩
 have hk2:k=0 ∨ k=1:=by simp at hk;omega
 rcases hk2 with rfl | rfl
 ·rcases j with _ | j
  ·simp at hu;subst hu;exact (cell_of_row _ _ 0 _ _ _ hz).trans rfl
  ·simp at hu
 ·rcases j with _ | j
  ·simp at hu;subst hu;exact (cell_of_row _ _ 1 _ _ _ hz).trans rfl
  ·simp at hu
theorem call_two {w:World} {base p:Nat} {X:Nat→Prop} {K:Dk} {h:Dh} (H:DiskV w base p X K h) {a b:ByteArray} (ha:namedB a=true) (hb:namedB b=true) :
 Calls Tryz.prog 191 #[ptv p,.slice (some ⟨w.heap.size,0,none⟩) 2 2] (w.alloc (.cells #[.string a,.string b] 9)) fun e w'=>e=.returned (.int .i64 (callE K))∧(∃ n,DiskV w' base p X (callD K) { h with calls:=n })∧Sets (fun g=>g=p) w w':=by
 have hba:=below_alloc (Below.refl w.heap.size w) (.cells #[.string a,.string b] 9)
 refine (call_any (H.below hba) (some ⟨w.heap.size,0,none⟩) 2 [a,b] name_row2 (by simp) (by intro s hs;simp only [List.mem_cons,List.not_mem_nil,or_false] at hs;rcases hs with rfl | rfl;exact ha;exact hb)).mono ?_
 rintro e w' ⟨rfl,h1,h2⟩
 exact ⟨rfl,h1,(Sets.of (S:=fun g=>g=p) hba).trans h2 (fun _ _ h=>h)⟩
set_option maxRecDepth 100000 in
set_option maxHeartbeats 3200000 in
theorem rename_in {w:World} {base p:Nat} {X:Nat→Prop} {R:Dk} {h:Dh} (H:DiskV w base p X R h) {a b:ByteArray} (ha:namedB a=true) (hb:namedB b=true) {i:Nat} (hh:hitN R.D a i) (hi:i < R.Z.length) (hab:(a.toList == b.toList)=false) (hd:R.dead=false) (hst:R.stop=0) (hsz:Maps.size R.D < 64) (htl:R.tn < 900000) :
 Calls Tryz.prog 223 #[ptv p,.string a,.string b] w fun e w'=>e=.returned (.int .i64 0)∧DiskO w' base p (Xw X w w') (rnD R a b i)∧Sets X w w':=by
 have hK:callD R=R:=by unfold callD;rw [hd,hst];rfl
 have hE:callE R=0:=by unfold callE;rw [hd];rfl
 have hcl:=call_two H ha hb
 rw [hK,hE] at hcl
 have HCL:=hide hcl
 have HA:=hide ha
 have HB:=hide hb
 have HH:=hide hh
 have HI:=hide hi
 have HBD:=hide (fun (W:World) (hs:w.heap.size≤W.heap.size)=>Xw.bd H.bd H.base_le hs)
 have HL:=hide (show Maps.size R.D < 64∧R.tn < 900000 from ⟨hsz,htl⟩)
 clear H hK hE hcl ha hb hh hd hst hsz htl hi
 go_enter Tryz.func223,Tryz.ntmps223
 go_upto_region 2 with ((with_reducible refine (HCL.out).mono ?_);rintro e w1 ⟨rfl,⟨n,h1⟩,hS⟩)
 have HS1:=hide hS
 clear HCL hS
 obtain ⟨h,hh⟩:∃ k,{ h with calls:=n }=k:=⟨_,rfl⟩
 rw [hh] at h1
 clear hh
 have HH1:=hide h1
 have HF:=hide (find_hit_D h1 a (namedB_size HA.out) i HI.out HH.out)
 clear h1
 have hzt:=heap_alloc_new w1 (.cells #[.int .i64 2,.int .i64 0,.string a,.string b] 177)
 have hbt:=below_alloc (Below.refl w1.heap.size w1) (.cells #[.int .i64 2,.int .i64 0,.string a,.string b] 177)
 generalize (R.Z[i]'HI.out).g=gz at *
 go_upto_region 9 with ((with_reducible refine (HF.out).mono ?_);rintro e w2 ⟨rfl,rfl⟩)
 obtain ⟨gt,hgt⟩:∃ gt,w2.heap.size=gt:=⟨_,rfl⟩
 have HBT:=hide hbt
 obtain ⟨wt,hwt⟩:∃ wt,w2.alloc (.cells #[.int .i64 2,.int .i64 0,.string a,.string b] 177)=wt:=⟨_,rfl⟩
 rw [hwt] at hzt HBT ⊢
 rw [hgt] at hzt ⊢
 clear hwt hbt HF
 have HZT:=hide hzt
 have HGT:=hide hgt
 clear hzt hgt
 have HHt:=hide (HH1.out.below HBT.out)
 have hlt:gt < wt.heap.size:=(Array.getElem?_eq_some_iff.1 HZT.out).1
 have hp1:p < wt.heap.size:=(Array.getElem?_eq_some_iff.1 HHt.out.box).1
 have HDO:Hid (Calls Tryz.prog 99 #[.agg #[.int .i64 2,.int .i64 0,.string a,.string b],.map (some h.bn)] wt.drew fun e w'=>e=.returned (.tuple #[])∧NamesAt w' h.bn (Maps.size (renD R.D a b i)) (renD R.D a b i)∧Sets (fun g=>g=h.bn) wt.drew w') :=
  hide (do_ren (HHt.out.names.drew) a b 0 i (namedB_size HA.out) (namedB_size HB.out) HH.out (by have:=HL.out;omega) (by have:=HI.out;have:=HHt.out.few;omega))
 obtain ⟨At,ct,hvt,hrt,_⟩:=OwnL.row Tn.len HHt.out.turns
 have HVT:=hide hvt
 have HC:Hid (∀ W,Below wt.drew.heap.size wt.drew W→W.cell? ⟨p,2,none⟩=some (.map (some h.bn))∧W.cell? ⟨gt,0,none⟩=some (.int .i64 2)∧W.cell? ⟨gt,1,none⟩=some (.int .i64 0)∧W.cell? ⟨gt,2,none⟩=some (.string a)∧W.cell? ⟨gt,3,none⟩=some (.string b)):=hide (fun W hW =>
  ⟨(hW.cell (p:=⟨p,2,none⟩) hp1).trans (dk_box HHt.out.box).2.1.2.2.1,tn_cells ((hW.block gt hlt).trans HZT.out)⟩)
 clear hvt hrt
 refine j_start [5] (by kernel_rfl) ?_
 refine' j_t 0 [5] rfl (by kernel_rfl) rfl ?y0a ?r0a
 case y0a=>(intro w' hw';obtain ⟨_,t0,t1,t2,t3⟩:=HC.out _ hw';go_simp;try with_reducible rfl)
 try go_frame
 refine' j_t 1 [2,3,4,5] rfl (by kernel_rfl) rfl ?y1a ?r1a
 case y1a=>(intro w' hw';go_simp;try with_reducible rfl)
 try go_frame
 refine' j_t 2 [3,4,5] rfl (by kernel_rfl) rfl ?y2a ?r2a
 case y2a=>(intro w' hw';go_simp;try with_reducible rfl)
 try go_frame
 refine' j_t 3 [4,5] rfl (by kernel_rfl) rfl ?y3a ?r3a
 case y3a=>(intro w' hw';go_simp;try with_reducible rfl)
 try go_frame
 refine' j_t 4 [5] rfl (by kernel_rfl) rfl ?y4a ?r4a
 case y4a=>(intro w' hw';have h0:=(HC.out _ hw').1;go_simp;try with_reducible rfl)
 try go_frame
 refine' j_l 5 (by kernel_rfl) rfl (by kernel_rfl) (fun K hK=>?s5a)
 go_simp
 refine (Calls.mono (HDO.out) ?_);rintro e u1a ⟨rfl,hnm,hsm⟩
 have HNM:=hide hnm;have HSM:=hide hsm
 clear hnm hsm
 refine hK.out _ _ ?_
 clear hK K
 try go_frame
 refine wpAnyJ_done (by kernel_rfl) ?_ _
 refine NoPanic.normal ?_
 clear HC HDO
 have hsm:Sets (fun g=>g=h.bn) wt u1a:=⟨HSM.out.os,HSM.out.tape,HSM.out.output,HSM.out.size,HSM.out.block⟩
 have hpm:p < u1a.heap.size:=Nat.lt_of_lt_of_le hp1 hsm.size
 have HBXm:Hid (u1a.heap[p]? = some (.cells (dkL R h).toArray 70 (0,0))):=hide ((hsm.block p hp1 (fun e=>not_map HHt.out.box HHt.out.names e.symm)).trans HHt.out.box)
 have HZm:Hid (u1a.heap[gt]? = some (.cells #[.int .i64 2,.int .i64 0,.string a,.string b] 177 (0,0))):=hide ((hsm.block gt hlt (fun e=>not_map HZT.out HHt.out.names e.symm)).trans HZT.out)
 have HT9:Hid (OwnL Tn.cells 4 177 base u1a (.slice At h.T.length ct) h.T):=hide (by rw [← HVT.out];exact HHt.out.turns.sets hsm (fun g hg e=>own_not_map HHt.out.turns HHt.out.names (e ▸ hg)))
 have HTL:Hid (h.T.length < 900000):=hide (by have:=HH1.out.few;have:=HL.out;omega)
 have HBL2:Hid (base≤u1a.heap.size):=hide (by have:=HHt.out.base_le;have:=hsm.size;omega)
 have HNT:Hid (h.vt.ownBlock ≠ some p):=hide (fun e=>own_ne_box HHt.out.turns HHt.out.box (by decide) e)
 have hc9:=dk_box HBXm.out
 have HC9:Hid (∀ W,Below u1a.drew.heap.size u1a.drew W→W.cell? ⟨p,4,none⟩=some (.slice At h.T.length ct)∧W.cell? ⟨gt,0,none⟩=some (.int .i64 2)∧W.cell? ⟨gt,1,none⟩=some (.int .i64 0)∧W.cell? ⟨gt,2,none⟩=some (.string a)∧W.cell? ⟨gt,3,none⟩=some (.string b)):=hide (fun W hW =>
  ⟨(hW.cell (p:=⟨p,4,none⟩) hpm).trans (hc9.2.1.2.2.2.2.trans (by rw [HVT.out])),tn_cells ((hW.block gt (Nat.lt_of_lt_of_le hlt hsm.size)).trans HZm.out)⟩)
 have HS9:=hide hsm
 clear hc9 hsm
 go_upto_region 10 with fail
 refine j_start [7,10,8,9,0] (by kernel_rfl) ?_
 refine' j_tw 0 rfl (by kernel_rfl) rfl ?y0b ?r0b
 case y0b=>(intro w' hw';go_simp;try with_reducible rfl)
 try go_frame
 refine' j_t 1 [2,3,4,7,8,9,10] rfl (by kernel_rfl) rfl ?y1b ?r1b
 case y1b=>(intro w' hw';go_simp;try with_reducible rfl)
 try go_frame
 refine' j_t 2 [3,4,7,8,9,10] rfl (by kernel_rfl) rfl ?y2b ?r2b
 case y2b=>(intro w' hw';go_simp;try with_reducible rfl)
 try go_frame
 refine' j_t 3 [4,7,8,9,10] rfl (by kernel_rfl) rfl ?y3b ?r3b
 case y3b=>(intro w' hw';go_simp;try with_reducible rfl)
 try go_frame
 refine' j_t 4 [7,8,9,10] rfl (by kernel_rfl) rfl ?y4b ?r4b
 case y4b=>(intro w' hw';have h0:=(HC9.out _ hw').1;go_simp;try with_reducible rfl)
 try go_frame
 refine' j_t 5 [6,7,8,9,10] rfl (by kernel_rfl) rfl ?y5b ?r5b
 case y5b=>(intro w' hw';obtain ⟨_,t0,t1,t2,t3⟩:=HC9.out _ hw';go_simp;try with_reducible rfl)
 try go_frame
 refine' j_s 6 (by kernel_rfl) rfl (fun K hK=>?s6b)
 go_simp
 have ha:=below_alloc (Below.refl u1a.drew.heap.size u1a.drew) (.cells #[.int .i64 2,.int .i64 0,.string a,.string b] 177)
 have HN:=hide (RowAt.new_one (cells:=Tn.cells) (sz:=4) (y:=⟨2,0,a,b⟩) (heap_alloc_new u1a.drew (.cells #[.int .i64 2,.int .i64 0,.string a,.string b] 177)))
 have HGA:=hide ha
 refine hK.out _ _ ha (j_switch ha ?_)
 clear hK K ha
 try go_frame
 refine' j_l 7 (by kernel_rfl) rfl (by kernel_rfl) (fun K hK=>?s7b)
 refine step_app_row rfl (.tmp 39) (.tmp 41) 63 177 _ 4 48 rfl Tryz.underlying63 infoTurn rfl (by omega) Tn.len Tn.one (by omega) base _ h.T rfl (HT9.out.below (below_step (Below.refl _ u1a).drew HGA.out)) (some ⟨u1a.drew.heap.size,0,none⟩) 1 1 [⟨2,0,a,b⟩] rfl rfl HN.out (by have:=HTL.out;omega) (by have:=HBL2.out;have:=HGA.out.size;simp only [World.size_drew] at *;omega) ?_
 intro v3 w3 ho3 hg3 hm3
 obtain ⟨A3,c3,rfl,_⟩:=OwnL.row Tn.len ho3
 obtain ⟨n3,hn3⟩:∃ n3,(h.T ++ [(⟨2,0,a,b⟩:Tn)]).length=n3:=⟨_,rfl⟩
 rw [hn3] at ho3 hm3 ⊢
 clear hn3
 have HO3:=hide ho3;have HG3:=hide hg3;have HM3:=hide hm3
 clear ho3 hg3 hm3
 obtain ⟨wa,hwa⟩:∃ wa,u1a.drew.alloc (.cells #[.int .i64 2,.int .i64 0,.string a,.string b] 177)=wa:=⟨_,rfl⟩
 rw [hwa] at HGA HN HG3 HM3
 clear hwa HN
 have hWA:Below u1a.heap.size u1a wa:=below_step (Below.refl _ u1a).drew HGA.out
 have hnt:(Value.slice At h.T.length ct).ownBlock ≠ some p:=(by rw [← HVT.out];exact HNT.out)
 have hb3:w3.heap[p]? = some (.cells (dkL R h).toArray 70 (0,0)):=(HG3.out.block p (Nat.lt_of_lt_of_le hpm hWA.size) (fun e=>hnt e.symm)).trans ((hWA.block p hpm).trans HBXm.out)
 obtain ⟨_,⟨e0,e1,e2,e3,e4⟩,ez⟩:=dk_box hb3
 rw [HVT.out] at e4
 have ez4:=ez 4
 have HB3:=hide hb3
 clear hb3 ez hnt
 refine hK.out _ _ ?_
 clear hK K
 try go_frame
 refine' j_l 8 (by kernel_rfl) rfl (by kernel_rfl) (fun K hK=>?s8b)
 go_simp
 refine hK.out _ _ ?_
 clear hK K
 try go_frame
 refine' j_l 9 (by kernel_rfl) rfl (by kernel_rfl) (fun K hK=>?s9b)
 go_simp
 refine hK.out _ _ ?_
 clear hK K
 try go_frame
 refine' j_l 10 (by kernel_rfl) rfl (by kernel_rfl) (fun K hK=>?s10b)
 go_simp
 refine hK.out _ _ ?_
 clear hK K
 try go_frame
 refine wpAnyJ_done (by kernel_rfl) ?_ _
 refine NoPanic.normal ?_
 go_wp2_with fail
 go_ret
 obtain ⟨vt,hvt⟩:∃ v,Value.slice A3 n3 c3=v:=⟨_,rfl⟩
 rw [hvt] at HO3 HM3 ⊢
 have hS3a:Sets (fun g=>h.vt.ownBlock=some g) wa w3:=by
  have h1:=sets_grown HG3.out
  rw [HVT.out]
  exact h1
 have hS2:Sets (TuS p h) wt (w3.setCell ⟨p,4,none⟩ vt) :=
  (((HS9.out.up (T:=TuS p h) (fun g e=>.inr (.inl e))).trans (Sets.of (S:=fun _=>False) hWA) (fun _ _ e=>e.elim)).trans hS3a (fun _ _ e=>.inr (.inr e))).set (fun _=>.inl rfl) 4 vt
 have hS2b:Sets (fun x=>x=p ∨ h.vt.ownBlock=some x) u1a (w3.setCell ⟨p,4,none⟩ vt) :=
  ((Sets.of (S:=fun x=>x=p ∨ h.vt.ownBlock=some x) hWA).trans hS3a (fun _ _ e=>.inr e)).set (fun _=>.inl rfl) 4 vt
 have hmapT:OwnL Tn.cells 4 177 base u1a h.vt h.T:=by rw [HVT.out];exact HT9.out
 have hN6:=HNM.out.sets hS2b (by
  rintro (e | e)
  ·exact not_map HBXm.out HNM.out e
  ·exact own_not_map hmapT HNM.out e)
 have hpt:vt.ownBlock ≠ some p:=fun e=>own_ne_box HO3.out HB3.out (by decide) e
 have hT6:OwnL Tn.cells 4 177 base (w3.setCell ⟨p,4,none⟩ vt) vt (h.T ++ [⟨2,0,a,b⟩]):=OwnL.setFar HO3.out hpt vt
 have hlc:=HL.out
 have hfz:=HHt.out.few
 have hC:=HHt.out.turned (t:=⟨2,0,a,b⟩) (vt:=vt) (D:=renD R.D a b i) hS2 (dk_set 4 vt HB3.out) hN6 hT6
  (fun g e=>by
   rcases HM3.out with h1 | h1
   ·left;rw [HVT.out];exact h1.symm.trans e
   ·right;rw [h1] at e;injection e with e;have:=hWA.size;have:=HS9.out.size;omega)
  (by omega) (led_ren HHt.out.led HHt.out.names.isMap HI.out a b)
 have hszt:w.heap.size≤wt.heap.size:=Nat.le_trans HS1.out.size HBT.out.size
 have hSX:Sets X w (w3.setCell ⟨p,4,none⟩ vt):=by
  have h1:=HHt.out.inX
  refine ((HS1.out.up (T:=X) (fun g e=>e ▸ h1.1)).trans (Sets.of (S:=fun _=>False) HBT.out) (fun _ _ e=>e.elim)).trans hS2 (fun g _ e=>?_)
  rcases e with e | e | e
  ·exact e ▸ h1.1
  ·exact e ▸ h1.2.1
  ·exact h1.2.2.2.2.1 g e
 exact ⟨rfl,⟨_,hC.wide (Xw.more hszt) (HBD.out _ hSX.size)⟩,hSX⟩
end Go.Proofs.YtgmkckjedngkdaaGreatDoor
