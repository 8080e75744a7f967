/- A part of the proof that TopMajorityLaw holds: XZSaq. Conditions: as typed. -/
import Derived.Test.YtgmkckjedngkdaaGreatDoorTm22
set_option linter.unusedVariables false
set_option linter.unusedSimpArgs false
namespace Go.Proofs.YtgmkckjedngkdaaGreatDoor
open Go.ChangeShapes Go.WideShapes Go.ChangeAt Go.RowKit
def AplTo (R:Sr) (L:List It) (M:Nat) (ee:Int) (R':Sr):Prop :=
 R'.d=R.d∧((ee ≠ 0∧R'.S=R.S∧R'.v=R.v∧R'.cnt=R.cnt∧R'.mf=R.mf∧R'.K=R.K∧(1500 < (joinL R.S L).length ∨ (∀ zl ∈ R.K.Z.head?,250000 < zl.L.length+(batchT L).length) ∨ R.K.q < ((3 * M+(batchT L).length:Nat):Int))) ∨
 (ee=0∧R'.S=joinL R.S L∧R'.v=R.v∧R'.cnt=R.cnt∧R'.mf=R.mf+L.length∧R'.K.q=R.K.q∧∃ l0 rest,R.K.Z.map Fz.L=l0 :: rest∧R'.K.Z.map Fz.L=(l0 ++ batchT L) :: rest))
set_option maxRecDepth 100000 in
set_option maxHeartbeats 3200000 in
theorem sapply_any {w:World} {base s:Nat} {X:Nat→Prop} {R:Sr} (H:StoreO w base s X R) (A:Option Addr) (c:Nat) (L:List It) (hL:ItemsAt w A L) (hcc:L.length≤c∧c≤maxLen) (hA:∀ a,A=some a→L ≠ []→¬ X a.block) (h0:1≤L.length) (hl:L.length≤1000) (hW:∀ x ∈ L,x.wf) (hg:L.all goodB=true)
 (M:Nat) (hM:∀ z ∈ R.K.Z,z.L.length≤M) (hM2:M≤250000) (hmf:R.mf+L.length≤1000000000) :
 Calls Tryz.prog 82 #[ptv s,.slice A L.length c] w fun e w'=>∃ ee R',e=.returned (.int .i64 ee)∧AplTo R L M ee R'∧StoreO w' base s (Xw X w w') R'∧Sets X w w':=by
 obtain ⟨h,H⟩:=H
 obtain ⟨hsl,⟨_,c1,c2,c3,_,c5,_,c10⟩,_⟩:=H.facts
 obtain ⟨A0,cc0,hv0,hr0,_⟩:=H.st
 rw [hv0] at c5
 have hbl:base≤w.heap.size:=by have:=H.bd s H.inX.1;omega
 have hal:=iall_any A c L w (by omega) hL
 rw [hg] at hal
 have HAL:=hide hal
 have p1:¬ (L.length:Int)=0:=by omega
 have p2:((L.length:Int) == 0)=false:=by rw [beq_eq_false_iff_ne];exact p1
 have p3:¬ L.length=0:=by omega
 have p4:¬ 1000 < (L.length:Int):=by omega
 have HH:=hide H
 have HV0:=hide hv0
 have HLA:=hide (And.intro hL hA)
 have HWG:=hide (And.intro hW hg)
 have HM:=hide (And.intro hM hM2)
 have HLL:=hide (And.intro h0 hl)
 have HCC:=hide hcc
 have HMF:=hide hmf
 have HBL:=hide hbl
 clear H hal hL hA hW hg hM hM2 h0 hmf hv0 hbl hcc
 go_enter Tryz.func82,Tryz.ntmps82
 go_wp2_with ((with_reducible refine (HAL.out).mono ?_);rintro e w1 ⟨rfl,hg1⟩;obtain ⟨bc1,_⟩:=bcell hg1;have d5:=(bc1 s 5 hsl).trans c5;have d2:=(bc1 s 2 hsl).trans c2;have d3:=(bc1 s 3 hsl).trans c3;have HG1:=hide hg1;clear hg1 bc1)
 have hstl:Sl w1 (.slice A0 R.S.length cc0) R.S:=by have:=Sl.below HH.out.st HG1.out;rwa [HV0.out] at this
 have hitl:ItemsAt w1 A L:=HLA.out.1.below HG1.out
 have hcl:L.length≤c∧c≤maxLen:=HCC.out
 refine (Calls.mono (pjoin_sl hstl ⟨A,c,rfl,hitl,hcl.1,hcl.2⟩ (by have:=HH.out.few;omega) (by omega)) ?_);rintro e w2 ⟨v2,rfl,ho2,hg2⟩
 have HG2:=hide (below_step HG1.out hg2)
 have HS12:=hide hg2.size
 have hx2:=ho2.lt
 have HX2:Hid (∀ x,v2.ownBlock=some x→w1.heap.size≤x∧x < w2.heap.size):=hide hx2
 obtain ⟨A2,cc2,rfl,hr2,hc2⟩:=ho2.sl
 have HR2:=hide (show Sl w2 (.slice A2 (joinL R.S L).length cc2) (joinL R.S L) from ⟨A2,cc2,rfl,hr2,hc2⟩)
 obtain ⟨bc2,_⟩:=bcell hg2
 have hs1:s < w1.heap.size:=Nat.lt_of_lt_of_le hsl HG1.out.size
 have f2:=(bc2 s 2 hs1).trans d2
 have f3:=(bc2 s 3 hs1).trans d3
 have H2:=HH.out.sets (Sets.of (S:=fun _=>False) HG2.out) (fun _ _=>id)
 have HH2:=hide H2
 have HS2:Hid (Sets X w w2):=hide (Sets.of HG2.out)
 obtain ⟨JL,hJL⟩:∃ JL,joinL R.S L=JL:=⟨_,rfl⟩
 have HJL:=hide hJL
 rw [hJL] at HR2 HX2 ⊢
 clear hstl hitl hcl hg2 hx2 ho2 hr2 hc2 bc2 d5 d2 d3 c1 c2 c3 c5 c10 hJL HAL hr0
 by_cases hlong:1500 < JL.length
 ·have hlI:(1500:Int) < JL.length:=by omega
  have HFIN:Hid (AplTo R L M 2 R∧StoreO w2 base s (Xw X w w2) R∧Sets X w w2):=hide ⟨⟨rfl,.inl ⟨by decide,rfl,rfl,rfl,rfl,rfl,.inl (by rw [HJL.out];exact hlong)⟩⟩,⟨_,H2.wide (fun g e=>.inl e) (Xw.bd HH.out.bd HBL.out HG2.out.size)⟩,HS2.out⟩
  clear H2 hlong
  go_wp2_with fail
  go_ret
  exact ⟨2,R,rfl,HFIN.out.1,HFIN.out.2.1,HFIN.out.2.2⟩
 ·have hlI:¬ (1500:Int) < JL.length:=by omega
  obtain ⟨hD,hd,hst,hcm,zl,zm,zc,hZ⟩:=H2.files
  have hput:=lput_any (nm:=log1) H2.disk H2.log (fun e=>(H2.apd _ e).2.1 rfl) ok_log1 (i:=0) (by rw [hD];exact hit_log) (hits hZ) A c L HLL.out.1 HLL.out.2 (HLA.out.1.below HG2.out) HWG.out.1 HWG.out.2 M HM.out.1 (by rw [hD,size_d4];have:=HM.out.2;omega)
  have HPUT:=hide hput
  have HF:=hide (And.intro hD (And.intro hd (And.intro hst (And.intro hcm hZ))))
  have HLONG:=hide hlong
  clear H2 hput hD hd hst hcm hZ hlong
  go_wp2_with fail
  refine (Calls.mono HPUT.out ?_);rintro e w3 ⟨ee,K1,rfl,hto,hdo,hlog,hS3⟩
  have HDO:=hide hdo
  have HLOG:=hide hlog
  have HS3:=hide hS3
  have HTO:=hide hto
  have hS3w:Sets X w w3:=HS2.out.trans (hS3.up (T:=X) (fun g e=>by
   rcases e with e | e
   ·exact HH.out.inX.2.2.2.1 g e
   ·rw [e];exact HH.out.inX.2.1)) (fun _ _ e=>e)
  have HS3w:=hide hS3w
  clear hdo hlog hS3 hto HPUT hS3w
  by_cases hee:ee=0
  ·subst hee
   have hf:=HF.out
   obtain ⟨v9,hK1⟩:∃ v9,K1={ R.K with Z:=[{ zl with v:=v9,L:=zl.L ++ batchT L },zm,zc] }:=by
    rcases HTO.out with ⟨hne,_⟩ | ⟨_,_,_,v9,hk⟩
    ·exact absurd rfl hne
    ·refine ⟨v9,?_⟩
     rw [hk,callD_alive hf.2.1 hf.2.2.1,hf.2.2.2.2]
     rfl
   have H3:=HH2.out.disked HS3.out HLOG.out HDO.out (by rw [hK1];exact ⟨hf.1,hf.2.1,hf.2.2.1,hf.2.2.2.1,_,_,_,rfl⟩)
   have H3w:=H3.wide (Y:=Xw X w w3) (fun g e=>by
    rcases e with e | e
    ·exact .inl e
    ·exact .inr ⟨Nat.le_trans HG2.out.size e.1,e.2⟩) (Xw.bd HH.out.bd HBL.out HS3w.out.size)
   obtain ⟨hs3,⟨_,_,_,g3,_,g5,_,_⟩,_⟩:=H3.facts
   have hAX:∀ a,A=some a→L ≠ []→¬ (h.Xd a.block ∨ a.block=h.g):=fun a ha hn e=>HLA.out.2 a ha hn (by
    rcases e with e | e
    ·exact HH.out.inX.2.2.2.1 _ e
    ·rw [e];exact HH.out.inX.2.1)
   have hit3:ItemsAt w3 A L:=(HLA.out.1.below HG2.out).sets HS3.out hAX
   have hmlt:=HH.out.mem.lt
   have HAP:=hide (apply_any h.b h.pm h.F false h.nm A c L w3 H3.mem hit3 HWG.out.1 (by have:=HH.out.few;have:=HMF.out;have:=HLL.out;omega) (fun a ha hn e=>HLA.out.2 a ha hn (HH.out.inX.2.2.2.2.1 _ e)))
   have HR3:Hid (Sl w3 (.slice A2 JL.length cc2) JL):=hide (by
    obtain ⟨A9,c9,e,hr,h1,h2⟩:=HR2.out
    refine ⟨A9,c9,e,fun hne=>?_,h1,h2⟩
    obtain ⟨b,off,rfl,hlt,hc⟩:=hr hne
    have hob:=HX2.out b (by rw [e];rfl)
    have hnb:¬ (h.Xd b ∨ b=h.g):=fun e2=>by
     have h5:b < w.heap.size:=by
      rcases e2 with e2 | e2
      ·exact (HH.out.disk.bd b e2).2
      ·rw [e2];exact (HH.out.bd _ HH.out.inX.2.1).2
     have:=HG1.out.size
     omega
    exact ⟨b,off,rfl,Nat.lt_of_lt_of_le hlt HS3.out.size,fun j hj i u hu=>(World.cell?_of_block (HS3.out.block b hlt hnb)).trans (hc j hj i u hu)⟩)
   have HH3:=hide H3
   have HH3w:=hide H3w
   have HK1:=hide hK1
   have HMLT:=hide hmlt
   clear H3 H3w hAX hit3 hmlt hK1 hf HTO HDO HLOG
   go_wp2_with fail
   refine (Calls.mono HAP.out ?_);rintro e w4 ⟨F',n',rfl,hA4⟩
   have HA4:=hide hA4
   have hsm:¬ MBlk h.b h.pm h.F s:=fun e=>(HH.out.apm s e).1 rfl
   have hb4:=(hA4.sets.block s hs3 hsm).trans HH3.out.box
   have HSB:=hide (set_box hb4 (A0:=A0) (n0:=R.S.length) (cc0:=cc0) HV0.out A2 JL.length cc2)
   clear hA4 hb4 hsm HAP
   go_wp2_with fail
   refine (Calls.mono HSB.out ?_);rintro e w5 ⟨rfl,hb5,hS5⟩
   have HB5:=hide hb5
   have HS5:=hide hS5
   clear hb5 hS5 HSB
   go_wp2_with fail
   go_ret
   have hs34:=HA4.out.sets.size
   have hs45:=HS5.out.size
   have hs03:=HS3w.out.size
   have hs12:=HS12.out
   have hs01:=HG1.out.size
   have hs23:=HS3.out.size
   have hR4:Sl w4 (.slice A2 JL.length cc2) JL:=by
    obtain ⟨A9,c9,e,hr,h1,h2⟩:=HR3.out
    refine ⟨A9,c9,e,fun hne=>?_,h1,h2⟩
    obtain ⟨b,off,rfl,hlt,hc⟩:=hr hne
    have hob:=HX2.out b (by rw [e];rfl)
    have hnb:¬ MBlk h.b h.pm h.F b:=fun e2=>by have:=HMLT.out b e2;omega
    exact ⟨b,off,rfl,Nat.lt_of_lt_of_le hlt hs34,fun j hj i u hu=>(World.cell?_of_block (HA4.out.sets.block b hlt hnb)).trans (hc j hj i u hu)⟩
   have hfin:=HH3w.out.moved (F:=F') (nm:=n') (A:=A2) (n:=JL.length) (c:=cc2) (S2:=JL) (mf:=R.mf+L.length) HA4.out.sets HA4.out.at_ (fun x e=>by
    rcases e with e | e
    ·exact .inl (.inl e)
    ·rcases HA4.out.own x e with e | e
     ·exact .inl (.inr e)
     ·exact .inr e) HS5.out HB5.out hR4 (fun x e=>by
    have hx:=HX2.out x e
    have hxg:=(HH.out.bd _ HH.out.inX.2.1).2
    have hxm:=(HH.out.bd _ HH.out.inX.2.2.1).2
    have hxs:=(HH.out.bd _ HH.out.inX.1).2
    refine ⟨.inr ⟨by omega,by omega⟩,by omega,by show x ≠ h.g;omega,by show x ≠ h.m;omega,fun e2=>?_,fun e2=>?_,by omega⟩
    ·rcases e2 with e2 | e2
     ·have:=(HH.out.disk.bd x e2).2;omega
     ·omega
    ·have:=HMLT.out x e2;omega) (by have:=HLONG.out;omega) (by have h1:F'.length≤h.F.length+L.length:=HA4.out.len;have:=HH.out.few;omega)
   have hS45:Sets X w w5:=(HS3w.out.trans (HA4.out.sets.up (T:=X) (fun x e=>HH.out.inX.2.2.2.2.1 x e)) (fun _ _ e=>e)).trans (HS5.out.up (T:=X) (fun x e=>by rw [e];exact HH.out.inX.1)) (fun _ _ e=>e)
   have hf:=HF.out
   have h34:w3.heap.size≤w5.heap.size:=Nat.le_trans hs34 hs45
   have hfw:StoreO w5 base s (Xw X w w5) { R with K:=K1,S:=JL,mf:=R.mf+L.length }:=⟨_,hfin.wide (xw_two hs03 h34) (Xw.bd HH.out.bd HBL.out hS45.size)⟩
   refine ⟨0,{ R with K:=K1,S:=JL,mf:=R.mf+L.length },rfl,⟨rfl,.inr ⟨rfl,?_,rfl,rfl,rfl,?_,zl.L,[zm.L,zc.L],?_,?_⟩⟩,hfw,hS45⟩
   ·exact HJL.out.symm
   ·show K1.q=R.K.q
    rw [HK1.out]
   ·rw [hf.2.2.2.2];rfl
   ·show K1.Z.map Fz.L=_
    rw [HK1.out]
    rfl
  ·have heb:(ee == 0)=false:=by rw [beq_eq_false_iff_ne];exact hee
   have HFIN:Hid (∃ R',AplTo R L M ee R'∧StoreO w3 base s (Xw X w w3) R'∧Sets X w w3):=hide (by
    have hf:=HF.out
    rcases HTO.out with ⟨hne,hk,hbad⟩ | ⟨h0,_⟩
    ·rw [callD_alive hf.2.1 hf.2.2.1] at hk
     have hst3:=HH2.out.disked HS3.out HLOG.out HDO.out (by rw [hk];exact ⟨hf.1,hf.2.1,hf.2.2.1,hf.2.2.2.1,_,_,_,hf.2.2.2.2⟩)
     rw [hk] at hst3
     refine ⟨R,⟨rfl,.inl ⟨hne,rfl,rfl,rfl,rfl,rfl,?_⟩⟩,⟨_,hst3.wide (fun g e=>by
      rcases e with e | e
      ·exact .inl e
      ·exact .inr ⟨Nat.le_trans HG2.out.size e.1,e.2⟩) (Xw.bd HH.out.bd HBL.out HS3w.out.size)⟩,HS3w.out⟩
     rcases hbad with h1 | h1 | h1
     ·rw [hf.2.1] at h1;cases h1
     ·exact .inr (.inl (fun z hz=>by rw [hf.2.2.2.2] at hz;simp at hz;rw [← hz];exact h1))
     ·rw [hf.1,size_d4] at h1;exact .inr (.inr h1)
    ·exact absurd h0 hee)
   clear HTO HDO HLOG HS3 HS3w HF
   have HEE:=hide hee
   go_wp2_with fail
   go_ret
   obtain ⟨R',h1,h2,h3⟩:=HFIN.out
   exact ⟨ee,R',rfl,h1,h2,h3⟩
end Go.Proofs.YtgmkckjedngkdaaGreatDoor
