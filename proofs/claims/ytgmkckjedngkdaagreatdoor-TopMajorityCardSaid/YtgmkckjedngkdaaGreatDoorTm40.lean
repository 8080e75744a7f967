/- A part of the proof that TopMajorityLaw holds: XZCam, XZAwk. Conditions: as typed. -/
import Derived.Test.YtgmkckjedngkdaaGreatDoorTm15
import Derived.Test.YtgmkckjedngkdaaGreatDoorTm39
set_option linter.unusedVariables false
set_option linter.unusedSimpArgs false
namespace Go.Proofs.YtgmkckjedngkdaaGreatDoor
open Go.ChangeShapes Go.WideShapes Go.ChangeAt Go.RowKit
theorem busy1_in:Enters Tryz.prog 115:=fun _ _=>by kernel_rfl
section
variable {w:World} {base:Bs} {c i p:Nat} {col:Nat→Nat} {a:Cl} {P:Pl}
theorem busy1_none (H:PlV w base col i p P) (hj:P.job=none):Calls Tryz.prog 115 #[ptv p] w fun e w'=>e=.returned (.bool false)∧Below w.heap.size w w':=by
 obtain ⟨k0,k1,k2,k3⟩:=H.cells
 obtain ⟨A,cj,hvj,_⟩:=OwnL.row (cells:=one1 (fun v:Value=>v)) (sz:=1) (fun _=>rfl) H.jobs
 rw [hj] at hvj
 rw [show (jobVs none).length=0 from rfl] at hvj
 rw [hvj] at k3
 clear H hj hvj
 go_enter Tryz.func115,Tryz.ntmps115
 go_wp2
 go_ret
 exact ⟨rfl,Below.refl _ _⟩
theorem busy1_down (H:PlD w col i p P):Calls Tryz.prog 115 #[ptv p] w fun e w'=>e=.returned (.bool false)∧Below w.heap.size w w':=by
 obtain ⟨k0,k1,k2,k3⟩:=four_cells H.box
 clear H
 go_enter Tryz.func115,Tryz.ntmps115
 go_wp2
 go_ret
 exact ⟨rfl,Below.refl _ _⟩
set_option maxHeartbeats 800000 in
theorem cbusy_none (H:CluV w base c col a) (hj:∀ P ∈ a.P,P.job=none) (hl7:a.ps.length≤7):Calls Tryz.prog 53 #[ptv c] w fun e w'=>e=.returned (.bool false)∧Below w.heap.size w w':=by
 obtain ⟨A,cp,hvp,hr,_⟩:=H.row
 have c0:=H.cells.2.1
 rw [hvp] at c0
 have hc:=containsG_ptv 115 #[] busy1_in (fun _=>false) A cp a.ps w (by omega) hr (fun x hx w1 hw1=>by
  obtain ⟨j,hj1,rfl⟩:=List.getElem_of_mem hx
  have hjP:j < a.P.length:=by rw [H.len];exact hj1
  cases hu:(a.P[j]'hjP).up with
  | true=>exact busy1_none ((H.below hw1).pl j _ (a.P[j]'hjP) (List.getElem?_eq_getElem hj1) (List.getElem?_eq_getElem hjP) hu) (hj _ (List.getElem_mem hjP))
  | false=>exact busy1_down ((H.below hw1).pd j _ (a.P[j]'hjP) (List.getElem?_eq_getElem hj1) (List.getElem?_eq_getElem hjP) hu))
 rw [show (a.ps.any fun _=>false)=false by simp] at hc
 have HC:=hide hc
 clear hc H hj hr hvp
 go_enter Tryz.func53,Tryz.ntmps53
 go_wp2_with ((with_reducible refine (HC.out).mono ?_);rintro e w1 ⟨rfl,hg1⟩)
 go_ret
 exact ⟨rfl,hg1⟩
end
set_option maxHeartbeats 1600000 in
theorem calm_any {w:World} {base:Bs} {c:Nat} {col:Nat→Nat} {a:Cl} (H:CluV w base c col a) (I:Nat→Cl→Prop) (h0:I 0 a) (N most:Nat) (hN:N < most) (hm:most≤1000000)
 (hstep:∀ (k:Nat) (a:Cl) (w:World) (col:Nat→Nat),k < N→I k a→CluV w base c col a→Calls Tryz.prog 52 #[ptv c,.int .i64 0] w fun e w'=>e=.returned (.bool true)∧∃ col' a',CluV w' base c col' a'∧I (k+1) a'∧Bek base w w')
 (hlen:∀ k a,k < N→I k a→0 < a.C.length) (hend:∀ a,I N a→a.C=[]∧(∀ P ∈ a.P,P.job=none)∧a.ps.length≤7) :
 Calls Tryz.prog 20 #[ptv c,.int .i64 most] w fun e w'=>e=.returned (.bool true)∧∃ col' a',CluV w' base c col' a'∧I N a'∧Bek base w w':=by
 have f0:¬ (most:Int) < 0:=by omega
 have f1:(0:Int) < (most:Int):=by omega
 have f2:¬ (most:Int) < 0:=by omega
 have HST:=hide hstep
 have HLN:=hide hlen
 have HEN:=hide hend
 have HH:=hide H
 have HI0:=hide h0
 have HN:=hide hN
 clear H h0 hstep hlen hend hN
 go_enter Tryz.func20,Tryz.ntmps20
 go_wp2_with fail
 go_loopw [8] (fun i wr=>∃ (k:Nat) (col:Nat→Nat) (a:Cl),k≤N∧i=.int .i64 k∧CluV wr base c col a∧I k a∧Bek base w wr) (fun i _=>most - (intOf i).toNat)
 case atStart=>exact ⟨0,col,a,by omega,rfl,HH.out,HI0.out,Bek.refl _ _⟩
 case round =>
  obtain ⟨k,col1,a1,hk,rfl,h1,h2,h3⟩:=hrel
  have HM:=hide hm
  have HK1:=hide h1
  have HI1:=hide h2
  have HB1:=hide h3
  clear h1 h2 h3
  have hkm:(k:Int) < (most:Int):=by have:=HN.out;omega
  have hkk:=HK1.out.cells
  have HCS:=hide hkk
  have c2:=hkk.2.2.2.1
  have HNL:=hide (nlen_any HK1.out.net.w)
  by_cases hlt:k < N
  ·have hl:=HLN.out k a1 hlt HI1.out
   obtain ⟨ln,hln⟩:∃ ln,a1.C.length=ln:=⟨_,rfl⟩
   rw [hln] at HNL
   have hl0:(0:Int) < (ln:Int):=by omega
   have HDL:=hide (HST.out k a1 wr col1 hlt HI1.out HK1.out)
   clear hl hln
   have HLT:=hide hlt
   clear hlt hkk
   go_wp2_with (first
    | ((with_reducible refine (HNL.out).mono ?_);rintro e w2 ⟨rfl,rfl⟩)
    | ((with_reducible refine (HDL.out).mono ?_);rintro e w3 ⟨rfl,col2,a2,g1,g2,g3⟩;have G1:=hide g1;have G2:=hide g2;have G3:=hide g3;clear g1 g2 g3))
   have hlt:=HLT.out
   exact ⟨⟨k+1,col2,a2,by omega,by simp,G1.out,G2.out,HB1.out.trans G3.out⟩,by simp only [intOf];omega⟩
  ·obtain rfl:k=N:=by omega
   obtain ⟨e1,e2,e3⟩:=HEN.out a1 HI1.out
   rw [e1] at HNL
   rw [show (([]:List Mg).length:Int)=0 from rfl] at HNL
   have HBS:=hide (cbusy_none HK1.out e2 e3)
   clear e1 e2 e3 hkk
   go_wp2_with (first
    | ((with_reducible refine (HNL.out).mono ?_);rintro e w2 ⟨rfl,rfl⟩)
    | ((with_reducible refine (HBS.out).mono ?_);rintro e w3 ⟨rfl,g1⟩;have G1:=hide g1;clear g1))
   go_ret
   exact ⟨rfl,col1,a1,HK1.out.below G1.out,HI1.out,HB1.out.trans (HK1.out.bek G1.out)⟩
end Go.Proofs.YtgmkckjedngkdaaGreatDoor
namespace Go.Proofs.YtgmkckjedngkdaaGreatDoor
open Go.ChangeShapes Go.WideShapes Go.ChangeAt Go.RowKit
theorem HanP.imp {w w':World} {base n:Nat} {X:Nat→Prop} {N:Nr} {T T':List Mg→Sr→Prop} {e:Ending} (h:HanP w base n X N T e w') (ht:∀ r R,T r R→T' r R):HanP w base n X N T' e w':=by
 obtain ⟨v,Nn,R',X',hb,h1,h2,h3⟩:=h
 exact ⟨v,Nn,R',X',hb,h1,ht _ _ h2,h3⟩
structure NdR (R:Sr) (L:List It):Prop where
 S:R.S=L
 fl:R.v.fl=0
 ce:R.v.ce=0
 q:R.K.q=1048576
 z:∀ z ∈ R.K.Z,z.L.length≤1000+1000 * L.length
 mf:R.mf≤1+L.length
structure AwI (a:Cl) (C:List Mg) (S:Nat→List It) (j:Nat→Option Co) (AL:List (List It)):Prop where
 ps:a.ps.length=3
 pl:a.P.length=3
 C:a.C=C
 nd:∀ (i:Nat) (P:Pl),a.P[i]? = some P→P.up=true∧P.N.id=(i:Int)∧NdR P.N.R (S i)
 job:∀ (i:Nat) (P:Pl),a.P[i]? = some P→P.job.map Prod.snd=j i
 al:a.AL.map Prod.snd=AL
 se:0≤a.se∧a.se≤1000
theorem AwI.to {a:Cl} {C:List Mg} {S S':Nat→List It} {j j':Nat→Option Co} {AL AL':List (List It)} (I:AwI a C S j AL) (hS:∀ q,q < 3→S q=S' q) (hj:∀ q,q < 3→j q=j' q) (hA:AL=AL'):AwI a C S' j' AL':=by
 have hlt:∀ (i:Nat) (P:Pl),a.P[i]? = some P→i < 3:=fun i P h=>by
  rw [← I.pl]
  exact (List.getElem?_eq_some_iff.1 h).1
 subst hA
 exact ⟨I.ps,I.pl,I.C,fun i P h=>by rw [← hS i (hlt i P h)];exact I.nd i P h,fun i P h=>by rw [← hj i (hlt i P h)];exact I.job i P h,I.al,I.se⟩
def upN {α:Type} (f:Nat→α) (i:Nat) (x:α) (k:Nat):α:=if k=i then x else f k
noncomputable def jobS (j:Option Co) (m:Mg):Option Co:=match j with
 | none=>none
 | some R=>if (conR R m).dn=true then none else some (conR R m)
noncomputable def alS (j:Option Co) (m:Mg) (AL:List (List It)):List (List It):=match j with
 | none=>AL
 | some R=>if (conR R m).dn=true then AL ++ [(conR R m).AL] else AL
set_option maxHeartbeats 800000 in
theorem aw_step {w:World} {base:Bs} {c:Nat} {col:Nat→Nat} {a:Cl} {m0:Mg} {rest:List Mg} {S:Nat→List It} {j:Nat→Option Co} {AL:List (List It)} (H:CluV w base c col a) (I:AwI a (m0 :: rest) S j AL) (i:Nat) (hi:i < 3) (ht:m0.t=i) (rep:List Mg) (L':List It)
 (hH:∀ (W:World) (k:Nat→Nat) (x:Mg) (n:Nat) (N:Nr),x.bare=m0→x.rd W→(∀ ad,x.A=some ad→x.L ≠ []→k ad.block=0)→NodeO W base n (fun g=>k g=11+5 * i) N→N.id=(i:Int)→NdR N.R (S i)→Calls Tryz.prog 9 #[ptv n,x.val] W (HanP W base n (fun g=>k g=11+5 * i) N (fun r R'=>r=rep∧NdR R' L')))
 (hrep:(∀ r ∈ rep,mokB r=true)∧rep.length≤1) (hrl:rest.length≤200) (hse:a.se≤900) (hwf:∀ x ∈ m0.L,x.wf) (hn0:0≤m0.n) (hj:∀ R,j i=some R→CoK R∧SmallC R∧(conR R m0).AL.length≤1099511627776) (hal:AL.length≤100) :
 Calls Tryz.prog 52 #[ptv c,.int .i64 0] w fun e w'=>e=.returned (.bool true)∧∃ col' a',CluV w' base c col' a'∧(AwI a' (rest ++ rep) (upN S i L') (upN j i (jobS (j i) m0)) (alS (j i) m0 AL)∧a'.se≤a.se+1∧a'.ids=a.ids)∧Bek base w w':=by
 have hi3:i < a.ps.length:=by rw [I.ps];exact hi
 have hiP:i < a.P.length:=by rw [H.len];exact hi3
 obtain ⟨p,hp⟩:∃ p,a.ps[i]? = some p:=⟨_,List.getElem?_eq_getElem hi3⟩
 obtain ⟨P,hP⟩:∃ P,a.P[i]? = some P:=⟨_,List.getElem?_eq_getElem hiP⟩
 obtain ⟨hu,hid,hnd⟩:=I.nd i P hP
 have hjb:=I.job i P hP
 have hall:a.AL.length=AL.length:=by rw [← I.al,List.length_map]
 refine (cdel_any H hp hP hu I.C ht (fun r R'=>r=rep∧NdR R' L') (fun W k x h1 h2 h3 h4=>hH W k x P.n P.N h1 h2 h3 h4 hid hnd) (fun r R' h=>by rw [h.1];exact hrep) (by rw [I.C,List.length_cons];omega) hwf hn0 (fun x hx=>?_) (by omega) ⟨I.se.1,by omega⟩).mono ?_
 ·exact hj x.2 (by rw [← hjb,hx];rfl)
 ·rintro e w' ⟨rfl,r,R',⟨rfl,hR⟩,col',rb',va',vj',AL',h1,h2,h3⟩
  refine ⟨rfl,col',_,h1,⟨⟨I.ps,by show (a.P.set _ _).length=3;rw [List.length_set];exact I.pl,rfl,fun k Q hQ=>?_,fun k Q hQ=>?_,?_,?_⟩,?_⟩,h3⟩
  ·have hQ':(a.P.set i { P with N:={ P.N with R:=R' },now:=seeM P.now m0,vj:=vj',job:=endO m0 P.job })[k]? = some Q:=hQ
   rw [List.getElem?_set] at hQ'
   unfold upN
   by_cases hk:i=k
   ·rw [if_pos hk,if_pos hiP] at hQ'
    rw [if_pos hk.symm]
    cases hQ'
    exact ⟨hu,by rw [← hk];exact hid,hR⟩
   ·rw [if_neg hk] at hQ'
    rw [if_neg (fun e=>hk e.symm)]
    exact I.nd k Q hQ'
  ·have hQ':(a.P.set i { P with N:={ P.N with R:=R' },now:=seeM P.now m0,vj:=vj',job:=endO m0 P.job })[k]? = some Q:=hQ
   rw [List.getElem?_set] at hQ'
   unfold upN
   by_cases hk:i=k
   ·rw [if_pos hk,if_pos hiP] at hQ'
    rw [if_pos hk.symm]
    cases hQ'
    show (endO m0 P.job).map Prod.snd=_
    rw [← hjb]
    cases hjj:P.job with
    | none=>rfl
    | some x =>
     show (endJ x.1 (conR x.2 m0)).map Prod.snd=(if (conR x.2 m0).dn=true then none else some (conR x.2 m0))
     unfold endJ
     split <;> rfl
   ·rw [if_neg hk] at hQ'
    rw [if_neg (fun e=>hk e.symm)]
    exact I.job k Q hQ'
  ·show AL'.map Prod.snd=_
   rw [← hjb]
   unfold AddO at h2
   cases hjj:P.job with
   | none=>rw [hjj] at h2;rw [h2];exact I.al
   | some x =>
    rw [hjj] at h2
    show _=(if (conR x.2 m0).dn=true then AL ++ [(conR x.2 m0).AL] else AL)
    rcases h2 with ⟨hd,e⟩ | ⟨hd,la,lc,e⟩
    ·rw [hd,e,if_neg (by decide)];exact I.al
    ·rw [hd,e,if_pos rfl,List.map_append,I.al];rfl
  ·have:=I.se
   show 0≤a.se+(r.length:Int)∧a.se+(r.length:Int)≤1000
   have:=hrep.2
   omega
  ·refine ⟨?_,rfl⟩
   show a.se+(r.length:Int)≤a.se+1
   have:=hrep.2
   omega
end Go.Proofs.YtgmkckjedngkdaaGreatDoor
