/- A part of the proof that TopMajorityLaw holds: XZCag, XZClt. Conditions: as typed. -/
import Derived.Test.YtgmkckjedngkdaaGreatDoorTm30
import Derived.Test.YtgmkckjedngkdaaGreatDoorTm40
import Derived.Test.YtgmkckjedngkdaaGreatDoorTm41
import Derived.Test.YtgmkckjedngkdaaGreatDoorTm43
set_option linter.unusedVariables false
set_option linter.unusedSimpArgs false
namespace Go.Proofs.YtgmkckjedngkdaaGreatDoor
open Go.ChangeShapes Go.WideShapes Go.ChangeAt Go.RowKit
section
variable {w:World} {base:Bs} {c i p:Nat} {col:Nat→Nat} {a:Cl} {P:Pl}
theorem busy1_some {x:Nat × Co} (H:PlV w base col i p P) (hj:P.job=some x):Calls Tryz.prog 115 #[ptv p] w fun e w'=>e=.returned (.bool true)∧Below w.heap.size w w':=by
 obtain ⟨k0,k1,k2,k3⟩:=H.cells
 obtain ⟨A,cj,hvj,_⟩:=OwnL.row (cells:=one1 (fun v:Value=>v)) (sz:=1) (fun _=>rfl) H.jobs
 rw [hj] at hvj
 rw [show (jobVs (some x)).length=1 from rfl] at hvj
 rw [hvj] at k3
 clear H hj hvj
 go_enter Tryz.func115,Tryz.ntmps115
 go_wp2
 go_ret
 exact ⟨rfl,Below.refl _ _⟩
def hasJ (P:Pl):Bool:=P.up && P.job.isSome
set_option maxHeartbeats 800000 in
theorem cbusy_any (H:CluV w base c col a) (hl7:a.ps.length≤7):Calls Tryz.prog 53 #[ptv c] w fun e w'=>e=.returned (.bool (a.P.any hasJ))∧Below w.heap.size w w':=by
 obtain ⟨A,cp,hvp,hr,_⟩:=H.row
 have c0:=H.cells.2.1
 rw [hvp] at c0
 classical
 have hc:=containsG_ptv 115 #[] busy1_in (fun x=>decide (∃ (j:Nat) (P:Pl),a.ps[j]? = some x∧a.P[j]? = some P∧hasJ P=true)) A cp a.ps w (by omega) hr (fun x hx w1 hw1=>by
  obtain ⟨j,hj1,rfl⟩:=List.getElem_of_mem hx
  have hjP:j < a.P.length:=by rw [H.len];exact hj1
  have e1:a.ps[j]? = some (a.ps[j]'hj1):=List.getElem?_eq_getElem hj1
  have e2:a.P[j]? = some (a.P[j]'hjP):=List.getElem?_eq_getElem hjP
  have huniq:∀ (k:Nat) (Q:Pl),a.ps[k]? = some (a.ps[j]'hj1)→a.P[k]? = some Q→k=j:=fun k Q h1 h2=>by
   have f1:col (a.ps[j]'hj1)=10+5 * j:=by
    cases hu:(a.P[j]'hjP).up with
    | true=>exact (H.pl j _ _ e1 e2 hu).cp
    | false=>exact (H.pd j _ _ e1 e2 hu).cp
   have f2:col (a.ps[j]'hj1)=10+5 * k:=by
    cases hu:Q.up with
    | true=>exact (H.pl k _ _ h1 h2 hu).cp
    | false=>exact (H.pd k _ _ h1 h2 hu).cp
   omega
  have hdec:decide (∃ (k:Nat) (P:Pl),a.ps[k]? = some (a.ps[j]'hj1)∧a.P[k]? = some P∧hasJ P=true)=hasJ (a.P[j]'hjP):=by
   cases hh:hasJ (a.P[j]'hjP) with
   | true=>exact decide_eq_true ⟨j,_,e1,e2,hh⟩
   | false =>
    refine decide_eq_false ?_
    rintro ⟨k,Q,h1,h2,h3⟩
    obtain rfl:=huniq k Q h1 h2
    rw [e2] at h2
    cases h2
    rw [hh] at h3
    cases h3
  simp only [hdec]
  cases hu:(a.P[j]'hjP).up with
  | true =>
   cases hjb:(a.P[j]'hjP).job with
   | none =>
    have:hasJ (a.P[j]'hjP)=false:=by unfold hasJ;rw [hjb];simp
    rw [this]
    exact busy1_none ((H.below hw1).pl j _ _ e1 e2 hu) hjb
   | some x =>
    have:hasJ (a.P[j]'hjP)=true:=by unfold hasJ;rw [hjb,hu];rfl
    rw [this]
    exact busy1_some ((H.below hw1).pl j _ _ e1 e2 hu) hjb
  | false =>
   have:hasJ (a.P[j]'hjP)=false:=by unfold hasJ;rw [hu];rfl
   rw [this]
   exact busy1_down ((H.below hw1).pd j _ _ e1 e2 hu))
 have hany:(a.ps.any fun x=>decide (∃ (j:Nat) (P:Pl),a.ps[j]? = some x∧a.P[j]? = some P∧hasJ P=true))=a.P.any hasJ:=by
  cases hh:a.P.any hasJ with
  | true =>
   obtain ⟨P,hP,hJ⟩:=List.any_eq_true.1 hh
   obtain ⟨j,hj1,rfl⟩:=List.getElem_of_mem hP
   have hjs:j < a.ps.length:=by rw [← H.len];exact hj1
   exact List.any_eq_true.2 ⟨a.ps[j],List.getElem_mem hjs,decide_eq_true ⟨j,_,List.getElem?_eq_getElem hjs,List.getElem?_eq_getElem hj1,hJ⟩⟩
  | false =>
   rw [List.any_eq_false]
   intro x hx hd
   obtain ⟨j,P,h1,h2,h3⟩:=of_decide_eq_true hd
   have:=List.any_eq_false.1 hh P (List.mem_of_getElem? h2)
   exact this h3
 rw [hany] at hc
 obtain ⟨B,hB⟩:∃ B,a.P.any hasJ=B:=⟨_,rfl⟩
 rw [hB] at hc ⊢
 have HC:=hide hc
 clear hc H hr hvp hany hB
 go_enter Tryz.func53,Tryz.ntmps53
 go_wp2_with ((with_reducible refine (HC.out).mono ?_);rintro e w1 ⟨rfl,hg1⟩)
 go_ret
 exact ⟨rfl,hg1⟩
end
set_option maxRecDepth 100000 in
set_option maxHeartbeats 3200000 in
theorem calm_gen {w:World} {base:Bs} {c n:Nat} {col:Nat→Nat} {a:Cl} (H:CluV w base c col a) (I:Nat→Cl→Prop) (J:Nat→Nat→Cl→Prop) (N most:Nat) (h0:I N a) (hN:N < most) (hm:most≤1000000) (hn7:n≤7)
 (hps:∀ r a,I r a→a.ps.length=n)
 (hstep:∀ (r:Nat) (a:Cl) (w:World) (col:Nat→Nat),0 < r→I r a→0 < a.C.length→CluV w base c col a→Calls Tryz.prog 52 #[ptv c,.int .i64 0] w fun e w'=>e=.returned (.bool true)∧∃ col' a',CluV w' base c col' a'∧(∃ r',r' < r∧I r' a')∧Bek base w w')
 (hbusy:∀ r a,0 < r→I r a→a.C.length=0→a.P.any hasJ=true∧J r 0 a)
 (htick:∀ (r q:Nat) (a:Cl) (w:World) (col:Nat→Nat),q < n→J r q a→CluV w base c col a→Calls Tryz.prog 54 #[ptv c,.int .i64 q] w fun e w'=>(∃ B,e=.returned (.bool B))∧∃ col' a',CluV w' base c col' a'∧J r (q+1) a'∧Bek base w w')
 (hround:∀ r a,J r n a→∃ r',r' < r∧I r' a)
 (hend:∀ a,I 0 a→a.C=[]∧a.P.any hasJ=false) :
 Calls Tryz.prog 20 #[ptv c,.int .i64 most] w fun e w'=>e=.returned (.bool true)∧∃ col' a',CluV w' base c col' a'∧I 0 a'∧Bek base w w':=by
 have f0:¬ (most:Int) < 0:=by omega
 have f1:(0:Int) < (most:Int):=by omega
 have HST:=hide hstep
 have HBY:=hide hbusy
 have HTK:=hide htick
 have HRD:=hide hround
 have HEN:=hide hend
 have HPS:=hide hps
 have HH:=hide H
 have HI0:=hide h0
 have HN:=hide hN
 have HN7:=hide hn7
 clear H h0 hstep hbusy htick hround hend hN hps hn7
 go_enter Tryz.func20,Tryz.ntmps20
 go_wp2_with fail
 go_loopw [8] (fun i wr=>∃ (k r:Nat) (col:Nat→Nat) (a:Cl),k+r≤N∧i=.int .i64 k∧CluV wr base c col a∧I r a∧Bek base w wr) (fun i _=>most - (intOf i).toNat)
 case atStart=>exact ⟨0,N,col,a,by omega,rfl,HH.out,HI0.out,Bek.refl _ _⟩
 case round =>
  obtain ⟨k,r,col1,a1,hk,rfl,h1,h2,h3⟩:=hrel
  have HM:=hide hm
  have HK1:=hide h1
  have HI1:=hide h2
  have HB1:=hide h3
  clear h1 h2 h3
  have hkm:(k:Int) < (most:Int):=by have:=HN.out;omega
  have hkk:=HK1.out.cells
  have c2:=hkk.2.2.2.1
  have HNL:=hide (nlen_any HK1.out.net.w)
  have hlen7:a1.ps.length=n:=HPS.out r a1 HI1.out
  by_cases hC:a1.C.length=0
  ·rw [show (a1.C.length:Int)=0 by omega] at HNL
   have HBS:=hide (cbusy_any HK1.out (by rw [hlen7];exact HN7.out))
   by_cases hr:0 < r
   ·obtain ⟨hb,hj⟩:=HBY.out r a1 hr HI1.out hC
    rw [hb] at HBS
    have HJ0:=hide hj
    have HCL:=hide (show k+r≤N∧0 < r from ⟨hk,hr⟩)
    clear hb hj hr hC hkk c2
    obtain ⟨A,cp,hvp,_⟩:=HK1.out.row
    rw [hlen7] at hvp
    clear hlen7
    have c2:=HK1.out.cells.2.2.2.1
    go_upto_region 7 with (first
     | ((with_reducible refine (HNL.out).mono ?_);rintro e w2 ⟨rfl,rfl⟩)
     | ((with_reducible refine (HBS.out).mono ?_);rintro e w3 ⟨rfl,g1⟩;have G1:=hide g1;have HK3:=hide (HK1.out.below g1);have HB3:=hide (HB1.out.trans (HK1.out.bek g1));clear g1))
    have c0:=HK3.out.cells.2.1
    rw [hvp] at c0
    have hn0:n≤7:=HN7.out
    clear c2
    go_wp2_with fail
    go_loopw [27] (fun i wr=>∃ (q:Nat) (col:Nat→Nat) (a:Cl),q≤n∧i=.int .i64 q∧CluV wr base c col a∧J r q a∧Bek base w wr) (fun i _=>n - (intOf i).toNat)
    case atStart=>exact ⟨0,col1,a1,by omega,rfl,HK3.out,HJ0.out,HB3.out⟩
    case round =>
     obtain ⟨q,col5,a5,hq,rfl,h1,h2,h3⟩:=hrel
     by_cases hlt:q < n
     ·have hqI:(q:Int) < (n:Int):=by omega
      have hq0:(0:Int)≤(q:Int):=by omega
      have HK5:=hide h1
      have HB5:=hide h3
      have HTT:=hide (HTK.out r q a5 _ col5 hlt h2 h1)
      have HL:=hide hlt
      clear h1 h2 h3 hlt hq
      go_wp2_with ((with_reducible refine (HTT.out).mono ?_);rintro e w6 ⟨⟨B,rfl⟩,col6,a6,g1,g2,g3⟩;have G1:=hide g1;have G2:=hide g2;have G3:=hide g3;clear g1 g2 g3)
      go_roundw
      case rel=>exact ⟨q+1,col6,a6,by have:=HL.out;omega,by go_num,G1.out,G2.out,HB5.out.trans G3.out⟩
      case measure=>have:=HL.out;simp [intOf];omega
     ·obtain rfl:q=n:=by omega
      have hqI:¬ (q:Int) < (q:Int):=by omega
      obtain ⟨r',hr',hI'⟩:=HRD.out r a5 h2
      have HK5:=hide h1
      have HB5:=hide h3
      have HI5:=hide hI'
      have HL:=hide hr'
      clear h1 h2 h3 hI' hr'
      go_wp2_with fail
      go_roundw
      case rel=>exact ⟨k+1,r',col5,a5,by have:=HL.out;have:=HCL.out;omega,by go_num,HK5.out,HI5.out,HB5.out⟩
      case measure=>simp [intOf];omega
   ·obtain rfl:r=0:=by omega
    obtain ⟨e1,e2⟩:=HEN.out a1 HI1.out
    rw [e2] at HBS
    clear e1 e2 hr hC hkk hlen7
    go_wp2_with (first
     | ((with_reducible refine (HNL.out).mono ?_);rintro e w2 ⟨rfl,rfl⟩)
     | ((with_reducible refine (HBS.out).mono ?_);rintro e w3 ⟨rfl,g1⟩;have G1:=hide g1;clear g1))
    go_ret
    exact ⟨rfl,col1,a1,HK1.out.below G1.out,HI1.out,HB1.out.trans (HK1.out.bek G1.out)⟩
  ·have hl:0 < a1.C.length:=by omega
   have hr:0 < r:=by
    rcases Nat.eq_zero_or_pos r with e | e
    ·subst e
     have:=(HEN.out a1 HI1.out).1
     rw [this] at hl
     exact absurd hl (by decide)
    ·exact e
   have HDL:=hide (HST.out r a1 wr col1 hr HI1.out hl HK1.out)
   obtain ⟨ln,hln⟩:∃ ln,a1.C.length=ln:=⟨_,rfl⟩
   rw [hln] at HNL hl
   have hl0:(0:Int) < (ln:Int):=by omega
   have HCL:=hide (show k+r≤N from hk)
   clear hl hln hC hr hkk hlen7 hk
   go_wp2_with (first
    | ((with_reducible refine (HNL.out).mono ?_);rintro e w2 ⟨rfl,rfl⟩)
    | ((with_reducible refine (HDL.out).mono ?_);rintro e w3 ⟨rfl,col2,a2,g1,⟨r',hr',g2⟩,g3⟩;have G1:=hide g1;have G2:=hide g2;have G3:=hide g3;have HL:=hide hr';clear g1 g2 g3 hr'))
   have:=HL.out
   have:=HCL.out
   exact ⟨⟨k+1,r',col2,a2,by omega,by simp,G1.out,G2.out,HB1.out.trans G3.out⟩,by simp only [intOf];omega⟩
end Go.Proofs.YtgmkckjedngkdaaGreatDoor
namespace Go.Proofs.YtgmkckjedngkdaaGreatDoor
open Go.ChangeShapes Go.WideShapes Go.ChangeAt Go.RowKit
section
variable {w:World} {base:Bs} {c i p:Nat} {col:Nat→Nat} {a:Cl} {P:Pl}
theorem cltick_down (H:CluV w base c col a) (hp:a.ps[i]? = some p) (hP:a.P[i]? = some P) (hu:P.up=false):Calls Tryz.prog 54 #[ptv c,.int .i64 i] w fun e w'=>e=.returned (.bool false)∧w'=w:=by
 have HU:=hide (cup_down H hp hP hu)
 clear H hp hP hu
 go_enter Tryz.func54,Tryz.ntmps54
 go_wp2_with ((with_reducible refine (HU.out).mono ?_);rintro e w1 ⟨rfl,rfl⟩)
 go_ret
 exact ⟨rfl,rfl⟩
theorem CluV.aged {w':World} (H:CluV w base c col a) (hp:a.ps[i]? = some p) (hP:a.P[i]? = some P) (hu:P.up=true) (hn:NodeO w' base P.n (fun g=>col g=11+5 * i) { P.N with now:=P.N.now+1 }) (hs:Sets (fun g=>g=P.n) w w') :
 ∃ col',CluV w' base c col' { a with P:=a.P.set i { P with N:={ P.N with now:=P.N.now+1 } } }:=by
 have hnx:col P.n=11+5 * i:=by
  obtain ⟨s,Y,hv⟩:=(H.pl i p P hp hP hu).node
  exact hv.nX
 have hs2:Sets (fun g=>col g=11+5 * i) w w':=hs.up (fun g e=>by rw [e];exact hnx)
 exact ⟨_,H.node hP hu hs2 hn (fun g e=>.inl e) (Nat.le_refl _) rfl rfl⟩
set_option maxRecDepth 100000 in
set_option maxHeartbeats 1600000 in
theorem cltick_none (H:CluV w base c col a) (hp:a.ps[i]? = some p) (hP:a.P[i]? = some P) (hu:P.up=true) (hj:P.job=none) (hn:0≤P.N.now∧P.N.now≤1000000) (hc:P.N.R.v.ce=0) (hg:0≤P.N.grace) :
 Calls Tryz.prog 54 #[ptv c,.int .i64 i] w fun e w'=>e=.returned (.bool true)∧∃ col',CluV w' base c col' { a with P:=a.P.set i { P with N:={ P.N with now:=P.N.now+1 } } }∧Bek base w w':=by
 have hv:=H.pl i p P hp hP hu
 obtain ⟨g,off,cp,hvp,hgl,hgc⟩:=H.at_ (Below.refl _ _) hp
 have hil:i < a.ps.length:=by
  rw [List.getElem?_eq_some_iff] at hp
  exact hp.1
 have c0:=H.cells.2.1
 rw [hvp] at c0
 obtain ⟨p0,p1,p2,p3⟩:=hv.cells
 have f0:(0:Int)≤(i:Int):=by omega
 have f1:(i:Int) < (a.ps.length:Int):=by omega
 have HU:=hide (cup_any H hp hP hu)
 have HNT:=hide (ntick_any hv.node hn hc hg)
 have HH:=hide H
 have HP:=hide hp
 have HPP:=hide hP
 have HU_:=hide hu
 have HJ:=hide hj
 have hpl:p < w.heap.size:=(H.ok p (by rw [hv.cp];omega)).2
 clear hu hv H hp hP hj hn hc hg hvp
 go_enter Tryz.func54,Tryz.ntmps54
 go_upto_region 5 with (first
  | ((with_reducible refine (HU.out).mono ?_);rintro e w1 ⟨rfl,rfl⟩)
  | ((with_reducible refine (HNT.out).mono ?_);rintro e w2 ⟨rfl,hn2,hs2⟩;have HN2:=hide hn2;have HS2:=hide hs2;clear hn2 hs2 HNT))
 obtain ⟨col2,h2⟩:=HH.out.aged HP.out HPP.out HU_.out HN2.out HS2.out
 have HE:=hide (each_none h2 HP.out (set_at HPP.out) HU_.out HJ.out (.func (.func 117) #[] #[]))
 have hnb:∀ g,g=P.n→base.n≤g∧¬ base.K g:=fun g e=>by
  obtain ⟨s,Y,hv⟩:=(HH.out.pl i p P HP.out HPP.out HU_.out).node
  have hnx:col P.n=11+5 * i:=hv.nX
  rw [e];exact (HH.out.ok P.n (by rw [hnx];omega)).1
 have HB2:=hide (Sets.bek (Bek.refl base _) HS2.out hnb HH.out.bl)
 clear h2 c0 hgc p0 p1 p2 p3 hnb
 go_wp2_with ((with_reducible refine (HE.out).mono ?_);rintro e w3 ⟨rfl,col3,h3,hb3⟩;have H3:=hide h3;have HB3:=hide hb3;clear h3 hb3)
 go_ret
 have h3:=H3.out
 simp only [List.set_set] at h3
 have hj:=HJ.out
 obtain ⟨Pd,Pn,Pk,Pvj,PN,Pnow,Ple,Pj,Pup⟩:=P
 simp only at hj
 subst hj
 exact ⟨rfl,col3,h3,HB2.out.trans HB3.out⟩
theorem inTick1:Enters Tryz.prog 117:=fun _ _=>by kernel_rfl
set_option maxRecDepth 100000 in
set_option maxHeartbeats 1600000 in
theorem cltick_job {b:Nat} {R:Co} (H:CluV w base c col a) (hp:a.ps[i]? = some p) (hP:a.P[i]? = some P) (hu:P.up=true) (hj:P.job=some (b,R)) (hn:0≤P.N.now∧P.N.now≤1000000) (hc:P.N.R.v.ce=0) (hg:0≤P.N.grace)
 (hRn:1≤R.n∧R.n≤7) (hcs:0≤R.cs∧R.cs≤255) (ht:0≤R.tk∧R.tk≤1000000) (hd:R.dn=false→R.d=0) (hok:∀ x ∈ ctickM R,mokB x=true∧x.L=[]) (hal:(ctickR R).AL.length≤1099511627776) (hAL:a.AL.length≤1000) (hC:a.C.length+(ctickM R).length≤300) (hse:0≤a.se∧a.se≤549755813888) :
 Calls Tryz.prog 54 #[ptv c,.int .i64 i] w fun e w'=>e=.returned (.bool true)∧∃ col' rb' va' vj' AL',CluV w' base c col' { a with P:=a.P.set i { P with N:={ P.N with now:=P.N.now+1 },vj:=vj',job:=endJ b (ctickR R) },rb:=rb',C:=a.C ++ ctickM R,se:=a.se+(ctickM R).length,va:=va',AL:=AL' }∧AddA (ctickR R) a.AL AL'∧Bek base w w':=by
 have hv:=H.pl i p P hp hP hu
 obtain ⟨g,off,cp,hvp,hgl,hgc⟩:=H.at_ (Below.refl _ _) hp
 have hil:i < a.ps.length:=by
  rw [List.getElem?_eq_some_iff] at hp
  exact hp.1
 have c0:=H.cells.2.1
 rw [hvp] at c0
 obtain ⟨p0,p1,p2,p3⟩:=hv.cells
 have f0:(0:Int)≤(i:Int):=by omega
 have f1:(i:Int) < (a.ps.length:Int):=by omega
 have HU:=hide (cup_any H hp hP hu)
 have HNT:=hide (ntick_any hv.node hn hc hg)
 have HH:=hide H
 have HP:=hide hp
 have HPP:=hide hP
 have HU_:=hide hu
 have HJ:=hide hj
 have HRN:=hide hRn
 have HCS:=hide hcs
 have HTK:=hide ht
 have HD:=hide hd
 have HOK:=hide hok
 have HAL1:=hide hal
 have HAL:=hide hAL
 have HCC:=hide hC
 have HSE:=hide hse
 have hpl:p < w.heap.size:=(H.ok p (by rw [hv.cp];omega)).2
 clear hu hv H hp hP hj hn hc hg hvp hRn hcs ht hd hok hal hAL hC hse
 go_enter Tryz.func54,Tryz.ntmps54
 go_upto_region 5 with (first
  | ((with_reducible refine (HU.out).mono ?_);rintro e w1 ⟨rfl,rfl⟩)
  | ((with_reducible refine (HNT.out).mono ?_);rintro e w2 ⟨rfl,hn2,hs2⟩;have HN2:=hide hn2;have HS2:=hide hs2;clear hn2 hs2 HNT))
 obtain ⟨col2,h2⟩:=HH.out.aged HP.out HPP.out HU_.out HN2.out HS2.out
 have hnb:∀ g,g=P.n→base.n≤g∧¬ base.K g:=fun g e=>by
  obtain ⟨s,Y,hv⟩:=(HH.out.pl i p P HP.out HPP.out HU_.out).node
  have hnx:col P.n=11+5 * i:=hv.nX
  rw [e];exact (HH.out.ok P.n (by rw [hnx];omega)).1
 have HB2:=hide (Sets.bek (Bek.refl base _) HS2.out hnb HH.out.bl)
 have HE:Hid (Calls Tryz.prog 112 #[ptv c,ptv p,.func (.func 117) #[] #[]] w2 fun e w'=>e=.returned (.tuple #[])∧∃ col' rb' va' vj' AL',CluV w' base c col' { a with P:=a.P.set i { P with N:={ P.N with now:=P.N.now+1 },vj:=vj',job:=endJ b (ctickR R) },rb:=rb',C:=a.C ++ ctickM R,se:=a.se+(ctickM R).length,va:=va',AL:=AL' }∧AddA (ctickR R) a.AL AL'∧Bek base w2 w'):=hide (by
  have hv2:=h2.pl i p _ HP.out (set_at HPP.out) HU_.out
  have htk:=tick1_any (hv2.job _ HJ.out) HRN.out HCS.out HTK.out HD.out
  refine (each_do h2 HP.out (set_at HPP.out) HU_.out HJ.out 117 #[] inTick1 (ctickM R) (ctickR R) (htk.mono ?_) (fun x hx=>(HOK.out x hx).1) HAL1.out HAL.out HCC.out HSE.out).mono ?_
  ·rintro e w' ⟨v,Nn,rfl,g1,g2,g3,g4⟩
   refine ⟨v,Nn,rfl,MsN.r ⟨g2,fun y hy ad ha hn=>absurd ?_ hn⟩,g3,g1,g4⟩
   have h5:=(HOK.out y.bare (by rw [← g3];exact List.mem_map_of_mem hy)).2
   exact h5
  ·rintro e w' ⟨e1,col',rb',va',vj',AL',g1,g2,g3⟩
   simp only [List.set_set] at g1
   exact ⟨e1,col',rb',va',vj',AL',g1,g2,g3⟩)
 clear h2 c0 hgc p0 p1 p2 p3 hnb
 go_wp2_with ((with_reducible refine (HE.out).mono ?_);rintro e w3 ⟨rfl,col3,rb3,va3,vj3,AL3,h3,ha3,hb3⟩;have H3:=hide h3;have HA3:=hide ha3;have HB3:=hide hb3;clear h3 ha3 hb3)
 go_ret
 exact ⟨rfl,col3,rb3,va3,vj3,AL3,H3.out,HA3.out,HB2.out.trans HB3.out⟩
theorem CluV.placeD {w':World} {col':Nat→Nat} {j j2:Nat} (H:CluV w base c col a) (t:Turn w w' base col col' j j2) (hj:(10+5 * i≤j∧j≤14+5 * i)∧(10+5 * i≤j2∧j2≤14+5 * i)) (hi:i < a.P.length) {P':Pl} (hu':P'.up=false) (hp:∀ p,a.ps[i]? = some p→PlD w' col' i p P'):CluV w' base c col' { a with P:=a.P.set i P' } :=
 { ok:=t.ok
   bl:=H.bl.up t.sets.size
   box:=(H.oBox t (by omega)).1
   cc:=(H.oBox t (by omega)).2
   row:=H.oRow t (by omega)
   len:=by rw [← H.len];exact List.length_set
   pl:=fun k p P hk hP hu=>by
    have hP':(a.P.set i P')[k]? = some P:=hP
    by_cases h:k=i
    ·subst h
     rw [List.getElem?_set_self hi] at hP'
     cases hP'
     rw [hu'] at hu
     cases hu
    ·rw [List.getElem?_set_ne (fun e=>h e.symm)] at hP'
     exact H.oPl t k p P hk hP' hu (by omega)
   pd:=fun k p P hk hP hu=>by
    have hP':(a.P.set i P')[k]? = some P:=hP
    by_cases h:k=i
    ·subst h
     rw [List.getElem?_set_self hi] at hP'
     cases hP'
     exact hp p hk
    ·rw [List.getElem?_set_ne (fun e=>h e.symm)] at hP'
     exact H.oPd t k p P hk hP' hu (by omega)
   net:=(H.oNet t (by omega) (by omega)).1
   cn:=(H.oNet t (by omega) (by omega)).2
   ans:=(H.oAns t (by omega)).1
   ca:=(H.oAns t (by omega)).2
   its:=H.oIts t (by omega)
   iss:=(H.oIss t (by omega)).1
   ci:=(H.oIss t (by omega)).2 }
theorem four_all {w:World} {g:Nat} {d0 d1 d2 d3:Value} {t:TypeId} (h:w.heap[g]? = some (.cells #[d0,d1,d2,d3] t (0,0))) (v1 v2 v3:Value):(((w.setCell ⟨g,1,none⟩ v1).setCell ⟨g,2,none⟩ v2).setCell ⟨g,3,none⟩ v3).heap[g]? = some (.cells #[d0,v1,v2,v3] t (0,0)):=by
 simp [World.setCell,Array.getElem?_modify,h]
set_option maxRecDepth 100000 in
set_option maxHeartbeats 1600000 in
theorem clcrash_any (H:CluV w base c col a) (hp:a.ps[i]? = some p) (hP:a.P[i]? = some P) (hu:P.up=true) :
 Calls Tryz.prog 16 #[ptv c,.int .i64 i,.slice none 0 0] w fun e w'=>e=.returned (.bool true)∧∃ col',CluV w' base c col' { a with P:=a.P.set i { P with job:=none,up:=false } }∧Bek base w w':=by
 have hv:=H.pl i p P hp hP hu
 obtain ⟨g,off,cp,hvp,hgl,hgc⟩:=H.at_ (Below.refl _ _) hp
 have hil:i < a.ps.length:=by
  rw [List.getElem?_eq_some_iff] at hp
  exact hp.1
 have hiP:i < a.P.length:=by rw [H.len];exact hil
 have c0:=H.cells.2.1
 rw [hvp] at c0
 obtain ⟨p0,p1,p2,p3⟩:=hv.cells
 have f0:(0:Int)≤(i:Int):=by omega
 have f1:(i:Int) < (a.ps.length:Int):=by omega
 have HU:=hide (cup_any H hp hP hu)
 have hcr:Calls Tryz.prog 42 #[ptv P.d,.slice none 0 0] w fun e w'=>e=.returned (.tuple #[])∧Sets (fun g=>col g=11+5 * i) w w':=by
  obtain ⟨s,Y,hnv⟩:=hv.node
  obtain ⟨h,hst⟩:=hnv.st
  obtain ⟨h2,hdk⟩:=hst.disk
  have hd:h.p=P.d:=hst.dp.trans hv.dsk
  rw [hd] at hdk
  obtain ⟨hT,hD⟩:=hdk.calm_ hst.files.2.2.2.1
  refine (crash_any hdk hT hD).mono ?_
  rintro e w' ⟨e1,h3⟩
  exact ⟨e1,h3.up (fun g hg=>hnv.inX g (hst.inX.2.2.2.1 g hg))⟩
 have HCR:=hide hcr
 have HH:=hide H
 have HP:=hide hp
 have HPP:=hide hP
 have HIP:=hide hiP
 have HBX:=hide hv.box
 have HCP:=hide hv.cp
 have hpl:p < w.heap.size:=(H.ok p (by rw [hv.cp];omega)).2
 have hpn:¬ col p=11+5 * i:=by rw [hv.cp];omega
 have HPN:=hide hpn
 clear hu hv H hp hP hvp hcr hpn hiP
 go_enter Tryz.func16,Tryz.ntmps16
 go_upto_region 5 with (first
  | ((with_reducible refine (HU.out).mono ?_);rintro e w1 ⟨rfl,rfl⟩)
  | ((with_reducible refine (HCR.out).mono ?_);rintro e w2 ⟨rfl,hs2⟩;have HS2:=hide hs2;clear hs2 HCR))
 have hz2:=(HS2.out.block p hpl HPN.out).trans HBX.out
 obtain ⟨q0,q1,q2,q3⟩:=four_cells hz2
 have z1:w2.frozen? ⟨p,1,none⟩=false:=by simp [World.frozen?,hz2]
 have z2:w2.frozen? ⟨p,2,none⟩=false:=by simp [World.frozen?,hz2]
 have z3:w2.frozen? ⟨p,3,none⟩=false:=by simp [World.frozen?,hz2]
 have HZ2:=hide hz2
 have HPL:=hide (Nat.lt_of_lt_of_le hpl HS2.out.size)
 have hpl2:p < w2.heap.size:=HPL.out
 clear hz2 c0 hgc p0 p1 p2 p3 hpl
 go_wp2_with fail
 go_ret
 have hs3:Sets (fun g=>g=p) w2 (((w2.setCell ⟨p,1,none⟩ (.pointer none)).setCell ⟨p,2,none⟩ (.pointer none)).setCell ⟨p,3,none⟩ (.slice none 0 0)):=((sets1 w2 p 1 _).set (fun _=>rfl) 2 _).set (fun _=>rfl) 3 _
 have hb3:=four_all HZ2.out (.pointer none) (.pointer none) (.slice none 0 0)
 have hsx:Sets (fun g=>col g=11+5 * i ∨ col g=10+5 * i) _ (((w2.setCell ⟨p,1,none⟩ (.pointer none)).setCell ⟨p,2,none⟩ (.pointer none)).setCell ⟨p,3,none⟩ (.slice none 0 0)):=(HS2.out.up (T:=fun g=>col g=11+5 * i ∨ col g=10+5 * i) (fun g e=>.inl e)).trans hs3 (fun g _ e=>.inr (by rw [e];exact HCP.out))
 have t:=turn_none HH.out.ok hsx
 have hfin:=HH.out.placeD (i:=i) (P':={ P with job:=none,up:=false }) t ⟨⟨by omega,by omega⟩,by omega,by omega⟩ HIP.out rfl (fun q hq=>by
  rw [HP.out] at hq
  cases hq
  exact ⟨hb3,HCP.out,rfl⟩)
 refine ⟨rfl,col,hfin,Sets.bek (Bek.refl base _) hsx (fun g e=>?_) HH.out.bl⟩
 rcases e with e | e
 ·exact (HH.out.ok g (by rw [e];omega)).1
 ·exact (HH.out.ok g (by rw [e];omega)).1
end
end Go.Proofs.YtgmkckjedngkdaaGreatDoor
