/- A part of the proof that TopMajorityLaw holds: XZAwa. Conditions: as typed. -/
import Derived.Test.YtgmkckjedngkdaaGreatDoorTm43
import Derived.Test.YtgmkckjedngkdaaGreatDoorTm46
import Derived.Test.YtgmkckjedngkdaaGreatDoorTm47
import Derived.Test.YtgmkckjedngkdaaGreatDoorTm48
set_option linter.unusedVariables false
set_option linter.unusedSimpArgs false
namespace Go.Proofs.YtgmkckjedngkdaaGreatDoor
open Go.ChangeShapes Go.WideShapes Go.ChangeAt Go.RowKit
section
variable {w:World} {base:Bs} {c:Nat} {col:Nat→Nat} {a:Cl}
theorem fresh_nd {q grace:Int} {i:Nat} {P:Pl} (hq:q=1048576) (h:FreshP grace q i P):P.up=true∧P.N.id=(i:Int)∧NdR P.N.R []∧(∀ z ∈ P.N.R.K.Z,z.L.length≤100)∧P.N.R.v.at_=0:=by
 obtain ⟨zl,zm,zc,h3,h4,_,_,_,hup⟩:=h
 have hz:∀ z ∈ P.N.R.K.Z,z.L.length≤100:=fun z hz=>by
  rw [h4] at hz
  have hz':z ∈ [zl,zm,zc]:=hz
  simp only [List.mem_cons,List.not_mem_nil,or_false] at hz'
  have:=h3.m
  have:=h3.c
  rcases hz' with rfl | rfl | rfl
  ·rw [h3.l];decide
  ·omega
  ·omega
 refine ⟨hup,by rw [h4];rfl,⟨by rw [h4];rfl,by rw [h4];rfl,by rw [h4];rfl,by rw [h4,← hq];rfl,fun z hz1=>by have:=hz z hz1;omega,by rw [h4];exact Nat.le_refl 1⟩,hz,by rw [h4];rfl⟩
set_option maxHeartbeats 800000 in
theorem put_i1 (H:FreshC w base c 3 1048576 5 col a) :
 Calls Tryz.prog 19 #[ptv c,.int .i64 0,client4 1 1 2 3] w fun e w'=>(∃ v,e=.returned (.tuple #[.int .u64 v,.int .i64 0]))∧∃ col' a',CluV w' base c col' a'∧I1 0 a'∧Bek base w w':=by
 have hps:a.ps.length=3:=by rw [← H.clu.len];exact H.len
 have h0s:0 < a.ps.length:=by omega
 have h0P:0 < a.P.length:=by rw [H.len];decide
 obtain ⟨p,hp⟩:∃ p,a.ps[0]? = some p:=⟨_,List.getElem?_eq_getElem h0s⟩
 obtain ⟨P,hP⟩:∃ P,a.P[0]? = some P:=⟨_,List.getElem?_eq_getElem h0P⟩
 have hf:=H.fresh 0 P hP
 obtain ⟨_,hid,hnd,hz,hat⟩:=fresh_nd rfl hf
 obtain ⟨_,_,_,_,_,hnow,hlease,hjob,hu⟩:=hf
 obtain ⟨⟨hC,hse⟩,⟨hids,hAL⟩,hIL⟩:=H.z
 refine (ccall_put H.clu hp hP hu hjob 1 2 3 (by omega) (by omega) 100 hz (by decide) (by rw [hnd.q];decide) (by rw [hIL];decide) (by decide) (by omega) (by rw [hps,hids,hnow];decide) (by omega) (by decide) (by rw [hps,hids,hnow];decide) (by rw [hC];decide) (by omega)).mono ?_
 rintro e w' ⟨rfl,b,rb',vj',R',vi',hsv,col',h1,h2⟩
 refine ⟨⟨_,rfl⟩,col',_,h1,?_,h2⟩
 have hcs:csendTo (co0 (a.ps.length:Int) (0:Nat) (a.ids+1) 1 1 2 3 ((P.now+1) * 8+(0:Nat))) a.ps.length=[pP 0,pP 1,pP 2]:=by
  rw [hps,hids,hnow]
  rfl
 refine ⟨⟨hps,by show (a.P.set _ _).length=3;rw [List.length_set];exact H.len,?_,fun k Q hQ=>?_,fun k Q hQ=>?_,?_,?_⟩,?_⟩
 ·show a.C ++ csendTo _ _=_
  rw [hC,hcs];rfl
 ·rw [List.getElem?_set] at hQ
  by_cases hk:0=k
  ·rw [if_pos hk,if_pos h0P] at hQ
   cases hQ
   subst hk
   refine ⟨hu,hid,?_⟩
   obtain ⟨_,s1,s2,s3,s4,l0,l1,rst,s5,s6⟩:=hsv
   exact {
    S:=by show R'.S=_;rw [s2];exact hnd.S
    fl:=by
     show R'.v.fl=0
     rw [s1]
     show (if P.N.R.v.fl=0 then P.N.R.v.fl else P.N.R.v.fl)=0
     rw [hnd.fl];rfl
    ce:=by
     show R'.v.ce=0
     rw [s1]
     show (if P.N.R.v.ce=0 then P.N.R.v.ce else P.N.R.v.ce)=0
     rw [hnd.ce];rfl
    q:=by show R'.K.q=_;rw [s4];exact hnd.q
    z:=fun z hz1=>by
     have h8:z.L ∈ R'.K.Z.map Fz.L:=List.mem_map.2 ⟨z,hz1,rfl⟩
     have hold:∀ l ∈ l0 :: l1 :: rst,l.length≤100:=fun l hl=>by
      rw [← s5] at hl
      obtain ⟨z,hz1,rfl⟩:=List.mem_map.1 hl
      exact hz z hz1
     have hle:z.L.length≤1000:=by
      rw [s6] at h8
      have hsl:=savB_len P.N.R.v.fl P.N.R.v.ce P.N.R.v.at_ (P.now+16)
      rcases List.mem_cons.1 h8 with e | h8
      ·rw [e]
       have:=hold l0 List.mem_cons_self
       omega
      ·rcases List.mem_cons.1 h8 with e | h8
       ·rw [e,List.length_append]
        have:=hold l1 (List.mem_cons_of_mem _ List.mem_cons_self)
        omega
       ·have:=hold _ (List.mem_cons_of_mem _ (List.mem_cons_of_mem _ h8))
        omega
     omega
    mf:=by
     show R'.mf≤_
     rw [s3]
     exact hnd.mf }
  ·rw [if_neg hk] at hQ
   have:=fresh_nd rfl (H.fresh k Q hQ)
   exact ⟨this.1,this.2.1,this.2.2.1⟩
 ·rw [List.getElem?_set] at hQ
  by_cases hk:0=k
  ·rw [if_pos hk,if_pos h0P] at hQ
   cases hQ
   subst hk
   show some (co0 (a.ps.length:Int) (0:Nat) (a.ids+1) 1 1 2 3 ((P.now+1) * 8+(0:Nat)))=_
   rw [hps,hids,hnow]
   rfl
  ·rw [if_neg hk] at hQ
   obtain ⟨_,_,_,_,_,_,_,hj,_⟩:=H.fresh k Q hQ
   rw [hj]
   match k,hk with
   | 0,hk=>exact absurd rfl hk
   | k+1,_=>rfl
 ·show a.AL.map Prod.snd=_
  rw [hAL];rfl
 ·show 0≤a.se+((csendTo _ _).length:Int)∧a.se+((csendTo _ _).length:Int)≤1000
  rw [hcs,hse];decide
 ·refine ⟨?_,by show a.ids+1=1;omega⟩
  show a.se+((csendTo _ _).length:Int)≤20+(0:Nat)
  rw [hcs,hse];decide
set_option maxHeartbeats 800000 in
theorem get_i2 (H:CluV w base c col a) (I:I1 6 a) :
 Calls Tryz.prog 19 #[ptv c,.int .i64 2,client4 3 1 0 0] w fun e w'=>(∃ v,e=.returned (.tuple #[.int .u64 v,.int .i64 0]))∧∃ col' a',CluV w' base c col' a'∧I2 0 a'∧Bek base w w':=by
 obtain ⟨I,hs,hids⟩:=I
 have hps:a.ps.length=3:=I.ps
 have h2s:2 < a.ps.length:=by omega
 have h2P:2 < a.P.length:=by rw [I.pl];decide
 obtain ⟨p,hp⟩:∃ p,a.ps[2]? = some p:=⟨_,List.getElem?_eq_getElem h2s⟩
 obtain ⟨P,hP⟩:∃ P,a.P[2]? = some P:=⟨_,List.getElem?_eq_getElem h2P⟩
 have hjob:P.job=none:=by
  have h:=I.job 2 P hP
  cases hq:P.job with
  | none=>rfl
  | some x=>rw [hq] at h;cases h
 have hC:a.C=[]:=I.C
 have hse:=I.se
 refine (ccall_get H hp hP (I.nd 2 P hP).1 hjob 1 (by decide) (by omega) (by rw [hps,hids];decide) (by omega) (by decide) (by rw [hps,hids];decide) (by rw [hC];decide) (by omega)).mono ?_
 rintro e w' ⟨rfl,b,rb',vj',col',h1,h2⟩
 refine ⟨⟨_,rfl⟩,col',_,h1,?_,h2⟩
 have hcs:csendTo (co0 (a.ps.length:Int) (2:Nat) (a.ids+1) 3 1 0 0 0) a.ps.length=[pA 0,pA 1,pA 2]:=by
  rw [hps,hids]
  rfl
 refine ⟨⟨hps,by show (a.P.set _ _).length=3;rw [List.length_set];exact I.pl,?_,fun k Q hQ=>?_,fun k Q hQ=>?_,?_,?_⟩,?_⟩
 ·show a.C ++ csendTo _ _=_
  rw [hC,hcs];rfl
 ·rw [List.getElem?_set] at hQ
  by_cases hk:2=k
  ·rw [if_pos hk,if_pos h2P] at hQ
   cases hQ
   subst hk
   exact I.nd 2 P hP
  ·rw [if_neg hk] at hQ
   have h5:=I.nd k Q hQ
   have hk3:k < 3:=by rw [← I.pl];exact (List.getElem?_eq_some_iff.1 hQ).1
   refine ⟨h5.1,h5.2.1,?_⟩
   have h6:S1 6 k=S1 3 k:=by
    match k,hk3 with
    | 0,_=>rfl
    | 1,_=>rfl
    | 2,_=>rfl
   rw [← h6]
   exact h5.2.2
 ·rw [List.getElem?_set] at hQ
  by_cases hk:2=k
  ·rw [if_pos hk,if_pos h2P] at hQ
   cases hQ
   subst hk
   show some (co0 (a.ps.length:Int) (2:Nat) (a.ids+1) 3 1 0 0 0)=_
   rw [hps,hids]
   rfl
  ·rw [if_neg hk] at hQ
   have hk3:k < 3:=by rw [← I.pl];exact (List.getElem?_eq_some_iff.1 hQ).1
   have h5:=I.job k Q hQ
   rw [h5]
   match k,hk3,hk with
   | 0,_,_=>rfl
   | 1,_,_=>rfl
   | 2,_,hk=>exact absurd rfl hk
 ·exact I.al
 ·show 0≤a.se+((csendTo _ _).length:Int)∧a.se+((csendTo _ _).length:Int)≤1000
  rw [hcs]
  simp only [List.length_cons,List.length_nil]
  omega
 ·show a.se+((csendTo _ _).length:Int)≤50+(0:Nat)
  rw [hcs]
  simp only [List.length_cons,List.length_nil]
  omega
end
theorem answers2 {w:World} {base:Bs} {c:Nat} {col:Nat→Nat} {a:Cl} (H:CluV w base c col a) (I:I2 6 a) :
 Calls Tryz.prog 21 #[ptv c] w fun e w'=>∃ g o c6 gi oi ci,e=.returned (.slice (some ⟨g,o,none⟩) 2 c6)∧Below w.heap.size w w'∧w'.cell? ⟨g,o+15,none⟩=some (.slice (some ⟨gi,oi,none⟩) 1 ci)∧w'.cell? ⟨gi,oi+4,none⟩=some (.int .i64 3):=by
 have hal:a.AL.map Prod.snd=[[],[x0]]:=I.1.al
 obtain ⟨y0,y1,hy,e0,e1⟩:∃ y0 y1,a.AL=[y0,y1]∧y0.2=[]∧y1.2=[x0]:=by
  match hq:a.AL with
  | []=>rw [hq] at hal;cases hal
  | [y]=>rw [hq] at hal;simp at hal
  | [y0,y1]=>rw [hq] at hal;simp at hal;exact ⟨y0,y1,rfl,hal.1,hal.2⟩
  | y0 :: y1 :: y2 :: r=>rw [hq] at hal;simp at hal
 have hl:a.AL.length=2:=by rw [hy];rfl
 refine (canswers_any H (by omega) (fun x hx=>?_)).mono ?_
 ·rw [hy] at hx
  simp only [List.mem_cons,List.not_mem_nil,or_false] at hx
  rcases hx with rfl | rfl
  ·rw [e0];decide
  ·rw [e1];decide
 ·rintro e w' ⟨v,rfl,⟨L,h1,h2,h3⟩,h4⟩
  obtain ⟨A,cc,rfl,hr,_⟩:=OwnL.row An.cells_len h1
  rw [hl] at h2
  have hx1:1 < L.length:=by omega
  obtain ⟨g,o,rfl,_,_,_,_,_,_,_,_,k7⟩:=RowAt.ans hr (Below.refl _ _) hx1
  obtain ⟨q1,q2,q3⟩:=h3 1 L[1] y1 (List.getElem?_eq_getElem hx1) (by rw [hy];rfl)
  have hit:=(H.its y1 (by rw [hy];simp)).1
  rw [e1] at hit q2
  obtain ⟨gi,oi,hA,hgi,hi⟩:=q2.item (Below.refl _ _) (k:=0) (by decide)
  have hln:L[1].ln=1:=by rw [q1];exact hit.symm
  rw [hA,hln] at k7
  rw [h2]
  refine ⟨g,o,cc,gi,oi,_,rfl,h4,k7,?_⟩
  have h9:=hi.2.2.2.2
  rw [Nat.zero_mul,Nat.add_zero] at h9
  exact h9
set_option maxRecDepth 100000 in
set_option maxHeartbeats 1600000 in
theorem tawake_any (w:World) (he:ErrOk w) (hb2:2≤w.heap.size):Calls Tryz.prog 7 #[] w fun e w'=>e=.returned (.bool true)∧Below w.heap.size w w':=by
 have HNW:Hid (Calls Tryz.prog 14 #[.int .i64 3,.int .i64 1048576,.int .u64 5] w fun e w'=>∃ c col a,e=.returned (.tuple #[ptv c,.int .i64 0])∧FreshC w' (bs0 w) c 3 1048576 5 col a∧Below w.heap.size w w'):=hide (by have h:=clnew_any 3 1048576 5 w he hb2 ⟨by decide,by decide⟩ ⟨by decide,by decide⟩ ⟨by decide,by decide⟩;exact h)
 clear he hb2
 go_enter Tryz.func7,Tryz.ntmps7
 go_wp2_with (first
  | ((with_reducible refine (HNW.out).mono ?_);rintro e w1 ⟨c,col,a,rfl,hf,hg1⟩;have HG1:=hide hg1;have HP:=hide (put_i1 hf);clear hf hg1)
  | ((with_reducible refine (HP.out).mono ?_);rintro e w2 ⟨⟨v2,rfl⟩,col2,a2,h2,hi2,hg2⟩;have HG2:=hide (HG1.out.trans hg2.low);have HCA:=hide (calm1 h2 hi2);clear HP h2 hi2 hg2)
  | ((with_reducible refine (HCA.out).mono ?_);rintro e w3 ⟨rfl,col3,a3,h3,hi3,hg3⟩;have HG3:=hide (HG2.out.trans hg3.low);have HGT:=hide (get_i2 h3 hi3);clear HCA h3 hi3 hg3)
  | ((with_reducible refine (HGT.out).mono ?_);rintro e w4 ⟨⟨v4,rfl⟩,col4,a4,h4,hi4,hg4⟩;have HG4:=hide (HG3.out.trans hg4.low);have HCB:=hide (calm2 h4 hi4);clear HGT h4 hi4 hg4)
  | ((with_reducible refine (HCB.out).mono ?_);rintro e w5 ⟨rfl,col5,a5,h5,hi5,hg5⟩;have HG5:=hide (HG4.out.trans hg5.low);have HAN:=hide (answers2 h5 hi5);clear HCB h5 hi5 hg5)
  | ((with_reducible refine (HAN.out).mono ?_);rintro e w6 ⟨g6,o6,c6,gi,oi,ci,rfl,hg6,k1,k2⟩;have HG6:=hide (HG5.out.trans (hg6.mono HG5.out.size));clear HAN hg6))
 go_ret
 exact ⟨rfl,HG6.out⟩
end Go.Proofs.YtgmkckjedngkdaaGreatDoor
