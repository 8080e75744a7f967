/- A part of the proof that TopMajorityLaw holds: XZMao, XZMaq, XTopMajority. Conditions: as typed. -/
import Derived.Test.YtgmkckjedngkdaaGreatDoorTm44
import Derived.Test.YtgmkckjedngkdaaGreatDoorTm45
import Derived.Test.YtgmkckjedngkdaaGreatDoorTm49
import Derived.Test.YtgmkckjedngkdaaGreatDoorTm50
import Derived.Test.YtgmkckjedngkdaaGreatDoorTm21
set_option linter.unusedVariables false
set_option linter.unusedSimpArgs false
namespace Go.Proofs.YtgmkckjedngkdaaGreatDoor.topMajority
open Go.ChangeShapes Go.WideShapes Go.ChangeAt Go.RowKit
theorem need_any (n:Int) (w:World) (h0:0≤n) (h1:n≤1000):Calls Tryz.prog 15 #[.int .i64 n] w fun e w'=>e=.returned (.int .i64 (n / 2+1))∧Below w.heap.size w w':=by
 go_enter Tryz.func15,Tryz.ntmps15
 go_wp2
 go_ret
 exact ⟨rfl,Below.refl _ _⟩
section
variable {n i:Nat} {up:Nat→Bool}
theorem cnt_down (hi:i < n) (hu:up i=true):cntC (upN up i false) n+1=cntC up n:=by
 have h1:upN up i false i=false:=by unfold upN;rw [if_pos rfl]
 rw [← cntC_set hi h1]
 congr 1
 funext k
 unfold setC upN
 by_cases h:k=i
 ·rw [if_pos h,h,hu]
 ·rw [if_neg h,if_neg h]
theorem cnt_one (h0:up 0=true):∀ n,1≤n→(∀ q,1≤q→q < n→up q=false)→cntC up n=1
 | n+1,_,h=>by
  unfold cntC
  by_cases e:n=0
  ·subst e
   rw [if_pos h0]
   rfl
  ·rw [cnt_one h0 n (by omega) (fun q h1 h2=>h q h1 (by omega)),if_neg (by rw [h n (by omega) (by omega)];decide)]
theorem upN_self {j:Nat} (hj:i ≠ j) {b:Bool}:upN up i b j=up j:=by unfold upN;rw [if_neg (fun e=>hj e.symm)]
theorem upN_at {b:Bool}:upN up i b i=b:=by unfold upN;rw [if_pos rfl]
end
structure FrD (n:Nat) (up:Nat→Bool) (a:Cl):Prop where
 ps:a.ps.length=n
 pl:a.P.length=n
 z:(a.C=[]∧a.se=0)∧(a.ids=0∧a.AL=[])∧a.IL=[]
 nd:∀ (i:Nat) (P:Pl),a.P[i]? = some P→P.up=up i∧P.job=none∧P.now=0∧P.lease=0∧(up i=true→P.N.id=(i:Int)∧NdR P.N.R []∧(∀ z ∈ P.N.R.K.Z,z.L.length≤100)∧P.N.now=0∧0≤P.N.grace)
section
variable {w:World} {base:Bs} {c n i:Nat} {up:Nat→Bool} {col:Nat→Nat} {a:Cl} {P:Pl} {s v m T ids:Int} {AL:List Ans4}
theorem frd_new (H:FreshC w base c n 1048576 5 col a):FrD n (fun _=>true) a:=by
 refine ⟨by rw [← H.clu.len];exact H.len,H.len,H.z,fun i P hP=>?_⟩
 have hf:=H.fresh i P hP
 obtain ⟨h1,h2,h3,h4,_⟩:=fresh_nd rfl hf
 obtain ⟨zl,zm,zc,_,h5,h6,h7,h8,_⟩:=hf
 exact ⟨h1,h8,h6,h7,fun _=>⟨h2,h3,h4,by rw [h5];rfl,by rw [h5];exact (by decide:(0:Int)≤5)⟩⟩
theorem frd_crash (F:FrD n up a) (hP:a.P[i]? = some P):FrD n (upN up i false) { a with P:=a.P.set i { P with job:=none,up:=false } }:=by
 have hiP:i < a.P.length:=(List.getElem?_eq_some_iff.1 hP).1
 refine ⟨F.ps,by show (a.P.set _ _).length=n;rw [List.length_set];exact F.pl,F.z,fun k Q hQ=>?_⟩
 have hQ':(a.P.set i { P with job:=none,up:=false })[k]? = some Q:=hQ
 rw [List.getElem?_set] at hQ'
 by_cases hk:i=k
 ·rw [if_pos hk,if_pos hiP] at hQ'
  cases hQ'
  subst hk
  obtain ⟨_,_,h3,h4,_⟩:=F.nd i P hP
  rw [upN_at]
  exact ⟨rfl,rfl,h3,h4,fun e=>by cases e⟩
 ·rw [if_neg hk] at hQ'
  rw [upN_self hk]
  exact F.nd k Q hQ'
theorem awn_crash {S:Nat→List It} (F:AwN n up m T a [] S none AL) (hP:a.P[i]? = some P):AwN n (upN up i false) m T { a with P:=a.P.set i { P with job:=none,up:=false } } [] S none AL:=by
 have hiP:i < a.P.length:=(List.getElem?_eq_some_iff.1 hP).1
 refine ⟨F.ps,by show (a.P.set _ _).length=n;rw [List.length_set];exact F.pl,F.C,fun k Q hQ=>?_,fun k Q hQ=>?_,F.al,F.se⟩
 ·have hQ':(a.P.set i { P with job:=none,up:=false })[k]? = some Q:=hQ
  rw [List.getElem?_set] at hQ'
  by_cases hk:i=k
  ·rw [if_pos hk,if_pos hiP] at hQ'
   cases hQ'
   subst hk
   rw [upN_at]
   exact ⟨rfl,fun e=>by cases e⟩
  ·rw [if_neg hk] at hQ'
   rw [upN_self hk]
   exact F.nd k Q hQ'
 ·have hQ':(a.P.set i { P with job:=none,up:=false })[k]? = some Q:=hQ
  rw [List.getElem?_set] at hQ'
  by_cases hk:i=k
  ·rw [if_pos hk,if_pos hiP] at hQ'
   cases hQ'
   split <;> rfl
  ·rw [if_neg hk] at hQ'
   exact F.job k Q hQ'
theorem co_start {q:Cq}:co0 (n:Int) ((0:Nat):Int) q.id q.k s q.t q.x q.v=co n s q (fun _=>false) [] 0:=co0_coG n _ _ _ _ _ _ _
theorem send_all {q:Cq} (hq:CqOk v q):csendTo (co n s q (fun _=>false) [] 0) n=(List.range n).map (sM s v q):=by
 unfold csendTo
 have h1:((List.range n).filter fun j=>!(co n s q (fun _=>false) [] 0).C j)=List.range n:=List.filter_eq_self.2 (fun j _=>rfl)
 rw [h1]
 refine List.map_congr_left (fun j _=>?_)
 unfold toC sM
 rcases hq.k with ⟨h1,h2,h3,h4⟩ | h1
 ·rw [if_neg (show ¬ (co n s q (fun _=>false) [] 0).ck=3 by show ¬ q.k=3;omega),if_neg (by omega)]
  show (⟨1,0,(j:Int),q.id,0,none,0,[itC q.k s q.t q.x q.v]⟩:Mg)=_
  rw [h1,h2,h3,h4]
  rfl
 ·rw [if_pos (show (co n s q (fun _=>false) [] 0).ck=3 from h1),if_pos h1]
  rfl
def qP (v:Int):Cq:=⟨1,1,5,v,8⟩
def qG (id:Int):Cq:=⟨3,id,0,0,0⟩
theorem qP_ok:CqOk v (qP v):=⟨.inl ⟨rfl,rfl,rfl,rfl⟩,(by decide:(1:Int)≤1),(by decide:(1:Int)≤1000)⟩
theorem qG_ok {id:Int} (h:1≤id∧id≤1000):CqOk v (qG id):=⟨.inr rfl,h⟩
set_option maxHeartbeats 800000 in
theorem put_pa (h:Nums n s v) (H:CluV w base c col a) (F:FrD n up a) (h0:up 0=true) :
 Calls Tryz.prog 19 #[ptv c,.int .i64 0,client4 1 s 5 v] w fun e w'=>e=.returned (.tuple #[.int .u64 1,.int .i64 0])∧∃ col' a',CluV w' base c col' a'∧PA n up s v (qP v) 7 0 1 [] 0 a'∧Bek base w w':=by
 have hn:=h.n
 have hs:=h.s
 have h0s:0 < a.ps.length:=by rw [F.ps];omega
 have h0P:0 < a.P.length:=by rw [F.pl];omega
 obtain ⟨p,hp⟩:∃ p,a.ps[0]? = some p:=⟨_,List.getElem?_eq_getElem h0s⟩
 obtain ⟨P,hP⟩:∃ P,a.P[0]? = some P:=⟨_,List.getElem?_eq_getElem h0P⟩
 obtain ⟨hu,hjob,hnow,hlease,hx⟩:=F.nd 0 P hP
 obtain ⟨hid,hnd,hz,hnn,hgr⟩:=hx h0
 rw [h0] at hu
 obtain ⟨⟨hC,hse⟩,⟨hids,hAL⟩,hIL⟩:=F.z
 have hver:(P.now+1) * 8+((0:Nat):Int)=8:=by rw [hnow];rfl
 have hcs:csendTo (co0 (a.ps.length:Int) ((0:Nat):Int) (a.ids+1) 1 s 5 v ((P.now+1) * 8+((0:Nat):Int))) a.ps.length=(List.range n).map (sM s v (qP v)):=by
  rw [F.ps,hids,hver]
  exact (congrArg (fun R=>csendTo R n) (co_start (q:=qP v))).trans (send_all qP_ok)
 refine (ccall_put H hp hP hu hjob s 5 v (by omega) (by omega) 100 hz (by decide) (by rw [hnd.q];decide) (by rw [hIL];decide) (by unfold clientB;exact decide_eq_true (by omega)) (by omega) (by rw [F.ps,hids,hver];unfold newB nodesB clientB;simp;omega) (by rw [F.ps];exact hn.2) hs (fun r hr=>by rw [hcs] at hr;obtain ⟨j,hj,rfl⟩:=List.mem_map.1 hr;exact sM_ok h qP_ok (List.mem_range.1 hj)) (by rw [hC];decide) (by omega)).mono ?_
 rintro e w' ⟨rfl,b,rb',vj',R',vi',hsv,col',h1,h2⟩
 refine ⟨by rw [hids];rfl,col',_,h1,⟨⟨F.ps,by show (a.P.set _ _).length=n;rw [List.length_set];exact F.pl,?_,fun k Q hQ=>?_,fun k Q hQ=>?_,?_,?_⟩,?_⟩,h2⟩
 ·show a.C ++ csendTo _ _=_
  rw [hC,hcs]
  show (List.range n).map _=(List.range n).map _ ++ []
  rw [List.append_nil]
 ·have hQ':(a.P.set 0 _)[k]? = some Q:=hQ
  rw [List.getElem?_set] at hQ'
  by_cases hk:0=k
  ·rw [if_pos hk,if_pos h0P] at hQ'
   cases hQ'
   subst hk
   refine ⟨by rw [h0];exact hu,fun _=>⟨hid,?_,by show 0≤P.N.now;omega,by show P.N.now≤0;omega,hgr⟩⟩
   obtain ⟨_,s1,s2,s3,s4,l0,l1,rst,s5,s6⟩:=hsv
   have hSe:(if (qP v).k=3 ∨ 0 < 0 then [y5 s v] else ([]:List It))=[]:=if_neg (by show ¬ ((1:Int)=3 ∨ 0 < 0);omega)
   show NdR R' (if (qP v).k=3 ∨ 0 < 0 then [y5 s v] else ([]:List It))
   rw [hSe]
   exact {
    S:=by show R'.S=_;rw [s2];exact hnd.S
    fl:=by
     show R'.v.fl=0
     rw [s1]
     show (if P.N.R.v.fl=0 then P.N.R.v.fl else P.N.R.v.fl)=0
     rw [hnd.fl];rfl
    ce:=by
     show R'.v.ce=0
     rw [s1]
     show (if P.N.R.v.ce=0 then P.N.R.v.ce else P.N.R.v.ce)=0
     rw [hnd.ce];rfl
    q:=by show R'.K.q=_;rw [s4];exact hnd.q
    z:=fun z hz1=>by
     have h8:z.L ∈ R'.K.Z.map Fz.L:=List.mem_map.2 ⟨z,hz1,rfl⟩
     have hold:∀ l ∈ l0 :: l1 :: rst,l.length≤100:=fun l hl=>by
      rw [← s5] at hl
      obtain ⟨z,hz1,rfl⟩:=List.mem_map.1 hl
      exact hz z hz1
     have hle:z.L.length≤1000:=by
      rw [s6] at h8
      have hsl:=savB_len P.N.R.v.fl P.N.R.v.ce P.N.R.v.at_ (P.now+16)
      rcases List.mem_cons.1 h8 with e | h8
      ·rw [e]
       have:=hold l0 List.mem_cons_self
       omega
      ·rcases List.mem_cons.1 h8 with e | h8
       ·rw [e,List.length_append]
        have:=hold l1 (List.mem_cons_of_mem _ List.mem_cons_self)
        omega
       ·have:=hold _ (List.mem_cons_of_mem _ (List.mem_cons_of_mem _ h8))
        omega
     omega
    mf:=by
     show R'.mf≤_
     rw [s3]
     exact hnd.mf }
  ·rw [if_neg hk] at hQ'
   obtain ⟨e1,_,_,_,e5⟩:=F.nd k Q hQ'
   refine ⟨e1,fun hu=>⟨(e5 hu).1,?_,by have:=(e5 hu).2.2.2.1;omega,by have:=(e5 hu).2.2.2.1;omega,(e5 hu).2.2.2.2⟩⟩
   have hSe:(if (qP v).k=3 ∨ k < 0 then [y5 s v] else ([]:List It))=[]:=if_neg (by show ¬ ((1:Int)=3 ∨ k < 0);omega)
   show NdR Q.N.R (if (qP v).k=3 ∨ k < 0 then [y5 s v] else ([]:List It))
   rw [hSe]
   exact (e5 hu).2.1
 ·have hQ':(a.P.set 0 _)[k]? = some Q:=hQ
  rw [List.getElem?_set] at hQ'
  by_cases hk:0=k
  ·rw [if_pos hk,if_pos h0P] at hQ'
   cases hQ'
   subst hk
   show some (co0 (a.ps.length:Int) ((0:Nat):Int) (a.ids+1) 1 s 5 v ((P.now+1) * 8+((0:Nat):Int)))=_
   rw [F.ps,hids,hver,if_pos rfl]
   exact congrArg some (co_start (q:=qP v))
  ·rw [if_neg hk] at hQ'
   rw [if_neg (fun e=>hk e.symm),(F.nd k Q hQ').2.1]
   rfl
 ·show a.AL.map AnS=_
  rw [hAL];rfl
 ·show 0≤a.se+((csendTo _ _).length:Int)∧a.se+((csendTo _ _).length:Int)≤7+((0:Nat):Int)
  rw [hcs,hse,List.length_map,List.length_range]
  omega
 ·show a.ids+1=1
  omega
set_option maxHeartbeats 800000 in
theorem get_pa (h:Nums n s v) (H:CluV w base c col a) (F:AwN n up m T a [] (fun _=>[y5 s v]) none AL) (hids:a.ids=ids) (hi:0≤ids∧ids≤900) (hm:m≤800) (h0:up 0=true) :
 Calls Tryz.prog 19 #[ptv c,.int .i64 0,client4 3 s 0 0] w fun e w'=>e=.returned (.tuple #[.int .u64 (ids+1),.int .i64 0])∧∃ col' a',CluV w' base c col' a'∧PA n up s v (qG (ids+1)) (m+7) T (ids+1) AL 0 a'∧Bek base w w':=by
 have hn:=h.n
 have hs:=h.s
 obtain ⟨p,P,hp,hP⟩:=F.at_ (i:=0) (by omega)
 have h0P:0 < a.P.length:=(List.getElem?_eq_some_iff.1 hP).1
 obtain ⟨hu,hx⟩:=F.nd 0 P hP
 rw [h0] at hu
 have hjob:P.job=none:=by
  have h:=F.job 0 P hP
  rw [if_pos rfl] at h
  exact Option.map_eq_none_iff.1 h
 have hC:a.C=[]:=F.C
 have hse:=F.se
 have hq:=qG_ok (v:=v) (id:=ids+1) ⟨by omega,by omega⟩
 have hcs:csendTo (co0 (a.ps.length:Int) ((0:Nat):Int) (a.ids+1) 3 s 0 0 0) a.ps.length=(List.range n).map (sM s v (qG (ids+1))):=by
  rw [F.ps,hids]
  exact (congrArg (fun R=>csendTo R n) (co_start (q:=qG (ids+1)))).trans (send_all hq)
 refine (ccall_get H hp hP hu hjob s (by unfold clientB;exact decide_eq_true (by omega)) (by omega) (by rw [F.ps,hids];unfold newB nodesB clientB;simp;omega) (by rw [F.ps];exact hn.2) hs (fun r hr=>by rw [hcs] at hr;obtain ⟨j,hj,rfl⟩:=List.mem_map.1 hr;exact sM_ok h hq (List.mem_range.1 hj)) (by rw [hC];decide) (by omega)).mono ?_
 rintro e w' ⟨rfl,b,rb',vj',col',h1,h2⟩
 refine ⟨by rw [hids],col',_,h1,⟨⟨F.ps,by show (a.P.set _ _).length=n;rw [List.length_set];exact F.pl,?_,fun k Q hQ=>?_,fun k Q hQ=>?_,F.al,?_⟩,?_⟩,h2⟩
 ·show a.C ++ csendTo _ _=_
  rw [hC,hcs]
  show (List.range n).map _=(List.range n).map _ ++ []
  rw [List.append_nil]
 ·have hSe:(if (qG (ids+1)).k=3 ∨ k < 0 then [y5 s v] else ([]:List It))=[y5 s v]:=if_pos (.inl rfl)
  show Q.up=up k∧(up k=true→Q.N.id=(k:Int)∧NdR Q.N.R (if (qG (ids+1)).k=3 ∨ k < 0 then [y5 s v] else ([]:List It))∧0≤Q.N.now∧Q.N.now≤T∧0≤Q.N.grace)
  rw [hSe]
  have hQ':(a.P.set 0 _)[k]? = some Q:=hQ
  rw [List.getElem?_set] at hQ'
  by_cases hk:0=k
  ·rw [if_pos hk,if_pos h0P] at hQ'
   cases hQ'
   subst hk
   exact F.nd 0 P hP
  ·rw [if_neg hk] at hQ'
   exact F.nd k Q hQ'
 ·have hQ':(a.P.set 0 _)[k]? = some Q:=hQ
  rw [List.getElem?_set] at hQ'
  by_cases hk:0=k
  ·rw [if_pos hk,if_pos h0P] at hQ'
   cases hQ'
   subst hk
   show some (co0 (a.ps.length:Int) ((0:Nat):Int) (a.ids+1) 3 s 0 0 0)=_
   rw [F.ps,hids,if_pos rfl]
   exact congrArg some (co_start (q:=qG (ids+1)))
  ·rw [if_neg hk] at hQ'
   rw [F.job k Q hQ',if_neg (fun e=>hk e.symm),if_neg (fun e=>hk e.symm)]
 ·show 0≤a.se+((csendTo _ _).length:Int)∧a.se+((csendTo _ _).length:Int)≤m+7+((0:Nat):Int)
  rw [hcs,List.length_map,List.length_range]
  omega
 ·show a.ids+1=ids+1
  omega
end
end Go.Proofs.YtgmkckjedngkdaaGreatDoor.topMajority
namespace Go.Proofs.YtgmkckjedngkdaaGreatDoor.topMajority
open Go.ChangeShapes Go.WideShapes Go.ChangeAt Go.RowKit
section
variable {w:World} {b c n:Nat} {K:Nat→Prop} {up:Nat→Bool} {col:Nat→Nat} {a:Cl} {s v m T ids:Int} {AL:List Ans4} {x:Ans4}
theorem awn_ans {L:List (An × List It)} (h:L.map AnS=AL ++ [x]) (hx:∀ z ∈ AL ++ [x],z.2.2.2=[] ∨ z.2.2.2=[y5 s v]) (hl:AL.length≤900) :
 L.length≤1000∧(∀ y ∈ L,y.2.length≤100000∧∀ z ∈ y.2,z.k=2)∧∃ r y,L=r ++ [y]∧AnS y=x:=by
 have h1:L.length=AL.length+1:=by
  have:=congrArg List.length h
  rw [List.length_map,List.length_append] at this
  exact this
 refine ⟨by omega,fun y hy=>?_,?_⟩
 ·have h2:AnS y ∈ AL ++ [x]:=by rw [← h];exact List.mem_map_of_mem hy
  have h3:=hx _ h2
  rcases h3 with h3 | h3
  ·have h4:y.2=[]:=h3
   rw [h4]
   exact ⟨Nat.zero_le _,fun z hz=>by cases hz⟩
  ·have h4:y.2=[y5 s v]:=h3
   rw [h4]
   exact ⟨by show 1≤100000;decide,fun z hz=>by rw [List.mem_singleton] at hz;rw [hz];rfl⟩
 ·obtain ⟨r,l2,rfl,_,h2⟩:=List.map_eq_append_iff.1 h
  obtain ⟨y,l3,rfl,h3,h4⟩:=List.map_eq_cons_iff.1 h2
  obtain rfl:=List.map_eq_nil_iff.1 h4
  exact ⟨r,y,rfl,h3⟩
abbrev J1 (n:Nat) (up:Nat→Bool) (s v:Int) (a:Cl):Prop:=AwN n up 21 0 a [] (fun _=>[y5 s v]) none [(1,0,8,[])]∧a.ids=1
abbrev J2 (n:Nat) (up:Nat→Bool) (s v:Int) (a:Cl):Prop:=AwN n up 42 0 a [] (fun _=>[y5 s v]) none [(1,0,8,[]),(2,0,0,[y5 s v])]∧a.ids=2
abbrev J3 (n:Nat) (up:Nat→Bool) (s v:Int) (a:Cl):Prop:=AwN n up 349 20 a [] (fun _=>[y5 s v]) none [(1,0,8,[]),(2,0,0,[y5 s v]),(3,20,0,[])]∧a.ids=3
theorem ask_put (h:Nums n s v) (H:CluV w ⟨b,K⟩ c col a) (F:FrD n up a) (h0:up 0=true) (hu:n / 2+1≤cntC up n):Calls Tryz.prog 17 #[ptv c,.int .i64 0,client4 1 s 5 v] w (AskP w ⟨b,K⟩ c (J1 n up s v) 1 8 []):=by
 refine ask_any H 1 s 5 v 1 8 [] (PA n up s v (qP v) 7 0 1 [] 0) (J1 n up s v) (fun W K' col H=>put_pa h H F h0) (fun W K' col a H I=>?_) (fun a J=>?_)
 ·refine (calm_done h qP_ok (by omega) (by decide) h0 hu I H 2000 (by omega)).mono ?_
  rintro e w' ⟨e1,col',a',h1,⟨h2,h3⟩,h4⟩
  exact ⟨e1,col',a',h1,⟨h2,h3⟩,h4⟩
 ·obtain ⟨h1,h2,h3⟩:=awn_ans (s:=s) (v:=v) (AL:=[]) (x:=(1,0,8,[])) J.1.al (fun z hz=>by rw [List.nil_append,List.mem_singleton] at hz;rw [hz];exact .inl rfl) (by decide)
  exact ⟨J.1.C,h1,h2,h3⟩
theorem ask_get (h:Nums n s v) (H:CluV w ⟨b,K⟩ c col a) (F:J1 n up s v a) (h0:up 0=true) (hu:n / 2+1≤cntC up n):Calls Tryz.prog 17 #[ptv c,.int .i64 0,client4 3 s 0 0] w (AskP w ⟨b,K⟩ c (J2 n up s v) 2 0 [y5 s v]):=by
 refine ask_any H 3 s 0 0 2 0 [y5 s v] (PA n up s v (qG 2) 28 0 2 [(1,0,8,[])] 0) (J2 n up s v) (fun W K' col H=>get_pa h H F.1 F.2 (by omega) (by omega) h0) (fun W K' col a H I=>?_) (fun a J=>?_)
 ·refine (calm_done h (qG_ok ⟨by omega,by omega⟩) (by omega) (by decide) h0 hu I H 2000 (by omega)).mono ?_
  rintro e w' ⟨e1,col',a',h1,⟨h2,h3⟩,h4⟩
  exact ⟨e1,col',a',h1,⟨h2,h3⟩,h4⟩
 ·obtain ⟨h1,h2,h3⟩:=awn_ans (s:=s) (v:=v) (AL:=[(1,0,8,[])]) (x:=(2,0,0,[y5 s v])) J.1.al (fun z hz=>by
   have hz':z ∈ [((1,0,8,[]):Ans4),(2,0,0,[y5 s v])]:=hz
   simp only [List.mem_cons,List.not_mem_nil,or_false] at hz'
   rcases hz' with rfl | rfl
   ·exact .inl rfl
   ·exact .inr rfl) (by show 1≤900;decide)
  exact ⟨J.1.C,h1,h2,h3⟩
theorem late_call (h:Nums n s v) (H:CluV w ⟨b,K⟩ c col a) (F:J2 n up s v a) (h0:up 0=true):Calls Tryz.prog 19 #[ptv c,.int .i64 0,client4 3 s 0 0] w fun e w'=>e=.returned (.tuple #[.int .u64 3,.int .i64 0])∧∃ col' a',CluV w' ⟨b,K⟩ c col' a'∧PA n up s v (qG 3) 49 0 3 [(1,0,8,[]),(2,0,0,[y5 s v])] 0 a'∧Bek ⟨b,K⟩ w w' :=
 get_pa h H F.1 F.2 (by omega) (by omega) h0
theorem late_calm (h:Nums n s v) (H:CluV w ⟨b,K⟩ c col a) (I:PA n up s v (qG 3) 49 0 3 [(1,0,8,[]),(2,0,0,[y5 s v])] 0 a) (h0:up 0=true) (hu:cntC up n < n / 2+1):Calls Tryz.prog 20 #[ptv c,.int .i64 5000] w fun e w'=>e=.returned (.bool true)∧∃ col' a',CluV w' ⟨b,K⟩ c col' a'∧J3 n up s v a'∧Bek ⟨b,K⟩ w w':=by
 refine (calm_late h (qG_ok ⟨by omega,by omega⟩) rfl (by omega) (by show 2≤90;decide) h0 hu I H 5000 (by omega)).mono ?_
 rintro e w' ⟨e1,col',a',h1,⟨h2,h3⟩,h4⟩
 exact ⟨e1,col',a',h1,⟨h2,h3⟩,h4⟩
theorem late_answer (H:CluV w ⟨b,K⟩ c col a) (J:J3 n up s v a):Calls Tryz.prog 21 #[ptv c] w fun e w'=>∃ y:An × List It,∃ m:Nat,m≤1000∧AnS y=(3,20,0,[])∧LastA w m y e w':=by
 obtain ⟨h1,h2,r,y,h3,h4⟩:=awn_ans (s:=s) (v:=v) (AL:=[(1,0,8,[]),(2,0,0,[y5 s v])]) (x:=(3,20,0,[])) J.1.al (fun z hz=>by
  have hz':z ∈ [((1,0,8,[]):Ans4),(2,0,0,[y5 s v]),(3,20,0,[])]:=hz
  simp only [List.mem_cons,List.not_mem_nil,or_false] at hz'
  rcases hz' with rfl | rfl | rfl
  ·exact .inl rfl
  ·exact .inr rfl
  ·exact .inl rfl) (by show 2≤900;decide)
 have hr:r.length≤1000:=by rw [h3,List.length_append] at h1;omega
 exact (answers_last H h1 (fun x hx=>(h2 x hx).1) h3).mono (fun e w' h=>⟨y,r.length,hr,h4,h⟩)
end
end Go.Proofs.YtgmkckjedngkdaaGreatDoor.topMajority
namespace Go.Proofs.YtgmkckjedngkdaaGreatDoor.topMajority
open Go.ChangeShapes Go.WideShapes Go.ChangeAt Go.RowKit
set_option maxRecDepth 100000 in
set_option maxHeartbeats 6400000 in
theorem walk {w:World} (he:ErrOk w) (hb2:2≤w.heap.size) (a0:Int) (w0:(Lit.int .i64 a0).wf=true) (a1:Int) (w1:(Lit.int .u64 a1).wf=true) (a2:Int) (w2:(Lit.int .i64 a2).wf=true) (a3:Int) (w3:(Lit.int .i64 a3).wf=true) :
 Calls Tryz.prog 4 #[.int .i64 a0,.int .u64 a1,.int .i64 a2,.int .i64 a3] w fun e w'=>e=.returned (.bool true)∧Below w.heap.size w w':=by
 obtain ⟨F,hF⟩:∃ F,bits .and .i64 a0 255=F:=⟨_,rfl⟩
 have hF0:0≤F∧F≤255:=by rw [← hF,and_mask_i64 a0 8 255 (by omega) (by decide)];omega
 obtain ⟨s,hs⟩:∃ s,bits .and .i64 a2 255=s:=⟨_,rfl⟩
 have hs0:0≤s∧s≤255:=by rw [← hs,and_mask_i64 a2 8 255 (by omega) (by decide)];omega
 have hv:-9223372036854775808≤a3∧a3≤9223372036854775807:=by
  have h:=w3
  simp [Lit.wf,IntKind.min,IntKind.max,IntKind.signed,IntKind.bits] at h
  omega
 obtain ⟨n,hn⟩:∃ n:Nat,F % 7+1=(n:Int):=⟨(F % 7+1).toNat,by omega⟩
 have hn7:1≤n∧n≤7:=by omega
 have hN:Nums n s a3:=⟨hn7,hs0,hv⟩
 have HN:=hide hN
 have HE:=hide he
 have HB2:=hide hb2
 have HNW:Hid (Calls Tryz.prog 14 #[.int .i64 n,.int .i64 1048576,.int .u64 5] w fun e w'=>∃ c col a,e=.returned (.tuple #[ptv c,.int .i64 0])∧FreshC w' (bs0 w) c n 1048576 5 col a∧Below w.heap.size w w'):=hide (clnew_any n 1048576 5 w he hb2 hn7 ⟨by decide,by decide⟩ ⟨by decide,by decide⟩)
 have HND:=hide (fun W=>need_any (n:Int) W (by omega) (by omega))
 have HAWK:=hide (fun (W:World) (h:Below w.heap.size w W)=>tawake_any W (HE.out.below h (by have:=HB2.out;omega)) (by have:=HB2.out;have:=h.size;omega))
 have HS:=hide hs
 clear he hb2 w0 w1 w2 w3 hv hs0 hs hN
 go_enter Tryz.func4,Tryz.ntmps4
 go_upto_region 2 with fail
 clear hn hF hF0
 have hn0:(0:Int)≤(n:Int):=by omega
 go_upto_block 0 with (first
  | ((with_reducible refine (HNW.out).mono ?_);rintro e w1 ⟨c,col,a,rfl,hf,hg1⟩;have HCC:=hide hf.clu;have HFR:=hide (frd_new hf);have HG1:=hide hg1;clear hf hg1)
  | ((with_reducible refine (HND.out _).mono ?_);rintro e w2 ⟨rfl,hg2⟩;have HG2:=hide hg2;clear hg2))
 have HB0:=hide (HG1.out.trans (HG2.out.mono HG1.out.size))
 have HC0:=hide (HCC.out.below HG2.out)
 clear HCC HG1 HG2
 obtain ⟨nd,hnd⟩:∃ nd:Nat,n / 2+1=nd:=⟨_,rfl⟩
 have hndI:(n:Int) / 2+1=(nd:Int):=by omega
 have hnd7:1≤nd∧nd≤n:=by omega
 rw [hndI]
 go_cut [12] (fun upv W=>∃ (up:Nat→Bool) (col:Nat→Nat) (a:Cl),upv=.int .i64 ((cntC up n:Nat):Int)∧nd≤cntC up n∧up 0=true∧CluV W (bs0 w) c col a∧FrD n up a∧Below w.heap.size w W)
 case first =>
  go_wp2_with fail
  go_loopw [12,13] (fun upv i wr=>∃ (k:Nat) (up:Nat→Bool) (col:Nat→Nat) (a:Cl),1≤k∧k≤n∧i=.int .i64 k∧upv=.int .i64 ((cntC up n:Nat):Int)∧nd≤cntC up n∧up 0=true∧(∀ q,k≤q→up q=true)∧CluV wr (bs0 w) c col a∧FrD n up a∧Below w.heap.size w wr) (fun _ i _=>n - (intOf i).toNat)
  case atStart =>
   have hall:cntC (fun _=>true) n=n:=cntC_full (fun _ _=>rfl)
   exact ⟨1,fun _=>true,col,a,by omega,by omega,rfl,by rw [hall],by rw [hall];omega,rfl,fun _ _=>rfl,HC0.out,HFR.out,HB0.out⟩
  case round =>
   obtain ⟨k,up,col1,a1',hk1,hkn,rfl,rfl,hcn,hu0,hup,h1,h2,h3⟩:=hrel
   have HK1:=hide h1
   have HF1:=hide h2
   have HB1:=hide h3
   have HUP:=hide hup
   have HU0:=hide hu0
   obtain ⟨cn,hcnn⟩:∃ cn,cntC up n=cn:=⟨_,rfl⟩
   have hc7:cn≤n:=by rw [← hcnn];exact cntC_le up n
   rw [hcnn] at hcn ⊢
   have HCN:=hide hcnn
   clear h1 h2 h3 hup hu0 hcnn
   by_cases hlt:k < n
   ·have hkI:(k:Int) < (n:Int):=by omega
    by_cases hne:nd < cn
    ·have hcI:(nd:Int) < (cn:Int):=by omega
     have hk0:(0:Int)≤(k:Int):=by omega
     have HRT:=hide (show k < n∧nd < cn∧1≤k∧cn≤n from ⟨hlt,hne,hk1,hc7⟩)
     go_upto_if 55 with fail
     generalize (_ == (1:Int))=B
     cases B with
     | false =>
      go_wp2_with fail
      go_roundw
      case rel=>exact ⟨k+1,up,col1,a1',by omega,by have:=HRT.out;omega,by go_num,by rw [HCN.out],by rw [HCN.out];exact hcn,HU0.out,fun q hq=>HUP.out q (by omega),HK1.out,HF1.out,HB1.out⟩
      case measure=>have:=HRT.out;simp [intOf];omega
     | true =>
      obtain ⟨p,hp⟩:∃ p,a1'.ps[k]? = some p:=⟨_,List.getElem?_eq_getElem (by rw [HF1.out.ps];exact hlt)⟩
      obtain ⟨P,hP⟩:∃ P,a1'.P[k]? = some P:=⟨_,List.getElem?_eq_getElem (by rw [HF1.out.pl];exact hlt)⟩
      have huk:up k=true:=HUP.out k (Nat.le_refl _)
      have HCR:=hide (clcrash_any HK1.out hp hP ((HF1.out.nd k P hP).1.trans huk))
      have HF2:=hide (frd_crash HF1.out hP)
      have HCD:=hide (cnt_down hlt huk)
      obtain ⟨c2,hc2⟩:∃ c2:Nat,cn=c2+1:=⟨cn - 1,by omega⟩
      have hc2I:(cn:Int) - 1=(c2:Int):=by omega
      have HC2:=hide hc2
      clear hp hP huk hc2
      go_wp2_with ((with_reducible refine (HCR.out).mono ?_);rintro e w4 ⟨rfl,col4,h4,hg4⟩;have HK4:=hide h4;have HB4:=hide (HB1.out.trans hg4.low);clear h4 hg4)
      go_roundw
      case rel=>exact ⟨k+1,upN up k false,col4,_,by omega,by have:=HRT.out;omega,by go_num,by have h1:=HCD.out;have h2:=HCN.out;have h3:=HC2.out;rw [show cntC (upN up k false) n=c2 by omega],by have h1:=HCD.out;have h2:=HCN.out;have h3:=HRT.out;omega,by rw [upN_self (by have:=HRT.out;omega)];exact HU0.out,fun q hq=>by rw [upN_self (by omega)];exact HUP.out q (by omega),HK4.out,HF2.out,HB4.out⟩
      case measure=>have:=HRT.out;simp [intOf];omega
    ·have hcI:¬ (nd:Int) < (cn:Int):=by omega
     go_wp2_with fail
     go_meet
     exact ⟨up,col1,a1',by rw [HCN.out],by rw [HCN.out];exact hcn,HU0.out,HK1.out,HF1.out,HB1.out⟩
   ·have hkI:¬ (k:Int) < (n:Int):=by omega
    go_wp2_with fail
    go_meet
    exact ⟨up,col1,a1',by rw [HCN.out],by rw [HCN.out];exact hcn,HU0.out,HK1.out,HF1.out,HB1.out⟩
 case rest =>
  obtain ⟨up,col1,a1',rfl,hcn,hu0,h1,h2,h3⟩:=hcut
  have hcu:n / 2+1≤cntC up n:=by omega
  have HAP:=hide (ask_put HN.out h1 h2 hu0 hcu)
  have HU0:=hide hu0
  have HCU:=hide hcu
  have HB1:=hide h3
  obtain ⟨cn,hcnn⟩:∃ cn,cntC up n=cn:=⟨_,rfl⟩
  rw [hcnn] at hcn ⊢
  have hc7:cn≤n:=by rw [← hcnn];exact cntC_le up n
  have HCN:=hide hcnn
  have hs:=HS.out
  clear h1 h2 h3 hu0 hcu hcnn HC0 HFR HB0
  go_upto_region 15 with ((with_reducible refine (HAP.out).mono ?_);rintro e w5 ⟨y,rfl,_,hy2,_,_,col5,a5,h5,hj5,hg5⟩;have HK5:=hide h5;have HJ5:=hide hj5;have HB5:=hide (HB1.out.trans hg5.low);clear h5 hj5 hg5 HAP)
  have hz6:=heap_alloc_new w5 (.cells #[.int .u64 1,.int .i64 y.k,.int .i64 y.s,.int .u64 y.t,.int .i64 y.x,.int .i64 y.e,.int .u64 8,.slice y.la 0 y.lc] 50)
  have hb6:=below_alloc (Below.refl w5.heap.size w5) (.cells #[.int .u64 1,.int .i64 y.k,.int .i64 y.s,.int .u64 y.t,.int .i64 y.x,.int .i64 y.e,.int .u64 8,.slice y.la 0 y.lc] 50)
  obtain ⟨w6,hw6⟩:∃ w6,w5.alloc (.cells #[.int .u64 1,.int .i64 y.k,.int .i64 y.s,.int .u64 y.t,.int .i64 y.x,.int .i64 y.e,.int .u64 8,.slice y.la 0 y.lc] 50)=w6:=⟨_,rfl⟩
  rw [hw6] at hz6 hb6 ⊢
  obtain ⟨g6,hg6⟩:∃ g,w5.heap.size=g:=⟨_,rfl⟩
  rw [hg6] at hz6 ⊢
  have hl6:=(Array.getElem?_eq_some_iff.1 hz6).1
  have HZ6:=hide hz6
  have HL6:=hide hl6
  have HB6:=hide (HB5.out.trans (hb6.mono HB5.out.size))
  have HK6:Hid (CluV w6 ⟨w.heap.size,fun g=>g=g6⟩ c col5 a5):=hide ((HK5.out.below hb6).guard (fun g e=>.inr ⟨by rw [e];exact hl6,by rw [e];exact HK5.out.col0 (by omega)⟩))
  have HAG:=hide (ask_get HN.out HK6.out HJ5.out HU0.out HCU.out)
  clear hz6 hb6 hw6 hg6 hl6 HK5
  go_upto_region 16 with ((with_reducible refine (HAG.out).mono ?_);rintro e w7 ⟨z,rfl,_,hz2,hz3,hit7,col7,a7,h7,hj7,hg7⟩;have HK7:=hide h7;have HJ7:=hide hj7;have HB7:=hide (HB6.out.trans hg7.low);have HIT:=hide hit7;have HZ67:=hide ((hg7.keep g6 rfl HL6.out).trans HZ6.out);have HL67:=hide (Nat.lt_of_lt_of_le HL6.out hg7.size);clear h7 hj7 hg7 hit7 HAG)
  have hz8:=heap_alloc_new w7 (.cells #[.int .u64 2,.int .i64 z.k,.int .i64 z.s,.int .u64 z.t,.int .i64 z.x,.int .i64 z.e,.int .u64 0,.slice z.la 1 z.lc] 50)
  have hb8:=below_alloc (Below.refl w7.heap.size w7) (.cells #[.int .u64 2,.int .i64 z.k,.int .i64 z.s,.int .u64 z.t,.int .i64 z.x,.int .i64 z.e,.int .u64 0,.slice z.la 1 z.lc] 50)
  obtain ⟨w8,hw8⟩:∃ w8,w7.alloc (.cells #[.int .u64 2,.int .i64 z.k,.int .i64 z.s,.int .u64 z.t,.int .i64 z.x,.int .i64 z.e,.int .u64 0,.slice z.la 1 z.lc] 50)=w8:=⟨_,rfl⟩
  rw [hw8] at hz8 hb8 ⊢
  obtain ⟨g8,hg8⟩:∃ g,w7.heap.size=g:=⟨_,rfl⟩
  rw [hg8] at hz8 ⊢
  have hl8:=(Array.getElem?_eq_some_iff.1 hz8).1
  obtain ⟨gi,oi,hA,hgi,_,_,_,i3,i4⟩:=HIT.out.item hb8 (k:=0) (show 0 < 1 by decide)
  obtain ⟨_,_,_,_,_,_,p6,_⟩:=ans_cells ((hb8.block g6 HL67.out).trans HZ67.out)
  obtain ⟨_,_,_,_,_,_,_,r7⟩:=ans_cells hz8
  rw [hA] at r7
  have r7':w8.cell? ⟨g8,7,none⟩=some (.slice (some ⟨gi,oi,none⟩) 1 z.lc):=r7
  have i3':w8.cell? ⟨gi,oi+3,none⟩=some (.int .u64 8):=by simpa [y5] using i3
  have i4':w8.cell? ⟨gi,oi+4,none⟩=some (.int .i64 a3):=by simpa [y5] using i4
  have HB8:=hide (HB7.out.trans (hb8.mono HB7.out.size))
  have HK8:=hide (HK7.out.below hb8)
  clear r7 i3 i4 hA hb8 hw8 hz8 hg8
  go_quiet (fail)
  have hqd:=below_drewN (Below.refl w8.heap.size w8) nq
  obtain ⟨w9,hw9⟩:∃ w9,w8.drewN nq=w9:=⟨_,rfl⟩
  rw [hw9] at hqd ⊢
  have HB9:=hide (HB8.out.trans (hqd.mono HB8.out.size))
  have HK9:=hide (HK8.out.below hqd)
  clear hqd hw9 r7' i3' i4' p6 hgi
  by_cases hn1:nd=1
  ·have hnI:(nd:Int)=1:=by omega
   have HAW:=hide (HAWK.out _ HB9.out)
   go_wp2_with ((with_reducible refine (HAW.out).mono ?_);rintro e w10 ⟨rfl,hg10⟩;have HG10:=hide hg10;clear hg10)
   go_ret
   exact ⟨rfl,HB9.out.trans (HG10.out.mono HB9.out.size)⟩
  ·have hnI:¬ (nd:Int)=1:=by omega
   go_upto_block 2 with fail
   have hb1:((nd:Int) == 1)=false:=by rw [beq_eq_false_iff_ne];exact hnI
   rw [hb1]
   clear hb1
   go_cut [12] (fun upv W=>∃ (up:Nat→Bool) (col:Nat→Nat) (a:Cl),upv=.int .i64 ((cntC up n:Nat):Int)∧cntC up n < nd∧up 0=true∧CluV W ⟨w.heap.size,fun g=>g=g6⟩ c col a∧J2 n up s a3 a∧Below w.heap.size w W)
   case first =>
    go_wp2_with fail
    go_loopw [12,18] (fun upv i wr=>∃ (k:Nat) (up:Nat→Bool) (col:Nat→Nat) (a:Cl),1≤k∧k≤n∧i=.int .i64 k∧upv=.int .i64 ((cntC up n:Nat):Int)∧up 0=true∧(∀ q,1≤q→q < k→up q=false)∧CluV wr ⟨w.heap.size,fun g=>g=g6⟩ c col a∧J2 n up s a3 a∧Below w.heap.size w wr) (fun _ i _=>n - (intOf i).toNat)
    case atStart=>exact ⟨1,up,col7,a7,by omega,by omega,rfl,by rw [HCN.out],HU0.out,fun q h1 h2=>by omega,HK9.out,HJ7.out,HB9.out⟩
    case round =>
     obtain ⟨k,up2,col1,a1',hk1,hkn,rfl,rfl,hu0,hdn,h1,h2,h3⟩:=hrel
     have HK1:=hide h1
     have HF1:=hide h2
     have HB1:=hide h3
     have HDN:=hide hdn
     have HU02:=hide hu0
     obtain ⟨cn2,hcnn⟩:∃ cn2,cntC up2 n=cn2:=⟨_,rfl⟩
     have hc7:cn2≤n:=by rw [← hcnn];exact cntC_le up2 n
     rw [hcnn]
     have HCN2:=hide hcnn
     have hk0:(0:Int)≤(k:Int):=by omega
     clear h1 h2 h3 hdn hu0 hcnn
     by_cases hlt:k < n
     ·have hkI:(k:Int) < (n:Int):=by omega
      by_cases hne:nd≤cn2
      ·have hcI:(nd:Int)≤(cn2:Int):=by omega
       have hcI2:¬ (cn2:Int) < (nd:Int):=by omega
       have HRT:=hide (show k < n∧nd≤cn2∧1≤k∧cn2≤n from ⟨hlt,hne,hk1,hc7⟩)
       obtain ⟨p,hp⟩:∃ p,a1'.ps[k]? = some p:=⟨_,List.getElem?_eq_getElem (by rw [HF1.out.1.ps];exact hlt)⟩
       obtain ⟨P,hP⟩:∃ P,a1'.P[k]? = some P:=⟨_,List.getElem?_eq_getElem (by rw [HF1.out.1.pl];exact hlt)⟩
       cases huk:up2 k with
       | false =>
        have HUP:=hide (cup_down HK1.out hp hP ((HF1.out.1.nd k P hP).1.trans huk))
        have HUK:=hide huk
        clear hp hP huk
        go_wp2_with ((with_reducible refine (HUP.out).mono ?_);rintro e w4 ⟨rfl,rfl⟩)
        go_roundw
        case rel=>exact ⟨k+1,up2,col1,a1',by omega,by have:=HRT.out;omega,by go_num,by rw [HCN2.out],HU02.out,fun q h1 h2=>by
         by_cases e:q=k
         ·rw [e];exact HUK.out
         ·exact HDN.out q h1 (by omega),HK1.out,HF1.out,HB1.out⟩
        case measure=>have:=HRT.out;simp [intOf];omega
       | true =>
        have HUP:=hide (cup_any HK1.out hp hP ((HF1.out.1.nd k P hP).1.trans huk))
        have HCR:=hide (clcrash_any HK1.out hp hP ((HF1.out.1.nd k P hP).1.trans huk))
        have HF2:=hide (awn_crash HF1.out.1 hP)
        have HCD:=hide (cnt_down hlt huk)
        obtain ⟨c2,hc2⟩:∃ c2:Nat,cn2=c2+1:=⟨cn2 - 1,by omega⟩
        have hc2I:(cn2:Int) - 1=(c2:Int):=by omega
        have HC2:=hide hc2
        clear hp hP huk hc2
        go_wp2_with (first
         | ((with_reducible refine (HUP.out).mono ?_);rintro e w4 ⟨rfl,rfl⟩)
         | ((with_reducible refine (HCR.out).mono ?_);rintro e w4 ⟨rfl,col4,h4,hg4⟩;have HK4:=hide h4;have HB4:=hide (HB1.out.trans hg4.low);clear h4 hg4))
        go_roundw
        case rel=>exact ⟨k+1,upN up2 k false,col4,_,by omega,by have:=HRT.out;omega,by go_num,by have h1:=HCD.out;have h2:=HCN2.out;have h3:=HC2.out;rw [show cntC (upN up2 k false) n=c2 by omega],by rw [upN_self (by have:=HRT.out;omega)];exact HU02.out,fun q h1 h2=>by
         by_cases e:q=k
         ·rw [e];exact upN_at
         ·rw [upN_self (fun h=>e h.symm)];exact HDN.out q h1 (by omega),HK4.out,⟨HF2.out,HF1.out.2⟩,HB4.out⟩
        case measure=>have:=HRT.out;simp [intOf];omega
      ·have hcI:¬ (nd:Int)≤(cn2:Int):=by omega
       have hcI2:(cn2:Int) < (nd:Int):=by omega
       go_wp2_with fail
       go_meet
       exact ⟨up2,col1,a1',by rw [HCN2.out],by rw [HCN2.out];omega,HU02.out,HK1.out,HF1.out,HB1.out⟩
     ·have hkI:¬ (k:Int) < (n:Int):=by omega
      have hone:=cnt_one HU02.out n hn7.1 (fun q h1 h2=>HDN.out q h1 (by omega))
      have HO:=hide (show cntC up2 n < nd by omega)
      clear hone
      go_wp2_with fail
      go_meet
      exact ⟨up2,col1,a1',by rw [HCN2.out],HO.out,HU02.out,HK1.out,HF1.out,HB1.out⟩
   case rest =>
    obtain ⟨up2,col8,a8,rfl,hlt2,hu02,h1,h2,h3⟩:=hcut
    have HLC:=hide (late_call HN.out h1 h2 hu02)
    have HB10:=hide h3
    have HU2:=hide hu02
    have HLT2:=hide (show cntC up2 n < n / 2+1 by omega)
    clear h1 h2 h3 hu02 hlt2
    generalize ((cntC up2 n:Nat):Int)=cn3
    go_upto_region 32 with (first
     | ((with_reducible refine (HLC.out).mono ?_);rintro e w10 ⟨rfl,col10,a10,h10,hi10,hg10⟩;have HCM:=hide (late_calm HN.out h10 hi10 HU2.out HLT2.out);have HB11:=hide (HB10.out.trans hg10.low);clear h10 hi10 hg10)
     | ((with_reducible refine (HCM.out).mono ?_);rintro e w11 ⟨rfl,col11,a11,h11,hj11,hg11⟩;have HAN:=hide (late_answer h11 hj11);have HB12:=hide (HB11.out.trans hg11.low);clear h11 hj11 hg11)
     | ((with_reducible refine (HAN.out).mono ?_);rintro e w12 ⟨y5,m,hm4,hy5,g7,o7,ln,k5,la,lc,rfl,hln,hg12,hl7,q0,q1,q2,q3,q4,q5,q6,q7,_⟩;obtain ⟨e1,e2,e3,e4⟩:y5.1.id=3∧y5.1.e=20∧y5.1.v=0∧y5.2=[]:=(by simpa [AnS] using hy5);rw [e1] at q0;rw [e2] at q5;rw [e3] at q6;rw [e4] at q7;have HB13:=hide (HB12.out.trans (hg12.mono HB12.out.size));have hne:¬ (ln:Int)=0:=(by omega);have hsub:(ln:Int) - 1=(m:Int):=(by omega);have hlt:(m:Int) < (ln:Int):=(by omega);have hm0:(0:Int)≤(m:Int):=(by omega);have hwr:IntKind.i64.wrap ((ln:Int) - 1)=(m:Int):=(by rw [hsub,IntKind.wrap_i64];omega);clear hg12 hy5 hln e1 e2 e3 e4 HAN HCM HLC))
    have q7':w12.cell? ⟨g7,o7+m * 8+7,none⟩=some (.slice la 0 lc):=q7
    clear q7
    go_upto_region 33 with fail
    have hz14:=heap_alloc_new w12 (.cells #[.int .u64 3,.int .i64 y5.1.k,.int .i64 y5.1.s,.int .u64 y5.1.t,.int .i64 y5.1.x,.int .i64 20,.int .u64 0,.slice la 0 lc] 50)
    have hb14:=below_alloc (Below.refl w12.heap.size w12) (.cells #[.int .u64 3,.int .i64 y5.1.k,.int .i64 y5.1.s,.int .u64 y5.1.t,.int .i64 y5.1.x,.int .i64 20,.int .u64 0,.slice la 0 lc] 50)
    obtain ⟨w14,hw14⟩:∃ w14,w12.alloc (.cells #[.int .u64 3,.int .i64 y5.1.k,.int .i64 y5.1.s,.int .u64 y5.1.t,.int .i64 y5.1.x,.int .i64 20,.int .u64 0,.slice la 0 lc] 50)=w14:=⟨_,rfl⟩
    rw [hw14] at hz14 hb14 ⊢
    obtain ⟨g14,hg14⟩:∃ g,w12.heap.size=g:=⟨_,rfl⟩
    rw [hg14] at hz14 ⊢
    have hl14:=(Array.getElem?_eq_some_iff.1 hz14).1
    obtain ⟨r0,r1,r2,r3,r4,r5,r6,r7⟩:=ans_cells hz14
    have HB14:=hide (HB13.out.trans (hb14.mono HB13.out.size))
    have HAW:=hide (HAWK.out w14 HB14.out)
    clear hw14 hg14 hb14 hz14 q0 q1 q2 q3 q4 q5 q6 q7' hne hsub hlt hm0 hwr
    go_wp2_with ((with_reducible refine (HAW.out).mono ?_);rintro e w15 ⟨rfl,hg15⟩;have HG15:=hide hg15;clear hg15)
    go_ret
    exact ⟨rfl,HB14.out.trans (HG15.out.mono HB14.out.size)⟩
end Go.Proofs.YtgmkckjedngkdaaGreatDoor.topMajority
