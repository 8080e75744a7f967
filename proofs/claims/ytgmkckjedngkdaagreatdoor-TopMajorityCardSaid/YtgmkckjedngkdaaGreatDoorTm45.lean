/- A part of the proof that TopMajorityLaw holds: XZMam. Conditions: as typed. -/
import Derived.Test.YtgmkckjedngkdaaGreatDoorTm42
import Derived.Test.YtgmkckjedngkdaaGreatDoorTm44
set_option linter.unusedVariables false
set_option linter.unusedSimpArgs false
namespace Go.Proofs.YtgmkckjedngkdaaGreatDoor.topMajority
open Go.ChangeShapes Go.WideShapes Go.ChangeAt Go.RowKit
section
variable {w:World} {base:Bs} {c n:Nat} {up:Nat→Bool} {m T:Int} {col:Nat→Nat} {a:Cl} {s v:Int} {q:Cq} {AL:List Ans4} {ids:Int}
def downs (up:Nat→Bool) (n:Nat):List Nat:=(List.range n).filter fun j=>!up j
theorem downs_len:(downs up n).length+cntC up n=n:=filter_cnt up n
theorem downs_mem {i:Nat}:i ∈ downs up n ↔ i < n∧up i=false:=by
 unfold downs
 rw [List.mem_filter,List.mem_range]
 simp
theorem cs_all {i:Nat} (hi:i < n):cs up n (ups up n).length i=up i:=by
 unfold cs
 rw [List.take_length]
 cases h:up i with
 | true=>exact decide_eq_true (ups_mem.2 ⟨hi,h⟩)
 | false=>exact decide_eq_false (fun e=>by have:=(ups_mem.1 e).2;rw [h] at this;cases this)
def cT (n:Nat) (up:Nat→Bool) (s v:Int) (q:Cq) (t:Nat):Co:=co n s q (cs up n (ups up n).length) (gs s v q (ups up n).length) t
def PT (n:Nat) (up:Nat→Bool) (s v:Int) (q:Cq) (m ids:Int) (AL:List Ans4) (t e:Nat) (a:Cl):Prop :=
 AwN n up (m+10 * t) t a (((downs up n).drop e).map (sM s v q)) (fun _=>[y5 s v]) (if t < 20 then some (cT n up s v q t) else none) (if t < 20 then AL else AL ++ [(q.id,20,q.v,[])])∧a.ids=ids
def snd (n:Nat) (up:Nat→Bool) (s v:Int) (q:Cq) (t:Nat):List Mg:=if t+1 ≠ 20∧(t+1) % 3=0 then (downs up n).map (sM s v q) else []
theorem send_eq (hk:q.k=3) (C:Nat→Bool) (hC:∀ j,j < n→C j=up j) (G:List Gt) (tk:Int):csendTo (tick1C (co n s q C G tk)) n=(downs up n).map (sM s v q):=by
 unfold csendTo downs
 have h1:((List.range n).filter fun j=>!(tick1C (co n s q C G tk)).C j)=(List.range n).filter fun j=>!up j:=by
  refine List.filter_congr (fun j hj=>?_)
  show (!C j)=!up j
  rw [hC j (List.mem_range.1 hj)]
 rw [h1]
 refine List.map_congr_left (fun j _=>?_)
 unfold toC sM
 rw [if_pos (show (tick1C (co n s q C G tk)).ck=3 from hk),if_pos hk]
 rfl
theorem tick_M (hk:q.k=3) (t:Nat):ctickM (cT n up s v q t)=snd n up s v q t:=by
 unfold ctickM snd
 rw [if_neg (show ¬ (cT n up s v q t).dn=true from Bool.false_ne_true)]
 have htk:(cT n up s v q t).tk=(t:Int):=rfl
 have hn:(cT n up s v q t).n.toNat=n:=Int.toNat_natCast n
 rw [htk,hn]
 by_cases h1:t+1=20
 ·rw [if_pos (by omega),if_neg (by omega)]
 ·rw [if_neg (by omega)]
  by_cases h2:(t+1) % 3=0
  ·rw [if_pos (by omega),if_pos ⟨h1,h2⟩]
   exact send_eq hk _ (fun j hj=>cs_all hj) _ _
  ·rw [if_neg (by omega),if_neg (fun e=>h2 e.2)]
theorem tick_R (t:Nat):ctickR (cT n up s v q t)=if t+1=20 then end1C (cT n up s v q (t+1)) 20 q.v [] else cT n up s v q (t+1):=by
 unfold cT co
 by_cases h:t+1=20
 ·rw [if_pos h,ctick_late (by omega)]
  rfl
 ·rw [if_neg h,ctick_more (by omega)]
  rfl
def PJ (n:Nat) (up:Nat→Bool) (s v:Int) (q:Cq) (m ids:Int) (AL:List Ans4) (t k:Nat) (a:Cl):Prop :=
 if k=0 then PT n up s v q m ids AL t (downs up n).length a
 else AwN n up (m+10 * (t+1:Nat)) (t+1:Nat) a (snd n up s v q t) (fun _=>[y5 s v]) (if t+1 < 20 then some (cT n up s v q (t+1)) else none) (if t+1 < 20 then AL else AL ++ [(q.id,20,q.v,[])])∧a.ids=ids∧∀ (i:Nat) (P:Pl),a.P[i]? = some P→k≤i→up i=true→P.N.now≤(t:Int)
theorem pj_round {t:Nat} (ht:t < 20) (hn:n ≠ 0) (I:PJ n up s v q m ids AL t n a):PT n up s v q m ids AL (t+1) (if t+1 ≠ 20∧(t+1) % 3=0 then 0 else (downs up n).length) a:=by
 unfold PJ at I
 rw [if_neg hn] at I
 refine ⟨I.1.to (Int.le_refl _) ?_ (fun _ _ _=>rfl) rfl rfl,I.2.1⟩
 unfold snd
 split
 ·rfl
 ·rw [List.drop_length];rfl
set_option maxHeartbeats 1600000 in
theorem pj_tick (h:Nums n s v) (hq:CqOk v q) (hk3:q.k=3) (hm:0≤m∧m≤500) (hAL:AL.length≤90) (h0:up 0=true) {t:Nat} (ht:t < 20) (k:Nat) (hk:k < n) (I:PJ n up s v q m ids AL t k a) (H:CluV w base c col a) :
 Calls Tryz.prog 54 #[ptv c,.int .i64 k] w fun e w'=>(∃ B,e=.returned (.bool B))∧∃ col' a',CluV w' base c col' a'∧PJ n up s v q m ids AL t (k+1) a'∧Bek base w w':=by
 have h7:=h.n
 have hul:(ups up n).length≤7:=by rw [ups_len];have:=cntC_le up n;omega
 have hdl:(downs up n).length≤7:=by have:=downs_len (up:=up) (n:=n);omega
 unfold PJ at I ⊢
 simp only [if_neg (show ¬ k+1=0 by omega)]
 by_cases hk0:k=0
 ·subst hk0
  rw [if_pos rfl] at I
  obtain ⟨I,hids⟩:=I
  rw [List.drop_length,if_pos ht,if_pos ht] at I
  obtain ⟨p,P,hp,hP⟩:=I.at_ hk
  obtain ⟨hpu,hx⟩:=I.nd 0 P hP
  obtain ⟨hid,hnd,hn1,hn2,hgr⟩:=hx h0
  have hu:P.up=true:=hpu.trans h0
  have hjb:=I.job 0 P hP
  rw [if_pos rfl] at hjb
  obtain ⟨x,hjx,hx2⟩:=Option.map_eq_some_iff.1 hjb
  obtain ⟨b,R⟩:=x
  simp only at hx2
  subst hx2
  have hiP:0 < a.P.length:=(List.getElem?_eq_some_iff.1 hP).1
  have hck:=co_k (q:=q) (C:=cs up n (ups up n).length) (d:=(ups up n).length) (tk:=(t:Int)) h (by omega) (by omega)
  have hMl:(snd n up s v q t).length≤7:=by unfold snd;split <;> simp [hdl]
  have hall:a.AL.length=AL.length:=by rw [← I.al,List.length_map]
  have hsem:=I.se
  refine (cltick_job H hp hP hu hjx ⟨hn1,by omega⟩ hnd.ce hgr hck.1.n hck.1.cs hck.1.tk hck.1.d (fun y hy=>?_) ?_ (by omega) (by rw [I.C,tick_M hk3];show 0+_≤300;omega) ⟨I.se.1,by omega⟩).mono ?_
  ·rw [tick_M hk3] at hy
   unfold snd at hy
   split at hy
   ·obtain ⟨j,hj,rfl⟩:=List.mem_map.1 hy
    refine ⟨sM_ok h hq (downs_mem.1 hj).1,?_⟩
    unfold sM
    rw [if_pos hk3]
   ·cases hy
  ·rw [tick_R]
   split
   ·show (endA 20 []).length≤_
    unfold endA
    simp
   ·show ([]:List It).length≤_
    decide
  ·rintro e w' ⟨rfl,col',rb',va',vj',AL',g1,g2,g3⟩
   rw [tick_M hk3] at g1
   refine ⟨⟨_,rfl⟩,col',_,g1,⟨⟨I.ps,by show (a.P.set _ _).length=n;rw [List.length_set];exact I.pl,?_,fun k Q hQ=>?_,fun k Q hQ=>?_,?_,?_⟩,hids,fun k Q hQ hk1 hku=>?_⟩,g3⟩
   ·show a.C ++ _=_
    rw [I.C]
    rfl
   ·rw [List.getElem?_set] at hQ
    by_cases hk:0=k
    ·rw [if_pos hk,if_pos hiP] at hQ
     cases hQ
     rw [← hk]
     exact ⟨hpu,fun _=>⟨hid,hnd,by show 0≤P.N.now+1;omega,by show P.N.now+1≤((t+1:Nat):Int);omega,hgr⟩⟩
    ·rw [if_neg hk] at hQ
     obtain ⟨e1,e2⟩:=I.nd k Q hQ
     exact ⟨e1,fun hu=>⟨(e2 hu).1,(e2 hu).2.1,(e2 hu).2.2.1,by have:=(e2 hu).2.2.2.1;omega,(e2 hu).2.2.2.2⟩⟩
   ·rw [List.getElem?_set] at hQ
    by_cases hk:0=k
    ·rw [if_pos hk,if_pos hiP] at hQ
     cases hQ
     rw [← hk,if_pos rfl]
     show (endJ b (ctickR (cT n up s v q t))).map Prod.snd=_
     rw [tick_R]
     by_cases e:t+1=20
     ·rw [if_pos e,if_neg (by omega)]
      rfl
     ·rw [if_neg e,if_pos (by omega)]
      rfl
    ·rw [if_neg hk] at hQ
     rw [I.job k Q hQ,if_neg (by omega),if_neg (by omega)]
   ·show AL'.map AnS=_
    rcases g2 with ⟨hd,e⟩ | ⟨hd,la,lc,e⟩
    ·rw [tick_R] at hd
     by_cases e1:t+1=20
     ·rw [if_pos e1] at hd
      cases hd
     ·rw [e,if_pos (by omega)]
      exact I.al
    ·rw [tick_R] at hd e
     by_cases e1:t+1=20
     ·rw [if_pos e1] at e
      rw [e,if_neg (by omega),List.map_append,I.al]
      rfl
     ·rw [if_neg e1] at hd
      cases hd
   ·show 0≤a.se+_∧a.se+_≤_
    omega
   ·have hQ':(a.P.set 0 _)[k]? = some Q:=hQ
    rw [List.getElem?_set,if_neg (by omega)] at hQ'
    exact ((I.nd k Q hQ').2 hku).2.2.2.1
 ·rw [if_neg hk0] at I
  obtain ⟨I,hids,hold⟩:=I
  obtain ⟨p,P,hp,hP⟩:=I.at_ hk
  obtain ⟨hpu,hx⟩:=I.nd k P hP
  have hkP:k < a.P.length:=(List.getElem?_eq_some_iff.1 hP).1
  cases hu:P.up with
  | false =>
   refine (cltick_down H hp hP hu).mono ?_
   rintro e w' ⟨rfl,rfl⟩
   exact ⟨⟨_,rfl⟩,col,a,H,⟨I,hids,fun i Q hQ hi hiu=>hold i Q hQ (by omega) hiu⟩,Bek.refl _ _⟩
  | true =>
   have huk:up k=true:=hpu.symm.trans hu
   obtain ⟨hid,hnd,hn1,hn2,hgr⟩:=hx huk
   have hnow:=hold k P hP (Nat.le_refl _) huk
   have hjb:=I.job k P hP
   rw [if_neg hk0] at hjb
   have hj0:P.job=none:=Option.map_eq_none_iff.1 hjb
   refine (cltick_none H hp hP hu hj0 ⟨hn1,by omega⟩ hnd.ce hgr).mono ?_
   rintro e w' ⟨rfl,col',g1,g3⟩
   refine ⟨⟨_,rfl⟩,col',_,g1,⟨⟨I.ps,by show (a.P.set _ _).length=n;rw [List.length_set];exact I.pl,I.C,fun i Q hQ=>?_,fun i Q hQ=>?_,I.al,I.se⟩,hids,fun i Q hQ hi hiu=>?_⟩,g3⟩
   ·rw [List.getElem?_set] at hQ
    by_cases he:k=i
    ·rw [if_pos he,if_pos hkP] at hQ
     cases hQ
     rw [← he]
     exact ⟨hpu,fun _=>⟨hid,hnd,by show 0≤P.N.now+1;omega,by show P.N.now+1≤((t+1:Nat):Int);omega,hgr⟩⟩
    ·rw [if_neg he] at hQ
     exact I.nd i Q hQ
   ·rw [List.getElem?_set] at hQ
    by_cases he:k=i
    ·rw [if_pos he,if_pos hkP] at hQ
     cases hQ
     rw [← he,if_neg hk0]
     exact hjb
    ·rw [if_neg he] at hQ
     exact I.job i Q hQ
   ·have hQ':(a.P.set k _)[i]? = some Q:=hQ
    rw [List.getElem?_set,if_neg (by omega)] at hQ'
    exact hold i Q hQ' (by omega) hiu
theorem pt_lost (hdw:∀ j ∈ downs up n,up j=false) {t e:Nat} (he:e < (downs up n).length) (I:PT n up s v q m ids AL t e a) (H:CluV w base c col a) :
 Calls Tryz.prog 52 #[ptv c,.int .i64 0] w fun e' w'=>e'=.returned (.bool true)∧∃ col' a',CluV w' base c col' a'∧PT n up s v q m ids AL t (e+1) a'∧Bek base w w':=by
 obtain ⟨I,hids⟩:=I
 rw [List.drop_eq_getElem_cons he,List.map_cons] at I
 have hm:=downs_mem.1 (List.getElem_mem he)
 refine (awn_lost H I _ hm.1 hm.2 (by unfold sM;split <;> rfl)).mono ?_
 rintro e' w' ⟨rfl,col',a',h1,⟨h2,h3⟩,h4⟩
 exact ⟨rfl,col',a',h1,⟨h2,by rw [h3];exact hids⟩,h4⟩
theorem pb_pt (hu:(ups up n).length < n / 2+1) (I:PB n up s v q m 0 ids AL (ups up n).length a):PT n up s v q (m+(ups up n).length) ids AL 0 (downs up n).length a:=by
 obtain ⟨I,hids⟩:=I
 refine ⟨I.to (by omega) (by rw [List.drop_length,List.drop_length];rfl) (fun _ _ _=>rfl) ?_ ?_,hids⟩
 ·rw [if_pos hu,if_pos (by decide)]
  rfl
 ·rw [if_pos hu,if_pos (by decide)]
def leftT (D t e:Nat):Nat:=(D - e)+(20 - t)+D * (6 - t / 3)
theorem calm_late (h:Nums n s v) (hq:CqOk v q) (hk3:q.k=3) (hm:0≤m∧m≤400) (hAL:AL.length≤90) (h0:up 0=true) (hu:cntC up n < n / 2+1) (I:PA n up s v q m 0 ids AL 0 a) (H:CluV w base c col a) (most:Nat) (hmost:200≤most∧most≤1000000) :
 Calls Tryz.prog 20 #[ptv c,.int .i64 most] w fun e w'=>e=.returned (.bool true)∧∃ col' a',CluV w' base c col' a'∧(AwN n up (m+300) 20 a' [] (fun _=>[y5 s v]) none (AL ++ [(q.id,20,q.v,[])])∧a'.ids=ids)∧Bek base w w':=by
 have h7:=h.n
 obtain ⟨U,hU⟩:∃ U,(ups up n).length=U:=⟨_,rfl⟩
 obtain ⟨D,hD⟩:∃ D,(downs up n).length=D:=⟨_,rfl⟩
 have hul:U≤7∧U < n / 2+1:=by rw [← hU,ups_len];have:=cntC_le up n;omega
 have hdl:D≤7:=by have:=downs_len (up:=up) (n:=n);omega
 have hdw:∀ j ∈ downs up n,up j=false:=fun j hj=>(downs_mem.1 hj).2
 have hD6:D * 6≤42:=by omega
 refine (calm_gen H (fun r a=>(∃ k,k≤n∧r=(n - k)+U+20+D * 6∧PA n up s v q m 0 ids AL k a) ∨ (∃ d,d≤U∧r=(U - d)+20+D * 6∧PB n up s v q (m+n) 0 ids AL d a) ∨ (∃ t e,t≤20∧e≤D∧(t=20→e=D)∧r=leftT D t e∧PT n up s v q (m+n+U) ids AL t e a))
  (fun r k a=>∃ t,t < 20∧r=leftT D t D∧PJ n up s v q (m+n+U) ids AL t k a) (n+U+20+D * 6) most (.inl ⟨0,Nat.zero_le _,by omega,I⟩) (by omega) hmost.2 h7.2
  (fun r a hI=>?_) (fun r a w col hr hI hC H=>?_) (fun r a hr hI hC=>?_) (fun r k a w col hk hJ H=>?_) (fun r a hJ=>?_) (fun a hI=>?_)).mono ?_
 ·rcases hI with ⟨k,_,_,h1,_⟩ | ⟨d,_,_,h1,_⟩ | ⟨t,e,_,_,_,_,h1,_⟩
  ·exact h1.ps
  ·exact h1.ps
  ·exact h1.ps
 ·have hB:∀ d,d≤U→r=(U - d)+20+D * 6→PB n up s v q (m+n) 0 ids AL d a→Calls Tryz.prog 52 #[ptv c,.int .i64 0] w fun e w'=>e=.returned (.bool true)∧∃ col' a',CluV w' base c col' a'∧(∃ r',r' < r∧((∃ k,k≤n∧r'=(n - k)+U+20+D * 6∧PA n up s v q m 0 ids AL k a') ∨ (∃ d,d≤U∧r'=(U - d)+20+D * 6∧PB n up s v q (m+n) 0 ids AL d a') ∨ (∃ t e,t≤20∧e≤D∧(t=20→e=D)∧r'=leftT D t e∧PT n up s v q (m+n+U) ids AL t e a')))∧Bek base w w':=fun d hd hr h1=>by
   by_cases hlt:d < U
   ·refine (pb_step h hq (by omega) hAL h0 d (by rw [hU];exact hlt) h1 H).mono ?_
    rintro e w' ⟨e1,col',a',g1,g2,g3⟩
    exact ⟨e1,col',a',g1,⟨(U - (d+1))+20+D * 6,by omega,.inr (.inl ⟨d+1,by omega,rfl,g2⟩)⟩,g3⟩
   ·exfalso
    rw [h1.1.C,List.length_map,List.length_drop,hU] at hC
    omega
  rcases hI with ⟨k,hk,hr,h1⟩ | ⟨d,hd,hr,h1⟩ | ⟨t,e,ht,he,hte,hr,h1⟩
  ·by_cases hlt:k < n
   ·refine (pa_step h hq (by omega) hAL k hlt h1 H).mono ?_
    rintro e w' ⟨e1,col',a',g1,g2,g3⟩
    exact ⟨e1,col',a',g1,⟨(n - (k+1))+U+20+D * 6,by omega,.inl ⟨k+1,by omega,rfl,g2⟩⟩,g3⟩
   ·obtain rfl:k=n:=by omega
    exact hB 0 (Nat.zero_le _) (by omega) (pa_pb h1)
  ·exact hB d hd hr h1
  ·by_cases hlt:e < D
   ·refine (pt_lost hdw (by rw [hD];exact hlt) h1 H).mono ?_
    rintro e' w' ⟨e1,col',a',g1,g2,g3⟩
    refine ⟨e1,col',a',g1,⟨leftT D t (e+1),?_,.inr (.inr ⟨t,e+1,ht,by omega,fun h20=>by have:=hte h20;omega,rfl,g2⟩)⟩,g3⟩
    rw [hr]
    unfold leftT
    omega
   ·exfalso
    rw [h1.1.C,List.length_map,List.length_drop,hD] at hC
    omega
 ·have hT:∀ t,t≤20→r=leftT D t D→PT n up s v q (m+n+U) ids AL t D a→a.P.any hasJ=true∧∃ t,t < 20∧r=leftT D t D∧PJ n up s v q (m+n+U) ids AL t 0 a:=fun t ht hrt h1=>by
   have ht20:t < 20:=by
    rcases Nat.lt_or_ge t 20 with e | e
    ·exact e
    ·obtain rfl:t=20:=by omega
     unfold leftT at hrt
     omega
   refine ⟨?_,t,ht20,hrt,by unfold PJ;rw [if_pos rfl,hD];exact h1⟩
   obtain ⟨h1,_⟩:=h1
   rw [if_pos ht20] at h1
   obtain ⟨p,P,hp,hP⟩:=h1.at_ (i:=0) (by omega)
   have hjb:=h1.job 0 P hP
   rw [if_pos rfl] at hjb
   obtain ⟨x,hjx,_⟩:=Option.map_eq_some_iff.1 hjb
   have hu:P.up=true:=(h1.nd 0 P hP).1.trans h0
   exact List.any_eq_true.2 ⟨P,List.mem_of_getElem? hP,by unfold hasJ;rw [hjx,hu];rfl⟩
  have hU1:1≤U:=by
   rw [← hU]
   exact List.length_pos_of_mem (ups_mem.2 ⟨by omega,h0⟩:0 ∈ ups up n)
  rcases hI with ⟨k,hk,hr,h1⟩ | ⟨d,hd,hr,h1⟩ | ⟨t,e,ht,he,hte,hr,h1⟩
  ·exfalso
   rw [h1.1.C,List.length_append,List.length_map,List.length_map,List.length_drop,List.length_range] at hC
   by_cases e:k < n
   ·omega
   ·obtain rfl:k=n:=by omega
    omega
  ·rw [h1.1.C,List.length_map,List.length_drop,hU] at hC
   obtain rfl:d=U:=by omega
   have h2:=pb_pt (m:=m+n) (by rw [hU];exact hul.2) (by rw [hU];exact h1)
   rw [hU,hD] at h2
   exact hT 0 (by decide) (by rw [hr];unfold leftT;omega) h2
  ·rw [h1.1.C,List.length_map,List.length_drop,hD] at hC
   obtain rfl:e=D:=by omega
   exact hT t ht hr h1
 ·obtain ⟨t,ht,hr,h1⟩:=hJ
  refine (pj_tick h hq hk3 (by omega) hAL h0 ht k hk h1 H).mono ?_
  rintro e w' ⟨hB,col',a',g1,g2,g3⟩
  exact ⟨hB,col',a',g1,⟨t,ht,hr,g2⟩,g3⟩
 ·obtain ⟨t,ht,hr,h1⟩:=hJ
  have h2:=pj_round ht (by omega) h1
  rw [hD] at h2
  by_cases e:t+1 ≠ 20∧(t+1) % 3=0
  ·rw [if_pos e] at h2
   refine ⟨leftT D (t+1) 0,?_,.inr (.inr ⟨t+1,0,by omega,by omega,fun e2=>absurd e2 e.1,rfl,h2⟩)⟩
   have e3:6 - t / 3=(6 - (t+1) / 3)+1:=by omega
   rw [hr]
   unfold leftT
   rw [e3,Nat.mul_add]
   omega
  ·rw [if_neg e] at h2
   refine ⟨leftT D (t+1) D,?_,.inr (.inr ⟨t+1,D,by omega,Nat.le_refl _,fun _=>rfl,rfl,h2⟩)⟩
   rw [hr]
   unfold leftT
   have e3:6 - (t+1) / 3≤6 - t / 3:=by omega
   have e4:=Nat.mul_le_mul_left D e3
   omega
 ·rcases hI with ⟨k,hk,hr,h1⟩ | ⟨d,hd,hr,h1⟩ | ⟨t,e,ht,he,hte,hr,h1⟩
  ·omega
  ·omega
  ·unfold leftT at hr
   obtain rfl:t=20:=by omega
   obtain rfl:=hte rfl
   obtain ⟨h1,_⟩:=h1
   refine ⟨by rw [h1.C,← hD,List.drop_length];rfl,?_⟩
   rw [List.any_eq_false]
   intro P hP hj
   obtain ⟨j,hj1,rfl⟩:=List.getElem_of_mem hP
   have h8:=h1.job j _ (List.getElem?_eq_getElem hj1)
   rw [if_neg (show ¬ (20:Nat) < 20 by decide)] at h8
   have h9:(a.P[j].job).map Prod.snd=none:=by rw [h8];split <;> rfl
   unfold hasJ at hj
   rw [Option.map_eq_none_iff.1 h9] at hj
   simp at hj
 ·rintro e w' ⟨e1,col',a',g1,hI,g3⟩
  refine ⟨e1,col',a',g1,?_,g3⟩
  rcases hI with ⟨k,hk,hr,h1⟩ | ⟨d,hd,hr,h1⟩ | ⟨t,e,ht,he,hte,hr,h1⟩
  ·omega
  ·omega
  ·unfold leftT at hr
   obtain rfl:t=20:=by omega
   obtain rfl:=hte rfl
   obtain ⟨h1,h2⟩:=h1
   exact ⟨h1.to (by omega) (by rw [← hD,List.drop_length];rfl) (fun _ _ _=>rfl) (by rw [if_neg (by omega)]) (by rw [if_neg (by omega)]),h2⟩
end
end Go.Proofs.YtgmkckjedngkdaaGreatDoor.topMajority
