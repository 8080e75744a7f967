/- A part of the proof that TopMajorityLaw holds: XZMaj, XZMak, XZMal. Conditions: as typed. -/
import Derived.Test.YtgmkckjedngkdaaGreatDoorTm31
import Derived.Test.YtgmkckjedngkdaaGreatDoorTm40
import Derived.Test.YtgmkckjedngkdaaGreatDoorTm41
set_option linter.unusedVariables false
set_option linter.unusedSimpArgs false
namespace Go.Proofs.YtgmkckjedngkdaaGreatDoor
open Go.ChangeShapes Go.WideShapes Go.ChangeAt Go.RowKit
def AnS (x:An × List It):Int × Int × Int × List It:=(x.1.id,x.1.e,x.1.v,x.2)
structure AwN (n:Nat) (up:Nat→Bool) (m T:Int) (a:Cl) (C:List Mg) (S:Nat→List It) (j:Option Co) (AL:List (Int × Int × Int × List It)):Prop where
 ps:a.ps.length=n
 pl:a.P.length=n
 C:a.C=C
 nd:∀ (i:Nat) (P:Pl),a.P[i]? = some P→P.up=up i∧(up i=true→P.N.id=(i:Int)∧NdR P.N.R (S i)∧0≤P.N.now∧P.N.now≤T∧0≤P.N.grace)
 job:∀ (i:Nat) (P:Pl),a.P[i]? = some P→P.job.map Prod.snd=if i=0 then j else none
 al:a.AL.map AnS=AL
 se:0≤a.se∧a.se≤m
noncomputable def alN (j:Option Co) (m:Mg) (AL:List (Int × Int × Int × List It)):List (Int × Int × Int × List It):=match j with
 | none=>AL
 | some R=>if (conR R m).dn=true then AL ++ [((conR R m).aid,(conR R m).ae,(conR R m).av,(conR R m).AL)] else AL
theorem AwN.to {n:Nat} {up:Nat→Bool} {m m' T:Int} {a:Cl} {C C':List Mg} {S S':Nat→List It} {j j':Option Co} {AL AL':List (Int × Int × Int × List It)} (I:AwN n up m T a C S j AL) (hm:m≤m') (hC:C=C') (hS:∀ q,q < n→up q=true→S q=S' q) (hj:j=j') (hA:AL=AL'):AwN n up m' T a C' S' j' AL':=by
 have hlt:∀ (i:Nat) (P:Pl),a.P[i]? = some P→i < n:=fun i P h=>by
  rw [← I.pl]
  exact (List.getElem?_eq_some_iff.1 h).1
 subst hA hC hj
 exact ⟨I.ps,I.pl,I.C,fun i P h=>⟨(I.nd i P h).1,fun hu=>by rw [← hS i (hlt i P h) hu];exact (I.nd i P h).2 hu⟩,I.job,I.al,I.se.1,Int.le_trans I.se.2 hm⟩
theorem AwN.at_ {n:Nat} {up:Nat→Bool} {m T:Int} {a:Cl} {C:List Mg} {S:Nat→List It} {j:Option Co} {AL:List (Int × Int × Int × List It)} (I:AwN n up m T a C S j AL) {i:Nat} (hi:i < n):∃ p P,a.ps[i]? = some p∧a.P[i]? = some P :=
 ⟨_,_,List.getElem?_eq_getElem (by rw [I.ps];exact hi),List.getElem?_eq_getElem (by rw [I.pl];exact hi)⟩
set_option maxHeartbeats 800000 in
theorem awn_step {w:World} {base:Bs} {c n:Nat} {up:Nat→Bool} {m T:Int} {col:Nat→Nat} {a:Cl} {m0:Mg} {rest:List Mg} {S:Nat→List It} {j:Option Co} {AL:List (Int × Int × Int × List It)} (H:CluV w base c col a) (I:AwN n up m T a (m0 :: rest) S j AL) (i:Nat) (hi:i < n) (hui:up i=true) (ht:m0.t=i) (rep:List Mg) (L':List It)
 (hH:∀ (W:World) (k:Nat→Nat) (x:Mg) (n:Nat) (N:Nr),x.bare=m0→x.rd W→(∀ ad,x.A=some ad→x.L ≠ []→k ad.block=0)→NodeO W base n (fun g=>k g=11+5 * i) N→N.id=(i:Int)→NdR N.R (S i)→Calls Tryz.prog 9 #[ptv n,x.val] W (HanP W base n (fun g=>k g=11+5 * i) N (fun r R'=>r=rep∧NdR R' L')))
 (hrep:(∀ r ∈ rep,mokB r=true)∧rep.length≤1) (hrl:rest.length≤200) (hse:m≤900) (hwf:∀ x ∈ m0.L,x.wf) (hn0:0≤m0.n) (hj:∀ R,i=0→j=some R→CoK R∧SmallC R∧(conR R m0).AL.length≤1099511627776) (hal:AL.length≤100) :
 Calls Tryz.prog 52 #[ptv c,.int .i64 0] w fun e w'=>e=.returned (.bool true)∧∃ col' a',CluV w' base c col' a'∧(AwN n up (m+1) T a' (rest ++ rep) (upN S i L') (if i=0 then jobS j m0 else j) (if i=0 then alN j m0 AL else AL)∧a'.ids=a.ids)∧Bek base w w':=by
 obtain ⟨p,P,hp,hP⟩:=I.at_ hi
 have hiP:i < a.P.length:=(List.getElem?_eq_some_iff.1 hP).1
 obtain ⟨hpu,hx⟩:=I.nd i P hP
 obtain ⟨hid,hnd,hn1,hn2,hgr⟩:=hx hui
 have hu:P.up=true:=hpu.trans hui
 have hjb:=I.job i P hP
 have hall:a.AL.length=AL.length:=by rw [← I.al,List.length_map]
 have hsem:=I.se
 refine (cdel_any H hp hP hu I.C ht (fun r R'=>r=rep∧NdR R' L') (fun W k x h1 h2 h3 h4=>hH W k x P.n P.N h1 h2 h3 h4 hid hnd) (fun r R' h=>by rw [h.1];exact hrep) (by rw [I.C,List.length_cons];omega) hwf hn0 (fun x hx=>?_) (by omega) ⟨I.se.1,by omega⟩).mono ?_
 ·rw [hx] at hjb
  by_cases h0:i=0
  ·rw [if_pos h0] at hjb
   exact hj x.2 h0 hjb.symm
  ·rw [if_neg h0] at hjb
   cases hjb
 ·rintro e w' ⟨rfl,r,R',⟨rfl,hR⟩,col',rb',va',vj',AL',h1,h2,h3⟩
  refine ⟨rfl,col',_,h1,⟨⟨I.ps,by show (a.P.set _ _).length=n;rw [List.length_set];exact I.pl,rfl,fun k Q hQ=>?_,fun k Q hQ=>?_,?_,?_⟩,rfl⟩,h3⟩
  ·have hQ':(a.P.set i { P with N:={ P.N with R:=R' },now:=seeM P.now m0,vj:=vj',job:=endO m0 P.job })[k]? = some Q:=hQ
   rw [List.getElem?_set] at hQ'
   unfold upN
   by_cases hk:i=k
   ·rw [if_pos hk,if_pos hiP] at hQ'
    rw [if_pos hk.symm]
    cases hQ'
    rw [← hk]
    exact ⟨hpu,fun _=>⟨hid,hR,hn1,hn2,hgr⟩⟩
   ·rw [if_neg hk] at hQ'
    rw [if_neg (fun e=>hk e.symm)]
    exact I.nd k Q hQ'
  ·have hQ':(a.P.set i { P with N:={ P.N with R:=R' },now:=seeM P.now m0,vj:=vj',job:=endO m0 P.job })[k]? = some Q:=hQ
   rw [List.getElem?_set] at hQ'
   by_cases hk:i=k
   ·rw [if_pos hk,if_pos hiP] at hQ'
    cases hQ'
    rw [← hk]
    show (endO m0 P.job).map Prod.snd=_
    by_cases h0:i=0
    ·rw [if_pos h0] at hjb
     rw [if_pos h0,if_pos h0,← hjb]
     cases hjj:P.job with
     | none=>rfl
     | some x =>
      show (endJ x.1 (conR x.2 m0)).map Prod.snd=(if (conR x.2 m0).dn=true then none else some (conR x.2 m0))
      unfold endJ
      split <;> rfl
    ·rw [if_neg h0] at hjb
     rw [if_neg h0]
     cases hjj:P.job with
     | none=>rfl
     | some x=>rw [hjj] at hjb;cases hjb
   ·rw [if_neg hk] at hQ'
    rw [I.job k Q hQ']
    by_cases h0:i=0
    ·rw [if_neg (by omega),if_neg (by omega)]
    ·rw [if_neg h0]
  ·show AL'.map AnS=_
   unfold AddO at h2
   by_cases h0:i=0
   ·rw [if_pos h0] at hjb
    rw [if_pos h0,← hjb]
    cases hjj:P.job with
    | none=>rw [hjj] at h2;rw [h2];exact I.al
    | some x =>
     rw [hjj] at h2
     show _=(if (conR x.2 m0).dn=true then AL ++ [_] else AL)
     rcases h2 with ⟨hd,e⟩ | ⟨hd,la,lc,e⟩
     ·rw [hd,e,if_neg (by decide)];exact I.al
     ·rw [hd,e,if_pos rfl,List.map_append,I.al];rfl
   ·rw [if_neg h0] at hjb
    rw [if_neg h0]
    cases hjj:P.job with
    | none=>rw [hjj] at h2;rw [h2];exact I.al
    | some x=>rw [hjj] at hjb;cases hjb
  ·have:=hrep.2
   show 0≤a.se+(r.length:Int)∧a.se+(r.length:Int)≤m+1
   omega
theorem awn_lost {w:World} {base:Bs} {c n:Nat} {up:Nat→Bool} {m T:Int} {col:Nat→Nat} {a:Cl} {m0:Mg} {rest:List Mg} {S:Nat→List It} {j:Option Co} {AL:List (Int × Int × Int × List It)} (H:CluV w base c col a) (I:AwN n up m T a (m0 :: rest) S j AL) (i:Nat) (hi:i < n) (hui:up i=false) (ht:m0.t=i) :
 Calls Tryz.prog 52 #[ptv c,.int .i64 0] w fun e w'=>e=.returned (.bool true)∧∃ col' a',CluV w' base c col' a'∧(AwN n up m T a' rest S j AL∧a'.ids=a.ids)∧Bek base w w':=by
 obtain ⟨p,P,hp,hP⟩:=I.at_ hi
 obtain ⟨hpu,hx⟩:=I.nd i P hP
 refine (cdel_down H hp hP (hpu.trans hui) I.C ht).mono ?_
 rintro e w' ⟨rfl,col',h1,h2⟩
 exact ⟨rfl,col',_,h1,⟨⟨I.ps,I.pl,rfl,I.nd,I.job,I.al,I.se⟩,rfl⟩,h2⟩
end Go.Proofs.YtgmkckjedngkdaaGreatDoor
namespace Go.Proofs.YtgmkckjedngkdaaGreatDoor.topMajority
open Go.ChangeShapes Go.WideShapes Go.ChangeAt Go.RowKit
def y5 (s x:Int):It:=⟨s,2,5,8,x⟩
structure Nums (n:Nat) (s x:Int):Prop where
 n:1≤n∧n≤7
 s:0≤s∧s≤255
 x:-9223372036854775808≤x∧x≤9223372036854775807
section
variable {n:Nat} {s x:Int}
theorem y5_good (h:Nums n s x):It.good (y5 s x):=⟨h.s,⟨by show (1:Int)≤8;decide,by show (8:Int)≤281474976710656;decide⟩,.inr ⟨rfl,by show (5:Int)≤1099511627776;decide⟩⟩
theorem y5_wf (h:Nums n s x):∀ y ∈ [y5 s x],y.wf:=by
 intro y hy
 rw [List.mem_singleton] at hy
 subst hy
 have h1:=h.s
 have h2:=h.x
 unfold It.wf y5
 refine ⟨⟨?_,?_⟩,⟨?_,?_⟩,⟨?_,?_⟩,⟨?_,?_⟩,h2⟩ <;> first | (simp only;omega) | simp only
theorem y5_join (h:Nums n s x):joinL [] [y5 s x]=[y5 s x]:=by
 rw [joinL_nil]
 show addL [] (y5 s x)=_
 unfold addL
 rw [goodB_true (y5_good h)]
 have h1:putL (y5 s x) []=[y5 s x]:=rfl
 rw [h1]
 simp [hides_self]
theorem y5_state (h:Nums n s x):IsState [y5 s x]:=by rw [← y5_join h];exact joinL_state _ _
theorem y5_again (h:Nums n s x):joinL [y5 s x] [y5 s x]=[y5 s x]:=by
 rw [joinL_of (y5_state h)]
 show addL [y5 s x] (y5 s x)=_
 unfold addL
 rw [goodB_true (y5_good h)]
 have h1:sameB (y5 s x) (y5 s x)=true:=sameB_true ⟨rfl,rfl,rfl⟩
 have h2:winsB (y5 s x) (y5 s x)=false:=winsB_false (by unfold It.wins;omega)
 simp [hides_self,h1,h2]
theorem y5_allow:allowB 0 [y5 s x]=true:=by rfl
theorem y5_ser:[y5 s x].filter (serP s)=[y5 s x]:=by
 have:serP s (y5 s x)=true:=decide_eq_true rfl
 simp [this]
structure Cq where
 k:Int
 id:Int
 t:Int
 x:Int
 v:Int
def co (n:Nat) (s:Int) (q:Cq) (C:Nat→Bool) (G:List Gt) (tk:Int):Co:=coG n 0 q.id q.k s q.t q.x q.v C G tk
def sM (s x:Int) (q:Cq) (j:Nat):Mg:=if q.k=3 then ⟨4,0,j,q.id,s,none,0,[]⟩ else ⟨1,0,j,q.id,0,none,0,[y5 s x]⟩
def rM (s x:Int) (q:Cq) (j:Nat):Mg:=if q.k=3 then ⟨5,j,0,q.id,0,none,0,[y5 s x]⟩ else ⟨2,j,0,q.id,0,none,0,[]⟩
def gM (s x:Int):Gt:=⟨0,none,0,[y5 s x]⟩
def gs (s x:Int) (q:Cq) (d:Nat):List Gt:=if q.k=3 then List.replicate d (gM s x) else []
def itM (s x:Int) (q:Cq):List It:=if q.k=3 then [y5 s x] else []
structure CqOk (x:Int) (q:Cq):Prop where
 k:(q.k=1∧q.t=5∧q.x=x∧q.v=8) ∨ q.k=3
 id:1≤q.id∧q.id≤1000
theorem sM_ok {q:Cq} (h:Nums n s x) (hq:CqOk x q) {j:Nat} (hj:j < n):mokB (sM s x q j)=true:=by
 have h1:=h.n
 have h2:=hq.id
 have h3:=h.s
 have hg:=goodB_true (y5_good h)
 unfold sM
 split <;> (unfold mokB nodeB withB;simp [hg];omega)
theorem rM_ok {q:Cq} (h:Nums n s x) (hq:CqOk x q) {j:Nat} (hj:j < n):mokB (rM s x q j)=true:=by
 have h1:=h.n
 have h2:=hq.id
 have hg:=goodB_true (y5_good h)
 unfold rM
 split <;> (unfold mokB nodeB withB;simp [hg];omega)
theorem joinG_gs (h:Nums n s x):∀ (d:Nat) (L:List It),(L=[] ∨ L=[y5 s x])→(List.replicate d (gM s x)).foldl (fun o g=>joinL o (takeG 0 g)) L=if d=0 then L else [y5 s x]
 | 0,L,_=>by simp
 | d+1,L,hL=>by
  rw [List.replicate_succ,List.foldl_cons]
  have ht:takeG 0 (gM s x)=[y5 s x]:=by unfold takeG gM;simp
  have h1:joinL L (takeG 0 (gM s x))=[y5 s x]:=by
   rw [ht]
   rcases hL with rfl | rfl
   ·exact y5_join h
   ·exact y5_again h
  rw [h1,joinG_gs h d _ (.inr rfl)]
  split <;> simp
theorem certG_gs (s x:Int):∀ d:Nat,certG (List.replicate d (gM s x))=0
 | 0=>rfl
 | d+1=>by
  have h1:=certG_gs s x d
  unfold certG at h1 ⊢
  rw [List.replicate_succ,List.foldl_cons]
  exact h1
theorem items_gs (h:Nums n s x) {q:Cq} {d:Nat} (hd:1≤d):itemsC (gs s x q d) s=itM s x q:=by
 unfold itemsC gs itM
 split
 ·rw [certG_gs]
  unfold joinG
  rw [joinG_gs h d [] (.inl rfl),if_neg (by omega)]
  exact y5_ser
 ·rfl
theorem got_gs {q:Cq} {d:Nat} {j:Nat}:gotL q.k (gs s x q d) (rM s x q j)=gs s x q (d+1):=by
 unfold gotL gs
 by_cases h:q.k=3
 ·rw [if_pos h,if_pos h,if_pos h]
  unfold rM
  rw [if_pos h]
  rw [List.replicate_succ']
  rfl
 ·rw [if_neg h,if_neg h,if_neg h]
def ups (up:Nat→Bool) (k:Nat):List Nat:=(List.range k).filter up
theorem ups_yes {up:Nat→Bool} {k:Nat} (h:up k=true):ups up (k+1)=ups up k ++ [k]:=by
 unfold ups
 rw [List.range_succ,List.filter_append,List.filter_cons,h]
 rfl
theorem ups_no {up:Nat→Bool} {k:Nat} (h:up k=false):ups up (k+1)=ups up k:=by
 unfold ups
 rw [List.range_succ,List.filter_append,List.filter_cons,h]
 simp
theorem ups_len (up:Nat→Bool):∀ k,(ups up k).length=cntC up k
 | 0=>rfl
 | k+1=>by
  have h1:=ups_len up k
  unfold cntC
  cases h:up k with
  | true=>rw [ups_yes h,List.length_append,h1];rfl
  | false=>rw [ups_no h,h1];simp
theorem ups_mem {up:Nat→Bool} {k i:Nat}:i ∈ ups up k ↔ i < k∧up i=true:=by
 unfold ups
 rw [List.mem_filter,List.mem_range]
theorem ups_nodup (up:Nat→Bool) (k:Nat):(ups up k).Nodup:=List.Pairwise.filter _ List.nodup_range
def cs (up:Nat→Bool) (n d:Nat) (i:Nat):Bool:=decide (i ∈ (ups up n).take d)
theorem cs_zero (up:Nat→Bool) (n:Nat):cs up n 0=fun _=>false:=by
 funext i
 unfold cs
 simp
theorem cs_no {up:Nat→Bool} {n d:Nat} (hd:d < (ups up n).length):cs up n d ((ups up n)[d])=false:=by
 unfold cs
 rw [decide_eq_false_iff_not]
 intro hm
 obtain ⟨e,he,h2⟩:=List.getElem_of_mem hm
 rw [List.length_take] at he
 rw [List.getElem_take] at h2
 exact List.pairwise_iff_getElem.1 (ups_nodup up n) e d _ _ (by omega) h2
theorem cs_next {up:Nat→Bool} {n d:Nat} (hd:d < (ups up n).length):cs up n (d+1)=setC (cs up n d) ((ups up n)[d]):=by
 funext i
 unfold cs setC
 rw [List.take_succ_eq_append_getElem hd]
 by_cases h:i=(ups up n)[d]
 ·rw [if_pos h]
  exact decide_eq_true (List.mem_append_right _ (by rw [h];exact List.mem_singleton.2 rfl))
 ·rw [if_neg h]
  exact decide_eq_decide.2 ⟨fun hm=>(List.mem_append.1 hm).elim id (fun e=>absurd (List.mem_singleton.1 e) h),fun hm=>List.mem_append_left _ hm⟩
theorem cs_cnt {up:Nat→Bool} {n:Nat}:∀ {d:Nat},d≤(ups up n).length→cntC (cs up n d) n=d
 | 0,_=>by rw [cs_zero];exact cntC_none n
 | d+1,h=>by
  have hm:(ups up n)[d] ∈ ups up n:=List.getElem_mem (by omega)
  rw [cs_next (by omega),cntC_set (ups_mem.1 hm).1 (cs_no (by omega)),cs_cnt (by omega)]
theorem co_more {up:Nat→Bool} {q:Cq} {d:Nat} {tk:Int} (h:Nums n s x) (hq:CqOk x q) (hd:d < (ups up n).length) (hne:d+1 ≠ n / 2+1) :
 conR (co n s q (cs up n d) (gs s x q d) tk) (rM s x q ((ups up n)[d]))=co n s q (cs up n (d+1)) (gs s x q (d+1)) tk:=by
 have hm:=ups_mem.1 (List.getElem_mem hd)
 have hk:(q.k=3∧(rM s x q ((ups up n)[d])).k=5) ∨ (¬ q.k=3∧(rM s x q ((ups up n)[d])).k=2):=by
  unfold rM
  by_cases e:q.k=3
  ·rw [if_pos e];exact .inl ⟨e,rfl⟩
  ·rw [if_neg e];exact .inr ⟨e,rfl⟩
 have hft:(rM s x q ((ups up n)[d])).t=0∧(rM s x q ((ups up n)[d])).id=q.id∧(rM s x q ((ups up n)[d])).f=(((ups up n)[d]:Nat):Int):=by
  unfold rM
  split <;> exact ⟨rfl,rfl,rfl⟩
 unfold co
 rw [(con_more hk (rM_ok h hq hm.1) hft.1 hft.2.1 hft.2.2 hm.1 (cs_no hd) (by rw [cs_cnt (by omega)];exact hne)).1,← cs_next hd,got_gs]
theorem co_ends {up:Nat→Bool} {q:Cq} {d:Nat} {tk:Int} (h:Nums n s x) (hq:CqOk x q) (hd:d < (ups up n).length) (hne:d+1=n / 2+1) :
 conR (co n s q (cs up n d) (gs s x q d) tk) (rM s x q ((ups up n)[d]))=end1C (co n s q (cs up n (d+1)) (gs s x q (d+1)) tk) 0 q.v (itM s x q):=by
 have hm:=ups_mem.1 (List.getElem_mem hd)
 have hk:(q.k=3∧(rM s x q ((ups up n)[d])).k=5) ∨ (¬ q.k=3∧(rM s x q ((ups up n)[d])).k=2):=by
  unfold rM
  by_cases e:q.k=3
  ·rw [if_pos e];exact .inl ⟨e,rfl⟩
  ·rw [if_neg e];exact .inr ⟨e,rfl⟩
 have hft:(rM s x q ((ups up n)[d])).t=0∧(rM s x q ((ups up n)[d])).id=q.id∧(rM s x q ((ups up n)[d])).f=(((ups up n)[d]:Nat):Int):=by
  unfold rM
  split <;> exact ⟨rfl,rfl,rfl⟩
 unfold co
 rw [(con_ends hk (rM_ok h hq hm.1) hft.1 hft.2.1 hft.2.2 hm.1 (cs_no hd) (by rw [cs_cnt (by omega)];exact hne)).1,← cs_next hd,got_gs,items_gs h (by omega)]
theorem co_else {q:Cq} {C:Nat→Bool} {G:List Gt} {tk:Int} (j:Nat):conR (co n s q C G tk) (sM s x q j)=co n s q C G tk:=by
 unfold co
 refine (con_else (fun e=>?_) (fun e=>?_)).1
 ·unfold sM at e
  by_cases h:q.k=3
  ·rw [if_pos h] at e;rcases e with e | e
   ·have:=e.2;simp at this
   ·exact e.1 h
  ·rw [if_neg h] at e;rcases e with e | e
   ·exact h e.1
   ·have:=e.2;simp at this
 ·unfold sM at e
  rw [if_neg e.1] at e
  have:=e.2
  simp at this
theorem co_k {q:Cq} {C:Nat→Bool} {d:Nat} {tk:Int} (h:Nums n s x) (ht:0≤tk∧tk≤1000) (hd:d≤7):CoK (co n s q C (gs s x q d) tk)∧SmallC (co n s q C (gs s x q d) tk):=by
 have hl:(gs s x q d).length≤7:=by unfold gs;split <;> simp [hd]
 refine ⟨coG_k h.n h.s ⟨ht.1,by omega⟩ (by omega),⟨by show (gs s x q d).length≤900;omega,fun g hg=>?_⟩⟩
 have hg':g ∈ gs s x q d:=hg
 unfold gs at hg'
 split at hg'
 ·rw [List.mem_replicate] at hg'
  rw [hg'.2]
  show 1≤1500
  decide
 ·cases hg'
end
end Go.Proofs.YtgmkckjedngkdaaGreatDoor.topMajority
namespace Go.Proofs.YtgmkckjedngkdaaGreatDoor.topMajority
open Go.ChangeShapes Go.WideShapes Go.ChangeAt Go.RowKit
section
variable {W:World} {base:Bs} {p n:Nat} {X:Nat→Prop} {N:Nr} {x:Mg} {i:Nat} {s v:Int} {q:Cq}
theorem hm_put (h:Nums n s v) (hq:CqOk v q) (hk:¬ q.k=3) (hi:i < n) (hx:x.bare=sM s v q i) (hr:x.rd W) (hf:∀ ad,x.A=some ad→x.L ≠ []→¬ X ad.block) (H:NodeO W base p X N) (hid:N.id=(i:Int)) (hN:NdR N.R []) :
 Calls Tryz.prog 9 #[ptv p,x.val] W (HanP W base p X N (fun r R'=>r=[rM s v q i]∧NdR R' [y5 s v])):=by
 have hok:=sM_ok h hq hi
 have hgd:=goodB_true (y5_good h)
 rw [show sM s v q i=⟨1,0,i,q.id,0,none,0,[y5 s v]⟩ from if_neg hk] at hx hok
 have hrM:rM s v q i=⟨2,i,0,q.id,0,none,0,[]⟩:=if_neg hk
 obtain ⟨xk,xf,xt,xi,xn,xA,xc,xL⟩:=x
 unfold Mg.bare at hx
 injection hx with e1 e2 e3 e4 e5 e6 e7 e8
 simp only at e1 e2 e3 e4 e5 e6 e7 e8
 subst e1 e2 e3 e4 e5 e8
 have hj:joinL N.R.S [y5 s v]=[y5 s v]:=by rw [hN.S];exact y5_join h
 have hz:∀ z ∈ N.R.K.Z,z.L.length≤1000:=fun z hz=>by have:=hN.z z hz;simpa using this
 have hbt:=batchT_len [y5 s v]
 have hZ:∃ zl rst,N.R.K.Z=zl :: rst:=by
  obtain ⟨s,Y,H⟩:=H
  obtain ⟨h,Hs⟩:=H.st
  obtain ⟨_,_,_,_,zl,zm,zc,hZ⟩:=Hs.files
  exact ⟨zl,_,hZ⟩
 have hok':mokB (⟨1,0,i,q.id,0,xA,xc,[y5 s v]⟩:Mg)=true:=by rw [mokB_same (a:=⟨1,0,i,q.id,0,xA,xc,[y5 s v]⟩) (b:=⟨1,0,i,q.id,0,none,0,[y5 s v]⟩) ⟨rfl,rfl,rfl,rfl,rfl,rfl⟩];exact hok
 refine (nhandle_put H _ hr hok' hid.symm hf rfl (y5_wf h) (fun _=>Nat.le_refl 1) (show 1≤1000 by decide) 1000 hz (by omega) (by have:=hN.mf;simp only [List.length_nil,List.length_singleton] at this ⊢;omega)).mono ?_
 rintro e w' h1
 refine h1.imp ?_
 rintro r R' (⟨h1,_⟩ | ⟨_,B,h2,h3⟩)
 ·exfalso
  have h1':allowB N.R.v.fl [y5 s v]=false:=h1
  rw [hN.fl,y5_allow] at h1'
  cases h1'
 ·have h2':LastTo N.R [y5 s v] 1000 B R':=h2
  have hne:joinL N.R.S [y5 s v] ≠ N.R.S:=by rw [hj,hN.S];simp
  rcases h2' with ⟨h4,_⟩ | ⟨_,rfl,R1,K',h5,h6,rfl⟩ | ⟨_,rfl,ee,h4,h5⟩
  ·exact absurd h4 hne
  ·rcases h5.2 with ⟨h7,_⟩ | ⟨_,a1,a2,a3,a4,a5,l0,rs,a6,a7⟩
   ·exact absurd rfl h7
   ·refine ⟨by rw [h3,hid,hrM];rfl,?_⟩
    have hzz:∀ l ∈ (l0 ++ batchT [y5 s v]) :: rs,l.length≤2000:=fun l hl=>by
     have hold:∀ l ∈ l0 :: rs,l.length≤1000:=fun l hl=>by
      rw [← a6] at hl
      obtain ⟨z,hz1,rfl⟩:=List.mem_map.1 hl
      exact hz z hz1
     rcases List.mem_cons.1 hl with rfl | hl
     ·have:=hold l0 List.mem_cons_self
      rw [List.length_append]
      simp only [List.length_singleton] at hbt
      omega
     ·have:=hold l (List.mem_cons_of_mem _ hl)
      omega
    exact {
     S:=by show R1.S=_;rw [a1];exact hj
     fl:=by show R1.v.fl=0;rw [a2];exact hN.fl
     ce:=by show R1.v.ce=0;rw [a2];exact hN.ce
     q:=by show K'.q=_;rw [h6.q,a5];exact hN.q
     z:=fun z hz1=>by
      have h8:z.L ∈ K'.Z.map Fz.L:=List.mem_map.2 ⟨z,hz1,rfl⟩
      rw [h6.L,a7] at h8
      have:=hzz _ h8
      simpa using this
     mf:=by
      show R1.mf≤_
      rw [a4]
      have:=hN.mf
      simp only [List.length_nil,List.length_singleton] at this ⊢
      omega }
  ·exfalso
   rcases h5.2 with ⟨_,_,_,_,_,_,h6⟩ | ⟨h6,_⟩
   ·rw [hj] at h6
    simp only [List.length_singleton] at h6 hbt
    rcases h6 with h6 | h6 | h6
    ·omega
    ·obtain ⟨z,rst,hzz⟩:=hZ
     have h7:=h6 z (by rw [hzz];rfl)
     have:=hz z (by rw [hzz];exact List.mem_cons_self)
     omega
    ·rw [hN.q] at h6
     omega
   ·exact h4 h6
theorem hm_ask (h:Nums n s v) (hq:CqOk v q) (hk:q.k=3) (hi:i < n) (hx:x.bare=sM s v q i) (hr:x.rd W) (H:NodeO W base p X N) (hid:N.id=(i:Int)) (hN:NdR N.R [y5 s v]) :
 Calls Tryz.prog 9 #[ptv p,x.val] W (HanP W base p X N (fun r R'=>r=[rM s v q i]∧NdR R' [y5 s v])):=by
 have hok:=sM_ok h hq hi
 rw [show sM s v q i=⟨4,0,i,q.id,s,none,0,[]⟩ from if_pos hk] at hx hok
 have hrM:rM s v q i=⟨5,i,0,q.id,0,none,0,[y5 s v]⟩:=if_pos hk
 obtain ⟨xk,xf,xt,xi,xn,xA,xc,xL⟩:=x
 unfold Mg.bare at hx
 injection hx with e1 e2 e3 e4 e5 e6 e7 e8
 simp only at e1 e2 e3 e4 e5 e6 e7 e8
 have e5':=e5.symm
 subst e1 e2 e3 e4 e5' e8
 have hok':mokB (⟨4,0,i,q.id,s,xA,xc,[]⟩:Mg)=true:=by rw [mokB_same (a:=⟨4,0,i,q.id,s,xA,xc,[]⟩) (b:=⟨4,0,i,q.id,s,none,0,[]⟩) ⟨rfl,rfl,rfl,rfl,rfl,rfl⟩];exact hok
 refine (nhandle_ask H _ hr hok' hid.symm rfl h.s).mono ?_
 rintro e w' h1
 refine h1.imp ?_
 rintro r R' ⟨rfl,rfl⟩
 refine ⟨?_,hN⟩
 rw [hid,hN.ce,hN.S,hrM]
 show [(⟨5,i,0,q.id,0,none,0,[y5 s v].filter (serP s)⟩:Mg)]=_
 rw [y5_ser]
theorem hm_rep (h:Nums n s v) (hq:CqOk v q) (hi:i < n) (hx:x.bare=rM s v q i) (hr:x.rd W) (H:NodeO W base p X N) (hid:N.id=0) (L:List It) (hN:NdR N.R L) :
 Calls Tryz.prog 9 #[ptv p,x.val] W (HanP W base p X N (fun r R'=>r=[]∧NdR R' L)):=by
 have hok:=rM_ok h hq hi
 obtain ⟨xk,xf,xt,xi,xn,xA,xc,xL⟩:=x
 have hfin:∀ {e w'},HanP W base p X N (fun rep R'=>rep=[]∧R'=N.R) e w'→HanP W base p X N (fun r R'=>r=[]∧NdR R' L) e w':=fun h1=>h1.imp (by rintro r R' ⟨rfl,rfl⟩;exact ⟨rfl,hN⟩)
 by_cases hk:q.k=3
 ·rw [show rM s v q i=⟨5,i,0,q.id,0,none,0,[y5 s v]⟩ from if_pos hk] at hx hok
  unfold Mg.bare at hx
  injection hx with e1 e2 e3 e4 e5 e6 e7 e8
  simp only at e1 e2 e3 e4 e5 e6 e7 e8
  subst e1 e2 e3 e4 e5 e8
  have hok':mokB (⟨5,i,0,q.id,0,xA,xc,[y5 s v]⟩:Mg)=true:=by rw [mokB_same (a:=⟨5,i,0,q.id,0,xA,xc,[y5 s v]⟩) (b:=⟨5,i,0,q.id,0,none,0,[y5 s v]⟩) ⟨rfl,rfl,rfl,rfl,rfl,rfl⟩];exact hok
  exact (nhandle_nil5 H _ hr hok' hid.symm rfl).mono (fun e w'=>hfin)
 ·rw [show rM s v q i=⟨2,i,0,q.id,0,none,0,[]⟩ from if_neg hk] at hx hok
  unfold Mg.bare at hx
  injection hx with e1 e2 e3 e4 e5 e6 e7 e8
  simp only at e1 e2 e3 e4 e5 e6 e7 e8
  subst e1 e2 e3 e4 e5 e8
  have hok':mokB (⟨2,i,0,q.id,0,xA,xc,[]⟩:Mg)=true:=by rw [mokB_same (a:=⟨2,i,0,q.id,0,xA,xc,[]⟩) (b:=⟨2,i,0,q.id,0,none,0,[]⟩) ⟨rfl,rfl,rfl,rfl,rfl,rfl⟩];exact hok
  exact (nhandle_nil2 H _ hr hok' hid.symm rfl).mono (fun e w'=>hfin)
end
abbrev Ans4:=Int × Int × Int × List It
section
variable {w:World} {base:Bs} {c n:Nat} {up:Nat→Bool} {m T:Int} {col:Nat→Nat} {a:Cl} {s v:Int} {q:Cq} {AL:List Ans4} {tk ids:Int}
def PA (n:Nat) (up:Nat→Bool) (s v:Int) (q:Cq) (m T ids:Int) (AL:List Ans4) (k:Nat) (a:Cl):Prop :=
 AwN n up (m+k) T a (((List.range n).drop k).map (sM s v q) ++ (ups up k).map (rM s v q)) (fun i=>if q.k=3 ∨ i < k then [y5 s v] else []) (some (co n s q (fun _=>false) [] 0)) AL∧a.ids=ids
def PB (n:Nat) (up:Nat→Bool) (s v:Int) (q:Cq) (m T ids:Int) (AL:List Ans4) (d:Nat) (a:Cl):Prop :=
 AwN n up (m+d) T a (((ups up n).drop d).map (rM s v q)) (fun _=>[y5 s v]) (if d < n / 2+1 then some (co n s q (cs up n d) (gs s v q d) 0) else none) (if d < n / 2+1 then AL else AL ++ [(q.id,0,q.v,itM s v q)])∧a.ids=ids
theorem far_y {k:Nat→Nat} {x:Mg} {i:Nat} (h:∀ ad,x.A=some ad→x.L ≠ []→k ad.block=0):∀ ad,x.A=some ad→x.L ≠ []→¬ (fun g=>k g=11+5 * i) ad.block:=fun ad h1 h2 h3=>by
 have:=h ad h1 h2
 have h4:k ad.block=11+5 * i:=h3
 omega
theorem gs0:gs s v q 0=[]:=by unfold gs;split <;> rfl
set_option maxHeartbeats 800000 in
theorem pa_step (h:Nums n s v) (hq:CqOk v q) (hm:0≤m∧m≤800) (hAL:AL.length≤90) (k:Nat) (hk:k < n) (I:PA n up s v q m T ids AL k a) (H:CluV w base c col a) :
 Calls Tryz.prog 52 #[ptv c,.int .i64 0] w fun e w'=>e=.returned (.bool true)∧∃ col' a',CluV w' base c col' a'∧PA n up s v q m T ids AL (k+1) a'∧Bek base w w':=by
 obtain ⟨I,hids⟩:=I
 have h7:=h.n
 have hd:(List.range n).drop k=k :: (List.range n).drop (k+1):=by
  rw [List.drop_eq_getElem_cons (by rw [List.length_range];exact hk),List.getElem_range]
 rw [hd,List.map_cons,List.cons_append] at I
 have htm:(sM s v q k).t=k∧0≤(sM s v q k).n:=by
  have:=h.s
  unfold sM
  split
  ·exact ⟨rfl,this.1⟩
  ·exact ⟨rfl,Int.le_refl 0⟩
 have hlen:(((List.range n).drop (k+1)).map (sM s v q) ++ (ups up k).map (rM s v q)).length≤200:=by
  rw [List.length_append,List.length_map,List.length_map,List.length_drop,List.length_range,ups_len]
  have:=cntC_le up k
  omega
 have hck:=co_k (q:=q) (C:=fun _=>false) (d:=0) (tk:=0) h (by omega) (by omega)
 rw [gs0] at hck
 have hdn:(co n s q (fun _=>false) [] 0).dn=false:=rfl
 cases hu:up k with
 | false =>
  refine (awn_lost H I k hk hu htm.1).mono ?_
  rintro e w' ⟨rfl,col',a',h1,⟨h2,h3⟩,h4⟩
  refine ⟨rfl,col',a',h1,⟨h2.to (by omega) (by rw [ups_no hu]) (fun i hi hui=>?_) rfl rfl,by rw [h3];exact hids⟩,h4⟩
  have hik:i ≠ k:=fun e=>by rw [e,hu] at hui;cases hui
  show (if q.k=3 ∨ i < k then [y5 s v] else [])=(if q.k=3 ∨ i < k+1 then [y5 s v] else [])
  by_cases e2:q.k=3 ∨ i < k
  ·rw [if_pos e2,if_pos (by omega)]
  ·rw [if_neg e2,if_neg (by omega)]
 | true =>
  refine (awn_step H I k hk hu htm.1 [rM s v q k] [y5 s v] (fun W kk x p N h1 h2 h3 h4 h5 h6=>?_) ⟨fun r hr=>by rw [List.mem_singleton] at hr;rw [hr];exact rM_ok h hq hk,Nat.le_refl _⟩ hlen (by omega) (fun y hy=>?_) htm.2 (fun R _ e=>?_) (by omega)).mono ?_
  ·by_cases h3':q.k=3
   ·rw [if_pos (.inl h3')] at h6
    exact hm_ask h hq h3' hk h1 h2 h4 h5 h6
   ·rw [if_neg (by omega)] at h6
    exact hm_put h hq h3' hk h1 h2 (far_y h3) h4 h5 h6
  ·unfold sM at hy
   split at hy
   ·cases hy
   ·exact y5_wf h y hy
  ·cases e
   exact ⟨hck.1,hck.2,by rw [co_else];show ([]:List It).length≤1099511627776;decide⟩
  ·rintro e w' ⟨rfl,col',a',h1,⟨h2,h3⟩,h4⟩
   refine ⟨rfl,col',a',h1,⟨h2.to (by omega) (by rw [ups_yes hu,List.map_append,List.append_assoc];rfl) (fun i hi _=>?_) ?_ ?_,by rw [h3];exact hids⟩,h4⟩
   ·unfold upN
    by_cases e:i=k
    ·rw [if_pos e,if_pos (.inr (by omega))]
    ·rw [if_neg e]
     show (if q.k=3 ∨ i < k then [y5 s v] else [])=(if q.k=3 ∨ i < k+1 then [y5 s v] else [])
     by_cases e2:q.k=3 ∨ i < k
     ·rw [if_pos e2,if_pos (by omega)]
     ·rw [if_neg e2,if_neg (by omega)]
   ·split
    ·show (if (conR (co n s q (fun _=>false) [] 0) (sM s v q k)).dn=true then none else some _)=_
     rw [co_else,hdn]
     rfl
    ·rfl
   ·split
    ·show (if (conR (co n s q (fun _=>false) [] 0) (sM s v q k)).dn=true then _ else AL)=AL
     rw [co_else,hdn]
     rfl
    ·rfl
set_option maxHeartbeats 800000 in
theorem pb_step (h:Nums n s v) (hq:CqOk v q) (hm:0≤m∧m≤800) (hAL:AL.length≤90) (h0:up 0=true) (d:Nat) (hd:d < (ups up n).length) (I:PB n up s v q m T ids AL d a) (H:CluV w base c col a) :
 Calls Tryz.prog 52 #[ptv c,.int .i64 0] w fun e w'=>e=.returned (.bool true)∧∃ col' a',CluV w' base c col' a'∧PB n up s v q m T ids AL (d+1) a'∧Bek base w w':=by
 obtain ⟨I,hids⟩:=I
 have h7:=h.n
 have hl7:(ups up n).length≤7:=by rw [ups_len];have:=cntC_le up n;omega
 have hmem:=ups_mem.1 (List.getElem_mem hd)
 rw [List.drop_eq_getElem_cons hd,List.map_cons] at I
 have htm:(rM s v q (ups up n)[d]).t=((0:Nat):Int)∧0≤(rM s v q (ups up n)[d]).n:=by
  unfold rM
  split <;> exact ⟨rfl,Int.le_refl 0⟩
 have hlen:(((ups up n).drop (d+1)).map (rM s v q)).length≤200:=by
  rw [List.length_map,List.length_drop]
  omega
 have hck:=co_k (q:=q) (C:=cs up n d) (d:=d) (tk:=0) h (by omega) (by omega)
 refine (awn_step H I 0 (by omega) h0 htm.1 [] [y5 s v] (fun W kk x p N h1 h2 h3 h4 h5 h6=>hm_rep h hq hmem.1 h1 h2 h4 h5 _ h6) ⟨fun r hr=>(by cases hr),Nat.zero_le _⟩ hlen (by omega) (fun y hy=>?_) htm.2 (fun R _ e=>?_) (by split <;> first | omega | (rw [List.length_append];simp only [List.length_singleton];omega))).mono ?_
 ·unfold rM at hy
  split at hy
  ·exact y5_wf h y hy
  ·cases hy
 ·by_cases hlt:d < n / 2+1
  ·rw [if_pos hlt] at e
   cases e
   refine ⟨hck.1,hck.2,?_⟩
   by_cases hne:d+1=n / 2+1
   ·rw [co_ends h hq hd hne]
    show (endA 0 (itM s v q)).length≤_
    unfold endA itM
    rw [if_pos rfl]
    split <;> simp
   ·rw [co_more h hq hd hne]
    show ([]:List It).length≤1099511627776
    decide
  ·rw [if_neg hlt] at e
   cases e
 ·rintro e w' ⟨rfl,col',a',h1,⟨h2,h3⟩,h4⟩
  refine ⟨rfl,col',a',h1,⟨h2.to (by omega) (by rw [List.append_nil]) (fun i hi _=>?_) ?_ ?_,by rw [h3];exact hids⟩,h4⟩
  ·unfold upN
   split <;> rfl
  ·rw [if_pos rfl]
   by_cases hlt:d < n / 2+1
   ·rw [if_pos hlt]
    show (if (conR (co n s q (cs up n d) (gs s v q d) 0) (rM s v q (ups up n)[d])).dn=true then none else some _)=_
    by_cases hne:d+1=n / 2+1
    ·rw [co_ends h hq hd hne,if_neg (show ¬ d+1 < n / 2+1 by omega)]
     exact if_pos rfl
    ·rw [co_more h hq hd hne,if_pos (show d+1 < n / 2+1 by omega)]
     rfl
   ·rw [if_neg hlt,if_neg (by omega)]
    rfl
  ·rw [if_pos rfl]
   by_cases hlt:d < n / 2+1
   ·rw [if_pos hlt,if_pos hlt]
    show (if (conR (co n s q (cs up n d) (gs s v q d) 0) (rM s v q (ups up n)[d])).dn=true then AL ++ [_] else AL)=_
    by_cases hne:d+1=n / 2+1
    ·rw [co_ends h hq hd hne,if_neg (show ¬ d+1 < n / 2+1 by omega)]
     exact (if_pos rfl).trans rfl
    ·rw [co_more h hq hd hne,if_pos (show d+1 < n / 2+1 by omega)]
     rfl
   ·rw [if_neg hlt,if_neg hlt,if_neg (by omega)]
    rfl
theorem pa_pb (I:PA n up s v q m T ids AL n a):PB n up s v q (m+n) T ids AL 0 a:=by
 obtain ⟨I,hids⟩:=I
 refine ⟨I.to (by omega) ?_ (fun i hi _=>by rw [if_pos (.inr hi)]) ?_ (by rw [if_pos (by omega)]),hids⟩
 ·rw [List.drop_eq_nil_of_le (by rw [List.length_range];exact Nat.le_refl n)]
  rfl
 ·rw [if_pos (by omega),cs_zero,gs0]
theorem calm_done (h:Nums n s v) (hq:CqOk v q) (hm:0≤m∧m≤700) (hAL:AL.length≤90) (h0:up 0=true) (hu:n / 2+1≤cntC up n) (I:PA n up s v q m T ids AL 0 a) (H:CluV w base c col a) (most:Nat) (hmost:100≤most∧most≤1000000) :
 Calls Tryz.prog 20 #[ptv c,.int .i64 most] w fun e w'=>e=.returned (.bool true)∧∃ col' a',CluV w' base c col' a'∧(AwN n up (m+14) T a' [] (fun _=>[y5 s v]) none (AL ++ [(q.id,0,q.v,itM s v q)])∧a'.ids=ids)∧Bek base w w':=by
 have h7:=h.n
 have hul:(ups up n).length≤7∧n / 2+1≤(ups up n).length:=by rw [ups_len];have:=cntC_le up n;omega
 refine (calm_any H (fun k a=>(k≤n∧PA n up s v q m T ids AL k a) ∨ (n≤k∧k≤n+(ups up n).length∧PB n up s v q (m+n) T ids AL (k - n) a)) (.inl ⟨Nat.zero_le _,I⟩) (n+(ups up n).length) most (by omega) hmost.2 (fun k a w col hk hI H=>?_) (fun k a hk hI=>?_) (fun a hI=>?_)).mono ?_
 ·have hlt:(k < n∧PA n up s v q m T ids AL k a) ∨ (n≤k∧PB n up s v q (m+n) T ids AL (k - n) a):=by
   rcases hI with ⟨h1,h2⟩ | ⟨h1,_,h2⟩
   ·by_cases e:k < n
    ·exact .inl ⟨e,h2⟩
    ·obtain rfl:k=n:=by omega
     exact .inr ⟨Nat.le_refl _,by rw [Nat.sub_self];exact pa_pb h2⟩
   ·exact .inr ⟨h1,h2⟩
  rcases hlt with ⟨h1,h2⟩ | ⟨h1,h2⟩
  ·refine (pa_step h hq (by omega) hAL k h1 h2 H).mono ?_
   rintro e w' ⟨e1,col',a',g1,g2,g3⟩
   exact ⟨e1,col',a',g1,.inl ⟨h1,g2⟩,g3⟩
  ·refine (pb_step h hq (by omega) hAL h0 (k - n) (by omega) h2 H).mono ?_
   rintro e w' ⟨e1,col',a',g1,g2,g3⟩
   refine ⟨e1,col',a',g1,.inr ⟨by omega,by omega,?_⟩,g3⟩
   rw [show k+1 - n=k - n+1 by omega]
   exact g2
 ·rcases hI with ⟨h1,h2⟩ | ⟨h1,_,h2⟩
  ·rw [h2.1.C,List.length_append,List.length_map,List.length_map,List.length_drop,List.length_range]
   by_cases e:k < n
   ·omega
   ·obtain rfl:k=n:=by omega
    omega
  ·rw [h2.1.C,List.length_map,List.length_drop]
   omega
 ·have hB:PB n up s v q (m+n) T ids AL (ups up n).length a:=by
   rcases hI with ⟨h1,h2⟩ | ⟨h1,_,h2⟩
   ·omega
   ·rw [Nat.add_sub_cancel_left] at h2
    exact h2
  obtain ⟨hB,_⟩:=hB
  refine ⟨by rw [hB.C,List.drop_length];rfl,fun P hP=>?_,by rw [hB.ps];exact h7.2⟩
  obtain ⟨j,hj1,rfl⟩:=List.getElem_of_mem hP
  have h8:=hB.job j _ (List.getElem?_eq_getElem hj1)
  rw [if_neg (show ¬ (ups up n).length < n / 2+1 by omega)] at h8
  have h9:(a.P[j].job).map Prod.snd=none:=by rw [h8];split <;> rfl
  exact Option.map_eq_none_iff.1 h9
 ·rintro e w' ⟨e1,col',a',g1,hI,g3⟩
  have hB:PB n up s v q (m+n) T ids AL (ups up n).length a':=by
   rcases hI with ⟨h1,h2⟩ | ⟨h1,_,h2⟩
   ·omega
   ·rw [Nat.add_sub_cancel_left] at h2
    exact h2
  refine ⟨e1,col',a',g1,⟨hB.1.to (by omega) (by rw [List.drop_length];rfl) (fun _ _ _=>rfl) (by rw [if_neg (by omega)]) (by rw [if_neg (by omega)]),hB.2⟩,g3⟩
end
end Go.Proofs.YtgmkckjedngkdaaGreatDoor.topMajority
