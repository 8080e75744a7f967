/- A part of the proof that TopMajorityLaw holds: XMemF, XSkQ, XSkA, XMem, XKey, XMemA, XPFil, XSlc, XFloor, XAllow, XPEq, XBits. Conditions: as typed. -/
import Derived.Test.YtgmkckjedngkdaaGreatDoorTm01
import Derived.Test.YtgmkckjedngkdaaGreatDoorTm03
import Derived.Test.YtgmkckjedngkdaaGreatDoorTm05
import Derived.Test.YtgmkckjedngkdaaGreatDoorTm07
import Derived.Test.YtgmkckjedngkdaaGreatDoorTm08
import Derived.Test.YtgmkckjedngkdaaGreatDoorTm13
import Derived.Test.YtgmkckjedngkdaaGreatDoorTm14
import Derived.Test.YtgmkckjedngkdaaGreatDoorTm20
import Derived.Deep.RegionHeld3
import Derived.Deep.QuietTactic
import Derived.BigQuiet
import Derived.WalkLawsBesides
set_option linter.unusedVariables false
set_option linter.unusedSimpArgs false
namespace Go.Proofs.YtgmkckjedngkdaaGreatDoor
open Go.ChangeShapes Go.WideShapes Go.ChangeAt Go.RowKit
def memC (p:Nat) (d:Int) (f:Bool) (n:Int):Array Value:=#[.pointer (some ⟨p,0,none⟩),.int .u32 d,.int .i32 0,.int .u32 0,.bool f,.int .i64 n]
theorem mem_box {w:World} {b p:Nat} {d:Int} {f:Bool} {n:Int} {t:TypeId} (h:w.heap[b]? = some (.cells (memC p d f n) t (0,0))):b < w.heap.size ∧
 (w.cell? ⟨b,0,none⟩=some (.pointer (some ⟨p,0,none⟩))∧w.cell? ⟨b,1,none⟩=some (.int .u32 d)∧w.cell? ⟨b,2,none⟩=some (.int .i32 0)∧w.cell? ⟨b,3,none⟩=some (.int .u32 0)∧w.cell? ⟨b,4,none⟩=some (.bool f)∧w.cell? ⟨b,5,none⟩=some (.int .i64 n)) ∧
 ∀ o,w.frozen? ⟨b,o,none⟩=false:=by
 exact ⟨(Array.getElem?_eq_some_iff.1 h).1,six_cells h,fun o=>by simp [World.frozen?,h]⟩
end Go.Proofs.YtgmkckjedngkdaaGreatDoor
namespace Go.Proofs.YtgmkckjedngkdaaGreatDoor
open Go.ChangeShapes Go.WideShapes Go.ChangeAt Go.RowKit
def winsAt (x:It) (L:List It):Bool:=match L[lowI x L]? with
 | some y=>winsB x y
 | none=>true
def skP (x:It) (L:List It):List It:=if sameAt x L=true then (if winsAt x L=true then L.set (lowI x L) x else L) else L.take (lowI x L) ++ x :: L.drop (lowI x L)
def okP (x:It) (h:Int):Bool:=goodB x && decide (1≤h) && decide (h≤6)
def skL (x:It) (h:Int) (L:List It):List It:=if okP x h=true then skP x L else L
def skH (x:It) (h:Int) (L:List It) (H:List Nat):List Nat:=if okP x h=true then (if sameAt x L=true then H else H.take (lowI x L) ++ h.toNat :: H.drop (lowI x L)) else H
def skR (x:It) (h:Int) (L:List It):Bool:=okP x h && (!sameAt x L || winsAt x L)
def skE (x:It) (h:Int):Int:=if okP x h=true then 0 else 1
theorem okP_iff {x:It} {h:Int}:okP x h=true ↔ goodB x=true∧1≤h∧h≤6:=by unfold okP;simp [and_assoc]
theorem skP_putL {x:It} {L:List It} (h:sameAt x L=false ∨ winsAt x L=true):skP x L=putL x L:=by
 unfold skP
 cases hs:sameAt x L with
 | true =>
  rw [hs] at h
  rw [if_pos rfl,if_pos (by simpa using h),putL_same hs]
 | false=>rw [if_neg (by simp),putL_else hs]
theorem skP_keep {x:It} {L:List It} (h:sameAt x L=true) (hw:winsAt x L=false):skP x L=L:=by
 unfold skP
 rw [if_pos h,if_neg (by simp [hw])]
theorem rising_skP {x:It} {L:List It} (h:Rising L):Rising (skP x L):=by
 by_cases e:sameAt x L=true∧winsAt x L=false
 ·rw [skP_keep e.1 e.2]
  exact h
 ·rw [skP_putL (by cases hs:sameAt x L <;> cases hw:winsAt x L <;> simp_all)]
  exact rising_putL h
def Top (S:List It) (x:It):Prop:=x ∈ S∧∀ y ∈ S,It.same x y→¬ It.wins y x
structure IsTop (S L:List It):Prop where
 up:Rising L
 mem:∀ x,x ∈ L ↔ Top S x
theorem IsTop.congr {S T L:List It} (h:∀ x,x ∈ S ↔ x ∈ T) (k:IsTop S L):IsTop T L:=by
 refine ⟨k.up,fun x=>(k.mem x).trans ?_⟩
 unfold Top
 rw [h x]
 constructor
 ·rintro ⟨a,b⟩
  exact ⟨a,fun y hy=>b y ((h y).2 hy)⟩
 ·rintro ⟨a,b⟩
  exact ⟨a,fun y hy=>b y ((h y).1 hy)⟩
theorem its_set {F:List Nd} {q:Nat} {n:Nd}:itsF (F.set (q+1) n)=(itsF F).set q n.x:=by
 unfold itsF
 cases F with
 | nil=>simp
 | cons a N=>simp [List.map_set]
theorem hts_set {F:List Nd} {q:Nat} {n:Nd} (hq:q+1 < F.length) (h:n.h=(F[q+1]'hq).h):htsF (F.set (q+1) n)=htsF F:=by
 unfold htsF
 cases F with
 | nil=>simp at hq
 | cons a N =>
  simp only [List.set_cons_succ,List.drop_succ_cons,List.drop_zero,List.getElem_cons_succ] at h ⊢
  rw [List.map_set,h]
  apply List.ext_getElem?
  intro m
  by_cases e:q=m
  ·subst e
   have hq':q < N.length:=by simpa using hq
   rw [List.getElem?_set_self (by simpa using hq'),List.getElem?_map,List.getElem?_eq_getElem hq']
   rfl
  ·rw [List.getElem?_set_ne e]
theorem SkOk.set_ {F:List Nd} (hF:SkOk F) {q:Nat} (hq:q+1 < F.length) {x:It} (hs:sameAt x (itsF F)=true) (hql:lowI x (itsF F)=q):SkOk (F.set (q+1) ⟨(F[q+1]'hq).b,(F[q+1]'hq).t,(F[q+1]'hq).h,x⟩):=by
 refine ⟨?_,fun n hn=>?_⟩
 ·rw [its_set]
  have e:=putL_same hs
  rw [hql] at e
  show Rising ((itsF F).set q x)
  rw [← e]
  exact rising_putL hF.up
 ·rcases List.mem_or_eq_of_mem_set hn with h | rfl
  ·exact hF.hts n h
  ·exact hF.hts (F[q+1]'hq) (List.getElem_mem hq)
theorem sblk_set {p:Nat} {F:List Nd} {q:Nat} (hq:q+1 < F.length) {x:It} {b:Nat} (h:SBlk p (F.set (q+1) ⟨(F[q+1]'hq).b,(F[q+1]'hq).t,(F[q+1]'hq).h,x⟩) b):SBlk p F b:=by
 rcases h with h | ⟨n,hn,h⟩
 ·exact .inl h
 ·rcases List.mem_or_eq_of_mem_set hn with g | rfl
  ·exact .inr ⟨n,g,h⟩
  ·exact .inr ⟨_,List.getElem_mem hq,h⟩
structure PutTo (w w':World) (p:Nat) (F:List Nd) (x:It) (h:Int) (F':List Nd):Prop where
 at_:SkAt w' p F'
 ok:SkOk F'
 its:itsF F'=skL x h (itsF F)
 hts:htsF F'=skH x h (itsF F) (htsF F)
 len:F'.length≤F.length+1
 own:∀ b,SBlk p F' b→SBlk p F b ∨ w.heap.size≤b
 sets:Sets (SBlk p F) w w'
theorem same_node {F:List Nd} {x:It} (hj:lowI x (itsF F)+1 < F.length):sameAt x (itsF F)=sameB (F[lowI x (itsF F)+1]'hj).x x∧winsAt x (itsF F)=winsB x (F[lowI x (itsF F)+1]'hj).x:=by
 have hl:lowI x (itsF F) < (itsF F).length:=by rw [its_len];omega
 have e:=itsF_get (F:=F) (j:=lowI x (itsF F)+1) (by omega) hj hl
 have e2:(itsF F)[lowI x (itsF F)]'hl=(F[lowI x (itsF F)+1]'hj).x:=e
 refine ⟨by rw [sameAt_in hl,e2],?_⟩
 unfold winsAt
 rw [List.getElem?_eq_getElem hl,e2]
theorem skput_any (p:Nat) (F:List Nd) (x:It) (h:Int) (w:World) (hS:SkAt w p F) (hF:SkOk F) (hlen:F.length≤1099511627776) :
 Calls Tryz.prog 144 #[.pointer (some ⟨p,0,none⟩),x.val,.int .i64 h] w fun e w'=>∃ F',e=.returned (.tuple #[.bool (skR x h (itsF F)),.int .i64 (skE x h)])∧PutTo w w' p F x h F':=by
 by_cases hok:okP x h=true
 ·obtain ⟨hg,h1,h6⟩:=okP_iff.1 hok
  obtain ⟨hn,rfl⟩:∃ n:Nat,h=n:=⟨h.toNat,by omega⟩
  have eE:skE x (hn:Int)=0:=if_pos hok
  have eL:skL x (hn:Int) (itsF F)=skP x (itsF F):=if_pos hok
  have eH:skH x (hn:Int) (itsF F) (htsF F)=if sameAt x (itsF F)=true then htsF F else (htsF F).take (lowI x (itsF F)) ++ hn :: (htsF F).drop (lowI x (itsF F)):=if_pos hok
  have eR:skR x (hn:Int) (itsF F)=(!sameAt x (itsF F) || winsAt x (itsF F)):=by unfold skR;rw [hok];rfl
  have hins:∀ (b t:Nat) (w':World),sameAt x (itsF F)=false→w.heap.size≤b→w.heap.size≤t→SkAt w' p (insF F (lowI x (itsF F)) ⟨b,t,hn,x⟩)→Sets (SBlk p F) w w'→PutTo w w' p F x hn (insF F (lowI x (itsF F)) ⟨b,t,hn,x⟩):=by
   intro b t w' hs hb ht hA hSt
   have hF0:0 < F.length:=hS.pos.1
   have ei:=its_ins (F:=F) (q:=lowI x (itsF F)) (n:=⟨b,t,hn,x⟩) hF0
   have eP:skP x (itsF F)=(itsF F).take (lowI x (itsF F)) ++ x :: (itsF F).drop (lowI x (itsF F)):=by unfold skP;rw [if_neg (by simp [hs])]
   refine ⟨hA,⟨?_,fun n hnm=>?_⟩,by rw [eL,eP,ei],?_,by rw [ski_len];omega,?_,hSt⟩
   ·rw [ei,← eP]
    exact rising_skP hF.up
   ·rcases ins_mem.1 hnm with rfl | hm
    ·exact ⟨by show 1≤hn;omega,by show hn≤6;omega⟩
    ·exact hF.hts n hm
   ·rw [eH,if_neg (by simp [hs]),hts_ins hF0]
   ·rintro c (rfl | ⟨n,hnm,e⟩)
    ·exact .inl (.inl rfl)
    ·rcases ins_mem.1 hnm with rfl | hm
     ·right
      rcases e with rfl | rfl
      ·exact hb
      ·exact ht
     ·exact .inl (.inr ⟨n,hm,e⟩)
  by_cases hj:lowI x (itsF F)+1 < F.length
  ·obtain ⟨es,ew⟩:=same_node hj
   cases hsb:sameB (F[lowI x (itsF F)+1]'hj).x x with
   | true =>
    rw [hsb] at es
    refine Calls.mono (put_same p F x hn w hS hF hg (by omega) (by omega) hj hsb) ?_
    rintro e w' ⟨rfl,hss,hSt⟩
    rw [← ew]
    cases hw:winsAt x (itsF F) with
    | true =>
     refine ⟨_,by rw [eE,eR,es,hw];rfl,hss.1 (by rw [← ew];exact hw),hF.set_ hj es rfl,?_,?_,by simp,fun b hb=>.inl (sblk_set hj hb),hSt⟩
     ·rw [its_set,eL,skP_putL (.inr hw),putL_same es]
     ·exact (hts_set (n:=⟨(F[lowI x (itsF F)+1]'hj).b,(F[lowI x (itsF F)+1]'hj).t,(F[lowI x (itsF F)+1]'hj).h,x⟩) hj rfl).trans (by rw [eH,if_pos es])
    | false =>
     refine ⟨F,by rw [eE,eR,es,hw];rfl,hss.2 (by rw [← ew];exact hw),hF,?_,?_,by omega,fun b hb=>.inl hb,hSt⟩
     ·rw [eL,skP_keep es hw]
     ·rw [eH,if_pos es]
   | false =>
    rw [hsb] at es
    refine Calls.mono (put_next p F x hn w hS hF hlen hg (by omega) (by omega) hj hsb) ?_
    rintro e w' ⟨b,t,rfl,hb,ht,hA,hSt⟩
    exact ⟨_,by rw [eE,eR,es];rfl,hins b t w' es hb ht hA hSt⟩
  ·have es:sameAt x (itsF F)=false:=sameAt_out (by rw [its_len];omega)
   refine Calls.mono (put_none p F x hn w hS hF hlen hg (by omega) (by omega) hj) ?_
   rintro e w' ⟨b,t,rfl,hb,ht,hA,hSt⟩
   exact ⟨_,by rw [eE,eR,es];rfl,hins b t w' es hb ht hA hSt⟩
 ·have hok':¬ (goodB x=true∧1≤h∧h≤6):=fun e=>hok (okP_iff.2 e)
  refine Calls.mono (put_bad p x h w hok') ?_
  rintro e w' ⟨rfl,hb⟩
  have hok2:okP x h=false:=by simpa using hok
  refine ⟨F,?_,hS.below hb,hF,?_,?_,by omega,fun b hb=>.inl hb,Sets.of hb⟩
  ·unfold skR skE
   rw [hok2]
   rfl
  ·unfold skL
   rw [hok2]
   rfl
  ·unfold skH
   rw [hok2]
   rfl
theorem new_ok {w:World} {p:Nat} {H:Nd} (h:SkAt w p [H]):SkOk [H]:=⟨Rising.nil_,fun n hn=>by
 obtain ⟨_,e,_⟩:=h.pos
 simp at hn e
 subst hn
 omega⟩
end Go.Proofs.YtgmkckjedngkdaaGreatDoor
namespace Go.Proofs.YtgmkckjedngkdaaGreatDoor
open Go.ChangeShapes Go.WideShapes Go.ChangeAt Go.RowKit
theorem SkAt.lt {w:World} {p:Nat} {F:List Nd} (h:SkAt w p F):∀ b,SBlk p F b→b < w.heap.size:=by
 rintro b (rfl | ⟨n,hn,rfl | rfl⟩)
 ·exact h.lp
 ·exact (h.nds.at_ n hn).lb
 ·exact (h.nds.at_ n hn).lt
theorem PutTo.below {w0 w w':World} {p:Nat} {F F':List Nd} {x:It} {h:Int} {B:Nat} (k:PutTo w w' p F x h F') (hb:Below B w0 w) (hB:∀ b,SBlk p F b→B≤b) (hz:B≤w0.heap.size):Below B w0 w' :=
 ⟨k.sets.os.trans hb.os,k.sets.tape.trans hb.tape,k.sets.output.trans hb.output,Nat.le_trans hb.size k.sets.size,fun b hlt=>(k.sets.block b (by have:=hb.size;omega) (fun e=>by have:=hB b e;omega)).trans (hb.block b hlt)⟩
theorem PutTo.base {w w':World} {p:Nat} {F F':List Nd} {x:It} {h:Int} {B:Nat} (k:PutTo w w' p F x h F') (hB:∀ b,SBlk p F b→B≤b) (hz:B≤w.heap.size):∀ b,SBlk p F' b→B≤b:=fun b hb=>by
 rcases k.own b hb with e | e
 ·exact hB b e
 ·omega
end Go.Proofs.YtgmkckjedngkdaaGreatDoor
namespace Go.Proofs.YtgmkckjedngkdaaGreatDoor
open Go.ChangeShapes Go.WideShapes Go.ChangeAt Go.RowKit
def dn (f:Bool):Int:=if f then 1 else 0
structure MemAt (w:World) (b p:Nat) (F:List Nd) (f:Bool) (n:Int):Prop where
 sk:SkAt w p F
 ok:SkOk F
 box:w.heap[b]? = some (.cells (memC p (dn f) f n) 223 (0,0))
 ne:¬ SBlk p F b
def MBlk (b p:Nat) (F:List Nd) (c:Nat):Prop:=c=b ∨ SBlk p F c
theorem MemAt.lb {w:World} {b p:Nat} {F:List Nd} {f:Bool} {n:Int} (h:MemAt w b p F f n):b < w.heap.size:=(Array.getElem?_eq_some_iff.1 h.box).1
theorem MemAt.lt {w:World} {b p:Nat} {F:List Nd} {f:Bool} {n:Int} (h:MemAt w b p F f n):∀ c,MBlk b p F c→c < w.heap.size:=by
 rintro c (rfl | e)
 ·exact h.lb
 ·exact h.sk.lt c e
theorem MemAt.below {w w':World} {b p:Nat} {F:List Nd} {f:Bool} {n:Int} (h:MemAt w b p F f n) (hb:Below w.heap.size w w'):MemAt w' b p F f n :=
 ⟨h.sk.below hb,h.ok,(hb.block b h.lb).trans h.box,h.ne⟩
theorem MemAt.sets {S:Nat→Prop} {w w':World} {b p:Nat} {F:List Nd} {f:Bool} {n:Int} (h:MemAt w b p F f n) (k:Sets S w w') (hS:∀ c,MBlk b p F c→¬ S c):MemAt w' b p F f n :=
 ⟨h.sk.sets k (fun c hc=>hS c (.inr hc)),h.ok,(k.block b h.lb (hS b (.inl rfl))).trans h.box,h.ne⟩
theorem ck {w:World} {g o:Nat} {v:Value} {w':World} (hg:g < w.heap.size) (h:w.cell? ⟨g,o,none⟩=some v) (hb:Below w.heap.size w w'):w'.cell? ⟨g,o,none⟩=some v:=(hb.cell (p:=⟨g,o,none⟩) hg).trans h
set_option maxHeartbeats 1000000 in
theorem mnew_any (w:World):Calls Tryz.prog 60 #[] w fun e w'=>∃ b p H,e=.returned (.pointer (some ⟨b,0,none⟩))∧MemAt w' b p [H] false 0∧(∀ c,MBlk b p [H] c→w.heap.size≤c)∧Below w.heap.size w w':=by
 go_enter Tryz.func60,Tryz.ntmps60
 go_wp2_with fail
 refine (Calls.mono (new_any _) ?_);rintro e w1 ⟨p,H,rfl,hS,ho,hg⟩
 have HS:=hide hS
 have HO:=hide ho
 have HB:=hide hg
 clear hS ho hg
 go_wp2_with fail
 go_ret
 have hba:=below_alloc (Below.refl w1.heap.size w1) (.cells (memC p 0 false 0) 223)
 have hp:=heap_alloc_new w1 (.cells (memC p 0 false 0) 223)
 refine ⟨w1.heap.size,p,H,rfl,⟨HS.out.below hba,new_ok HS.out,hp,fun e=>Nat.lt_irrefl _ (HS.out.lt _ e)⟩,?_,below_step HB.out hba⟩
 rintro c (rfl | e)
 ·exact HB.out.size
 ·exact HO.out c e
end Go.Proofs.YtgmkckjedngkdaaGreatDoor
namespace Go.Proofs.YtgmkckjedngkdaaGreatDoor
open Go.ChangeShapes Go.WideShapes Go.ChangeAt Go.RowKit
theorem al2k (w:World) (o1 o2:Obj):((w.alloc o1).alloc o2).heap[w.heap.size+1]? = some o2∧Below w.heap.size w ((w.alloc o1).alloc o2)∧w.heap.size+1 < ((w.alloc o1).alloc o2).heap.size :=
 ⟨by have:=heap_alloc_new (w.alloc o1) o2;simpa using this,below_alloc (below_alloc (Below.refl _ _) _) _,by simp⟩
theorem Tryz.infoU8k:(Tryz.prog.info? 5).map (fun i=>(i.zero,i.size,i.bytes))=some (some (.int .u8 0),1,1):=by kernel_rfl
def eightTo (n:Int) (k:Nat):List Int:=(List.range k).map fun i=>n / 2 ^ (56 - 8 * i) % 256
def eightL (n:Int):List Int:=eightTo n 8
theorem eightTo_succ (n:Int) (k:Nat):eightTo n (k+1)=eightTo n k ++ [n / 2 ^ (56 - 8 * k) % 256]:=by unfold eightTo;rw [List.range_succ,List.map_append];rfl
theorem eightTo_len (n:Int) (k:Nat):(eightTo n k).length=k:=by unfold eightTo;simp
theorem eightTo_b {n:Int} {k:Nat}:∀ b ∈ eightTo n k,isB b:=by
 intro b hb
 unfold eightTo at hb
 obtain ⟨i,_,rfl⟩:=List.mem_map.1 hb
 unfold isB
 omega
set_option maxRecDepth 100000 in
set_option maxHeartbeats 1000000 in
theorem eight_any (A:Option Addr) (c:Nat) (L:List Int) (n:Int) (w:World) (hl:L.length≤1099511627776) (hL:ValsAt u8v w A L) (hn:0≤n∧n < 18446744073709551616) :
 Calls Tryz.prog 274 #[.slice A L.length c,.int .u64 n] w fun e w'=>∃ v,e=.returned v∧OwnL (one1 u8v) 1 5 w.heap.size w' v (L ++ eightL n)∧Below w.heap.size w w':=by
 go_enter Tryz.func274,Tryz.ntmps274
 go_wp2_with (at_builtin;refine wpList_append_vals rfl (.const (.slice none 0 0)) (.tmp 7) 173 5 _ 1 rfl Tryz.underlying173 Tryz.infoU8k rfl (fun _=>rfl) (by omega) w.heap.size _ [] rfl (OwnL.nil_ _ _ _ _ _) A c L rfl hL (by simp;omega) (Nat.le_refl _) ?_;intro v1 u1 ho1 hgu1)
 have hgu2:w.grownBy u1 none:=hgu1
 have hb1:Below w.heap.size w u1:=(Below.refl _ _).grown hgu2 (Nat.le_refl _) (fun k hk=>nomatch hk)
 have HO1:=hide ho1
 have HB1:=hide hb1
 clear ho1 hgu1 hgu2 hb1 hL
 rw [List.nil_append] at HO1
 go_loopw [5,6] (fun v s wr=>∃ k:Nat,k≤8∧s=.int .i64 (56 - 8 * (k:Int))∧OwnL (one1 u8v) 1 5 w.heap.size wr v (L ++ eightTo n k)∧Below w.heap.size w wr) (fun _ s _=>(intOf s+8).toNat)
 case atStart=>exact ⟨0,by omega,rfl,by rw [show eightTo n 0=[] from rfl,List.append_nil];exact HO1.out,HB1.out⟩
 case round =>
  obtain ⟨k,hk,rfl,ho,hb⟩:=hrel
  clear HO1 HB1
  have HO:=hide ho
  have HB:=hide hb
  have hbs:=hb.size
  clear ho hb
  by_cases h8:k < 8
  ·obtain ⟨sh,hsh⟩:∃ sh:Nat,56 - 8 * (k:Int)=sh:=⟨56 - 8 * k,by omega⟩
   rw [hsh]
   have hs1:(sh:Int)≤56:=by omega
   have HSN:Hid (sh=56 - 8 * k):=hide (by omega)
   go_wp2_with (at_builtin;refine wpList_append_one rfl (.tmp 13) (.tmp 18) 173 5 _ 1 rfl Tryz.underlying173 Tryz.infoU8k rfl (fun _=>rfl) (by omega) _ _ _ _ _ _ (L ++ eightTo n k) (n / 2 ^ sh % 256) rfl rfl rfl HO.out HB.out (Nat.le_refl _) hbs (by rw [List.length_append,eightTo_len];omega) ?_;intro v2 u2 ho2 hbu2 hgu2)
   refine ⟨⟨k+1,by omega,by go_num,?_,hbu2⟩,by simp [intOf];omega⟩
   rw [eightTo_succ,← List.append_assoc,← HSN.out]
   exact ho2
  ·obtain rfl:k=8:=by omega
   go_wp2_with fail
   go_ret
   exact ⟨_,rfl,HO.out,HB.out⟩
def keyL (x:It):List Int:=[x.s % 256,x.k % 256] ++ eightL x.t
theorem keyL_b {x:It}:∀ b ∈ keyL x,isB b:=by
 intro b hb
 unfold keyL at hb
 rcases List.mem_append.1 hb with h | h
 ·simp only [List.mem_cons,List.not_mem_nil,or_false] at h
  unfold isB
  omega
 ·exact eightTo_b b h
theorem keyL_len (x:It):(keyL x).length=10:=by unfold keyL eightL;simp [eightTo_len]
set_option maxHeartbeats 1000000 in
theorem key_any (x:It) (w:World) (hx:x.wf):Calls Tryz.prog 210 #[x.val] w fun e w'=>∃ v,e=.returned v∧OwnL (one1 u8v) 1 5 w.heap.size w' v (keyL x)∧Below w.heap.size w w':=by
 have ht:0≤x.t∧x.t < 18446744073709551616:=by unfold It.wf at hx;omega
 go_enter Tryz.func210,Tryz.ntmps210
 have hz1:=al2k w (.cells #[.int .i64 x.s,.int .i64 x.k,.int .u64 x.t,.int .u64 x.v,.int .i64 x.x] 54) (.cells #[.int .u8 (x.s % 256),.int .u8 (x.k % 256)] 5)
 have HR:Hid (ValsAt u8v ((w.alloc (.cells #[.int .i64 x.s,.int .i64 x.k,.int .u64 x.t,.int .u64 x.v,.int .i64 x.x] 54)).alloc (.cells #[.int .u8 (x.s % 256),.int .u8 (x.k % 256)] 5)) (some ⟨w.heap.size+1,0,none⟩) [x.s % 256,x.k % 256]):=hide (vals_of_block (L:=[x.s % 256,x.k % 256]) hz1.1)
 have HB:=hide hz1.2.1
 clear hz1
 go_wp2_with fail
 refine (Calls.mono (eight_any (some ⟨w.heap.size+1,0,none⟩) 2 [x.s % 256,x.k % 256] x.t _ (by simp) HR.out ht) ?_);rintro e w1 ⟨v,rfl,ho,hb⟩
 have HO:=hide (OwnL.base_ (base':=w.heap.size) ho HB.out.size)
 have HB1:=hide (below_step HB.out hb)
 clear ho hb HR HB
 go_wp2_with fail
 go_ret
 exact ⟨_,rfl,HO.out,HB1.out⟩
def hgtAux:Nat→Int→Int
 | 0,_=>0
 | f+1,h=>if bits .and .u64 h 3=0 then 1+hgtAux f (h / 4) else 0
theorem hgtAux_bd (f:Nat) (h:Int):0≤hgtAux f h∧hgtAux f h≤f:=by
 induction f generalizing h with
 | zero=>simp [hgtAux]
 | succ f ih =>
  rw [hgtAux]
  split
  ·have:=ih (h / 4);omega
  ·omega
def hgt (K:List Int):Int:=1+hgtAux 5 (hashL K)
theorem hgt_bd (K:List Int):1≤hgt K∧hgt K≤6:=by
 unfold hgt
 have:=hgtAux_bd 5 (hashL K)
 omega
set_option maxHeartbeats 1000000 in
theorem height_any (x:It) (w:World) (hx:x.wf):Calls Tryz.prog 145 #[x.val] w fun e w'=>e=.returned (.int .i64 (hgt (keyL x)))∧Below w.heap.size w w':=by
 go_enter Tryz.func145,Tryz.ntmps145
 have hba:=below_alloc (Below.refl w.heap.size w) (.cells (It.cells x).toArray 54)
 have HB:=hide hba
 clear hba
 go_wp2_with fail
 refine (Calls.mono (key_any x _ hx) ?_);rintro e w1 ⟨v,rfl,ho,hb⟩
 obtain ⟨A,c,rfl,hr,hc,hcm⟩:=OwnL.vals ho
 have HR:=hide hr
 have HB1:=hide (below_step HB.out hb)
 have HL:=hide (keyL_len x)
 clear ho hb hr HB
 go_wp2_with fail
 refine (Calls.mono (hash_any A c (keyL x) _ (by rw [HL.out];omega) HR.out keyL_b) ?_);rintro e w2 ⟨rfl,hb⟩
 have HB2:=hide (below_step HB1.out hb)
 have HHB:=hide (hashL_bd (keyL x))
 clear hb HB1 HR
 go_wp2_with fail
 go_loopw [3,4] (fun n h wr=>∃ (f:Nat) (x':Int),f≤5∧n=.int .i64 (6 - (f:Int))∧h=.int .u64 x'∧0≤x'∧x' < 18446744073709551616∧6 - (f:Int)+hgtAux f x'=hgt (keyL x)∧Below w.heap.size w wr) (fun n _ _=>(6 - intOf n).toNat)
 case atStart=>exact ⟨5,_,by omega,rfl,rfl,HHB.out.1,HHB.out.2,rfl,HB2.out⟩
 case round =>
  clear HHB
  obtain ⟨f,y,hf,rfl,rfl,hy0,hy1,he,hb⟩:=hrel
  have HE:=hide he
  have HB:=hide hb
  clear he hb HB2
  by_cases hy:bits .and .u64 y 3=0
  ·rcases f with _ | f
   ·go_wp2_with fail
    go_ret
    refine ⟨?_,HB.out⟩
    rw [← HE.out]
    rfl
   ·have HE2:=hide ((show hgtAux (f+1) y=1+hgtAux f (y / 4) by rw [hgtAux,if_pos hy]))
    have hlt:6 - ((f+1:Nat):Int) < 6:=by omega
    have hlt':6 - ((f:Int)+1) < 6:=by omega
    go_wp2_with fail
    go_roundw
    case rel=>exact ⟨f,y / 4,by omega,by go_num,rfl,by omega,by omega,by rw [← HE.out,HE2.out];omega,HB.out⟩
    case measure=>simp [intOf];omega
  ·have HE2:=hide ((show hgtAux f y=0 by rcases f with _ | f;rfl;rw [hgtAux,if_neg hy]))
   go_wp2_with fail
   go_ret
   exact ⟨congrArg (fun v=>Ending.returned (.int .i64 v)) (by rw [← HE.out,HE2.out,Int.add_zero]),HB.out⟩
end Go.Proofs.YtgmkckjedngkdaaGreatDoor
namespace Go.Proofs.YtgmkckjedngkdaaGreatDoor
open Go.ChangeShapes Go.WideShapes Go.ChangeAt Go.RowKit
theorem ItemsAt.sets {S:Nat→Prop} {w w':World} {A:Option Addr} {L:List It} (h:ItemsAt w A L) (k:Sets S w w') (hS:∀ a,A=some a→L ≠ []→¬ S a.block):ItemsAt w' A L:=fun hn=>by
 obtain ⟨b,off,rfl,hlt,hc⟩:=h hn
 exact ⟨b,off,rfl,Nat.lt_of_lt_of_le hlt k.size,fun i hi j u hu=>(World.cell?_of_block (k.block b hlt (hS _ rfl hn))).trans (hc i hi j u hu)⟩
def apE (f:Bool) (L:List It):Int:=if f then 14 else if anyI (fun x=>!goodB x) L then 1 else 0
def puts (L W:List It):List It:=L.foldl (fun W x=>skP x W) W
def apL (f:Bool) (L W:List It):List It:=if apE f L=0 then puts L W else W
structure ApTo (w w':World) (b p:Nat) (F:List Nd) (f:Bool) (n:Int) (L:List It) (F':List Nd) (n':Int):Prop where
 at_:MemAt w' b p F' f n'
 its:itsF F'=apL f L (itsF F)
 len:F'.length≤F.length+L.length
 own:∀ c,SBlk p F' c→SBlk p F c ∨ w.heap.size≤c
 sets:Sets (MBlk b p F) w w'
 size:n'=if apE f L=0 then 28 * ((F'.length:Int) - 1) else n
theorem tells_bad (L:List It) (w:World):Tells 142 #[] (fun x=>!goodB x) L w:=by
 intro x hx w1 hb
 show Calls Tryz.prog 142 #[x.val] w1 fun e w2=>e=.returned (.bool (!goodB x))∧Below w1.heap.size w1 w2
 have HG:=hide (fun W=>pgood_any x W)
 generalize goodB x=g at *
 have hba:=below_alloc (Below.refl w1.heap.size w1) (.cells (It.cells x).toArray 54)
 have HB:=hide hba
 clear hba hb
 go_enter Tryz.func142,Tryz.ntmps142
 go_wp2_with fail
 refine (Calls.mono (HG.out _) ?_);rintro e w2 ⟨rfl,hb2⟩
 have HB2:=hide (below_step HB.out hb2)
 clear hb2 HB
 cases g
 ·go_wp2_with fail
  go_ret
  exact ⟨rfl,HB2.out⟩
 ·go_wp2_with fail
  go_ret
  exact ⟨rfl,HB2.out⟩
theorem istore_any (b:Nat) (n m:Int) (w:World) (h:w.cell? ⟨b,5,none⟩=some (.int .i64 n)) (hz:w.frozen? ⟨b,5,none⟩=false) :
 Calls Tryz.prog 133 #[.pointer (some ⟨b,5,none⟩),.int .i64 m] w fun e w'=>e=.returned (.tuple #[])∧w'=w.setCell ⟨b,5,none⟩ (.int .i64 m):=by
 have hst:=run_call_store (P:=Tryz.prog) Tryz.func201 (by kernel_rfl) (by kernel_rfl) (by kernel_rfl) (by kernel_rfl) (k:=.i64) (y:=m) h hz
 go_enter Tryz.func133,Tryz.ntmps133
 go_wp2
 go_end0
 exact ⟨rfl,rfl⟩
theorem enters_bad:Enters Tryz.prog 142:=fun _ _=>by kernel_rfl
theorem mem_put5 {w:World} {b p:Nat} {d:Int} {f:Bool} {n:Int} {t:TypeId} (m:Int) (h:w.heap[b]? = some (.cells (memC p d f n) t (0,0))):(w.setCell ⟨b,5,none⟩ (.int .i64 m)).heap[b]? = some (.cells (memC p d f m) t (0,0)):=by
 simp [World.setCell,Array.getElem?_modify,h,memC]
theorem ap_last {w wr W:World} {b p:Nat} {F F':List Nd} {n:Int} {L:List It} (m:Int) (he:apE false L=0) (hm:MemAt wr b p F' false n) (hi:itsF F'=puts L (itsF F)) (hl:F'.length≤F.length+L.length) (ho:∀ c,SBlk p F' c→SBlk p F c ∨ w.heap.size≤c) (hs:Sets (MBlk b p F) w wr)
 (hW:Below wr.heap.size wr W) (hz:m=28 * ((F'.length:Int) - 1)):ApTo w (W.setCell ⟨b,5,none⟩ (.int .i64 m)) b p F false n L F' m:=by
 have hm':=hm.below hW
 have hst:Sets (fun c=>c=b) W (W.setCell ⟨b,5,none⟩ (.int .i64 m)):=(Sets.refl (S:=fun c=>c=b) W).set (g:=b) (fun _=>rfl) 5 _
 refine ⟨⟨hm'.sk.sets hst (fun c hc e=>hm'.ne (e ▸ hc)),hm'.ok,mem_put5 m hm'.box,hm'.ne⟩,?_,hl,ho,?_,?_⟩
 ·unfold apL
  rw [he,hi]
  rfl
 ·exact (hs.trans (Sets.of (S:=fun _=>False) hW) (fun _ _ h=>h.elim)).trans hst (fun _ _ e=>.inl e)
 ·rw [he,hz]
  rfl
theorem ap_next {w wr W v:World} {b p:Nat} {F F' F2:List Nd} {n:Int} {x:It} {h:Int} (hm:MemAt wr b p F' false n) (hs:Sets (MBlk b p F) w wr) (ho:∀ c,SBlk p F' c→SBlk p F c ∨ w.heap.size≤c) (hW:Below wr.heap.size wr W) (hP:PutTo W v p F' x h F2) :
 MemAt v b p F2 false n∧(∀ c,SBlk p F2 c→SBlk p F c ∨ w.heap.size≤c)∧Sets (MBlk b p F) w v:=by
 have hz1:=hs.size
 have hz2:=hW.size
 have hb:=hm.lb
 refine ⟨⟨hP.at_,hP.ok,(hP.sets.block b (by omega) hm.ne).trans ((hW.block b hb).trans hm.box),fun e=>?_⟩,fun c hc=>?_,?_⟩
 ·rcases hP.own b e with h | h
  ·exact hm.ne h
  ·omega
 ·rcases hP.own c hc with h | h
  ·exact ho c h
  ·right;omega
 ·refine (hs.trans (Sets.of (S:=fun _=>False) hW) (fun _ _ h=>h.elim)).trans hP.sets (fun i hi h=>?_)
  rcases ho i h with e | e
  ·exact .inr e
  ·omega
set_option maxRecDepth 100000 in
set_option maxHeartbeats 3200000 in
theorem apply_any (b p:Nat) (F:List Nd) (f:Bool) (n:Int) (A:Option Addr) (c:Nat) (L:List It) (w:World) (hM:MemAt w b p F f n) (hL:ItemsAt w A L) (hw:∀ x ∈ L,x.wf) (hlen:F.length+L.length≤1099511627776) (hA:∀ a,A=some a→L ≠ []→¬ MBlk b p F a.block) :
 Calls Tryz.prog 67 #[.pointer (some ⟨b,0,none⟩),.slice A L.length c] w fun e w'=>∃ F' n',e=.returned (.int .i64 (apE f L))∧ApTo w w' b p F f n L F' n':=by
 obtain ⟨_,⟨m0,m1,m2,m3,m4,m5⟩,mz⟩:=mem_box hM.box
 cases f with
 | true =>
  have HA:=hide (show ApTo w w b p F true n L F n from ⟨hM,rfl,by omega,fun c h=>.inl h,Sets.refl _,rfl⟩)
  clear hM hL hw hA m0 m1 m2 m3 m5 mz
  go_enter Tryz.func67,Tryz.ntmps67
  go_wp2_with fail
  go_ret
  exact ⟨F,n,rfl,HA.out⟩
 | false =>
  have HCN:=hide (contains_any 142 #[] enters_bad (fun x=>!goodB x) A c L w (by omega) hL (tells_bad L w))
  cases hbad:anyI (fun x=>!goodB x) L with
  | true =>
   rw [hbad] at HCN
   have he:apE false L=1:=by unfold apE;simp [hbad]
   have HA:=hide (fun (w':World) (hb:Below w.heap.size w w')=>show ApTo w w' b p F false n L F n from ⟨hM.below hb,by unfold apL;rw [he];rfl,by omega,fun c h=>.inl h,Sets.of hb,by rw [he];rfl⟩)
   rw [he]
   clear hM hL hw hA m0 m1 m2 m3 m5 mz hbad he
   go_enter Tryz.func67,Tryz.ntmps67
   go_wp2_with fail
   refine (Calls.mono HCN.out ?_);rintro e w1 ⟨rfl,hb1⟩
   have HB:=hide hb1
   clear hb1
   go_wp2_with fail
   go_ret
   exact ⟨F,n,rfl,HA.out _ HB.out⟩
  | false =>
   rw [hbad] at HCN
   have he:apE false L=0:=by unfold apE;simp [hbad]
   rw [he]
   have hgood:∀ x ∈ L,goodB x=true:=by
    intro x hx
    unfold anyI at hbad
    rw [List.any_eq_false] at hbad
    have:=hbad x hx
    simpa using this
   have HP:=hide hgood
   have HI:=hide hL
   have HWF:=hide hw
   have HAA:=hide hA
   have HM0:=hide hM
   clear hL hw hA m0 m1 m2 m3 m5 mz hbad hgood hM
   have HS0:Hid (∀ w':World,Below w.heap.size w w'→Sets (MBlk b p F) w w'):=hide (fun w' h=>Sets.of h)
   go_enter Tryz.func67,Tryz.ntmps67
   go_wp2_with fail
   refine (Calls.mono HCN.out ?_);rintro e w1 ⟨rfl,hb1⟩
   have HSE:=hide (HS0.out _ hb1)
   have HM1:=hide (HM0.out.below hb1)
   clear hb1 HS0 HCN
   go_wp2_with fail
   go_loopw [17] (fun i wr=>∃ (k:Nat) (F':List Nd),i=.int .i64 k∧k≤L.length∧MemAt wr b p F' false n∧itsF F'=puts (L.take k) (itsF F)∧F'.length≤F.length+k∧(∀ c,SBlk p F' c→SBlk p F c ∨ w.heap.size≤c)∧Sets (MBlk b p F) w wr) (fun i _=>L.length - (intOf i).toNat)
   case atStart=>exact ⟨0,F,rfl,by omega,HM1.out,rfl,by omega,fun c h=>.inl h,HSE.out⟩
   case round =>
    clear HM1 HSE
    obtain ⟨k,F',rfl,hk,hm,hi,hl,ho,hs⟩:=hrel
    have HM:=hide hm
    have HIT:=hide hi
    have HO:=hide ho
    have HS:=hide hs
    clear hi ho
    have hMb:=hm.lb
    obtain ⟨_,⟨m0,m1,m2,m3,m4,m5⟩,mz⟩:=mem_box hm.box
    have mz5:=mz 5
    clear m1 m2 m3 m4 mz
    by_cases hlt:k < L.length
    ·clear m5 mz5
     obtain ⟨bl,off,hAe,hbb,y0,y1,y2,y3,y4⟩:=ItemsAt.item (HI.out.sets hs HAA.out) (Below.refl _ _) hlt
     have hgo:=HP.out L[k] (List.getElem_mem _)
     have hwf:=HWF.out L[k] (List.getElem_mem _)
     have hpt:puts (L.take (k+1)) (itsF F)=skP L[k] (puts (L.take k) (itsF F)):=by unfold puts;rw [List.take_succ_eq_append_getElem hlt,List.foldl_append];rfl
     clear hm hs
     generalize L[k]=x at *
     subst hAe
     have HG:=hide hgo
     have HWX:=hide hwf
     have HPU:=hide hpt
     clear hgo hwf hpt
     have hltI:(k:Int) < (L.length:Int):=by omega
     obtain ⟨wx,hwx⟩:∃ wx,wr.alloc (.cells #[.int .i64 x.s,.int .i64 x.k,.int .u64 x.t,.int .u64 x.v,.int .i64 x.x] 54)=wx:=⟨_,rfl⟩
     have hbx:Below wr.heap.size wr wx:=by rw [← hwx];exact below_alloc (Below.refl _ _) _
     have hgx:BxAt wx wr.heap.size x:=by rw [← hwx];exact BxAt.box (x:=x) (heap_alloc_new wr _)
     have hbz:b ≠ wr.heap.size:=by omega
     have HK:Hid (∀ W:World,Below wx.heap.size wx W→W.cell? ⟨b,0,none⟩=some (.pointer (some ⟨p,0,none⟩))∧W.cell? ⟨wr.heap.size,0,none⟩=some (.int .i64 x.s)∧W.cell? ⟨wr.heap.size,1,none⟩=some (.int .i64 x.k)∧W.cell? ⟨wr.heap.size,2,none⟩=some (.int .u64 x.t)∧W.cell? ⟨wr.heap.size,3,none⟩=some (.int .u64 x.v)∧W.cell? ⟨wr.heap.size,4,none⟩=some (.int .i64 x.x)):=by
      refine hide fun W hW=>?_
      obtain ⟨g0,g1,g2,g3,g4,g5⟩:=hgx
      exact ⟨ck (Nat.lt_of_lt_of_le hMb hbx.size) (ck hMb m0 hbx) hW,ck g0 g1 hW,ck g0 g2 hW,ck g0 g3 hW,ck g0 g4 hW,ck g0 g5 hW⟩
     have HH:=hide (fun W=>height_any x W HWX.out)
     have HHB:=hide (hgt_bd (keyL x))
     generalize hgt (keyL x)=h at *
     have HPT:Hid (∀ W:World,Below wx.heap.size wx W→Calls Tryz.prog 144 #[.pointer (some ⟨p,0,none⟩),x.val,.int .i64 h] W fun e w'=>∃ r F2,e=.returned r∧MemAt w' b p F2 false n∧itsF F2=puts (L.take (k+1)) (itsF F)∧F2.length≤F.length+(k+1)∧(∀ c,SBlk p F2 c→SBlk p F c ∨ w.heap.size≤c)∧Sets (MBlk b p F) w w'∧(w'.cell? ⟨b,0,none⟩=some (.pointer (some ⟨p,0,none⟩))∧w'.cell? ⟨wr.heap.size,0,none⟩=some (.int .i64 x.s)∧w'.cell? ⟨wr.heap.size,1,none⟩=some (.int .i64 x.k)∧w'.cell? ⟨wr.heap.size,2,none⟩=some (.int .u64 x.t)∧w'.cell? ⟨wr.heap.size,3,none⟩=some (.int .u64 x.v)∧w'.cell? ⟨wr.heap.size,4,none⟩=some (.int .i64 x.x))):=by
      refine hide fun W hW=>?_
      have hbW:=below_step hbx hW
      refine Calls.mono (skput_any p F' x h W (HM.out.sk.below hbW) HM.out.ok (by omega)) ?_
      rintro e v ⟨F2,rfl,hP⟩
      obtain ⟨h1,h2,h3⟩:=ap_next HM.out HS.out HO.out hbW hP
      have hgW:wr.heap.size < W.heap.size:=Nat.lt_of_lt_of_le hgx.1 hW.size
      have hbl:v.heap[wr.heap.size]? = W.heap[wr.heap.size]?:=hP.sets.block _ hgW (fun e=>Nat.lt_irrefl _ (HM.out.sk.lt _ e))
      obtain ⟨k0,k1,k2,k3,k4,k5⟩:=HK.out W hW
      refine ⟨_,F2,rfl,h1,?_,by have:=hP.len;omega,h2,h3,(mem_box h1.box).2.1.1,(World.cell?_of_block hbl).trans k1,(World.cell?_of_block hbl).trans k2,(World.cell?_of_block hbl).trans k3,(World.cell?_of_block hbl).trans k4,(World.cell?_of_block hbl).trans k5⟩
      rw [hP.its,HPU.out,HIT.out]
      unfold skL
      rw [if_pos (okP_iff.2 ⟨HG.out,HHB.out.1,HHB.out.2⟩)]
     clear hbx hgx hbz HM HIT HO HS HPU HG HWX HHB m0
     go_upto_region 8 with fail
     try rw [hwx]
     clear hwx y0 y1 y2 y3 y4
     obtain ⟨x0,x1,x2,x3,x4,x5⟩:=HK.out wx (Below.refl _ _)
     generalize wr.heap.size=gx at *
     go_region_held3 (fun W'=>W'.cell? ⟨b,0,none⟩=some (.pointer (some ⟨p,0,none⟩))∧W'.cell? ⟨gx,0,none⟩=some (.int .i64 x.s)∧W'.cell? ⟨gx,1,none⟩=some (.int .i64 x.k)∧W'.cell? ⟨gx,2,none⟩=some (.int .u64 x.t)∧W'.cell? ⟨gx,3,none⟩=some (.int .u64 x.v)∧W'.cell? ⟨gx,4,none⟩=some (.int .i64 x.x)) (first | exact Q6.out | exact HK.out _ (by repeat (first | exact HB1.out | exact Below.refl _ _ | refine Below.drew ?_))) (first
      | (go_at_call 145;refine (Calls.mono (HH.out _) ?_);rintro e v1 ⟨rfl,hb1⟩;have HB1:=hide (show Below wx.heap.size wx v1 from (below_step (by repeat (first | exact Below.refl _ _ | refine Below.drew ?_)) hb1));clear hb1)
      | (go_at_call 144;refine (Calls.mono (HPT.out _ (by repeat (first | exact HB1.out | refine Below.drew ?_))) ?_);rintro e v2 ⟨r,F2,rfl,q1,q2,q3,q4,q5,q6⟩;have Q6:=hide q6;  have Q1:=hide q1;have Q2:=hide q2;have Q3:=hide q3;have Q4:=hide q4;have Q5:=hide q5;clear q1 q2 q3 q4 q5 q6))
     go_wp2_with fail
     go_roundw
     case rel=>exact ⟨k+1,F2,by go_num,by omega,Q1.out,Q2.out,Q3.out,Q4.out,Q5.out⟩
     case measure=>(simp [intOf] <;> omega)
    ·obtain rfl:k=L.length:=by omega
     have hgeI:¬ (L.length:Int) < (L.length:Int):=by omega
     clear hm hs
     obtain ⟨z,hz⟩:∃ z:Int,(F'.length:Int) - 1=z:=⟨_,rfl⟩
     have hz0:-1≤z∧z≤1099511627776:=by omega
     have hw28:IntKind.i64.wrap (z * 28)=z * 28:=by rw [IntKind.wrap_i64];omega
     have HLN:Hid (∀ W:World,Below wr.heap.size wr W→Calls Tryz.prog 146 #[.pointer (some ⟨p,0,none⟩)] W fun e w'=>e=.returned (.int .i64 z)∧w'=W):=by
      refine hide fun W hW=>?_
      have:=len_any p F' W (HM.out.sk.below hW)
      rw [hz] at this
      exact this
     have HIS:Hid (∀ W:World,Below wr.heap.size wr W→Calls Tryz.prog 133 #[.pointer (some ⟨b,5,none⟩),.int .i64 (z * 28)] W fun e w'=>e=.returned (.tuple #[])∧ApTo w w' b p F false n L F' (z * 28)∧w'.cell? ⟨b,0,none⟩=some (.pointer (some ⟨p,0,none⟩))):=by
      refine hide fun W hW=>?_
      refine Calls.mono (istore_any b n (z * 28) W (ck hMb m5 hW) ((hW.frozen (p:=⟨b,5,none⟩) hMb).trans mz5)) ?_
      rintro e w' ⟨rfl,rfl⟩
      have hit:=HIT.out
      rw [List.take_length] at hit
      have ha:=ap_last (z * 28) he HM.out hit (by omega) HO.out HS.out hW (by omega)
      exact ⟨rfl,ha,(mem_box ha.at_.box).2.1.1⟩
     have HK:Hid (∀ W:World,Below wr.heap.size wr W→W.cell? ⟨b,0,none⟩=some (.pointer (some ⟨p,0,none⟩))):=hide fun W hW=>ck hMb m0 hW
     clear hz HM HIT HO HS mz5 m5 hz0
     go_upto_region 10 with fail
     go_region_held3 (fun W'=>W'.cell? ⟨b,0,none⟩=some (.pointer (some ⟨p,0,none⟩))) (first | exact Q2.out | exact HK.out _ (by repeat (first | exact Below.refl _ _ | refine Below.drew ?_))) (first
      | (go_at_call 146;refine (Calls.mono (HLN.out _ (by repeat (first | exact Below.refl _ _ | refine Below.drew ?_))) ?_);rintro e v1 ⟨rfl,rfl⟩)
      | (go_at_call 133;refine (Calls.mono (HIS.out _ (by repeat (first | exact Below.refl _ _ | refine Below.drew ?_))) ?_);rintro e v2 ⟨rfl,q1,q2⟩;have Q1:=hide q1;have Q2:=hide q2;clear q1 q2))
     go_wp2_with fail
     go_ret
     exact ⟨F',_,rfl,Q1.out⟩
end Go.Proofs.YtgmkckjedngkdaaGreatDoor
namespace Go.Proofs.YtgmkckjedngkdaaGreatDoor
open Go.ChangeShapes Go.WideShapes Go.ChangeAt Go.RowKit
set_option maxHeartbeats 1600000 in
theorem only_any (F:FuncId) (caps:Array Value) (hcf:Enters Tryz.prog F) (p:It→Bool) (A:Option Addr) (c:Nat) (L:List It) (w:World) (hL:ItemsAt w A L) (hF:Tells F caps p L w) (hn:L.length≤1099511627776) :
 Calls Tryz.prog 86 #[.slice A L.length c,.func (.func F) #[] caps] w (RetOf (L.filter p) w):=by
 have HL:=hide hL
 have HT:=hide hF
 have HCF:=hide hcf
 clear hL hF hcf
 go_enter Tryz.func86,Tryz.ntmps86
 go_wp2_with fail
 go_loopw [5,10] (fun sv i wr=>∃ k:Nat,i=.int .i64 k∧k≤L.length∧Ow w.heap.size wr sv ((L.take k).filter p)∧Below w.heap.size w wr) (fun _ i _=>L.length - (intOf i).toNat)
 case atStart=>exact ⟨0,rfl,by omega,Ow.nil_ _ _,Below.refl _ _⟩
 case round =>
  obtain ⟨k,rfl,hk,hown,hb⟩:=hrel
  have HO:=hide hown
  have HB:=hide hb
  clear hown hb
  by_cases hlt:k < L.length
  ·obtain ⟨bl,off,rfl,hbb,y0,y1,y2,y3,y4⟩:=ItemsAt.item HL.out HB.out hlt
   have hcall:=HT.out L[k] (List.getElem_mem _) _ (below_alloc HB.out (.cells L[k].cells.toArray 54))
   have HF1:=hide (filt_in (p:=p) hlt)
   have HF2:=hide (filt_out (p:=p) hlt)
   have hNl:((L.take k).filter p).length≤k:=filt_len _ _ _
   generalize L[k]=y at *
   generalize (L.take k).filter p=N at *
   have HC:=hide hcall
   clear hcall
   have hcf:=HCF.out
   unfold Enters at hcf
   cases hp:p y
   ·have HN:=hide (HF2.out hp)
    go_wp2_with fail
    refine (Calls.mono HC.out ?_);rintro e w1 ⟨rfl,hg1⟩
    rw [hp]
    go_wp2_with fail
    go_roundw
    case rel=>exact ⟨k+1,by go_num,by omega,by rw [HN.out];exact (OwnL.alloc HO.out _).below hg1,below_step (below_alloc HB.out _) hg1⟩
    case measure=>simp [intOf];omega
   ·have HN:=hide (HF1.out hp)
    go_wp2_with fail
    refine (Calls.mono HC.out ?_);rintro e w1 ⟨rfl,hg1⟩
    rw [hp]
    obtain ⟨x0,x1,x2,x3,x4⟩:=box_item (x:=y) ((hg1.block wr.heap.size (by simp)).trans (heap_alloc_new wr _))
    have hb1:Below w.heap.size w w1:=below_step (below_alloc HB.out _) hg1
    have HO1:Hid (Ow w.heap.size w1 u5 N):=hide ((OwnL.alloc HO.out _).below hg1)
    have HB1:=hide hb1
    clear hb1 hg1
    go_wp2_with (at_builtin;refine wpList_append_item rfl (.tmp 17) (.tmp 19) rfl _ _ _ _ _ _ N y rfl rfl rfl HO1.out HB1.out (Nat.le_refl _) HB1.out.size (by omega) ?_;intro v1 u1 ho1 hbu1 hgu1)
    go_roundw
    case rel=>exact ⟨k+1,by go_num,by omega,by rw [HN.out];exact ho1,hbu1⟩
    case measure=>simp [intOf];omega
  ·obtain rfl:k=L.length:=by omega
   have HF:=hide (filt_all p L)
   go_wp2_with fail
   refine (Calls.mono (clip_og (HO.out.og)) ?_);rintro e w3 ⟨⟨v3,rfl,ho3⟩,rfl⟩
   go_wp2_with fail
   go_ret
   exact ⟨_,rfl,by rw [← HF.out];exact ho3,HB.out⟩
theorem box_one {w:World} {g:Nat} {u:Value} {t:TypeId} (h:w.heap[g]? = some (.cells #[u] t (0,0))):w.cell? ⟨g,0,none⟩=some u:=(cell_of_row w g 0 _ _ _ h).trans rfl
set_option maxHeartbeats 400000 in
theorem seriesc_any (y:It) (s:Int) (b:Nat) (w:World) (h:w.heap[b]? = some (.cells #[.int .i64 s] 3 (0,0))):Calls Tryz.prog 163 #[y.val,.pointer (some ⟨b,0,none⟩)] w fun e w'=>e=.returned (.bool (serP s y))∧Below w.heap.size w w':=by
 have c0:=box_one h
 have hb:b < w.heap.size:=(Array.getElem?_eq_some_iff.1 h).1
 clear h
 by_cases hs:y.s=s
 ·have HP:Hid (serP s y=true):=hide (decide_eq_true hs)
  have bs:(y.s == s)=true:=beq_iff_eq.2 hs
  clear hs
  go_enter Tryz.func163,Tryz.ntmps163
  go_wp2_with fail
  go_ret
  exact ⟨by rw [HP.out];rfl,below_alloc (Below.refl _ _) _⟩
 ·have HP:Hid (serP s y=false):=hide (decide_eq_false hs)
  have bs:(y.s == s)=false:=beq_eq_false_iff_ne.2 hs
  go_enter Tryz.func163,Tryz.ntmps163
  go_wp2_with fail
  go_ret
  exact ⟨by rw [HP.out];rfl,below_alloc (Below.refl _ _) _⟩
theorem pseries_any (A:Option Addr) (c:Nat) (L:List It) (s:Int) (w:World) (hL:ItemsAt w A L) (hn:L.length≤1099511627776):Calls Tryz.prog 84 #[.slice A L.length c,.int .i64 s] w (RetOf (L.filter (serP s)) w):=by
 have hcf:Enters Tryz.prog 163:=fun args W=>by kernel_rfl
 have hb:Below w.heap.size w (w.alloc (.cells #[.int .i64 s] 3)):=below_alloc (Below.refl _ _) _
 have H:=hide (only_any 163 #[.pointer (some ⟨w.heap.size,0,none⟩)] hcf (serP s) A c L (w.alloc (.cells #[.int .i64 s] 3)) (RowAt.below hL hb) (fun y _ w1 h1=>seriesc_any y s w.heap.size w1 ((h1.block _ (by simp)).trans (heap_alloc_new w _))) hn)
 have HB:=hide hb
 clear hL hcf hb
 go_enter Tryz.func84,Tryz.ntmps84
 go_wp2_with fail
 refine (Calls.mono H.out ?_);rintro e w1 ⟨v1,rfl,ho1,hg1⟩
 go_wp2_with fail
 go_ret
 exact ⟨_,rfl,ho1.base_ HB.out.size,below_step HB.out hg1⟩
end Go.Proofs.YtgmkckjedngkdaaGreatDoor
namespace Go.Proofs.YtgmkckjedngkdaaGreatDoor
open Go.ChangeShapes Go.WideShapes Go.ChangeAt Go.RowKit
def findI_F (p:It→Bool) (L:List It):Int:=match L.findIdx? p with | some i=>i | none=>-1
theorem findI_hit_F {p:It→Bool} {L:List It} {k:Nat} (hk:k < L.length) (h:∀ j (_:j < k) (hj':j < L.length),p L[j]=false) (hp:p L[k]=true):findI_F p L=k:=by
 have e:L.findIdx? p=some k:=by
  rw [List.findIdx?_eq_some_iff_getElem]
  exact ⟨hk,hp,fun j hj=>by simp [h j hj (by omega)]⟩
 simp [findI_F,e]
theorem findI_miss_F {p:It→Bool} {L:List It} (h:∀ j (hj':j < L.length),p L[j]=false):findI_F p L=-1:=by
 have e:L.findIdx? p=none:=by
  rw [List.findIdx?_eq_none_iff]
  intro x hx
  obtain ⟨j,hj,rfl⟩:=List.getElem_of_mem hx
  exact h j hj
 simp [findI_F,e]
theorem miss_snoc_F {p:It→Bool} {L:List It} {k:Nat} {hk:k < L.length} (h:∀ j (_:j < k) (hj':j < L.length),p L[j]=false) (hp:p L[k]=false):∀ j (_:j < k+1) (hj':j < L.length),p L[j]=false:=by
 intro j hj hj'
 by_cases e:j=k
 ·subst e;exact hp
 ·exact h j (by omega) hj'
def Tells_F (F:FuncId) (caps:Array Value) (p:It→Bool) (L:List It) (w:World):Prop :=
 ∀ x ∈ L,∀ w1,Below w.heap.size w w1→Calls Tryz.prog F (#[x.val] ++ caps) w1 fun e w2=>e=.returned (.bool (p x))∧Below w1.heap.size w1 w2
set_option maxHeartbeats 400000 in
theorem index_any_F (F:FuncId) (caps:Array Value) (hcf:Enters Tryz.prog F) (p:It→Bool) (A:Option Addr) (c:Nat) (L:List It) (w:World) (hl:L.length≤9223372036854775807) (hL:ItemsAt w A L)
 (hF:Tells_F F caps p L w) :
  Calls Tryz.prog 158 #[.slice A L.length c,.func (.func F) #[] caps] w fun e w'=>e=.returned (.int .i64 (findI_F p L))∧Below w.heap.size w w':=by
 unfold Enters at hcf
 unfold Tells_F at hF
 go_enter Tryz.func158,Tryz.ntmps158
 go_wp2
 go_loopw [5,8] (fun _ i wr=>∃ k:Nat,k≤L.length∧i=.int .i64 k∧Below w.heap.size w wr∧∀ j (hj:j < k) (hj':j < L.length),p L[j]=false) (fun _ i _=>L.length - (intOf i).toNat)
 case atStart=>exact ⟨0,by omega,rfl,Below.refl _ _,by intro j hj;omega⟩
 case round =>
  obtain ⟨k,hk,rfl,hb,hp⟩:=hrel
  have HP:=hide hp
  clear hp
  by_cases hlt:k < L.length
  ·obtain ⟨b,off,rfl,hbb,c0,c1,c2,c3,c4⟩:=hL.item hb hlt
   have hFk:=hF L[k] (List.getElem_mem _) wr hb
   have HF:=hide hFk
   clear hFk hF
   cases hpk:p L[k]
   ·have HN:=hide (miss_snoc_F HP.out hpk)
    go_wp2_with (refine (Calls.mono HF.out ?_);rintro e w1 ⟨rfl,hg1⟩;try rw [hpk])
    go_roundw
    case rel=>exact ⟨k+1,by omega,by go_num,hb.trans (hg1.mono hb.size),HN.out⟩
    case measure=>simp [intOf];omega
   ·have HM:=hide (findI_hit_F hlt HP.out hpk)
    go_wp2_with (refine (Calls.mono HF.out ?_);rintro e w1 ⟨rfl,hg1⟩;try rw [hpk])
    go_ret
    exact ⟨by rw [HM.out];rfl,hb.trans (hg1.mono hb.size)⟩
  ·have HM:=hide (findI_miss_F (fun j hj=>HP.out j (by omega) hj))
   go_wp2
   go_ret
   exact ⟨by rw [HM.out];rfl,hb⟩
def anyI_F (p:It→Bool) (L:List It):Bool:=L.any p
theorem findI_any_F (p:It→Bool) (L:List It):decide (0≤findI_F p L)=anyI_F p L:=by
 unfold findI_F anyI_F
 cases h:L.findIdx? p with
 | none =>
  rw [List.findIdx?_eq_none_iff] at h
  simp
  intro x hx;simp [h x hx]
 | some i =>
  rw [List.findIdx?_eq_some_iff_getElem] at h
  obtain ⟨hi,hp,_⟩:=h
  simp
  exact ⟨_,List.getElem_mem hi,hp⟩
set_option maxHeartbeats 400000 in
theorem contains_any_F (F:FuncId) (caps:Array Value) (hcf:Enters Tryz.prog F) (p:It→Bool) (A:Option Addr) (c:Nat) (L:List It) (w:World) (hl:L.length≤9223372036854775807) (hL:ItemsAt w A L)
 (hF:Tells_F F caps p L w) :
  Calls Tryz.prog 78 #[.slice A L.length c,.func (.func F) #[] caps] w fun e w'=>e=.returned (.bool (anyI_F p L))∧Below w.heap.size w w':=by
 have H:=hide (index_any_F F caps hcf p A c L w hl hL hF)
 have HE:=hide (findI_any_F p L)
 clear hF hL
 generalize findI_F p L=q at *
 generalize anyI_F p L=r at *
 go_enter Tryz.func78,Tryz.ntmps78
 go_wp2_with (refine (Calls.mono H.out ?_);rintro e w1 ⟨rfl,hg1⟩)
 go_ret
 exact ⟨by rw [← HE.out];rfl,hg1⟩
end Go.Proofs.YtgmkckjedngkdaaGreatDoor
namespace Go.Proofs.YtgmkckjedngkdaaGreatDoor
open Go.ChangeShapes Go.WideShapes Go.ChangeAt Go.RowKit
abbrev meta4 (f c a l:Int):Value:=.agg #[.int .u64 f,.int .u64 c,.int .u64 a,.int .u64 l]
def collects (a now grace:Int):Bool:=decide (a≤281474976710656∧grace≤281474976710656 - a∧a+grace≤now)
set_option maxHeartbeats 400000 in
theorem pcollect_yes (f c a l now grace:Int) (w:World) (ha:0≤a) (hg:0≤grace) (h:collects a now grace=true) :
 Calls Tryz.prog 181 #[meta4 f c a l,.int .u64 now,.int .u64 grace] w fun e w'=>e=.returned (.int .u64 c)∧Below w.heap.size w w':=by
 simp only [collects,decide_eq_true_eq] at h
 obtain ⟨h1,h2,h3⟩:=h
 go_enter Tryz.func181,Tryz.ntmps181
 go_wp2
 go_returns
 exact ⟨rfl,by go_grown⟩
set_option maxHeartbeats 400000 in
theorem pcollect_no (f c a l now grace:Int) (w:World) (ha:0≤a) (hg:0≤grace) (h:collects a now grace=false) :
 Calls Tryz.prog 181 #[meta4 f c a l,.int .u64 now,.int .u64 grace] w fun e w'=>e=.returned (.int .u64 0)∧Below w.heap.size w w':=by
 simp only [collects,decide_eq_false_iff_not] at h
 go_enter Tryz.func181,Tryz.ntmps181
 go_wp2
 all_goals
  go_returns
  exact ⟨rfl,by go_grown⟩
theorem pcollect_any (f c a l now grace:Int) (w:World) (ha:0≤a) (hg:0≤grace) :
 Calls Tryz.prog 181 #[meta4 f c a l,.int .u64 now,.int .u64 grace] w fun e w'=>e=.returned (.int .u64 (if collects a now grace then c else 0))∧Below w.heap.size w w':=by
 cases h:collects a now grace
 ·simpa using pcollect_no f c a l now grace w ha hg h
 ·simpa using pcollect_yes f c a l now grace w ha hg h
end Go.Proofs.YtgmkckjedngkdaaGreatDoor
namespace Go.Proofs.YtgmkckjedngkdaaGreatDoor
open Go.ChangeShapes Go.WideShapes Go.ChangeAt Go.RowKit
def lowB (f:Int) (x:It):Bool:=decide (x.v≤f)
def allowB (f:Int) (L:List It):Bool:=!anyI_F (lowB f) L
set_option maxHeartbeats 400000 in
theorem allow1_any (x:It) (B:Nat) (f:Int) (w:World) (hc:w.cell? ⟨B,0,none⟩=some (.int .u64 f)) (hB:B < w.heap.size) :
 Calls Tryz.prog 79 #[x.val,.pointer (some ⟨B,0,none⟩)] w fun e w'=>e=.returned (.bool (lowB f x))∧Below w.heap.size w w':=by
 go_enter Tryz.func79,Tryz.ntmps79
 go_wp2
 go_ret
 exact ⟨rfl,by go_grown⟩
theorem allow1_in:Enters Tryz.prog 79:=fun _ _=>by kernel_rfl
set_option maxHeartbeats 400000 in
theorem pallow_any (f c a l:Int) (A:Option Addr) (k:Nat) (L:List It) (w:World) (hl:L.length≤9223372036854775807) (hL:ItemsAt w A L) :
 Calls Tryz.prog 27 #[meta4 f c a l,.slice A L.length k] w fun e w'=>e=.returned (.bool (allowB f L))∧Below w.heap.size w w':=by
 have HL:=hide hL
 clear hL
 have HA:Hid (allowB f L=!anyI_F (lowB f) L):=rfl
 generalize hg:allowB f L=r at *
 clear hg
 go_enter Tryz.func27,Tryz.ntmps27
 go_wp2_with fail
 refine (contains_any_F 79 _ allow1_in (lowB f) A k L _ hl (HL.out.below (Below.alloc (Below.refl _ _) (Nat.le_refl _) _)) ?_).mono ?_
 ·intro x _ w1 hb
  refine allow1_any x w.heap.size f w1 ?_ ?_
  ·rw [hb.cell (by simp)];simp
  ·have:=hb.size;simp at this;omega
 ·rintro e w1 ⟨rfl,hg1⟩
  go_wp2
  go_ret
  exact ⟨by rw [HA.out];rfl,by repeat' (first | exact Below.refl _ _ | refine below_alloc ?_ _ | refine below_step ?_ (by assumption))⟩
end Go.Proofs.YtgmkckjedngkdaaGreatDoor
namespace Go.Proofs.YtgmkckjedngkdaaGreatDoor
open Go.ChangeShapes Go.WideShapes Go.ChangeAt Go.RowKit
set_option maxHeartbeats 1600000 in
theorem sequal_any (A B:Option Addr) (c d:Nat) (L M:List It) (w:World) (hL:ItemsAt w A L) (hM:ItemsAt w B M) (hn:L.length≤4611686018427387904) (hm:M.length≤4611686018427387904) :
 Calls Tryz.prog 159 #[.slice A L.length c,.slice B M.length d] w fun e w'=>e=.returned (.bool (eqL L M))∧Below w.heap.size w w':=by
 have HL:=hide hL
 have HM:=hide hM
 clear hL hM
 by_cases hlen:L.length=M.length
 case neg =>
  have HE:=hide (eqL_len hlen)
  have hb:((L.length:Int) == (M.length:Int))=false:=beq_eq_false_iff_ne.2 (by omega)
  have hb2:((L.length:Int) != (M.length:Int))=true:=by rw [bne_iff_ne];omega
  go_enter Tryz.func159,Tryz.ntmps159
  go_wp2_with fail
  go_ret
  exact ⟨by rw [HE.out];rfl,Below.refl _ _⟩
 have hb:((L.length:Int) == (M.length:Int))=true:=beq_iff_eq.2 (by omega)
 have hb2:((L.length:Int) != (M.length:Int))=false:=by simp [hlen]
 have HLen:=hide hlen
 have hle:M.length≤L.length:=by omega
 have hle2:L.length≤M.length:=by omega
 clear hlen
 go_enter Tryz.func159,Tryz.ntmps159
 go_wp2_with fail
 go_loopw [13] (fun i wr=>∃ k:Nat,i=.int .i64 k∧k≤L.length∧Below w.heap.size w wr∧L.take k=M.take k) (fun i _=>L.length - (intOf i).toNat)
 case atStart=>exact ⟨0,rfl,by omega,Below.refl _ _,rfl⟩
 case round =>
  obtain ⟨k,rfl,hk,hb,ht⟩:=hrel
  have HT:=hide ht
  clear ht
  by_cases hlt:k < L.length
  ·obtain ⟨bl,off,rfl,hbb,y0,y1,y2,y3,y4⟩:=ItemsAt.item HL.out hb hlt
   obtain ⟨bl2,off2,rfl,hbb2,z0,z1,z2,z3,z4⟩:=ItemsAt.item HM.out hb (k:=k) (by omega)
   have hl2:k < M.length:=by omega
   have H1:=hide (take_ne hlt hl2)
   have H2:=hide (take_on hlt hl2 HT.out)
   generalize L[k]=y at *
   generalize M[k]=z at *
   have hq:=run_neq_item y z
   cases hyz:eqI y z
   all_goals
    rw [hyz] at hq
    go_wp2_with fail
    go_quiet (fail)
    go_wp2_with fail
   ·go_ret
    exact ⟨by rw [H1.out hyz];rfl,below_drewN hb _⟩
   ·go_roundw
    case rel=>exact ⟨k+1,by go_num,by omega,below_drewN hb _,H2.out hyz⟩
    case measure=>simp [intOf];omega
  ·have HE:=hide (take_eq HLen.out (by omega) HT.out)
   go_wp2_with fail
   go_ret
   exact ⟨by rw [HE.out];rfl,hb⟩
theorem psame_any_ (A B:Option Addr) (c d:Nat) (L M:List It) (w:World) (hL:ItemsAt w A L) (hM:ItemsAt w B M) (hn:L.length≤4611686018427387904) (hm:M.length≤4611686018427387904) :
 Calls Tryz.prog 80 #[.slice A L.length c,.slice B M.length d] w fun e w'=>e=.returned (.bool (eqL L M))∧Below w.heap.size w w':=by
 have H:=hide (sequal_any A B c d L M w hL hM hn hm)
 clear hL hM
 go_enter Tryz.func80,Tryz.ntmps80
 go_wp2_with fail
 refine (Calls.mono H.out ?_);rintro e w1 ⟨rfl,hg1⟩
 go_wp2_with fail
 go_ret
 exact ⟨rfl,hg1⟩
end Go.Proofs.YtgmkckjedngkdaaGreatDoor
namespace Go.Proofs.YtgmkckjedngkdaaGreatDoor
open Go.RowKit
theorem and_mask_i64 (a:Int) (k:Nat) (m:Int) (hk:k < 63) (hm:m=2 ^ k - 1):bits .and .i64 a m=a % 2 ^ k:=by
 have h2:((2:Nat) ^ k) < 2 ^ 63:=Nat.pow_lt_pow_right (by omega) hk
 have h2':(2:Nat) ^ k ∣ 2 ^ 64:=Nat.pow_dvd_pow 2 (by omega)
 have hpos:0 < (2:Nat) ^ k:=Nat.pow_pos (by omega)
 have ec:((2 ^ k:Nat):Int)=(2:Int) ^ k:=by simp
 have hm':m=((2 ^ k - 1:Nat):Int):=by omega
 show IntKind.i64.wrap ((BitVec.ofInt 64 a &&& BitVec.ofInt 64 m).toNat:Int)=_
 have e1:(BitVec.ofInt 64 m).toNat=2 ^ k - 1:=by
  rw [hm',BitVec.ofInt_natCast,BitVec.toNat_ofNat];exact Nat.mod_eq_of_lt (by omega)
 rw [BitVec.toNat_and,e1,Nat.and_two_pow_sub_one_eq_mod,BitVec.toNat_ofInt]
 have e2:(((a % ((2 ^ 64:Nat):Int)).toNat % 2 ^ k:Nat):Int)=a % 2 ^ k:=by
  have hnn:0≤a % ((2 ^ 64:Nat):Int):=Int.emod_nonneg _ (by decide)
  rw [Int.natCast_emod,Int.toNat_of_nonneg hnn,← ec]
  exact Int.emod_emod_of_dvd a (by exact_mod_cast h2')
 rw [e2,IntKind.wrap_i64]
 have h3:0≤a % (2:Int) ^ k:=Int.emod_nonneg _ (by omega)
 have h4:a % (2:Int) ^ k < 2 ^ k:=Int.emod_lt_of_pos _ (by omega)
 omega
def cnt (x:Int):Nat→Int
 | 0=>0
 | n+1=>cnt x n+x / 2 ^ n % 2
end Go.Proofs.YtgmkckjedngkdaaGreatDoor
