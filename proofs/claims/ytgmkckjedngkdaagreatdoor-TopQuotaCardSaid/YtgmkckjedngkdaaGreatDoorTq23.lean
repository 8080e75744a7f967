/- A part of the proof that TopQuotaLaw holds: XSkQ, XSkA, XMem, XMemA. Conditions: as typed. -/
import Derived.Test.YtgmkckjedngkdaaGreatDoorTq02
import Derived.Test.YtgmkckjedngkdaaGreatDoorTq19
import Derived.Test.YtgmkckjedngkdaaGreatDoorTq21
import Derived.Test.YtgmkckjedngkdaaGreatDoorTq22
import Derived.Deep.RegionHeld3
set_option linter.unusedVariables false
set_option linter.unusedSimpArgs false
namespace Go.Proofs.YtgmkckjedngkdaaGreatDoor
open Go.ChangeShapes Go.WideShapes Go.ChangeAt Go.RowKit
def winsAt (x:It) (L:List It):Bool:=match L[lowI x L]? with
 | some y=>winsB x y
 | none=>true
def skP (x:It) (L:List It):List It:=if sameAt x L=true then (if winsAt x L=true then L.set (lowI x L) x else L) else L.take (lowI x L) ++ x :: L.drop (lowI x L)
def okP (x:It) (h:Int):Bool:=goodB x && decide (1≤h) && decide (h≤6)
def skL (x:It) (h:Int) (L:List It):List It:=if okP x h=true then skP x L else L
def skH (x:It) (h:Int) (L:List It) (H:List Nat):List Nat:=if okP x h=true then (if sameAt x L=true then H else H.take (lowI x L) ++ h.toNat :: H.drop (lowI x L)) else H
def skR (x:It) (h:Int) (L:List It):Bool:=okP x h && (!sameAt x L || winsAt x L)
def skE (x:It) (h:Int):Int:=if okP x h=true then 0 else 1
theorem okP_iff {x:It} {h:Int}:okP x h=true ↔ goodB x=true∧1≤h∧h≤6:=by unfold okP;simp [and_assoc]
theorem skP_putL {x:It} {L:List It} (h:sameAt x L=false ∨ winsAt x L=true):skP x L=putL x L:=by
 unfold skP
 cases hs:sameAt x L with
 | true =>
   rw [hs] at h
   rw [if_pos rfl,if_pos (by simpa using h),putL_same hs]
 | false=>rw [if_neg (by simp),putL_else hs]
theorem skP_keep {x:It} {L:List It} (h:sameAt x L=true) (hw:winsAt x L=false):skP x L=L:=by
 unfold skP
 rw [if_pos h,if_neg (by simp [hw])]
theorem rising_skP {x:It} {L:List It} (h:Rising L):Rising (skP x L):=by
 by_cases e:sameAt x L=true∧winsAt x L=false
 · rw [skP_keep e.1 e.2]
   exact h
 · rw [skP_putL (by cases hs:sameAt x L <;> cases hw:winsAt x L <;> simp_all)]
   exact rising_putL h
def Top (S:List It) (x:It):Prop:=x ∈ S∧∀ y ∈ S,It.same x y→¬ It.wins y x
structure IsTop (S L:List It):Prop where
 up:Rising L
 mem:∀ x,x ∈ L ↔ Top S x
theorem IsTop.congr {S T L:List It} (h:∀ x,x ∈ S ↔ x ∈ T) (k:IsTop S L):IsTop T L:=by
 refine ⟨k.up,fun x=>(k.mem x).trans ?_⟩
 unfold Top
 rw [h x]
 constructor
 · rintro ⟨a,b⟩
   exact ⟨a,fun y hy=>b y ((h y).2 hy)⟩
 · rintro ⟨a,b⟩
   exact ⟨a,fun y hy=>b y ((h y).1 hy)⟩
theorem its_set {F:List Nd} {q:Nat} {n:Nd}:itsF (F.set (q+1) n)=(itsF F).set q n.x:=by
 unfold itsF
 cases F with
 | nil=>simp
 | cons a N=>simp [List.map_set]
theorem hts_set {F:List Nd} {q:Nat} {n:Nd} (hq:q+1 < F.length) (h:n.h=(F[q+1]'hq).h):htsF (F.set (q+1) n)=htsF F:=by
 unfold htsF
 cases F with
 | nil=>simp at hq
 | cons a N =>
   simp only [List.set_cons_succ,List.drop_succ_cons,List.drop_zero,List.getElem_cons_succ] at h ⊢
   rw [List.map_set,h]
   apply List.ext_getElem?
   intro m
   by_cases e:q=m
   · subst e
     have hq':q < N.length:=by simpa using hq
     rw [List.getElem?_set_self (by simpa using hq'),List.getElem?_map,List.getElem?_eq_getElem hq']
     rfl
   · rw [List.getElem?_set_ne e]
theorem SkOk.set_ {F:List Nd} (hF:SkOk F) {q:Nat} (hq:q+1 < F.length) {x:It} (hs:sameAt x (itsF F)=true) (hql:lowI x (itsF F)=q):SkOk (F.set (q+1) ⟨(F[q+1]'hq).b,(F[q+1]'hq).t,(F[q+1]'hq).h,x⟩):=by
 refine ⟨?_,fun n hn=>?_⟩
 · rw [its_set]
   have e:=putL_same hs
   rw [hql] at e
   show Rising ((itsF F).set q x)
   rw [← e]
   exact rising_putL hF.up
 · rcases List.mem_or_eq_of_mem_set hn with h | rfl
   · exact hF.hts n h
   · exact hF.hts (F[q+1]'hq) (List.getElem_mem hq)
theorem sblk_set {p:Nat} {F:List Nd} {q:Nat} (hq:q+1 < F.length) {x:It} {b:Nat} (h:SBlk p (F.set (q+1) ⟨(F[q+1]'hq).b,(F[q+1]'hq).t,(F[q+1]'hq).h,x⟩) b):SBlk p F b:=by
 rcases h with h | ⟨n,hn,h⟩
 · exact .inl h
 · rcases List.mem_or_eq_of_mem_set hn with g | rfl
   · exact .inr ⟨n,g,h⟩
   · exact .inr ⟨_,List.getElem_mem hq,h⟩
structure PutTo (w w':World) (p:Nat) (F:List Nd) (x:It) (h:Int) (F':List Nd):Prop where
 at_:SkAt w' p F'
 ok:SkOk F'
 its:itsF F'=skL x h (itsF F)
 hts:htsF F'=skH x h (itsF F) (htsF F)
 len:F'.length≤F.length+1
 own:∀ b,SBlk p F' b→SBlk p F b ∨ w.heap.size≤b
 sets:Sets (SBlk p F) w w'
theorem same_node {F:List Nd} {x:It} (hj:lowI x (itsF F)+1 < F.length):sameAt x (itsF F)=sameB (F[lowI x (itsF F)+1]'hj).x x∧winsAt x (itsF F)=winsB x (F[lowI x (itsF F)+1]'hj).x:=by
 have hl:lowI x (itsF F) < (itsF F).length:=by rw [its_len];omega
 have e:=itsF_get (F:=F) (j:=lowI x (itsF F)+1) (by omega) hj hl
 have e2:(itsF F)[lowI x (itsF F)]'hl=(F[lowI x (itsF F)+1]'hj).x:=e
 refine ⟨by rw [sameAt_in hl,e2],?_⟩
 unfold winsAt
 rw [List.getElem?_eq_getElem hl,e2]
theorem skput_any (p:Nat) (F:List Nd) (x:It) (h:Int) (w:World) (hS:SkAt w p F) (hF:SkOk F) (hlen:F.length≤1099511627776) :
   Calls Tryz.prog 144 #[.pointer (some ⟨p,0,none⟩),x.val,.int .i64 h] w fun e w'=>∃ F',e=.returned (.tuple #[.bool (skR x h (itsF F)),.int .i64 (skE x h)])∧PutTo w w' p F x h F':=by
 by_cases hok:okP x h=true
 · obtain ⟨hg,h1,h6⟩:=okP_iff.1 hok
   obtain ⟨hn,rfl⟩:∃ n:Nat,h=n:=⟨h.toNat,by omega⟩
   have eE:skE x (hn:Int)=0:=if_pos hok
   have eL:skL x (hn:Int) (itsF F)=skP x (itsF F):=if_pos hok
   have eH:skH x (hn:Int) (itsF F) (htsF F)=if sameAt x (itsF F)=true then htsF F else (htsF F).take (lowI x (itsF F)) ++ hn :: (htsF F).drop (lowI x (itsF F)):=if_pos hok
   have eR:skR x (hn:Int) (itsF F)=(!sameAt x (itsF F) || winsAt x (itsF F)):=by unfold skR;rw [hok];rfl
   have hins:∀ (b t:Nat) (w':World),sameAt x (itsF F)=false→w.heap.size≤b→w.heap.size≤t→SkAt w' p (insF F (lowI x (itsF F)) ⟨b,t,hn,x⟩)→Sets (SBlk p F) w w'→PutTo w w' p F x hn (insF F (lowI x (itsF F)) ⟨b,t,hn,x⟩):=by
     intro b t w' hs hb ht hA hSt
     have hF0:0 < F.length:=hS.pos.1
     have ei:=its_ins (F:=F) (q:=lowI x (itsF F)) (n:=⟨b,t,hn,x⟩) hF0
     have eP:skP x (itsF F)=(itsF F).take (lowI x (itsF F)) ++ x :: (itsF F).drop (lowI x (itsF F)):=by unfold skP;rw [if_neg (by simp [hs])]
     refine ⟨hA,⟨?_,fun n hnm=>?_⟩,by rw [eL,eP,ei],?_,by rw [ski_len];omega,?_,hSt⟩
     · rw [ei,← eP]
       exact rising_skP hF.up
     · rcases ins_mem.1 hnm with rfl | hm
       · exact ⟨by show 1≤hn;omega,by show hn≤6;omega⟩
       · exact hF.hts n hm
     · rw [eH,if_neg (by simp [hs]),hts_ins hF0]
     · rintro c (rfl | ⟨n,hnm,e⟩)
       · exact .inl (.inl rfl)
       · rcases ins_mem.1 hnm with rfl | hm
         · right
           rcases e with rfl | rfl
           · exact hb
           · exact ht
         · exact .inl (.inr ⟨n,hm,e⟩)
   by_cases hj:lowI x (itsF F)+1 < F.length
   · obtain ⟨es,ew⟩:=same_node hj
     cases hsb:sameB (F[lowI x (itsF F)+1]'hj).x x with
     | true =>
       rw [hsb] at es
       refine Calls.mono (put_same p F x hn w hS hF hg (by omega) (by omega) hj hsb) ?_
       rintro e w' ⟨rfl,hss,hSt⟩
       rw [← ew]
       cases hw:winsAt x (itsF F) with
       | true =>
         refine ⟨_,by rw [eE,eR,es,hw];rfl,hss.1 (by rw [← ew];exact hw),hF.set_ hj es rfl,?_,?_,by simp,fun b hb=>.inl (sblk_set hj hb),hSt⟩
         · rw [its_set,eL,skP_putL (.inr hw),putL_same es]
         · exact (hts_set (n:=⟨(F[lowI x (itsF F)+1]'hj).b,(F[lowI x (itsF F)+1]'hj).t,(F[lowI x (itsF F)+1]'hj).h,x⟩) hj rfl).trans (by rw [eH,if_pos es])
       | false =>
         refine ⟨F,by rw [eE,eR,es,hw];rfl,hss.2 (by rw [← ew];exact hw),hF,?_,?_,by omega,fun b hb=>.inl hb,hSt⟩
         · rw [eL,skP_keep es hw]
         · rw [eH,if_pos es]
     | false =>
       rw [hsb] at es
       refine Calls.mono (put_next p F x hn w hS hF hlen hg (by omega) (by omega) hj hsb) ?_
       rintro e w' ⟨b,t,rfl,hb,ht,hA,hSt⟩
       exact ⟨_,by rw [eE,eR,es];rfl,hins b t w' es hb ht hA hSt⟩
   · have es:sameAt x (itsF F)=false:=sameAt_out (by rw [its_len];omega)
     refine Calls.mono (put_none p F x hn w hS hF hlen hg (by omega) (by omega) hj) ?_
     rintro e w' ⟨b,t,rfl,hb,ht,hA,hSt⟩
     exact ⟨_,by rw [eE,eR,es];rfl,hins b t w' es hb ht hA hSt⟩
 · have hok':¬ (goodB x=true∧1≤h∧h≤6):=fun e=>hok (okP_iff.2 e)
   refine Calls.mono (put_bad p x h w hok') ?_
   rintro e w' ⟨rfl,hb⟩
   have hok2:okP x h=false:=by simpa using hok
   refine ⟨F,?_,hS.below hb,hF,?_,?_,by omega,fun b hb=>.inl hb,Sets.of hb⟩
   · unfold skR skE
     rw [hok2]
     rfl
   · unfold skL
     rw [hok2]
     rfl
   · unfold skH
     rw [hok2]
     rfl
theorem new_ok {w:World} {p:Nat} {H:Nd} (h:SkAt w p [H]):SkOk [H]:=⟨Rising.nil_,fun n hn=>by
 obtain ⟨_,e,_⟩:=h.pos
 simp at hn e
 subst hn
 omega⟩
end Go.Proofs.YtgmkckjedngkdaaGreatDoor
namespace Go.Proofs.YtgmkckjedngkdaaGreatDoor
open Go.ChangeShapes Go.WideShapes Go.ChangeAt Go.RowKit
theorem SkAt.lt {w:World} {p:Nat} {F:List Nd} (h:SkAt w p F):∀ b,SBlk p F b→b < w.heap.size:=by
 rintro b (rfl | ⟨n,hn,rfl | rfl⟩)
 · exact h.lp
 · exact (h.nds.at_ n hn).lb
 · exact (h.nds.at_ n hn).lt
theorem PutTo.below {w0 w w':World} {p:Nat} {F F':List Nd} {x:It} {h:Int} {B:Nat} (k:PutTo w w' p F x h F') (hb:Below B w0 w) (hB:∀ b,SBlk p F b→B≤b) (hz:B≤w0.heap.size):Below B w0 w' :=
 ⟨k.sets.os.trans hb.os,k.sets.tape.trans hb.tape,k.sets.output.trans hb.output,Nat.le_trans hb.size k.sets.size,fun b hlt=>(k.sets.block b (by have:=hb.size;omega) (fun e=>by have:=hB b e;omega)).trans (hb.block b hlt)⟩
theorem PutTo.base {w w':World} {p:Nat} {F F':List Nd} {x:It} {h:Int} {B:Nat} (k:PutTo w w' p F x h F') (hB:∀ b,SBlk p F b→B≤b) (hz:B≤w.heap.size):∀ b,SBlk p F' b→B≤b:=fun b hb=>by
 rcases k.own b hb with e | e
 · exact hB b e
 · omega
end Go.Proofs.YtgmkckjedngkdaaGreatDoor
namespace Go.Proofs.YtgmkckjedngkdaaGreatDoor
open Go.ChangeShapes Go.WideShapes Go.ChangeAt Go.RowKit
def dn (f:Bool):Int:=if f then 1 else 0
structure MemAt (w:World) (b p:Nat) (F:List Nd) (f:Bool) (n:Int):Prop where
 sk:SkAt w p F
 ok:SkOk F
 box:w.heap[b]? = some (.cells (memC p (dn f) f n) 223 (0,0))
 ne:¬ SBlk p F b
def MBlk (b p:Nat) (F:List Nd) (c:Nat):Prop:=c=b ∨ SBlk p F c
theorem MemAt.lb {w:World} {b p:Nat} {F:List Nd} {f:Bool} {n:Int} (h:MemAt w b p F f n):b < w.heap.size:=(Array.getElem?_eq_some_iff.1 h.box).1
theorem MemAt.lt {w:World} {b p:Nat} {F:List Nd} {f:Bool} {n:Int} (h:MemAt w b p F f n):∀ c,MBlk b p F c→c < w.heap.size:=by
 rintro c (rfl | e)
 · exact h.lb
 · exact h.sk.lt c e
theorem MemAt.below {w w':World} {b p:Nat} {F:List Nd} {f:Bool} {n:Int} (h:MemAt w b p F f n) (hb:Below w.heap.size w w'):MemAt w' b p F f n :=
 ⟨h.sk.below hb,h.ok,(hb.block b h.lb).trans h.box,h.ne⟩
theorem MemAt.sets {S:Nat→Prop} {w w':World} {b p:Nat} {F:List Nd} {f:Bool} {n:Int} (h:MemAt w b p F f n) (k:Sets S w w') (hS:∀ c,MBlk b p F c→¬ S c):MemAt w' b p F f n :=
 ⟨h.sk.sets k (fun c hc=>hS c (.inr hc)),h.ok,(k.block b h.lb (hS b (.inl rfl))).trans h.box,h.ne⟩
theorem ck {w:World} {g o:Nat} {v:Value} {w':World} (hg:g < w.heap.size) (h:w.cell? ⟨g,o,none⟩=some v) (hb:Below w.heap.size w w'):w'.cell? ⟨g,o,none⟩=some v:=(hb.cell (p:=⟨g,o,none⟩) hg).trans h
set_option maxHeartbeats 1000000 in
theorem mnew_any (w:World):Calls Tryz.prog 60 #[] w fun e w'=>∃ b p H,e=.returned (.pointer (some ⟨b,0,none⟩))∧MemAt w' b p [H] false 0∧(∀ c,MBlk b p [H] c→w.heap.size≤c)∧Below w.heap.size w w':=by
 go_enter Tryz.func60,Tryz.ntmps60
 go_wp2_with fail
 refine (Calls.mono (new_any _) ?_);rintro e w1 ⟨p,H,rfl,hS,ho,hg⟩
 have HS:=hide hS
 have HO:=hide ho
 have HB:=hide hg
 clear hS ho hg
 go_wp2_with fail
 go_ret
 have hba:=below_alloc (Below.refl w1.heap.size w1) (.cells (memC p 0 false 0) 223)
 have hp:=heap_alloc_new w1 (.cells (memC p 0 false 0) 223)
 refine ⟨w1.heap.size,p,H,rfl,⟨HS.out.below hba,new_ok HS.out,hp,fun e=>Nat.lt_irrefl _ (HS.out.lt _ e)⟩,?_,below_step HB.out hba⟩
 rintro c (rfl | e)
 · exact HB.out.size
 · exact HO.out c e
end Go.Proofs.YtgmkckjedngkdaaGreatDoor
namespace Go.Proofs.YtgmkckjedngkdaaGreatDoor
open Go.ChangeShapes Go.WideShapes Go.ChangeAt Go.RowKit
theorem ItemsAt.sets {S:Nat→Prop} {w w':World} {A:Option Addr} {L:List It} (h:ItemsAt w A L) (k:Sets S w w') (hS:∀ a,A=some a→L ≠ []→¬ S a.block):ItemsAt w' A L:=fun hn=>by
 obtain ⟨b,off,rfl,hlt,hc⟩:=h hn
 exact ⟨b,off,rfl,Nat.lt_of_lt_of_le hlt k.size,fun i hi j u hu=>(World.cell?_of_block (k.block b hlt (hS _ rfl hn))).trans (hc i hi j u hu)⟩
def apE (f:Bool) (L:List It):Int:=if f then 14 else if anyI (fun x=>!goodB x) L then 1 else 0
def puts (L W:List It):List It:=L.foldl (fun W x=>skP x W) W
def apL (f:Bool) (L W:List It):List It:=if apE f L=0 then puts L W else W
structure ApTo (w w':World) (b p:Nat) (F:List Nd) (f:Bool) (n:Int) (L:List It) (F':List Nd) (n':Int):Prop where
 at_:MemAt w' b p F' f n'
 its:itsF F'=apL f L (itsF F)
 len:F'.length≤F.length+L.length
 own:∀ c,SBlk p F' c→SBlk p F c ∨ w.heap.size≤c
 sets:Sets (MBlk b p F) w w'
 size:n'=if apE f L=0 then 28 * ((F'.length:Int) - 1) else n
theorem tells_bad (L:List It) (w:World):Tells 142 #[] (fun x=>!goodB x) L w:=by
 intro x hx w1 hb
 show Calls Tryz.prog 142 #[x.val] w1 fun e w2=>e=.returned (.bool (!goodB x))∧Below w1.heap.size w1 w2
 have HG:=hide (fun W=>pgood_any x W)
 generalize goodB x=g at *
 have hba:=below_alloc (Below.refl w1.heap.size w1) (.cells (It.cells x).toArray 54)
 have HB:=hide hba
 clear hba hb
 go_enter Tryz.func142,Tryz.ntmps142
 go_wp2_with fail
 refine (Calls.mono (HG.out _) ?_);rintro e w2 ⟨rfl,hb2⟩
 have HB2:=hide (below_step HB.out hb2)
 clear hb2 HB
 cases g
 · go_wp2_with fail
   go_ret
   exact ⟨rfl,HB2.out⟩
 · go_wp2_with fail
   go_ret
   exact ⟨rfl,HB2.out⟩
theorem istore_any (b:Nat) (n m:Int) (w:World) (h:w.cell? ⟨b,5,none⟩=some (.int .i64 n)) (hz:w.frozen? ⟨b,5,none⟩=false) :
   Calls Tryz.prog 133 #[.pointer (some ⟨b,5,none⟩),.int .i64 m] w fun e w'=>e=.returned (.tuple #[])∧w'=w.setCell ⟨b,5,none⟩ (.int .i64 m):=by
 have hst:=run_call_store (P:=Tryz.prog) Tryz.func201 (by kernel_rfl) (by kernel_rfl) (by kernel_rfl) (by kernel_rfl) (k:=.i64) (y:=m) h hz
 go_enter Tryz.func133,Tryz.ntmps133
 go_wp2
 go_end0
 exact ⟨rfl,rfl⟩
theorem enters_bad:Enters Tryz.prog 142:=fun _ _=>by kernel_rfl
theorem mem_put5 {w:World} {b p:Nat} {d:Int} {f:Bool} {n:Int} {t:TypeId} (m:Int) (h:w.heap[b]? = some (.cells (memC p d f n) t (0,0))):(w.setCell ⟨b,5,none⟩ (.int .i64 m)).heap[b]? = some (.cells (memC p d f m) t (0,0)):=by
 simp [World.setCell,Array.getElem?_modify,h,memC]
theorem ap_last {w wr W:World} {b p:Nat} {F F':List Nd} {n:Int} {L:List It} (m:Int) (he:apE false L=0) (hm:MemAt wr b p F' false n) (hi:itsF F'=puts L (itsF F)) (hl:F'.length≤F.length+L.length) (ho:∀ c,SBlk p F' c→SBlk p F c ∨ w.heap.size≤c) (hs:Sets (MBlk b p F) w wr)
   (hW:Below wr.heap.size wr W) (hz:m=28 * ((F'.length:Int) - 1)):ApTo w (W.setCell ⟨b,5,none⟩ (.int .i64 m)) b p F false n L F' m:=by
 have hm':=hm.below hW
 have hst:Sets (fun c=>c=b) W (W.setCell ⟨b,5,none⟩ (.int .i64 m)):=(Sets.refl (S:=fun c=>c=b) W).set (g:=b) (fun _=>rfl) 5 _
 refine ⟨⟨hm'.sk.sets hst (fun c hc e=>hm'.ne (e ▸ hc)),hm'.ok,mem_put5 m hm'.box,hm'.ne⟩,?_,hl,ho,?_,?_⟩
 · unfold apL
   rw [he,hi]
   rfl
 · exact (hs.trans (Sets.of (S:=fun _=>False) hW) (fun _ _ h=>h.elim)).trans hst (fun _ _ e=>.inl e)
 · rw [he,hz]
   rfl
theorem ap_next {w wr W v:World} {b p:Nat} {F F' F2:List Nd} {n:Int} {x:It} {h:Int} (hm:MemAt wr b p F' false n) (hs:Sets (MBlk b p F) w wr) (ho:∀ c,SBlk p F' c→SBlk p F c ∨ w.heap.size≤c) (hW:Below wr.heap.size wr W) (hP:PutTo W v p F' x h F2) :
   MemAt v b p F2 false n∧(∀ c,SBlk p F2 c→SBlk p F c ∨ w.heap.size≤c)∧Sets (MBlk b p F) w v:=by
 have hz1:=hs.size
 have hz2:=hW.size
 have hb:=hm.lb
 refine ⟨⟨hP.at_,hP.ok,(hP.sets.block b (by omega) hm.ne).trans ((hW.block b hb).trans hm.box),fun e=>?_⟩,fun c hc=>?_,?_⟩
 · rcases hP.own b e with h | h
   · exact hm.ne h
   · omega
 · rcases hP.own c hc with h | h
   · exact ho c h
   · right;omega
 · refine (hs.trans (Sets.of (S:=fun _=>False) hW) (fun _ _ h=>h.elim)).trans hP.sets (fun i hi h=>?_)
   rcases ho i h with e | e
   · exact .inr e
   · omega
set_option maxRecDepth 100000 in
set_option maxHeartbeats 3200000 in
theorem apply_any (b p:Nat) (F:List Nd) (f:Bool) (n:Int) (A:Option Addr) (c:Nat) (L:List It) (w:World) (hM:MemAt w b p F f n) (hL:ItemsAt w A L) (hw:∀ x ∈ L,x.wf) (hlen:F.length+L.length≤1099511627776) (hA:∀ a,A=some a→L ≠ []→¬ MBlk b p F a.block) :
   Calls Tryz.prog 67 #[.pointer (some ⟨b,0,none⟩),.slice A L.length c] w fun e w'=>∃ F' n',e=.returned (.int .i64 (apE f L))∧ApTo w w' b p F f n L F' n':=by
 obtain ⟨_,⟨m0,m1,m2,m3,m4,m5⟩,mz⟩:=mem_box hM.box
 cases f with
 | true =>
   have HA:=hide (show ApTo w w b p F true n L F n from ⟨hM,rfl,by omega,fun c h=>.inl h,Sets.refl _,rfl⟩)
   clear hM hL hw hA m0 m1 m2 m3 m5 mz
   go_enter Tryz.func67,Tryz.ntmps67
   go_wp2_with fail
   go_ret
   exact ⟨F,n,rfl,HA.out⟩
 | false =>
   have HCN:=hide (contains_any 142 #[] enters_bad (fun x=>!goodB x) A c L w (by omega) hL (tells_bad L w))
   cases hbad:anyI (fun x=>!goodB x) L with
   | true =>
     rw [hbad] at HCN
     have he:apE false L=1:=by unfold apE;simp [hbad]
     have HA:=hide (fun (w':World) (hb:Below w.heap.size w w')=>show ApTo w w' b p F false n L F n from ⟨hM.below hb,by unfold apL;rw [he];rfl,by omega,fun c h=>.inl h,Sets.of hb,by rw [he];rfl⟩)
     rw [he]
     clear hM hL hw hA m0 m1 m2 m3 m5 mz hbad he
     go_enter Tryz.func67,Tryz.ntmps67
     go_wp2_with fail
     refine (Calls.mono HCN.out ?_);rintro e w1 ⟨rfl,hb1⟩
     have HB:=hide hb1
     clear hb1
     go_wp2_with fail
     go_ret
     exact ⟨F,n,rfl,HA.out _ HB.out⟩
   | false =>
     rw [hbad] at HCN
     have he:apE false L=0:=by unfold apE;simp [hbad]
     rw [he]
     have hgood:∀ x ∈ L,goodB x=true:=by
       intro x hx
       unfold anyI at hbad
       rw [List.any_eq_false] at hbad
       have:=hbad x hx
       simpa using this
     have HP:=hide hgood
     have HI:=hide hL
     have HWF:=hide hw
     have HAA:=hide hA
     have HM0:=hide hM
     clear hL hw hA m0 m1 m2 m3 m5 mz hbad hgood hM
     have HS0:Hid (∀ w':World,Below w.heap.size w w'→Sets (MBlk b p F) w w'):=hide (fun w' h=>Sets.of h)
     go_enter Tryz.func67,Tryz.ntmps67
     go_wp2_with fail
     refine (Calls.mono HCN.out ?_);rintro e w1 ⟨rfl,hb1⟩
     have HSE:=hide (HS0.out _ hb1)
     have HM1:=hide (HM0.out.below hb1)
     clear hb1 HS0 HCN
     go_wp2_with fail
     go_loopw [17] (fun i wr=>∃ (k:Nat) (F':List Nd),i=.int .i64 k∧k≤L.length∧MemAt wr b p F' false n∧itsF F'=puts (L.take k) (itsF F)∧F'.length≤F.length+k∧(∀ c,SBlk p F' c→SBlk p F c ∨ w.heap.size≤c)∧Sets (MBlk b p F) w wr) (fun i _=>L.length - (intOf i).toNat)
     case atStart=>exact ⟨0,F,rfl,by omega,HM1.out,rfl,by omega,fun c h=>.inl h,HSE.out⟩
     case round =>
       clear HM1 HSE
       obtain ⟨k,F',rfl,hk,hm,hi,hl,ho,hs⟩:=hrel
       have HM:=hide hm
       have HIT:=hide hi
       have HO:=hide ho
       have HS:=hide hs
       clear hi ho
       have hMb:=hm.lb
       obtain ⟨_,⟨m0,m1,m2,m3,m4,m5⟩,mz⟩:=mem_box hm.box
       have mz5:=mz 5
       clear m1 m2 m3 m4 mz
       by_cases hlt:k < L.length
       · clear m5 mz5
         obtain ⟨bl,off,hAe,hbb,y0,y1,y2,y3,y4⟩:=ItemsAt.item (HI.out.sets hs HAA.out) (Below.refl _ _) hlt
         have hgo:=HP.out L[k] (List.getElem_mem _)
         have hwf:=HWF.out L[k] (List.getElem_mem _)
         have hpt:puts (L.take (k+1)) (itsF F)=skP L[k] (puts (L.take k) (itsF F)):=by unfold puts;rw [List.take_succ_eq_append_getElem hlt,List.foldl_append];rfl
         clear hm hs
         generalize L[k]=x at *
         subst hAe
         have HG:=hide hgo
         have HWX:=hide hwf
         have HPU:=hide hpt
         clear hgo hwf hpt
         have hltI:(k:Int) < (L.length:Int):=by omega
         obtain ⟨wx,hwx⟩:∃ wx,wr.alloc (.cells #[.int .i64 x.s,.int .i64 x.k,.int .u64 x.t,.int .u64 x.v,.int .i64 x.x] 54)=wx:=⟨_,rfl⟩
         have hbx:Below wr.heap.size wr wx:=by rw [← hwx];exact below_alloc (Below.refl _ _) _
         have hgx:BxAt wx wr.heap.size x:=by rw [← hwx];exact BxAt.box (x:=x) (heap_alloc_new wr _)
         have hbz:b ≠ wr.heap.size:=by omega
         have HK:Hid (∀ W:World,Below wx.heap.size wx W→W.cell? ⟨b,0,none⟩=some (.pointer (some ⟨p,0,none⟩))∧W.cell? ⟨wr.heap.size,0,none⟩=some (.int .i64 x.s)∧W.cell? ⟨wr.heap.size,1,none⟩=some (.int .i64 x.k)∧W.cell? ⟨wr.heap.size,2,none⟩=some (.int .u64 x.t)∧W.cell? ⟨wr.heap.size,3,none⟩=some (.int .u64 x.v)∧W.cell? ⟨wr.heap.size,4,none⟩=some (.int .i64 x.x)):=by
           refine hide fun W hW=>?_
           obtain ⟨g0,g1,g2,g3,g4,g5⟩:=hgx
           exact ⟨ck (Nat.lt_of_lt_of_le hMb hbx.size) (ck hMb m0 hbx) hW,ck g0 g1 hW,ck g0 g2 hW,ck g0 g3 hW,ck g0 g4 hW,ck g0 g5 hW⟩
         have HH:=hide (fun W=>height_any x W HWX.out)
         have HHB:=hide (hgt_bd (keyL x))
         generalize hgt (keyL x)=h at *
         have HPT:Hid (∀ W:World,Below wx.heap.size wx W→Calls Tryz.prog 144 #[.pointer (some ⟨p,0,none⟩),x.val,.int .i64 h] W fun e w'=>∃ r F2,e=.returned r∧MemAt w' b p F2 false n∧itsF F2=puts (L.take (k+1)) (itsF F)∧F2.length≤F.length+(k+1)∧(∀ c,SBlk p F2 c→SBlk p F c ∨ w.heap.size≤c)∧Sets (MBlk b p F) w w'∧(w'.cell? ⟨b,0,none⟩=some (.pointer (some ⟨p,0,none⟩))∧w'.cell? ⟨wr.heap.size,0,none⟩=some (.int .i64 x.s)∧w'.cell? ⟨wr.heap.size,1,none⟩=some (.int .i64 x.k)∧w'.cell? ⟨wr.heap.size,2,none⟩=some (.int .u64 x.t)∧w'.cell? ⟨wr.heap.size,3,none⟩=some (.int .u64 x.v)∧w'.cell? ⟨wr.heap.size,4,none⟩=some (.int .i64 x.x))):=by
           refine hide fun W hW=>?_
           have hbW:=below_step hbx hW
           refine Calls.mono (skput_any p F' x h W (HM.out.sk.below hbW) HM.out.ok (by omega)) ?_
           rintro e v ⟨F2,rfl,hP⟩
           obtain ⟨h1,h2,h3⟩:=ap_next HM.out HS.out HO.out hbW hP
           have hgW:wr.heap.size < W.heap.size:=Nat.lt_of_lt_of_le hgx.1 hW.size
           have hbl:v.heap[wr.heap.size]? = W.heap[wr.heap.size]?:=hP.sets.block _ hgW (fun e=>Nat.lt_irrefl _ (HM.out.sk.lt _ e))
           obtain ⟨k0,k1,k2,k3,k4,k5⟩:=HK.out W hW
           refine ⟨_,F2,rfl,h1,?_,by have:=hP.len;omega,h2,h3,(mem_box h1.box).2.1.1,(World.cell?_of_block hbl).trans k1,(World.cell?_of_block hbl).trans k2,(World.cell?_of_block hbl).trans k3,(World.cell?_of_block hbl).trans k4,(World.cell?_of_block hbl).trans k5⟩
           rw [hP.its,HPU.out,HIT.out]
           unfold skL
           rw [if_pos (okP_iff.2 ⟨HG.out,HHB.out.1,HHB.out.2⟩)]
         clear hbx hgx hbz HM HIT HO HS HPU HG HWX HHB m0
         go_upto_region 8 with fail
         try rw [hwx]
         clear hwx y0 y1 y2 y3 y4
         obtain ⟨x0,x1,x2,x3,x4,x5⟩:=HK.out wx (Below.refl _ _)
         generalize wr.heap.size=gx at *
         go_region_held3 (fun W'=>W'.cell? ⟨b,0,none⟩=some (.pointer (some ⟨p,0,none⟩))∧W'.cell? ⟨gx,0,none⟩=some (.int .i64 x.s)∧W'.cell? ⟨gx,1,none⟩=some (.int .i64 x.k)∧W'.cell? ⟨gx,2,none⟩=some (.int .u64 x.t)∧W'.cell? ⟨gx,3,none⟩=some (.int .u64 x.v)∧W'.cell? ⟨gx,4,none⟩=some (.int .i64 x.x)) (first | exact Q6.out | exact HK.out _ (by repeat (first | exact HB1.out | exact Below.refl _ _ | refine Below.drew ?_))) (first
           | (go_at_call 145;refine (Calls.mono (HH.out _) ?_);rintro e v1 ⟨rfl,hb1⟩;have HB1:=hide (show Below wx.heap.size wx v1 from (below_step (by repeat (first | exact Below.refl _ _ | refine Below.drew ?_)) hb1));clear hb1)
           | (go_at_call 144;refine (Calls.mono (HPT.out _ (by repeat (first | exact HB1.out | refine Below.drew ?_))) ?_);rintro e v2 ⟨r,F2,rfl,q1,q2,q3,q4,q5,q6⟩;have Q6:=hide q6;  have Q1:=hide q1;have Q2:=hide q2;have Q3:=hide q3;have Q4:=hide q4;have Q5:=hide q5;clear q1 q2 q3 q4 q5 q6))
         go_wp2_with fail
         go_roundw
         case rel=>exact ⟨k+1,F2,by go_num,by omega,Q1.out,Q2.out,Q3.out,Q4.out,Q5.out⟩
         case measure=>(simp [intOf] <;> omega)
       · obtain rfl:k=L.length:=by omega
         have hgeI:¬ (L.length:Int) < (L.length:Int):=by omega
         clear hm hs
         obtain ⟨z,hz⟩:∃ z:Int,(F'.length:Int) - 1=z:=⟨_,rfl⟩
         have hz0:-1≤z∧z≤1099511627776:=by omega
         have hw28:IntKind.i64.wrap (z * 28)=z * 28:=by rw [IntKind.wrap_i64];omega
         have HLN:Hid (∀ W:World,Below wr.heap.size wr W→Calls Tryz.prog 146 #[.pointer (some ⟨p,0,none⟩)] W fun e w'=>e=.returned (.int .i64 z)∧w'=W):=by
           refine hide fun W hW=>?_
           have:=len_any p F' W (HM.out.sk.below hW)
           rw [hz] at this
           exact this
         have HIS:Hid (∀ W:World,Below wr.heap.size wr W→Calls Tryz.prog 133 #[.pointer (some ⟨b,5,none⟩),.int .i64 (z * 28)] W fun e w'=>e=.returned (.tuple #[])∧ApTo w w' b p F false n L F' (z * 28)∧w'.cell? ⟨b,0,none⟩=some (.pointer (some ⟨p,0,none⟩))):=by
           refine hide fun W hW=>?_
           refine Calls.mono (istore_any b n (z * 28) W (ck hMb m5 hW) ((hW.frozen (p:=⟨b,5,none⟩) hMb).trans mz5)) ?_
           rintro e w' ⟨rfl,rfl⟩
           have hit:=HIT.out
           rw [List.take_length] at hit
           have ha:=ap_last (z * 28) he HM.out hit (by omega) HO.out HS.out hW (by omega)
           exact ⟨rfl,ha,(mem_box ha.at_.box).2.1.1⟩
         have HK:Hid (∀ W:World,Below wr.heap.size wr W→W.cell? ⟨b,0,none⟩=some (.pointer (some ⟨p,0,none⟩))):=hide fun W hW=>ck hMb m0 hW
         clear hz HM HIT HO HS mz5 m5 hz0
         go_upto_region 10 with fail
         go_region_held3 (fun W'=>W'.cell? ⟨b,0,none⟩=some (.pointer (some ⟨p,0,none⟩))) (first | exact Q2.out | exact HK.out _ (by repeat (first | exact Below.refl _ _ | refine Below.drew ?_))) (first
           | (go_at_call 146;refine (Calls.mono (HLN.out _ (by repeat (first | exact Below.refl _ _ | refine Below.drew ?_))) ?_);rintro e v1 ⟨rfl,rfl⟩)
           | (go_at_call 133;refine (Calls.mono (HIS.out _ (by repeat (first | exact Below.refl _ _ | refine Below.drew ?_))) ?_);rintro e v2 ⟨rfl,q1,q2⟩;have Q1:=hide q1;have Q2:=hide q2;clear q1 q2))
         go_wp2_with fail
         go_ret
         exact ⟨F',_,rfl,Q1.out⟩
end Go.Proofs.YtgmkckjedngkdaaGreatDoor
