/- A part of the proof that TopMajorityLaw holds: XZSmf, XZNod, XZChk, XZLas. Conditions: as typed. -/
import Derived.Test.YtgmkckjedngkdaaGreatDoorTm21
import Derived.Test.YtgmkckjedngkdaaGreatDoorTm22
import Derived.Test.YtgmkckjedngkdaaGreatDoorTm24
import Derived.Test.YtgmkckjedngkdaaGreatDoorTm25
import Derived.RangeFuncNested
import Derived.RangeFuncWrites
import Derived.RangeFuncBound
import Derived.RangeFuncCalls
import Derived.RangeFuncLeaves
import Derived.Shelf.Abstract
import Derived.Shelf.RegionOpen
import Derived.WalkKit
import Derived.OwnWalkIn
import Derived.TacticsInMore
import Derived.LoopNIn
import Derived.LoopIn
set_option linter.unusedVariables false
set_option linter.unusedSimpArgs false
namespace Go.Proofs.YtgmkckjedngkdaaGreatDoor
open Go.ChangeShapes Go.WideShapes Go.ChangeAt Go.RowKit
set_option maxRecDepth 100000 in
set_option maxHeartbeats 1600000 in
theorem ssetm_any {w:World} {base s:Nat} {X:Nat→Prop} {R:Sr} (H:StoreO w base s X R) (f c a l:Int) (hf:ver48 f) (hc:ver48 c) (ha:ver48 a) (hl:ver48 l)
 (zf:f=0→R.v.fl=0) (zc:c=0→R.v.ce=0) (za:a=0→R.v.at_=0) (zl:l=0→R.v.le=0)
 (M:Nat) (hM:∀ z ∈ R.K.Z,z.L.length≤M) (hM2:M≤249900) (hq:((3 * M+100:Nat):Int)≤R.K.q) :
 Calls Tryz.prog 31 #[ptv s,meta4 f c a l] w fun e w'=>e=.returned (.int .i64 0)∧∃ R',SavTo R f c a l R'∧StoreO w' base s (Xw X w w') R'∧Sets X w w':=by
 have hbl:base≤w.heap.size:=by obtain ⟨h,H⟩:=H;have:=H.bd s H.inX.1;omega
 have hBD:∀ g,X g→base≤g∧g < w.heap.size:=by obtain ⟨h,H⟩:=H;exact H.bd
 have hz0:=heap_alloc_new w (.cells #[.int .u64 f,.int .u64 c,.int .u64 a,.int .u64 l] 75)
 have hb0:=below_alloc (Below.refl w.heap.size w) (.cells #[.int .u64 f,.int .u64 c,.int .u64 a,.int .u64 l] 75)
 obtain ⟨w0,hw0⟩:∃ w0,w.alloc (.cells #[.int .u64 f,.int .u64 c,.int .u64 a,.int .u64 l] 75)=w0:=⟨_,rfl⟩
 rw [hw0] at hz0 hb0
 have hgl0:w.heap.size < w0.heap.size:=(Array.getElem?_eq_some_iff.1 hz0).1
 have H0:=H.below hb0
 obtain ⟨hsl,c10⟩:s < w0.heap.size∧w0.cell? ⟨s,10,none⟩=some (.bool false):=by
  obtain ⟨h,H0⟩:=H0
  obtain ⟨h1,⟨_,_,_,_,_,_,_,h2⟩,_⟩:=H0.facts
  exact ⟨h1,h2⟩
 have HM:=hide (smeta_any H0)
 have HZ0:=hide hz0
 have HB0:=hide hb0
 have HW0:=hide hw0
 obtain ⟨⟨rl,rf,rc,ra,re⟩,hrv⟩:∃ v,R.v=v:=⟨_,rfl⟩
 rw [hrv] at HM zf zc za zl
 have HSV:=hide (fun (W:World) (hW:StoreO W base s X R)=>ssave_any hW f c a l hf hc ha hl M hM hM2 hq)
 have HH:=hide H0
 have HBD:=hide hBD
 have HBL:=hide hbl
 have HF:=hide hf;have HC:=hide hc;have HA:=hide ha;have HL:=hide hl
 have ZF:=hide zf;have ZC:=hide zc;have ZA:=hide za;have ZL:=hide zl
 obtain ⟨g0,hg0⟩:∃ g,w.heap.size=g:=⟨_,rfl⟩
 have HG0:=hide hg0
 rw [hg0] at HZ0 hgl0
 clear H H0 hz0 hb0 hw0 hrv hf hc ha hl zf zc za zl hM hM2 hq hBD hbl hg0
 go_enter Tryz.func31,Tryz.ntmps31
 go_upto_region 1 with fail
 rw [HW0.out,HG0.out]
 go_wp2_with ((with_reducible refine (HM.out).mono ?_);rintro e w1 ⟨rfl,hg1⟩;have HG1:=hide hg1;obtain ⟨m0,m1,m2,m3⟩:=four_cells ((hg1.block g0 hgl0).trans HZ0.out);have hgl1:g0 < w1.heap.size:=Nat.lt_of_lt_of_le hgl0 hg1.size;clear hg1 c10)
 have hw2:=below_alloc (below_alloc (Below.refl w1.heap.size w1) (.cells #[.int .u64 rf,.int .u64 rc,.int .u64 ra,.int .u64 re] 75)) (.cells #[.int .u64 f,.int .u64 rf,.int .u64 c,.int .u64 rc,.int .u64 a,.int .u64 ra,.int .u64 l,.int .u64 re] 159)
 have hz2:=heap_alloc_new (w1.alloc (.cells #[.int .u64 rf,.int .u64 rc,.int .u64 ra,.int .u64 re] 75)) (.cells #[.int .u64 f,.int .u64 rf,.int .u64 c,.int .u64 rc,.int .u64 a,.int .u64 ra,.int .u64 l,.int .u64 re] 159)
 rw [World.size_alloc] at hz2
 obtain ⟨w2,he2⟩:∃ w2,(w1.alloc (.cells #[.int .u64 rf,.int .u64 rc,.int .u64 ra,.int .u64 re] 75)).alloc (.cells #[.int .u64 f,.int .u64 rf,.int .u64 c,.int .u64 rc,.int .u64 a,.int .u64 ra,.int .u64 l,.int .u64 re] 159)=w2:=⟨_,rfl⟩
 rw [he2] at hw2 hz2 ⊢
 obtain ⟨g2,hg2⟩:∃ g,w1.heap.size+1=g:=⟨_,rfl⟩
 rw [hg2] at hz2 ⊢
 have hgl2:g2 < w2.heap.size:=(Array.getElem?_eq_some_iff.1 hz2).1
 have p0:=(cell_of_row w2 g2 0 _ _ _ hz2).trans rfl
 have p1:=(cell_of_row w2 g2 1 _ _ _ hz2).trans rfl
 have p2:=(cell_of_row w2 g2 2 _ _ _ hz2).trans rfl
 have p3:=(cell_of_row w2 g2 3 _ _ _ hz2).trans rfl
 have p4:=(cell_of_row w2 g2 4 _ _ _ hz2).trans rfl
 have p5:=(cell_of_row w2 g2 5 _ _ _ hz2).trans rfl
 have p6:=(cell_of_row w2 g2 6 _ _ _ hz2).trans rfl
 have p7:=(cell_of_row w2 g2 7 _ _ _ hz2).trans rfl
 have HP:Hid ((w2.cell? ⟨g2,0,none⟩=some (.int .u64 f)∧w2.cell? ⟨g2,1,none⟩=some (.int .u64 rf)∧w2.cell? ⟨g2,2,none⟩=some (.int .u64 c)∧w2.cell? ⟨g2,3,none⟩=some (.int .u64 rc))∧(w2.cell? ⟨g2,4,none⟩=some (.int .u64 a)∧w2.cell? ⟨g2,5,none⟩=some (.int .u64 ra)∧w2.cell? ⟨g2,6,none⟩=some (.int .u64 l)∧w2.cell? ⟨g2,7,none⟩=some (.int .u64 re))):=hide ⟨⟨p0,p1,p2,p3⟩,p4,p5,p6,p7⟩
 have HMC:Hid ((w2.cell? ⟨g0,0,none⟩=some (.int .u64 f)∧w2.cell? ⟨g0,1,none⟩=some (.int .u64 c)∧w2.cell? ⟨g0,2,none⟩=some (.int .u64 a)∧w2.cell? ⟨g0,3,none⟩=some (.int .u64 l))∧g0 < w2.heap.size):=hide ⟨⟨(hw2.cell (p:=⟨g0,0,none⟩) hgl1).trans m0,(hw2.cell (p:=⟨g0,1,none⟩) hgl1).trans m1,(hw2.cell (p:=⟨g0,2,none⟩) hgl1).trans m2,(hw2.cell (p:=⟨g0,3,none⟩) hgl1).trans m3⟩,Nat.lt_of_lt_of_le hgl1 hw2.size⟩
 have HW2:=hide hw2
 have HE2:=hide he2
 have HG2:=hide hg2
 clear hw2 he2 hg2 hz2 p0 p1 p2 p3 p4 p5 p6 p7 m0 m1 m2 m3
 go_loopw [36] (fun i wr=>∃ k:Nat,i=.int .i64 k∧k≤4∧Below w2.heap.size w2 wr) (fun i _=>4 - (intOf i).toNat)
 case atStart=>exact ⟨0,rfl,by omega,Below.refl _ _⟩
 case round =>
  obtain ⟨k,rfl,hk,hB⟩:=hrel
  obtain ⟨⟨p0,p1,p2,p3⟩,p4,p5,p6,p7⟩:=HP.out
  obtain h4 | h4 | h4 | h4 | h4:k=0 ∨ k=1 ∨ k=2 ∨ k=3 ∨ k=4:=by omega
  ·subst h4
   have x0:=(hB.cell (p:=⟨g2,0,none⟩) hgl2).trans p0
   have x1:=(hB.cell (p:=⟨g2,1,none⟩) hgl2).trans p1
   have hgw:g2 < wr.heap.size:=Nat.lt_of_lt_of_le hgl2 hB.size
   by_cases hx0:f=0
   ·have e1:(f == 0)=true:=beq_iff_eq.2 hx0
    have e2:(rf != 0)=false:=by simp [ZF.out hx0]
    have d1:decide (281474976710656 < f)=false:=decide_eq_false (by have:=HF.out;unfold ver48 at this;omega)
    have d2:¬ 281474976710656 < f:=by have:=HF.out;unfold ver48 at this;omega
    clear hx0
    go_wp2
    go_roundw
    case rel=>exact ⟨0+1,by go_num,by omega,below_step hB (below_alloc (Below.refl _ _) _)⟩
    case measure=>simp [intOf]
   ·have e1:(f == 0)=false:=beq_eq_false_iff_ne.2 hx0
    have d1:decide (281474976710656 < f)=false:=decide_eq_false (by have:=HF.out;unfold ver48 at this;omega)
    have d2:¬ 281474976710656 < f:=by have:=HF.out;unfold ver48 at this;omega
    go_wp2
    go_roundw
    case rel=>exact ⟨0+1,by go_num,by omega,below_step hB (below_alloc (Below.refl _ _) _)⟩
    case measure=>simp [intOf]
  ·subst h4
   have x0:=(hB.cell (p:=⟨g2,2,none⟩) hgl2).trans p2
   have x1:=(hB.cell (p:=⟨g2,3,none⟩) hgl2).trans p3
   have hgw:g2 < wr.heap.size:=Nat.lt_of_lt_of_le hgl2 hB.size
   by_cases hx0:c=0
   ·have e1:(c == 0)=true:=beq_iff_eq.2 hx0
    have e2:(rc != 0)=false:=by simp [ZC.out hx0]
    have d1:decide (281474976710656 < c)=false:=decide_eq_false (by have:=HC.out;unfold ver48 at this;omega)
    have d2:¬ 281474976710656 < c:=by have:=HC.out;unfold ver48 at this;omega
    clear hx0
    go_wp2
    go_roundw
    case rel=>exact ⟨1+1,by go_num,by omega,below_step hB (below_alloc (Below.refl _ _) _)⟩
    case measure=>simp [intOf]
   ·have e1:(c == 0)=false:=beq_eq_false_iff_ne.2 hx0
    have d1:decide (281474976710656 < c)=false:=decide_eq_false (by have:=HC.out;unfold ver48 at this;omega)
    have d2:¬ 281474976710656 < c:=by have:=HC.out;unfold ver48 at this;omega
    go_wp2
    go_roundw
    case rel=>exact ⟨1+1,by go_num,by omega,below_step hB (below_alloc (Below.refl _ _) _)⟩
    case measure=>simp [intOf]
  ·subst h4
   have x0:=(hB.cell (p:=⟨g2,4,none⟩) hgl2).trans p4
   have x1:=(hB.cell (p:=⟨g2,5,none⟩) hgl2).trans p5
   have hgw:g2 < wr.heap.size:=Nat.lt_of_lt_of_le hgl2 hB.size
   by_cases hx0:a=0
   ·have e1:(a == 0)=true:=beq_iff_eq.2 hx0
    have e2:(ra != 0)=false:=by simp [ZA.out hx0]
    have d1:decide (281474976710656 < a)=false:=decide_eq_false (by have:=HA.out;unfold ver48 at this;omega)
    have d2:¬ 281474976710656 < a:=by have:=HA.out;unfold ver48 at this;omega
    clear hx0
    go_wp2
    go_roundw
    case rel=>exact ⟨2+1,by go_num,by omega,below_step hB (below_alloc (Below.refl _ _) _)⟩
    case measure=>simp [intOf]
   ·have e1:(a == 0)=false:=beq_eq_false_iff_ne.2 hx0
    have d1:decide (281474976710656 < a)=false:=decide_eq_false (by have:=HA.out;unfold ver48 at this;omega)
    have d2:¬ 281474976710656 < a:=by have:=HA.out;unfold ver48 at this;omega
    go_wp2
    go_roundw
    case rel=>exact ⟨2+1,by go_num,by omega,below_step hB (below_alloc (Below.refl _ _) _)⟩
    case measure=>simp [intOf]
  ·subst h4
   have x0:=(hB.cell (p:=⟨g2,6,none⟩) hgl2).trans p6
   have x1:=(hB.cell (p:=⟨g2,7,none⟩) hgl2).trans p7
   have hgw:g2 < wr.heap.size:=Nat.lt_of_lt_of_le hgl2 hB.size
   by_cases hx0:l=0
   ·have e1:(l == 0)=true:=beq_iff_eq.2 hx0
    have e2:(re != 0)=false:=by simp [ZL.out hx0]
    have d1:decide (281474976710656 < l)=false:=decide_eq_false (by have:=HL.out;unfold ver48 at this;omega)
    have d2:¬ 281474976710656 < l:=by have:=HL.out;unfold ver48 at this;omega
    clear hx0
    go_wp2
    go_roundw
    case rel=>exact ⟨3+1,by go_num,by omega,below_step hB (below_alloc (Below.refl _ _) _)⟩
    case measure=>simp [intOf]
   ·have e1:(l == 0)=false:=beq_eq_false_iff_ne.2 hx0
    have d1:decide (281474976710656 < l)=false:=decide_eq_false (by have:=HL.out;unfold ver48 at this;omega)
    have d2:¬ 281474976710656 < l:=by have:=HL.out;unfold ver48 at this;omega
    go_wp2
    go_roundw
    case rel=>exact ⟨3+1,by go_num,by omega,below_step hB (below_alloc (Below.refl _ _) _)⟩
    case measure=>simp [intOf]
  ·subst h4
   obtain ⟨⟨m0,m1,m2,m3⟩,hgm⟩:=HMC.out
   have n0:=(hB.cell (p:=⟨g0,0,none⟩) hgm).trans m0
   have n1:=(hB.cell (p:=⟨g0,1,none⟩) hgm).trans m1
   have n2:=(hB.cell (p:=⟨g0,2,none⟩) hgm).trans m2
   have n3:=(hB.cell (p:=⟨g0,3,none⟩) hgm).trans m3
   have hBW:=below_step (below_step (below_step HB0.out HG1.out) HW2.out) hB
   have HBW:=hide hBW
   have HS:=hide (HSV.out wr ((HH.out.below (below_step HG1.out HW2.out)).below hB))
   clear p0 p1 p2 p3 p4 p5 p6 p7 m0 m1 m2 m3 hBW hB
   go_wp2_with ((with_reducible refine (HS.out).mono ?_);rintro e w9 ⟨rfl,R',h1,h2,h3⟩;have H1:=hide h1;have H2:=hide h2;have H3:=hide h3;clear h1 h2 h3)
   go_ret
   refine ⟨rfl,R',H1.out,?_,?_⟩
   ·exact H2.out.wide (fun g e=>e.imp id (fun e=>⟨Nat.le_trans HBW.out.size e.1,e.2⟩)) (Xw.bd HBD.out HBL.out (Nat.le_trans HBW.out.size H3.out.size))
   ·exact (Sets.of (S:=X) HBW.out).trans H3.out (fun _ _ e=>e)
end Go.Proofs.YtgmkckjedngkdaaGreatDoor
namespace Go.Proofs.YtgmkckjedngkdaaGreatDoor
open Go.ChangeShapes Go.WideShapes Go.ChangeAt Go.RowKit
structure Nr where
 id:Int
 R:Sr
 now:Int
 grace:Int
structure NodeV (w:World) (base n s:Nat) (Y X:Nat→Prop) (N:Nr):Prop where
 box:w.heap[n]? = some (.cells #[.int .i64 N.id,ptv s,.int .u64 N.now,.int .u64 N.grace] 78 (0,0))
 st:StoreO w base s Y N.R
 inX:∀ g,Y g→X g
 nX:X n
 nY:¬ Y n
 bd:∀ g,X g→base≤g∧g < w.heap.size
def NodeO (w:World) (base n:Nat) (X:Nat→Prop) (N:Nr):Prop:=∃ s Y,NodeV w base n s Y X N
section
variable {w w':World} {base n s:Nat} {X Y Z S:Nat→Prop} {N:Nr}
theorem NodeV.lt (H:NodeV w base n s Y X N):n < w.heap.size:=(H.bd n H.nX).2
theorem NodeV.cells (H:NodeV w base n s Y X N):w.cell? ⟨n,0,none⟩=some (.int .i64 N.id)∧w.cell? ⟨n,1,none⟩=some (ptv s)∧w.cell? ⟨n,2,none⟩=some (.int .u64 N.now)∧w.cell? ⟨n,3,none⟩=some (.int .u64 N.grace):=four_cells H.box
theorem NodeV.sets (H:NodeV w base n s Y X N) (k:Sets S w w') (hS:∀ g,X g→¬ S g):NodeV w' base n s Y X N :=
 { H with
   box:=(k.block n H.lt (hS n H.nX)).trans H.box
   st:=H.st.sets k (fun g hg=>hS g (H.inX g hg))
   bd:=fun g hg=>⟨(H.bd g hg).1,Nat.lt_of_lt_of_le (H.bd g hg).2 k.size⟩ }
theorem NodeV.wide (H:NodeV w base n s Y X N) (hX:∀ g,X g→Z g) (hZ:∀ g,Z g→base≤g∧g < w.heap.size):NodeV w base n s Y Z N :=
 { H with
   inX:=fun g hg=>hX g (H.inX g hg)
   nX:=hX n H.nX
   bd:=hZ }
theorem NodeV.put (H:NodeV w base n s Y X N) (k:Sets Y w w') {R':Sr} (h:StoreO w' base s (Xw Y w w') R'):NodeV w' base n s (Xw Y w w') (Xw X w w') { N with R:=R' }:=by
 have hbl:base≤w.heap.size:=by have:=H.bd n H.nX;omega
 exact {
  box:=(k.block n H.lt H.nY).trans H.box
  st:=h
  inX:=fun g e=>e.imp (H.inX g) id
  nX:=.inl H.nX
  nY:=fun e=>by
   rcases e with e | e
   ·exact H.nY e
   ·have:=H.lt;omega
  bd:=Xw.bd H.bd hbl k.size }
theorem NodeV.up (H:NodeV w base n s Y X N) (k:Sets Y w w'):Sets X w w':=⟨k.os,k.tape,k.output,k.size,fun g hg hn=>k.block g hg (fun e=>hn (H.inX g e))⟩
theorem NodeO.sets (H:NodeO w base n X N) (k:Sets S w w') (hS:∀ g,X g→¬ S g):NodeO w' base n X N:=let ⟨s,Y,H⟩:=H;⟨s,Y,H.sets k hS⟩
theorem NodeO.wide (H:NodeO w base n X N) (hX:∀ g,X g→Z g) (hZ:∀ g,Z g→base≤g∧g < w.heap.size):NodeO w base n Z N:=let ⟨s,Y,H⟩:=H;⟨s,Y,H.wide hX hZ⟩
theorem NodeO.below (H:NodeO w base n X N) (k:Below w.heap.size w w'):NodeO w' base n X N:=H.sets (S:=fun _=>False) (Sets.of k) (fun _ _=>id)
theorem NodeO.lt (H:NodeO w base n X N):n < w.heap.size:=let ⟨_,_,H⟩:=H;H.lt
theorem NodeO.bd (H:NodeO w base n X N):∀ g,X g→base≤g∧g < w.heap.size:=let ⟨_,_,H⟩:=H;H.bd
end
set_option maxRecDepth 100000 in
set_option maxHeartbeats 1600000 in
theorem nmeta_any {w:World} {base n:Nat} {X:Nat→Prop} {N:Nr} (H:NodeO w base n X N):Calls Tryz.prog 96 #[ptv n] w fun e w'=>e=.returned (meta4 N.R.v.fl N.R.v.ce N.R.v.at_ N.R.v.le)∧Below w.heap.size w w':=by
 have hz:=heap_alloc_new w (.cells #[.int .u64 0,.int .u64 0,.int .u64 0,.int .u64 0] 75)
 have hb:=below_alloc (Below.refl w.heap.size w) (.cells #[.int .u64 0,.int .u64 0,.int .u64 0,.int .u64 0] 75)
 obtain ⟨w0,hw0⟩:∃ w0,w.alloc (.cells #[.int .u64 0,.int .u64 0,.int .u64 0,.int .u64 0] 75)=w0:=⟨_,rfl⟩
 rw [hw0] at hz hb
 obtain ⟨s,Y,H⟩:=H.below hb
 obtain ⟨_,c1,r_⟩:=H.cells
 clear r_
 have HV:=hide (smeta_any H.st)
 have hgl:w.heap.size < w0.heap.size:=(Array.getElem?_eq_some_iff.1 hz).1
 have hnl:n < w0.heap.size:=H.lt
 obtain ⟨rf,hrf⟩:∃ v,N.R.v.fl=v:=⟨_,rfl⟩
 obtain ⟨rc,hrc⟩:∃ v,N.R.v.ce=v:=⟨_,rfl⟩
 obtain ⟨ra,hra⟩:∃ v,N.R.v.at_=v:=⟨_,rfl⟩
 obtain ⟨re,hre⟩:∃ v,N.R.v.le=v:=⟨_,rfl⟩
 rw [hrf,hrc,hra,hre] at HV ⊢
 have HZ:=hide hz
 have HB:=hide hb
 have HW0:=hide hw0
 clear H hz hb hw0 hrf hrc hra hre
 go_enter Tryz.func96,Tryz.ntmps96
 go_upto_region 1 with fail
 rw [HW0.out]
 go_wp2_with ((with_reducible refine (HV.out).mono ?_);rintro e w1 ⟨rfl,hg1⟩;have hz1:=(hg1.block w.heap.size hgl).trans HZ.out;obtain ⟨y0,y1,y2,y3⟩:=four_cells hz1;have yf:∀ o,w1.frozen? ⟨w.heap.size,o,none⟩=false:=(fun o=>by simp [World.frozen?,hz1]);have yf0:=yf 0;have yf1:=yf 1;have yf2:=yf 2;have yf3:=yf 3;have HZ1:=hide hz1;have HG1:=hide hg1;have hgl1:w.heap.size < w1.heap.size:=Nat.lt_of_lt_of_le hgl hg1.size;clear hg1 hz1 yf c1)
 have hp:=four_put HZ1.out (.int .u64 rf) (.int .u64 rc) (.int .u64 ra) (.int .u64 re)
 have hS:=(((sets1 w1 w.heap.size 0 (.int .u64 rf)).set (g:=w.heap.size) (fun _=>rfl) 1 (.int .u64 rc)).set (g:=w.heap.size) (fun _=>rfl) 2 (.int .u64 ra)).set (g:=w.heap.size) (fun _=>rfl) 3 (.int .u64 re)
 obtain ⟨w2,hw2⟩:∃ w2,(((w1.setCell ⟨w.heap.size,0,none⟩ (.int .u64 rf)).setCell ⟨w.heap.size,1,none⟩ (.int .u64 rc)).setCell ⟨w.heap.size,2,none⟩ (.int .u64 ra)).setCell ⟨w.heap.size,3,none⟩ (.int .u64 re)=w2:=⟨_,rfl⟩
 rw [hw2] at hp hS ⊢
 obtain ⟨r0,r1,r2,r3⟩:=four_cells hp
 refine bodyPost_ret (v:=meta4 rf rc ra re) (by simp [results,Tryz.results96,go_sem,r0,r1,r2,r3]) rfl ?_
 have hb:=below_step HB.out HG1.out
 exact ⟨rfl,Sets.below hb hS (fun b e=>by rw [e];exact Nat.le_refl _) hb.size⟩
theorem nstore_any {w:World} {base n s:Nat} {X Y:Nat→Prop} {N:Nr} (H:NodeV w base n s Y X N):Calls Tryz.prog 104 #[ptv n] w fun e w'=>e=.returned (ptv s)∧w'=w:=by
 obtain ⟨_,c1,_⟩:=H.cells
 clear H
 go_enter Tryz.func104,Tryz.ntmps104
 go_wp2
 go_ret
 exact ⟨rfl,rfl⟩
def nr0 (d:Nat) (id q grace:Int) (zl zm zc:Fz):Nr:=⟨id,sr0 d q zl zm zc,0,grace⟩
set_option maxRecDepth 100000 in
set_option maxHeartbeats 1600000 in
theorem nopen_any {w:World} {base p:Nat} {X:Nat→Prop} {q:Int} (H:DiskO w base p X (dk0 q)) (he:ErrOk w) (hb2:2≤base) (hq:600≤q) (id:Nat) (grace:Int) (hi:id≤6) (hg0:0≤grace) (hg:grace≤1099511627776) :
 Calls Tryz.prog 6 #[.int .i64 id,ptv p,.int .u64 grace] w fun e w'=>∃ n zl zm zc,e=.returned (.tuple #[ptv n,.int .i64 0])∧New3 zl zm zc∧NodeO w' base n (Xw X w w') (nr0 p id q grace zl zm zc)∧Sets X w w':=by
 have hbd:=H.bd
 have hbl:base≤w.heap.size:=by obtain ⟨h,H⟩:=H;exact H.base_le
 have d1:decide ((id:Int) < 0)=false:=decide_eq_false (by omega)
 have d2:decide (7≤(id:Int))=false:=decide_eq_false (by omega)
 have d3:decide (1099511627776 < grace)=false:=decide_eq_false (by omega)
 have f1:¬ (id:Int) < 0:=by omega
 have f2:¬ 7≤(id:Int):=by omega
 have f3:¬ 1099511627776 < grace:=by omega
 have HO:=hide (sopen_st H he hb2 hq)
 have HBD:=hide hbd
 have HBL:=hide hbl
 clear H hbd hbl hg hg0 hi hq hb2 he
 have hfm:∀ W,(Instr.field 75 (meta4 0 0 0 0) 2).run Tryz.prog W=.ok (.int .u64 0) W:=fun W=>by kernel_rfl
 go_enter Tryz.func6,Tryz.ntmps6
 go_wp2_with (first
  | ((with_reducible refine (HO.out).mono ?_);rintro e w1 ⟨s,zl,zm,zc,rfl,hn3,hs1,hk1⟩;have HN3:=hide hn3;have HS1:=hide hs1;have HK1:=hide hk1;have HM:Hid (Calls Tryz.prog 23 #[ptv s] w1 fun e w'=>e=.returned (meta4 0 0 0 0)∧Below w1.heap.size w1 w'):=hide (smeta_any hs1);clear hn3 hs1 hk1)
  | ((with_reducible refine (HM.out).mono ?_);rintro e w2 ⟨rfl,hb2⟩;have HB2:=hide hb2;clear hb2))
 go_returns
 have hz:=heap_alloc_new w2 (.cells #[.int .i64 id,ptv s,.int .u64 (min 0 1099511627776),.int .u64 grace] 78)
 have ha:=below_alloc (Below.refl w2.heap.size w2) (.cells #[.int .i64 id,ptv s,.int .u64 (min 0 1099511627776),.int .u64 grace] 78)
 obtain ⟨w3,hw3⟩:∃ w3,w2.alloc (.cells #[.int .i64 id,ptv s,.int .u64 (min 0 1099511627776),.int .u64 grace] 78)=w3:=⟨_,rfl⟩
 rw [hw3] at hz ha ⊢
 have h13:=below_step HB2.out ha
 have hSX:Sets X w w3:=HK1.out.trans (Sets.of (S:=fun _=>False) h13) (fun _ _ h=>h.elim)
 have hlt:w2.heap.size < w3.heap.size:=(Array.getElem?_eq_some_iff.1 hz).1
 refine ⟨w2.heap.size,zl,zm,zc,rfl,HN3.out,⟨s,Xw X w w1,?_⟩,hSX⟩
 exact {
  box:=hz
  st:=HS1.out.below h13
  inX:=fun g e=>e.imp (fun h=>h) (fun e=>⟨e.1,Nat.lt_of_lt_of_le e.2 h13.size⟩)
  nX:=.inr ⟨Nat.le_trans HK1.out.size HB2.out.size,hlt⟩
  nY:=fun e=>by
   have:=HB2.out.size
   rcases e with e | e
   ·have:=(HBD.out _ e).2;have:=HK1.out.size;omega
   ·omega
  bd:=Xw.bd HBD.out HBL.out hSX.size }
end Go.Proofs.YtgmkckjedngkdaaGreatDoor
namespace Go.Proofs.YtgmkckjedngkdaaGreatDoor
open Go.ChangeShapes Go.WideShapes Go.ChangeAt Go.RowKit Go.Shelf
attribute [local go_sem] Oper.semAt_some
theorem chunk_any (A:Option Addr) (N c:Nat) (w:World):Calls Tryz.prog 81 #[.slice A N c,.int .i64 1000] w fun e w' =>
 e=.returned (.func (.func 160) #[] #[.pointer (some ⟨w.heap.size,0,none⟩),.pointer (some ⟨w.heap.size+1,0,none⟩)])∧w'=(w.alloc (.cells #[.slice A N c] 31)).alloc (.cells #[.int .i64 1000] 3):=by
 go_enter Tryz.func81,Tryz.ntmps81
 go_wp2
 go_ret
 exact ⟨rfl,rfl⟩
set_option maxRecDepth 100000 in
set_option maxHeartbeats 2000000 in
theorem chunk_one (F:Fence) (n:Nat) (hf:F.fn 160) (hro:F.round=none) (hn:1≤n) (l bs bn gb off:Nat) (N c:Nat) (hN:1≤N∧N≤1000) (hc:N≤c∧c≤maxLen) (J1 Jx:World→Prop) (W:World)
 (hs:W.cell? ⟨bs,0,none⟩=some (.slice (some ⟨gb,off,none⟩) N c)) (hb:W.cell? ⟨bn,0,none⟩=some (.int .i64 1000)) (hbs:bs < W.heap.size) (hbn:bn < W.heap.size)
 (hY:∀ W',Below W.heap.size W W'→YieldAt F (n - 1) Tryz.prog l #[.slice (some ⟨gb,off,none⟩) N N] W' fun e W2 =>
  (e=.returned (.bool true)∧J1 W2∧W2.cell? ⟨bs,0,none⟩=some (.slice (some ⟨gb,off,none⟩) N c)∧W2.cell? ⟨bn,0,none⟩=some (.int .i64 1000)) ∨ (e=.returned (.bool false)∧Jx W2)) :
 CallsIn F n Tryz.prog 160 #[.func (.yield l) #[] #[],.pointer (some ⟨bs,0,none⟩),.pointer (some ⟨bn,0,none⟩)] W fun e W'=>(∃ v,e=.returned v)∧(J1 W' ∨ Jx W'):=by
 refine callsIn_of_wp Tryz.func160 rfl hf ?_ hro
 simp only [Tryz.ntmps160,List.size_toArray,List.length_cons,List.length_nil,Nat.reduceAdd,Nat.reduceSub,Array.replicate_succ,Array.replicate_zero,List.push_toArray,List.append_toArray,List.nil_append,List.cons_append]
 gi_wp2
 gi_loopw [4] (fun i wr=>(i=.int .i64 0∧wr=W) ∨ (i=.int .i64 1000∧J1 wr∧wr.cell? ⟨bs,0,none⟩=some (.slice (some ⟨gb,off,none⟩) N c)∧wr.cell? ⟨bn,0,none⟩=some (.int .i64 1000))) (fun i _=>1001 - (intOf i).toNat)
 case atStart=>exact .inl ⟨rfl,rfl⟩
 case round =>
  rcases hrel with ⟨rfl,rfl⟩ | ⟨rfl,hJ,hs2,hb2⟩
  ·have d1:decide ((0:Int) < (N:Int))=true:=decide_eq_true (by omega)
   have f1:(0:Int) < (N:Int):=by omega
   obtain ⟨fn,tmps,assign,body,hy,hR⟩:=hY wr.drew (Below.refl _ _).drew
   have hm1:min (1000:Int) (N:Int)=(N:Int):=by omega
   have hm2:((N:Int) < 1000 ∨ (N:Int)=1000):=by omega
   have hw1:IntKind.i64.wrap (N:Int)=(N:Int):=by rw [IntKind.wrap_i64];omega
   have hw2:wrap64 (N:Int)=(N:Int):=by unfold wrap64;omega
   gi_wp2
   gi_region
   all_goals clear hm1 hm2
   all_goals gi_wp2
   all_goals
    refine hR.mono ?_
    rintro e W3 (⟨rfl,hJ3,hs3,hb3⟩ | ⟨rfl,hx3⟩)
    ·gi_wp2
     go_roundw
     case rel=>exact .inr ⟨by go_num,hJ3,hs3,hb3⟩
     case measure=>simp [intOf]
    ·gi_wp2
     refine bodyPost_ret (results_none rfl _ _ _) rfl ?_
     exact ⟨⟨_,rfl⟩,.inr hx3⟩
  ·have f1:¬ (1000:Int) < (N:Int):=by omega
   gi_wp2
   go_end0
   exact ⟨⟨_,rfl⟩,.inl hJ⟩
def onePost (B:Nat) (I Ix:World→Prop) (W:World):Exit→Act→World→Prop
 | .normal,_,W'=>KeepsFrom B W W'∧I W'
 | .ret,_,W'=>KeepsFrom B W W'∧Ix W'
 | .exit _,_,_=>False
 | .goto _,_,_=>False
 | .panic _,_,_=>False
 | .outgrown,_,_=>False
theorem sets_putObj (W:World) (l:Nat) (o:Obj) (_:l < W.heap.size):Sets (fun k=>k=l) W (W.putObj l o):=by
 have h:=grownBy_putObj' W l o
 exact ⟨h.os,h.tape,h.output,h.size,fun i hi hs=>h.block i hi (fun e=>hs (Option.some.inj e))⟩
theorem range_one {F:Fence} {n:Nat} {P:Program} {g:Operand} {ps:Array Tmp} {assign body:Code} {Q:Exit→Act→World→Prop} {a:Act} {w:World}
 (hro:F.round=none) (h1:1≤n) {gf:Nat} {lb:Array Value} (hg:a.eval g=.func (.func gf) #[] lb) (hFg:F.fn gf) (eg:∀ args w,(callFunc gf args).run P w=.ok (.enter gf args) w)
 {xs:Array Value} (hps:xs.size=ps.size) (a₁:Act)
 (hassign:∀ (l:Nat) (W:World) (K:Act→World→Prop),K a₁ W→assign.wpIn (F.inRound l) (n - 1 - 1) P (Exit.then K (fun _ _ _=>False)) { tmps:=(ps.zip xs).foldl (fun t (p,v)=>t.setIfInBounds p v) a.tmps,defers:=[] } W)
 (Kb:World→Prop) (hKs:∀ W W',Sets (fun k=>k=w.heap.size+1) W W'→Kb W→Kb W') (I Ix:World→World→Prop) (hKI:∀ Wb W3,I Wb W3→Kb W3)
 (hit:∀ (l:Nat) (W:World) (J1 Jx:World→Prop),Below w.heap.size w W →
  (∀ W',Below W.heap.size W W'→YieldAt F (n - 1 - 1) P l xs W' fun e W2=>(e=.returned (.bool true)∧J1 W2∧Kb W2) ∨ (e=.returned (.bool false)∧Jx W2)) →
  CallsIn F (n - 1) P gf (#[.func (.yield l) #[] #[]] ++ lb) W fun e W'=>(∃ v,e=.returned v)∧(J1 W' ∨ Jx W'))
 (hbody:∀ (l:Nat) (Wb:World),Below w.heap.size w Wb→w.heap.size+1 < Wb.heap.size→body.wpIn (F.inRound l) (n - 1 - 1) P (onePost w.heap.size (I Wb) (Ix Wb) Wb) a₁ Wb)
 (hdone:∀ (Wb W3 W5:World),Below w.heap.size w Wb→w.heap.size+1 < Wb.heap.size→I Wb W3→Sets (fun k=>k=w.heap.size+1) W3 W5→W5.heap[w.heap.size]? = some (.deferred (some []))→Q .normal { a with defers:={ target:=.collected w.heap.size,args:=#[] } :: a.defers } W5)
 (hstop:∀ (Wb W3 W5:World),Below w.heap.size w Wb→w.heap.size+1 < Wb.heap.size→Ix Wb W3→Sets (fun k=>k=w.heap.size+1) W3 W5→W5.heap[w.heap.size]? = some (.deferred (some []))→Code.ret.wpIn F n P Q { a with defers:={ target:=.collected w.heap.size,args:=#[] } :: a.defers } W5) :
 (Code.rangeFunc g ps assign body).wpIn F n P Q a w:=by
 refine wpIn_rangeFunc (fun fn hfn=>?_)
 rw [hro]
 obtain ⟨mk,hmk⟩:∃ mk:LoopState→Option Code→Loop,mk=fun st pe=>{ state:=st,pending:=pe,fn,tmps:=a.tmps,params:=ps,assign,body,defers:=w.heap.size }:=⟨_,rfl⟩
 obtain ⟨W1,hW1⟩:∃ W1,(w.alloc (.deferred (some []))).alloc (.loop (mk .ready none))=W1:=⟨_,rfl⟩
 have hbW:Below w.heap.size w W1:=by rw [← hW1];exact ((Below.refl _ w).alloc (Nat.le_refl _) _).alloc (by simp) _
 have hL:W1.heap[w.heap.size+1]? = some (.loop (mk .ready none)):=by
  have:=World.alloc_heap_new (w.alloc (.deferred (some []))) (.loop (mk .ready none))
  rw [← hW1];rwa [World.size_alloc] at this
 have hD:W1.heap[w.heap.size]? = some (.deferred (some [])):=by
  rw [← hW1];exact (Below.heap_alloc _ _ _ (by simp)).trans (World.alloc_heap_new w _)
 let J (st:LoopState) (pe:Option Code) (I:World→World→Prop) (W:World):Prop:=∃ Wb W3,Below w.heap.size w Wb∧w.heap.size+1 < Wb.heap.size∧I Wb W3∧Sets (fun k=>k=w.heap.size+1) W3 W∧W.heap[w.heap.size+1]? = some (.loop (mk st pe))∧W.heap[w.heap.size]? = some (.deferred (some []))
 refine ⟨w.heap.size+1,[{ target:=.collected w.heap.size,args:=#[] }],W1,{ target:=.fn (.func gf) lb,args:=#[.func (.yield (w.heap.size+1)) #[] #[]] },W1,gf,
  #[.func (.yield (w.heap.size+1)) #[] #[]] ++ lb,W1,by rw [← hW1,hmk];exact run_enterLoop_outer _ _ _ _ _,by simp only [resolve,hg];simp [go_sem],fun f' hf'=>by simp [Target.leads] at hf';subst hf';exact hFg,by simp [invoke,go_sem,eg],fun _=>h1,?_⟩
 refine (hit (w.heap.size+1) W1 (J .ready none I) (J .done (some .ret) Ix) hbW (fun W' hW'=>?_)).mono ?_
 ·
  have hlt1:w.heap.size+1 < W1.heap.size:=(Array.getElem?_eq_some_iff.1 hL).1
  have hl:=(hW'.block _ hlt1).trans hL
  have hd:=(hW'.block w.heap.size (by omega)).trans hD
  have hlt:w.heap.size+1 < W'.heap.size:=Nat.lt_of_lt_of_le hlt1 hW'.size
  have hy:=run_yield (P:=P) (args:=xs) hl (by rw [hmk];exact hps)
  have hb0:Below w.heap.size w W':=below_step hbW hW'
  rw [hmk] at hy
  refine ⟨fn,_,assign,body,hy,roundIn_of_wpIn hfn (hassign _ W' _ ⟨_,run_beginRound hl (by rw [hmk]),?_⟩)⟩
  have hsB:=sets_putObj W' (w.heap.size+1) (.loop { mk .ready none with state:=.busy }) hlt
  have hlB:(W'.putObj (w.heap.size+1) (.loop { mk .ready none with state:=.busy })).heap[w.heap.size+1]? = some (.loop { mk .ready none with state:=.busy }):=World.putObj_heap_same hlt
  have hdB:(W'.putObj (w.heap.size+1) (.loop { mk .ready none with state:=.busy })).heap[w.heap.size]? = some (.deferred (some [])):=(World.putObj_heap_other (by omega)).trans hd
  obtain ⟨Wb,hWb⟩:∃ Wb,W'.putObj (w.heap.size+1) (.loop { mk .ready none with state:=.busy })=Wb:=⟨_,rfl⟩
  rw [hWb] at hsB hlB hdB ⊢
  have hbb:Below w.heap.size w Wb:=Sets.below hb0 hsB (fun b e=>by omega) hb0.size
  have hltB:w.heap.size+1 < Wb.heap.size:=Nat.lt_of_lt_of_le hlt hsB.size
  refine wpIn_mono (hbody _ Wb hbb hltB) ?_
  have fin:∀ (jump:Option Code) (W3:World),KeepsFrom w.heap.size Wb W3 →
   (Instr.endRound (w.heap.size+1) jump).run P W3=.ok (.bool jump.isNone) (W3.putObj (w.heap.size+1) (.loop (mk (if jump.isNone then .ready else .done) jump))) ∧
   Sets (fun k=>k=w.heap.size+1) W3 (W3.putObj (w.heap.size+1) (.loop (mk (if jump.isNone then .ready else .done) jump))) ∧
   (W3.putObj (w.heap.size+1) (.loop (mk (if jump.isNone then .ready else .done) jump))).heap[w.heap.size+1]? = some (.loop (mk (if jump.isNone then .ready else .done) jump)) ∧
   (W3.putObj (w.heap.size+1) (.loop (mk (if jump.isNone then .ready else .done) jump))).heap[w.heap.size]? = some (.deferred (some [])):=fun jump W3 hk3=>by
   have hl3:=hk3.same _ _ (Nat.le_succ _) hlB rfl
   have he:=run_endRound (P:=P) jump hl3
   have hlt3:=(Array.getElem?_eq_some_iff.1 hl3).1
   rw [hmk] at he ⊢
   exact ⟨he,sets_putObj _ _ _ hlt3,World.putObj_heap_same hlt3,(World.putObj_heap_other (by omega)).trans (hk3.same _ _ (Nat.le_refl _) hdB rfl)⟩
  rintro e a3 W3 hp
  cases e with
  | normal =>
   obtain ⟨hr,hs4,hl4,hd4⟩:=fin none W3 hp.1
   exact ⟨_,_,hr,.inl ⟨rfl,⟨Wb,W3,hbb,hltB,hp.2,hs4,hl4,hd4⟩,hKs _ _ hs4 (hKI _ _ hp.2)⟩⟩
  | ret =>
   obtain ⟨hr,hs4,hl4,hd4⟩:=fin (some .ret) W3 hp.1
   exact ⟨_,_,hr,.inr ⟨rfl,Wb,W3,hbb,hltB,hp.2,hs4,hl4,hd4⟩⟩
  | exit id=>exact hp.elim
  | goto t=>exact hp.elim
  | panic ch=>exact hp.elim
  | outgrown=>exact hp.elim
 ·
  have hend:∀ (W2 W3:World),Sets (fun k=>k=w.heap.size+1) W3 W2→∀ r,W2.heap[w.heap.size+1]? = some (.loop r)→W2.heap[w.heap.size]? = some (.deferred (some [])) →
   Sets (fun k=>k=w.heap.size+1) W3 (W2.putObj (w.heap.size+1) (.loop { r with state:=.exhausted }))∧(W2.putObj (w.heap.size+1) (.loop { r with state:=.exhausted })).heap[w.heap.size]? = some (.deferred (some [])):=fun W2 W3 hs r hl hd =>
   ⟨hs.trans (sets_putObj _ _ _ (Array.getElem?_eq_some_iff.1 hl).1) (fun _ _ e=>e),(World.putObj_heap_other (by omega)).trans hd⟩
  rintro e W2 ⟨⟨v,rfl⟩,(⟨Wb,W3,hb,hlt,hi,hs,hl,hd⟩ | ⟨Wb,W3,hb,hlt,hi,hs,hl,hd⟩)⟩
  ·obtain ⟨hs',hd'⟩:=hend W2 W3 hs _ hl hd
   have he:=run_endLoop (P:=P) hl (by rw [hmk];simp)
   rw [hmk] at he hs' hd'
   exact ⟨none,_,he,hdone Wb W3 _ hb hlt hi hs' hd'⟩
  ·obtain ⟨hs',hd'⟩:=hend W2 W3 hs _ hl hd
   have he:=run_endLoop (P:=P) hl (by rw [hmk];simp)
   rw [hmk] at he hs' hd'
   exact ⟨some .ret,_,he,hstop Wb W3 _ hb hlt hi hs' hd'⟩
end Go.Proofs.YtgmkckjedngkdaaGreatDoor
namespace Go.Proofs.YtgmkckjedngkdaaGreatDoor
open Go.ChangeShapes Go.WideShapes Go.ChangeAt Go.RowKit Go.Shelf
def LastTo (R:Sr) (L:List It) (M:Nat) (B:Bool) (R':Sr):Prop :=
 (joinL R.S L=R.S∧B=true∧∃ K',SameD R.K K'∧R'={ R with K:=K' }) ∨
 (joinL R.S L ≠ R.S∧B=true∧∃ R1 K',AplTo R L M 0 R1∧SameD R1.K K'∧R'={ R1 with K:=K' }) ∨
 (joinL R.S L ≠ R.S∧B=false∧∃ ee,ee ≠ 0∧AplTo R L M ee R')
theorem LastTo.d {R R':Sr} {L:List It} {M:Nat} {B:Bool} (h:LastTo R L M B R'):R'.d=R.d:=by
 rcases h with ⟨_,_,K',_,rfl⟩ | ⟨_,_,R1,K',h,_,rfl⟩ | ⟨_,_,ee,_,h⟩
 ·rfl
 ·exact h.1
 ·exact h.1
theorem box_put {w:World} {g:Nat} {v0:Value} {t:TypeId} (h:w.heap[g]? = some (.cells #[v0] t (0,0))) (v:Value):(w.setCell ⟨g,0,none⟩ v).heap[g]? = some (.cells #[v] t (0,0)):=by
 simp [World.setCell,Array.getElem?_modify,h]
theorem box_cell {w:World} {g:Nat} {v0:Value} {t:TypeId} (h:w.heap[g]? = some (.cells #[v0] t (0,0))):w.cell? ⟨g,0,none⟩=some v0:=(cell_of_row w g 0 _ _ _ h).trans rfl
set_option maxRecDepth 100000 in
set_option maxHeartbeats 3200000 in
theorem nlast_same {w:World} {base n:Nat} {X:Nat→Prop} {N:Nr} (H:NodeO w base n X N) (A:Option Addr) (c:Nat) (L:List It) (hL:ItemsAt w A L) (hcc:L.length≤c∧c≤maxLen) (hl:L.length≤1000) (hs:joinL N.R.S L=N.R.S) :
 Calls Tryz.prog 28 #[ptv n,.slice A L.length c] w fun e w'=>∃ K',e=.returned (.bool true)∧SameD N.R.K K'∧NodeO w' base n (Xw X w w') { N with R:={ N.R with K:=K' } }∧Sets X w w':=by
 have hbd:=H.bd
 have hnl:=H.lt
 have hbl:base≤w.heap.size:=by obtain ⟨s,Y,H⟩:=H;have:=H.bd n H.nX;omega
 obtain ⟨w0,hw0⟩:∃ w0,(w.alloc (.cells #[ptv n] 25)).alloc (.cells #[.bool false] 4)=w0:=⟨_,rfl⟩
 have hb0:Below w.heap.size w w0:=by rw [← hw0];exact below_alloc (below_alloc (Below.refl w.heap.size w) _) _
 have hz2:w0.heap[w.heap.size]? = some (.cells #[ptv n] 25 (0,0)):=by rw [← hw0];exact (Below.heap_alloc _ _ _ (by simp)).trans (heap_alloc_new w _)
 have hz4:w0.heap[w.heap.size+1]? = some (.cells #[.bool false] 4 (0,0)):=by
  have:=heap_alloc_new (w.alloc (.cells #[ptv n] 25)) (.cells #[.bool false] 4)
  rw [hw0,World.size_alloc] at this
  exact this
 obtain ⟨g2,hg2⟩:∃ g,w.heap.size=g:=⟨_,rfl⟩
 rw [hg2] at hz2 hz4
 have hl4:g2+1 < w0.heap.size:=(Array.getElem?_eq_some_iff.1 hz4).1
 obtain ⟨s,Y,H0⟩:=H.below hb0
 have k1:=H0.cells.2.1
 have b2:=box_cell hz2
 have HS:=hide (sstate_any H0.st)
 have HH:=hide H0
 have HB0:=hide hb0
 have HZ4:=hide hz4
 have HZ2:=hide hz2
 have HG2:=hide hg2
 have HW0:=hide hw0
 have HLI:=hide (hL.below hb0)
 have HBD:=hide hbd
 have HBL:=hide hbl
 have HCC:=hide hcc
 have HLL:=hide hl
 have hn0:n < w0.heap.size:=H0.lt
 have hns:∀ W,Sets Y w0 W→_:=fun W k=>(k.block n H0.lt H0.nY).trans H0.box
 have hYg:∀ g,Y g→g < g2:=fun g hg=>by have:=(hbd g (H0.inX g hg)).2;omega
 have HYG:=hide hYg
 obtain ⟨S0,hS0⟩:∃ S0,N.R.S=S0:=⟨_,rfl⟩
 have hSl:S0.length≤1500:=by rw [← hS0];obtain ⟨h,h1⟩:=H0.st;exact h1.few.1
 rw [hS0] at HS hs
 have HSE:=hide hs
 have HSL:=hide hSl
 clear H hbd hbl hcc hl hL hb0 hz2 hz4 hg2 hw0 H0 hnl hs hns hYg hSl hS0
 go_enter Tryz.func28,Tryz.ntmps28
 go_upto_region 1 with fail
 rw [HW0.out,HG2.out]
 go_wp2_with ((with_reducible refine (HS.out).mono ?_);rintro e w1 ⟨v1,rfl,ho1,hg1⟩;obtain ⟨bc1,bf1⟩:=bcell hg1;have e2:=(bc1 g2 0 (by omega)).trans b2;have e1:=(bc1 n 1 hn0).trans k1;obtain ⟨A1,c1,rfl,hr1,hq1⟩:=ho1.sl;have HO1:=hide ho1;have HG1:=hide hg1;clear ho1 hg1 b2 k1 bc1 bf1)
 refine (Calls.mono (pjoin_sl (Sl.mk_ hr1 hq1.1 hq1.2) (Sl.mk_ (HLI.out.below HG1.out) HCC.out.1 HCC.out.2) (by have:=HSL.out;omega) (by have:=HLL.out;omega)) ?_);rintro e w2 ⟨v2,rfl,ho2,hg2⟩
 rw [HSE.out] at ho2
 obtain ⟨A2,c2,rfl,hr2,hq2⟩:=ho2.sl
 have hsm:=psame_any_ A1 A2 c1 c2 S0 S0 w2 (hr1.below hg2) hr2 (by have:=HSL.out;omega) (by have:=HSL.out;omega)
 rw [show eqL S0 S0=true from eqL_iff.2 rfl] at hsm
 have HSM:=hide hsm
 have HG12:=hide (below_step HG1.out hg2)
 clear ho2 hsm hr1 hq1 hr2 hq2 hg2 e2 e1 HO1 HG1
 go_wp2_with fail
 refine (Calls.mono HSM.out ?_);rintro e w3 ⟨rfl,hg3⟩
 have HG3:=hide (below_step HG12.out hg3)
 have HY:=hide (ssync_any (HH.out.st.below HG3.out))
 have e2:w3.cell? ⟨g2,0,none⟩=some (ptv n):=(HG3.out.cell (p:=⟨g2,0,none⟩) (show g2 < w0.heap.size by omega)).trans (box_cell HZ2.out)
 have e1:w3.cell? ⟨n,1,none⟩=some (ptv s):=(HG3.out.cell (p:=⟨n,1,none⟩) hn0).trans HH.out.cells.2.1
 clear hg3 HG12 HSM
 go_wp2_with ((with_reducible refine (HY.out).mono ?_);rintro e w4 ⟨K',rfl,hsd,hst,hk⟩;have HSD:=hide hsd;have HST:=hide hst;have HK:=hide hk;have hz4:=(hk.block (g2+1) (Nat.lt_of_lt_of_le hl4 HG3.out.size) (fun e=>by have:=HYG.out _ e;omega)).trans ((HG3.out.block (g2+1) hl4).trans HZ4.out);have p4:=box_cell hz4;have f4:w4.frozen? ⟨g2+1,0,none⟩=false:=(by simp [World.frozen?,hz4]);have HZ:=hide hz4;clear hsd hst hk hz4)
 have hp:=box_put HZ.out (.bool true)
 have hS:=sets1 w4 (g2+1) 0 (.bool true)
 have hc5:=box_cell hp
 obtain ⟨w5,hw5⟩:∃ w5,w4.setCell ⟨g2+1,0,none⟩ (.bool true)=w5:=⟨_,rfl⟩
 rw [hw5] at hp hS hc5 ⊢
 refine bodyPost_ret (v:=.bool true) (by simp [results,Tryz.results28,go_sem,hc5]) rfl ?_
 have H3:=HH.out.sets (S:=fun _=>False) (Sets.of HG3.out) (fun _ _=>id)
 have H4:=H3.put HK.out HST.out
 have hX4:Sets X w w4:=((Sets.of (S:=X) HB0.out).trans (Sets.of (S:=fun _=>False) HG3.out) (fun _ _ h=>h.elim)).trans (H3.up HK.out) (fun _ _ e=>e)
 have hX5:Sets X w w5:=hX4.trans hS (fun g hg e=>by subst e;have:=HG2.out;omega)
 have hg1lt:g2+1 < w3.heap.size:=Nat.lt_of_lt_of_le hl4 HG3.out.size
 have H5:=H4.sets hS (fun g hg e=>by
  subst e
  rcases hg with e | e
  ·have:=(HBD.out _ e).2;have:=HG2.out;omega
  ·omega)
 refine ⟨K',rfl,HSD.out,⟨s,_,H5.wide (fun g hg=>hg.imp (fun h=>h) (fun e=>⟨?_,?_⟩)) (Xw.bd HBD.out HBL.out hX5.size)⟩,hX5⟩
 ·exact Nat.le_trans (Nat.le_trans HB0.out.size HG3.out.size) e.1
 ·exact Nat.lt_of_lt_of_le e.2 hS.size
attribute [local go_sem] Oper.semAt_some
set_option maxRecDepth 100000 in
set_option maxHeartbeats 3200000 in
theorem nlast_new {w:World} {base n:Nat} {X:Nat→Prop} {N:Nr} (H:NodeO w base n X N) (A:Option Addr) (c:Nat) (L:List It) (hL:ItemsAt w A L) (hcc:L.length≤c∧c≤maxLen) (hA:∀ a,A=some a→L ≠ []→¬ X a.block) (h0:1≤L.length) (hl:L.length≤1000) (hW:∀ x ∈ L,x.wf) (hg:L.all goodB=true)
 (M:Nat) (hM:∀ z ∈ N.R.K.Z,z.L.length≤M) (hM2:M≤250000) (hmf:N.R.mf+L.length≤1000000000) (hs:joinL N.R.S L ≠ N.R.S) :
 Calls Tryz.prog 28 #[ptv n,.slice A L.length c] w fun e w'=>∃ B R',e=.returned (.bool B)∧LastTo N.R L M B R'∧NodeO w' base n (Xw X w w') { N with R:=R' }∧Sets X w w':=by
 obtain ⟨s,Y,H⟩:=H
 have hbd:=H.bd
 have hnl:=H.lt
 have kw:=H.cells.2.1
 have hbl:base≤w.heap.size:=by have:=H.bd n H.nX;omega
 obtain ⟨w0,hw0⟩:∃ w0,(w.alloc (.cells #[ptv n] 25)).alloc (.cells #[.bool false] 4)=w0:=⟨_,rfl⟩
 have hb0:Below w.heap.size w w0:=by rw [← hw0];exact below_alloc (below_alloc (Below.refl w.heap.size w) _) _
 have hz2:w0.heap[w.heap.size]? = some (.cells #[ptv n] 25 (0,0)):=by rw [← hw0];exact (Below.heap_alloc _ _ _ (by simp)).trans (heap_alloc_new w _)
 have hz4:w0.heap[w.heap.size+1]? = some (.cells #[.bool false] 4 (0,0)):=by
  have:=heap_alloc_new (w.alloc (.cells #[ptv n] 25)) (.cells #[.bool false] 4)
  rw [hw0,World.size_alloc] at this
  exact this
 obtain ⟨g2,hg2⟩:∃ g,w.heap.size=g:=⟨_,rfl⟩
 rw [hg2] at hz2 hz4
 have hl4:g2+1 < w0.heap.size:=(Array.getElem?_eq_some_iff.1 hz4).1
 have H0:=H.sets (S:=fun _=>False) (Sets.of hb0) (fun _ _=>id)
 have k1:=H0.cells.2.1
 have b2:=box_cell hz2
 have HS:=hide (sstate_any H0.st)
 have HH:=hide H0
 have HB0:=hide hb0
 have HZ4:=hide hz4
 have HZ2:=hide hz2
 have HG2:=hide hg2
 have HW0:=hide hw0
 have HLI:=hide (hL.below hb0)
 have HBD:=hide hbd
 have HBL:=hide hbl
 have HCC:=hide hcc
 have HLL:=hide hl
 have hn0:n < w0.heap.size:=H0.lt
 have hYg:∀ g,Y g→g < g2:=fun g hg=>by have:=(hbd g (H0.inX g hg)).2;omega
 have HYG:=hide hYg
 obtain ⟨S0,hS0⟩:∃ S0,N.R.S=S0:=⟨_,rfl⟩
 have hSl:S0.length≤1500:=by rw [← hS0];obtain ⟨h,h1⟩:=H0.st;exact h1.few.1
 have hjl:(joinL S0 L).length≤4611686018427387904:=by have:=joinL_len S0 L;omega
 have HSN:=hide hs
 rw [hS0] at HS
 have hse:eqL S0 (joinL S0 L)=false:=eqL_false (fun e=>hs (by rw [hS0];exact e.symm))
 have HSE:=hide hse
 have HSL:=hide hSl
 have HJL:=hide hjl
 have HAX:=hide (fun (g:Nat) (o:Nat) (e:A=some ⟨g,o,none⟩) (hY:Y g)=>hA _ e (fun e2=>by rw [e2] at h0;simp at h0) (H0.inX g hY))
 have HAP:=hide (fun (W:World) (hSt:StoreO W base s Y N.R) (hI:ItemsAt W A L) (hA2:∀ a,A=some a→L ≠ []→¬ Y a.block)=>sapply_any hSt A L.length L hI ⟨Nat.le_refl _,by omega⟩ hA2 h0 hl hW hg M hM hM2 hmf)
 have hN1:1≤L.length∧L.length≤1000:=⟨h0,hl⟩
 have HN1:=hide hN1
 clear H hbd hbl hcc hl hb0 hz2 hz4 hg2 hw0 H0 hs hYg hSl hS0 hse hW hg hM hM2 hmf hA h0 hjl hL hN1
 refine (callsIn_wide (n:=6)).1 ?_
 refine callsIn_of_wp_marks Tryz.func28 rfl trivial ?_ rfl
 simp only [Tryz.ntmps28,List.size_toArray,List.length_cons,List.length_nil,Nat.reduceAdd,Nat.reduceSub,Array.replicate_succ,Array.replicate_zero,List.push_toArray,List.append_toArray,List.nil_append,List.cons_append]
 gi_wp2_with (first
  | (refine ⟨trivial,?_⟩;gi_at_call 33;rw [HW0.out,HG2.out];refine (callsIn_wide.2 HS.out).mono ?_;rintro e w1 ⟨v1,rfl,ho1,hg1⟩;obtain ⟨bc1,bf1⟩:=bcell hg1;have e2:=(bc1 g2 0 (by omega)).trans b2;have e1:=(bc1 n 1 hn0).trans k1;obtain ⟨A1,c1,rfl,hr1,hq1⟩:=ho1.sl;have HR1:=hide (And.intro hr1 hq1);have HG1:=hide hg1;clear ho1 hg1 b2 k1 kw hnl bc1 bf1 hr1 hq1)
  | (refine ⟨trivial,?_⟩;gi_at_call 69;refine (callsIn_wide.2 (pjoin_sl (Sl.mk_ HR1.out.1 HR1.out.2.1 HR1.out.2.2) (Sl.mk_ (HLI.out.below HG1.out) HCC.out.1 HCC.out.2) (by have:=HSL.out;omega) (by have:=HLL.out;omega))).mono ?_;rintro e w2 ⟨v2,rfl,ho2,hg2⟩;obtain ⟨A2,c2,rfl,hr2,hq2⟩:=ho2.sl;have hsm:=psame_any_ A1 A2 c1 c2 S0 (joinL S0 L) w2 (HR1.out.1.below hg2) hr2 (by have:=HSL.out;omega) HJL.out;rw [HSE.out] at hsm;have HSM:=hide hsm;have HG12:=hide (below_step HG1.out hg2);clear ho2 hsm hr2 hq2 hg2 e2 e1)
  | (refine ⟨trivial,?_⟩;gi_at_call 80;refine (callsIn_wide.2 HSM.out).mono ?_;rintro e w3 ⟨rfl,hg3⟩;have HG3:=hide (below_step HG12.out hg3);clear hg3 HG12 HSM))
 refine ⟨trivial,(callsIn_wide.2 (chunk_any A L.length c w3)).mono ?_⟩
 rintro e w4 ⟨rfl,hw4⟩
 have hgb:∃ gb off,A=some ⟨gb,off,none⟩:=by
  obtain ⟨gb,off,h,_⟩:=HLI.out (fun e=>by have:=HN1.out.1;rw [e] at this;simp at this)
  exact ⟨gb,off,h⟩
 obtain ⟨gb,off,hAe⟩:=hgb
 have HAE:=hide hAe
 have hb4:Below w3.heap.size w3 w4:=by rw [hw4];exact below_alloc (below_alloc (Below.refl _ _) _) _
 have hs4:w4.heap.size=w3.heap.size+2:=by rw [hw4];simp
 have hcs:w4.cell? ⟨w3.heap.size,0,none⟩=some (.slice (some ⟨gb,off,none⟩) L.length c):=by
  rw [hw4,← HAE.out]
  exact box_cell (t:=31) ((Below.heap_alloc _ _ _ (by simp)).trans (heap_alloc_new w3 _))
 have hcn:w4.cell? ⟨w3.heap.size+1,0,none⟩=some (.int .i64 1000):=by
  rw [hw4]
  have:=heap_alloc_new (w3.alloc (.cells #[.slice A L.length c] 31)) (.cells #[.int .i64 1000] 3)
  rw [World.size_alloc] at this
  exact box_cell this
 obtain ⟨bs,hbs⟩:∃ b,w3.heap.size=b:=⟨_,rfl⟩
 rw [hbs] at hcs hcn hs4 ⊢
 have HB4:=hide (below_step HG3.out hb4)
 have HCS:=hide hcs
 have HCN:=hide hcn
 have HS4:=hide hs4
 have HBS:=hide hbs
 have h3s:w0.heap.size≤w3.heap.size:=HG3.out.size
 clear hw4 hb4 hcs hcn hs4 hbs hAe
 have FIN:∀ (Wb W9:World) (Y9 Z:Nat→Prop) (R9:Sr),Below w0.heap.size w0 Wb→StoreO W9 base s Y9 R9→Sets Z Wb W9→(∀ g,Z g→Y g ∨ (g2≤g∧g ≠ n))→(∀ g,Y9 g→Y g ∨ (Wb.heap.size≤g∧g < W9.heap.size)) →
  NodeO W9 base n (Xw X w W9) { N with R:=R9 }∧Sets X w W9:=fun Wb W9 Y9 Z R9 hb hst hs hZ hY9=>by
  have hgw:=HG2.out
  have hn2:n < w0.heap.size:=hn0
  have hwb:Below w.heap.size w Wb:=below_step HB0.out hb
  have hsX:Sets X w W9:=(Sets.of (S:=X) hwb).trans hs (fun g hg e=>by
   rcases hZ g e with e | e
   ·exact HH.out.inX g e
   ·omega)
  have hnW:n < Wb.heap.size:=Nat.lt_of_lt_of_le hn2 hb.size
  refine ⟨⟨s,Y9,?_⟩,hsX⟩
  exact {
   box:=(hs.block n hnW (fun e=>by
    rcases hZ n e with e | e
    ·exact HH.out.nY e
    ·exact e.2 rfl)).trans ((hb.block n hn2).trans HH.out.box)
   st:=hst
   inX:=fun g e=>by
    rcases hY9 g e with e | e
    ·exact .inl (HH.out.inX g e)
    ·exact .inr ⟨Nat.le_trans hwb.size e.1,e.2⟩
   nX:=.inl HH.out.nX
   nY:=fun e=>by
    rcases hY9 n e with e | e
    ·exact HH.out.nY e
    ·omega
   bd:=Xw.bd HBD.out HBL.out hsX.size }
 have FINH:=hide FIN
 clear FIN
 gi_wp2
 refine range_one rfl (by omega) (gf:=160) (lb:=#[.pointer (some ⟨bs,0,none⟩),.pointer (some ⟨bs+1,0,none⟩)]) rfl trivial (enters_of Tryz.func160 (by kernel_rfl) rfl) (xs:=#[.slice (some ⟨gb,off,none⟩) L.length L.length]) rfl
  { tmps:=#[ptv n,.slice A L.length c,.pointer (some ⟨g2,0,none⟩),undef,.pointer (some ⟨g2+1,0,none⟩),.slice A1 S0.length c1,.slice (some ⟨gb,off,none⟩) L.length L.length,ptv n,.pointer (some ⟨n,0,none⟩),.pointer (some ⟨n,1,none⟩),ptv s,.slice A1 S0.length c1,.slice A1 S0.length c1,.slice A1 S0.length c1,.slice A L.length c,.slice A2 (joinL S0 L).length c2,.bool false,.bool true,.slice A L.length c,.func (.func 160) #[] #[.pointer (some ⟨bs,0,none⟩),.pointer (some ⟨bs+1,0,none⟩)],.slice (some ⟨gb,off,none⟩) L.length L.length,undef,undef,undef,undef,undef,undef,undef,undef,undef,undef,undef,undef,undef],defers:=[] } ?assign
  (fun W=>W.cell? ⟨bs,0,none⟩=some (.slice (some ⟨gb,off,none⟩) L.length c)∧W.cell? ⟨bs+1,0,none⟩=some (.int .i64 1000)) ?keep
  (fun Wb W3=>(W3.cell? ⟨bs,0,none⟩=some (.slice (some ⟨gb,off,none⟩) L.length c)∧W3.cell? ⟨bs+1,0,none⟩=some (.int .i64 1000))∧∃ R1,AplTo N.R L M 0 R1∧StoreO W3 base s (Xw Y Wb W3) R1∧Sets Y Wb W3)
  (fun Wb W3=>∃ ee R1 W',ee ≠ 0∧AplTo N.R L M ee R1∧StoreO W' base s (Xw Y Wb W') R1∧Sets Y Wb W'∧W3=W'.setCell ⟨g2+1,0,none⟩ (.bool false))
  (fun _ _ h=>h.1) ?hit ?body ?done ?stop
 case assign =>
  intro l W K hK
  gi_wp2
  exact hK
 case keep =>
  intro W W' hS h
  have hlt:∀ k (v:Value),W.cell? ⟨k,0,none⟩=some v→k < W.heap.size:=fun k v e=>by
   by_cases hk:k < W.heap.size
   ·exact hk
   ·have:W.heap[k]? = none:=by simp;omega
    simp [World.cell?,this] at e
  have hs:=HS4.out
  exact ⟨(World.cell?_of_block (hS.block bs (hlt _ _ h.1) (by omega))).trans h.1,(World.cell?_of_block (hS.block (bs+1) (hlt _ _ h.2) (by omega))).trans h.2⟩
 case hit =>
  intro l W J1 Jx hW hY
  exact chunk_one Fence.wide _ trivial rfl (by omega) l bs (bs+1) gb off L.length c HN1.out HCC.out J1 Jx W ((hW.cell (p:=⟨bs,0,none⟩) (show bs < w4.heap.size by have:=HS4.out;omega)).trans HCS.out) ((hW.cell (p:=⟨bs+1,0,none⟩) (show bs+1 < w4.heap.size by have:=HS4.out;omega)).trans HCN.out) (by have:=hW.size;have:=HS4.out;omega) (by have:=hW.size;have:=HS4.out;omega) hY
 case body =>
  intro l Wb hWb hlt
  have hb:=below_step HB4.out hWb
  have e2:Wb.cell? ⟨g2,0,none⟩=some (ptv n):=(hb.cell (p:=⟨g2,0,none⟩) (show g2 < w0.heap.size by omega)).trans (box_cell HZ2.out)
  have e1:Wb.cell? ⟨n,1,none⟩=some (ptv s):=(hb.cell (p:=⟨n,1,none⟩) hn0).trans HH.out.cells.2.1
  have hap:=HAP.out Wb (HH.out.st.below hb) (HLI.out.below hb) (fun a ha=>by obtain ⟨ab,ao,_⟩:=a;rw [HAE.out] at ha;cases ha;exact fun _ hY=>HAX.out gb off HAE.out hY)
  have hz4:=(hb.block (g2+1) hl4).trans HZ4.out
  have hz2:=(hb.block g2 (by omega)).trans HZ2.out
  have hg4:g2+1 < Wb.heap.size:=Nat.lt_of_lt_of_le hl4 hb.size
  have hsz4:=HS4.out
  have hkp:∀ W2,Sets Y Wb W2→KeepsFrom w4.heap.size Wb W2:=fun W2 k=>⟨k.size,fun j o hj ho _=>(k.block j (Array.getElem?_eq_some_iff.1 ho).1 (fun e=>by have:=HYG.out _ e;have:=HBS.out;omega)).trans ho⟩
  have hcb:∀ W2,Sets Y Wb W2→W2.cell? ⟨bs,0,none⟩=some (.slice (some ⟨gb,off,none⟩) L.length c)∧W2.cell? ⟨bs+1,0,none⟩=some (.int .i64 1000):=fun W2 k=>by
   have b1:Wb.heap[bs]? = w4.heap[bs]?:=hWb.block bs (by omega)
   have b2:Wb.heap[bs+1]? = w4.heap[bs+1]?:=hWb.block (bs+1) (by omega)
   exact ⟨(World.cell?_of_block ((k.block bs (by omega) (fun e=>by have:=HYG.out _ e;have:=HBS.out;omega)).trans b1)).trans HCS.out,(World.cell?_of_block ((k.block (bs+1) (by omega) (fun e=>by have:=HYG.out _ e;have:=HBS.out;omega)).trans b2)).trans HCN.out⟩
  have HKP:=hide hkp
  have HCB:=hide hcb
  have HZ4b:=hide hz4
  rw [HAE.out] at hap
  have HAPb:=hide hap
  clear hap hkp hcb hz4 hz2 hsz4 hb
  gi_wp2
  refine ⟨trivial,(CallsIn.inRound l (callsIn_wide.2 HAPb.out)).mono ?_⟩
  rintro e W2 ⟨ee,R1,rfl,hto,hst,hk⟩
  by_cases hee:ee=0
  ·subst hee
   have HF:=hide (And.intro (HKP.out W2 hk) (And.intro (HCB.out W2 hk) (And.intro hto (And.intro hst hk))))
   clear hto hst hk
   gi_wp2
   exact ⟨HF.out.1,HF.out.2.1,R1,HF.out.2.2.1,HF.out.2.2.2.1,HF.out.2.2.2.2⟩
  ·have hne:(ee != 0)=true:=by simp [hee]
   have hzz:=(hk.block (g2+1) hg4 (fun e=>by have:=HYG.out _ e;omega)).trans HZ4b.out
   have p4:=box_cell hzz
   have f4:W2.frozen? ⟨g2+1,0,none⟩=false:=by simp [World.frozen?,hzz]
   have HF:=hide (And.intro (HKP.out W2 hk) (And.intro hto (And.intro hst hk)))
   have HEE:=hide hee
   clear hto hst hk hee hzz
   gi_wp2
   have hkf:=HF.out.1
   refine ⟨⟨Nat.le_trans hkf.size (by simp [World.setCell]),fun j o hj ho hc=>?_⟩,ee,R1,W2,HEE.out,HF.out.2.1,HF.out.2.2.1,HF.out.2.2.2,rfl⟩
   have h1:=hkf.same j o hj ho hc
   exact (Below.heap_setCell W2 ⟨g2+1,0,none⟩ (.bool false) j (fun e=>by have h2:j=g2+1:=e;have:=HS4.out;have:=HBS.out;omega)).trans h1
 case done =>
  rintro Wb W3 W5 hWb hlt ⟨hkb,R1,hto,hst,hk⟩ hS hD
  have hb:=below_step HB4.out hWb
  have hsz4:=HS4.out
  have hbs:=HBS.out
  have hold:∀ j o,j < w0.heap.size→w0.heap[j]? = some o→¬ Y j→j < bs→W5.heap[j]? = some o:=fun j o hj ho hY hjb=>(hS.block j (Nat.lt_of_lt_of_le (Nat.lt_of_lt_of_le hj hb.size) hk.size) (by omega)).trans ((hk.block j (Nat.lt_of_lt_of_le hj hb.size) hY).trans ((hb.block j hj).trans ho))
  have hz4:=hold (g2+1) _ hl4 HZ4.out (fun e=>by have:=HYG.out _ e;omega) (by omega)
  have e2:=box_cell (hold g2 _ (by omega) HZ2.out (fun e=>by have:=HYG.out _ e;omega) (by omega))
  have hbx:=hold n _ hn0 HH.out.box HH.out.nY (by omega)
  have e1:W5.cell? ⟨n,1,none⟩=some (ptv s):=(four_cells hbx).2.1
  have hst5:=hst.sets hS (fun g hg e=>by
   rcases hg with hg | hg
   ·have:=HYG.out _ hg;omega
   ·omega)
  have HY5:=hide (ssync_any hst5)
  have HSW:Hid (Sets Y w0 W5→True):=hide (fun _=>trivial)
  have HZ5:=hide hz4
  have HD5:=hide hD
  have HTO:=hide hto
  have HBB:=hide hb
  have HSS:=hide hS
  have HK3:=hide hk
  have hy5:∀ g,Xw Y Wb W3 g→g < g2 ∨ bs+3 < g:=fun g hg=>by
   rcases hg with hg | hg
   ·exact .inl (HYG.out _ hg)
   ·exact .inr (by omega)
  have HYX:=hide hy5
  have h53:W3.heap.size≤W5.heap.size:=hS.size
  have hg5:bs+3 < W5.heap.size:=by have:=hk.size;omega
  have HBX:=hide hbx
  clear hold hkb hto hst hk hS hD hz4 hbx hst5 hb hWb hy5
  gi_wp2_with (refine ⟨trivial,?_⟩;gi_at_call 83;refine (callsIn_wide.2 HY5.out).mono ?_;rintro e W6 ⟨K',rfl,hsd,hst,hk6⟩;have hz6:=(hk6.block (g2+1) (by omega) (fun e=>by have:=HYX.out _ e;omega)).trans HZ5.out;have p6:=box_cell hz6;have f6:W6.frozen? ⟨g2+1,0,none⟩=false:=(by simp [World.frozen?,hz6]);have HZ6:=hide hz6;have HSD:=hide hsd;have HST:=hide hst;have HK6:=hide hk6;clear hsd hst hk6 hz6)
  have hz7:=box_put HZ6.out (.bool true)
  have hd7:(W6.setCell ⟨g2+1,0,none⟩ (.bool true)).heap[bs+2]? = some (.deferred (some [])):=by
   have hd5:=HD5.out
   rw [HS4.out] at hd5
   have h1:=(HK6.out.block (bs+2) (by omega) (fun e=>by have:=HYX.out _ e;omega)).trans hd5
   exact (Below.heap_setCell W6 ⟨g2+1,0,none⟩ (.bool true) (bs+2) (fun e=>by have h2:bs+2=g2+1:=e;omega)).trans h1
  have hS7:=sets1 W6 (g2+1) 0 (.bool true)
  obtain ⟨W7,hW7⟩:∃ W7,W6.setCell ⟨g2+1,0,none⟩ (.bool true)=W7:=⟨_,rfl⟩
  rw [hW7] at hz7 hd7 hS7 ⊢
  have hlt7:bs+2 < W7.heap.size:=(Array.getElem?_eq_some_iff.1 hd7).1
  have hS8:=sets_putObj W7 (bs+2) (.deferred none) hlt7
  have hz8:(W7.putObj (bs+2) (.deferred none)).heap[g2+1]? = some (.cells #[.bool true] 4 (0,0)):=(World.putObj_heap_other (by omega)).trans hz7
  refine ⟨by simp,.inl ⟨_,_,rfl,run_takeDeferred hd7,?_⟩⟩
  obtain ⟨W8,hW8⟩:∃ W8,W7.putObj (bs+2) (.deferred none)=W8:=⟨_,rfl⟩
  rw [hW8] at hS8 hz8 ⊢
  have c8:=box_cell hz8
  have hy6:∀ g,Xw (Xw Y Wb W3) W5 W6 g→g ≠ g2+1∧g ≠ bs+2:=fun g hg=>by
   rcases hg with hg | hg
   ·have:=HYX.out _ hg;omega
   ·omega
  have hst8:=(HST.out.sets hS7 (fun g hg e=>(hy6 g hg).1 e)).sets hS8 (fun g hg e=>(hy6 g hg).2 e)
  have hZ8:Sets (fun g=>Y g ∨ (g2≤g∧g ≠ n)) Wb W8:=by
   have hnb:n ≠ bs+3∧n ≠ bs+2∧n ≠ g2+1:=by
    refine ⟨by omega,by omega,fun e=>?_⟩
    have:=HBX.out
    rw [e,HZ5.out] at this
    cases this
   refine (((((Sets.refl (S:=fun g=>Y g ∨ (g2≤g∧g ≠ n)) Wb).trans HK3.out (fun g _ e=>.inl e)).trans HSS.out (fun g _ e=>.inr ⟨by omega,by omega⟩)).trans HK6.out (fun g hg e=>?_)).trans hS7 (fun g _ e=>.inr ⟨by omega,by omega⟩)).trans hS8 (fun g _ e=>.inr ⟨by omega,by omega⟩)
   rcases e with e | e
   ·exact .inl e
   ·omega
  have hF:=FINH.out Wb W8 _ _ _ HBB.out hst8 hZ8 (fun g e=>e) (fun g e=>by
   have h65:=HK6.out.size
   have h7:=hS7.size
   have h8:=hS8.size
   have h3:=HK3.out.size
   rcases e with (e | e) | e
   ·exact .inl e
   ·exact .inr ⟨e.1,by omega⟩
   ·exact .inr ⟨by omega,by omega⟩)
  exact ⟨.bool true,by simp [results,Tryz.results28,go_sem,c8],true,{ R1 with K:=K' },rfl,.inr (.inl ⟨HSN.out,rfl,R1,K',HTO.out,HSD.out,rfl⟩),hF.1,hF.2⟩
 case stop =>
  rintro Wb W3 W5 hWb hlt ⟨ee,R1,W',hee,hto,hst,hk,rfl⟩ hS hD
  gi_wp2
  have hb:=below_step HB4.out hWb
  have hsz4:=HS4.out
  have hbs:=HBS.out
  have hksz:=hk.size
  have hbsz:=hb.size
  have hz1:=(hk.block (g2+1) (by omega) (fun e=>by have:=HYG.out _ e;omega)).trans ((hb.block (g2+1) hl4).trans HZ4.out)
  have hz2:=box_put hz1 (.bool false)
  have hS2:=sets1 W' (g2+1) 0 (.bool false)
  obtain ⟨W2,hW2⟩:∃ W2,W'.setCell ⟨g2+1,0,none⟩ (.bool false)=W2:=⟨_,rfl⟩
  rw [hW2] at hz2 hS2 hS
  have hl2:g2+1 < W2.heap.size:=(Array.getElem?_eq_some_iff.1 hz2).1
  have hz5:=(hS.block (g2+1) hl2 (by omega)).trans hz2
  rw [hsz4] at hD hS ⊢
  have hlt5:bs+2 < W5.heap.size:=(Array.getElem?_eq_some_iff.1 hD).1
  have hS8:=sets_putObj W5 (bs+2) (.deferred none) hlt5
  have hz8:(W5.putObj (bs+2) (.deferred none)).heap[g2+1]? = some (.cells #[.bool false] 4 (0,0)):=(World.putObj_heap_other (by omega)).trans hz5
  refine ⟨by simp,.inl ⟨_,_,rfl,run_takeDeferred hD,?_⟩⟩
  obtain ⟨W8,hW8⟩:∃ W8,W5.putObj (bs+2) (.deferred none)=W8:=⟨_,rfl⟩
  rw [hW8] at hS8 hz8 ⊢
  have c8:=box_cell hz8
  have hnb:n ≠ bs+3∧n ≠ bs+2∧n ≠ g2+1:=by
   refine ⟨by omega,by omega,fun e=>?_⟩
   have:=HH.out.box
   rw [e,HZ4.out] at this
   cases this
  have hy:∀ g,Xw Y Wb W' g→g < g2 ∨ bs+3 < g:=fun g hg=>by
   rcases hg with hg | hg
   ·exact .inl (HYG.out _ hg)
   ·exact .inr (by omega)
  have hst8:=((hst.sets hS2 (fun g hg e=>by have:=hy g hg;omega)).sets hS (fun g hg e=>by have:=hy g hg;omega)).sets hS8 (fun g hg e=>by have:=hy g hg;omega)
  have hZ8:Sets (fun g=>Y g ∨ (g2≤g∧g ≠ n)) Wb W8 :=
   ((((Sets.refl (S:=fun g=>Y g ∨ (g2≤g∧g ≠ n)) Wb).trans hk (fun g _ e=>.inl e)).trans hS2 (fun g _ e=>.inr ⟨by omega,by omega⟩)).trans hS (fun g _ e=>.inr ⟨by omega,by omega⟩)).trans hS8 (fun g _ e=>.inr ⟨by omega,by omega⟩)
  have hF:=FINH.out Wb W8 _ _ _ hb hst8 hZ8 (fun g e=>e) (fun g e=>by
   have h2:=hS2.size
   have h5:=hS.size
   have h8:=hS8.size
   rcases e with e | e
   ·exact .inl e
   ·exact .inr ⟨e.1,by omega⟩)
  exact ⟨.bool false,by simp [results,Tryz.results28,go_sem,c8],false,R1,rfl,.inr (.inr ⟨HSN.out,rfl,ee,hee,hto⟩),hF.1,hF.2⟩
theorem nlast_any {w:World} {base n:Nat} {X:Nat→Prop} {N:Nr} (H:NodeO w base n X N) (A:Option Addr) (c:Nat) (L:List It) (hL:ItemsAt w A L) (hcc:L.length≤c∧c≤maxLen) (hA:∀ a,A=some a→L ≠ []→¬ X a.block) (h0:joinL N.R.S L ≠ N.R.S→1≤L.length) (hl:L.length≤1000) (hW:∀ x ∈ L,x.wf) (hg:L.all goodB=true)
 (M:Nat) (hM:∀ z ∈ N.R.K.Z,z.L.length≤M) (hM2:M≤250000) (hmf:N.R.mf+L.length≤1000000000) :
 Calls Tryz.prog 28 #[ptv n,.slice A L.length c] w fun e w'=>∃ B R',e=.returned (.bool B)∧LastTo N.R L M B R'∧NodeO w' base n (Xw X w w') { N with R:=R' }∧Sets X w w':=by
 by_cases hs:joinL N.R.S L=N.R.S
 ·refine (nlast_same H A c L hL hcc hl hs).mono ?_
  rintro e w' ⟨K',rfl,h1,h2,h3⟩
  exact ⟨true,_,rfl,.inl ⟨hs,rfl,K',h1,rfl⟩,h2,h3⟩
 ·exact nlast_new H A c L hL hcc hA (h0 hs) hl hW hg M hM hM2 hmf hs
end Go.Proofs.YtgmkckjedngkdaaGreatDoor
