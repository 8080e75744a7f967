/- A part of the proof that TopQuotaLaw holds: XZSmf, XZNod, XZChk. Conditions: as typed. -/
import Derived.Test.YtgmkckjedngkdaaGreatDoorTq24
import Derived.Test.YtgmkckjedngkdaaGreatDoorTq26
import Derived.Test.YtgmkckjedngkdaaGreatDoorTq27
import Derived.RangeFuncNested
import Derived.RangeFuncWrites
import Derived.RangeFuncBound
import Derived.RangeFuncCalls
import Derived.RangeFuncLeaves
import Derived.Shelf.Abstract
import Derived.Shelf.RegionOpen
import Derived.WalkKit
import Derived.OwnWalkIn
import Derived.TacticsInMore
import Derived.LoopNIn
import Derived.LoopIn
set_option linter.unusedVariables false
set_option linter.unusedSimpArgs false
namespace Go.Proofs.YtgmkckjedngkdaaGreatDoor
open Go.ChangeShapes Go.WideShapes Go.ChangeAt Go.RowKit
set_option maxRecDepth 100000 in
set_option maxHeartbeats 1600000 in
theorem ssetm_any {w:World} {base s:Nat} {X:Nat→Prop} {R:Sr} (H:StoreO w base s X R) (f c a l:Int) (hf:ver48 f) (hc:ver48 c) (ha:ver48 a) (hl:ver48 l)
   (zf:f=0→R.v.fl=0) (zc:c=0→R.v.ce=0) (za:a=0→R.v.at_=0) (zl:l=0→R.v.le=0)
   (M:Nat) (hM:∀ z ∈ R.K.Z,z.L.length≤M) (hM2:M≤249900) (hq:((3 * M+100:Nat):Int)≤R.K.q) :
   Calls Tryz.prog 31 #[ptv s,meta4 f c a l] w fun e w'=>e=.returned (.int .i64 0)∧∃ R',SavTo R f c a l R'∧StoreO w' base s (Xw X w w') R'∧Sets X w w':=by
 have hbl:base≤w.heap.size:=by obtain ⟨h,H⟩:=H;have:=H.bd s H.inX.1;omega
 have hBD:∀ g,X g→base≤g∧g < w.heap.size:=by obtain ⟨h,H⟩:=H;exact H.bd
 have hz0:=heap_alloc_new w (.cells #[.int .u64 f,.int .u64 c,.int .u64 a,.int .u64 l] 75)
 have hb0:=below_alloc (Below.refl w.heap.size w) (.cells #[.int .u64 f,.int .u64 c,.int .u64 a,.int .u64 l] 75)
 obtain ⟨w0,hw0⟩:∃ w0,w.alloc (.cells #[.int .u64 f,.int .u64 c,.int .u64 a,.int .u64 l] 75)=w0:=⟨_,rfl⟩
 rw [hw0] at hz0 hb0
 have hgl0:w.heap.size < w0.heap.size:=(Array.getElem?_eq_some_iff.1 hz0).1
 have H0:=H.below hb0
 obtain ⟨hsl,c10⟩:s < w0.heap.size∧w0.cell? ⟨s,10,none⟩=some (.bool false):=by
   obtain ⟨h,H0⟩:=H0
   obtain ⟨h1,⟨_,_,_,_,_,_,_,h2⟩,_⟩:=H0.facts
   exact ⟨h1,h2⟩
 have HM:=hide (smeta_any H0)
 have HZ0:=hide hz0
 have HB0:=hide hb0
 have HW0:=hide hw0
 obtain ⟨⟨rl,rf,rc,ra,re⟩,hrv⟩:∃ v,R.v=v:=⟨_,rfl⟩
 rw [hrv] at HM zf zc za zl
 have HSV:=hide (fun (W:World) (hW:StoreO W base s X R)=>ssave_any hW f c a l hf hc ha hl M hM hM2 hq)
 have HH:=hide H0
 have HBD:=hide hBD
 have HBL:=hide hbl
 have HF:=hide hf;have HC:=hide hc;have HA:=hide ha;have HL:=hide hl
 have ZF:=hide zf;have ZC:=hide zc;have ZA:=hide za;have ZL:=hide zl
 obtain ⟨g0,hg0⟩:∃ g,w.heap.size=g:=⟨_,rfl⟩
 have HG0:=hide hg0
 rw [hg0] at HZ0 hgl0
 clear H H0 hz0 hb0 hw0 hrv hf hc ha hl zf zc za zl hM hM2 hq hBD hbl hg0
 go_enter Tryz.func31,Tryz.ntmps31
 go_upto_region 1 with fail
 rw [HW0.out,HG0.out]
 go_wp2_with ((with_reducible refine (HM.out).mono ?_);rintro e w1 ⟨rfl,hg1⟩;have HG1:=hide hg1;obtain ⟨m0,m1,m2,m3⟩:=four_cells ((hg1.block g0 hgl0).trans HZ0.out);have hgl1:g0 < w1.heap.size:=Nat.lt_of_lt_of_le hgl0 hg1.size;clear hg1 c10)
 have hw2:=below_alloc (below_alloc (Below.refl w1.heap.size w1) (.cells #[.int .u64 rf,.int .u64 rc,.int .u64 ra,.int .u64 re] 75)) (.cells #[.int .u64 f,.int .u64 rf,.int .u64 c,.int .u64 rc,.int .u64 a,.int .u64 ra,.int .u64 l,.int .u64 re] 159)
 have hz2:=heap_alloc_new (w1.alloc (.cells #[.int .u64 rf,.int .u64 rc,.int .u64 ra,.int .u64 re] 75)) (.cells #[.int .u64 f,.int .u64 rf,.int .u64 c,.int .u64 rc,.int .u64 a,.int .u64 ra,.int .u64 l,.int .u64 re] 159)
 rw [World.size_alloc] at hz2
 obtain ⟨w2,he2⟩:∃ w2,(w1.alloc (.cells #[.int .u64 rf,.int .u64 rc,.int .u64 ra,.int .u64 re] 75)).alloc (.cells #[.int .u64 f,.int .u64 rf,.int .u64 c,.int .u64 rc,.int .u64 a,.int .u64 ra,.int .u64 l,.int .u64 re] 159)=w2:=⟨_,rfl⟩
 rw [he2] at hw2 hz2 ⊢
 obtain ⟨g2,hg2⟩:∃ g,w1.heap.size+1=g:=⟨_,rfl⟩
 rw [hg2] at hz2 ⊢
 have hgl2:g2 < w2.heap.size:=(Array.getElem?_eq_some_iff.1 hz2).1
 have p0:=(cell_of_row w2 g2 0 _ _ _ hz2).trans rfl
 have p1:=(cell_of_row w2 g2 1 _ _ _ hz2).trans rfl
 have p2:=(cell_of_row w2 g2 2 _ _ _ hz2).trans rfl
 have p3:=(cell_of_row w2 g2 3 _ _ _ hz2).trans rfl
 have p4:=(cell_of_row w2 g2 4 _ _ _ hz2).trans rfl
 have p5:=(cell_of_row w2 g2 5 _ _ _ hz2).trans rfl
 have p6:=(cell_of_row w2 g2 6 _ _ _ hz2).trans rfl
 have p7:=(cell_of_row w2 g2 7 _ _ _ hz2).trans rfl
 have HP:Hid ((w2.cell? ⟨g2,0,none⟩=some (.int .u64 f)∧w2.cell? ⟨g2,1,none⟩=some (.int .u64 rf)∧w2.cell? ⟨g2,2,none⟩=some (.int .u64 c)∧w2.cell? ⟨g2,3,none⟩=some (.int .u64 rc))∧(w2.cell? ⟨g2,4,none⟩=some (.int .u64 a)∧w2.cell? ⟨g2,5,none⟩=some (.int .u64 ra)∧w2.cell? ⟨g2,6,none⟩=some (.int .u64 l)∧w2.cell? ⟨g2,7,none⟩=some (.int .u64 re))):=hide ⟨⟨p0,p1,p2,p3⟩,p4,p5,p6,p7⟩
 have HMC:Hid ((w2.cell? ⟨g0,0,none⟩=some (.int .u64 f)∧w2.cell? ⟨g0,1,none⟩=some (.int .u64 c)∧w2.cell? ⟨g0,2,none⟩=some (.int .u64 a)∧w2.cell? ⟨g0,3,none⟩=some (.int .u64 l))∧g0 < w2.heap.size):=hide ⟨⟨(hw2.cell (p:=⟨g0,0,none⟩) hgl1).trans m0,(hw2.cell (p:=⟨g0,1,none⟩) hgl1).trans m1,(hw2.cell (p:=⟨g0,2,none⟩) hgl1).trans m2,(hw2.cell (p:=⟨g0,3,none⟩) hgl1).trans m3⟩,Nat.lt_of_lt_of_le hgl1 hw2.size⟩
 have HW2:=hide hw2
 have HE2:=hide he2
 have HG2:=hide hg2
 clear hw2 he2 hg2 hz2 p0 p1 p2 p3 p4 p5 p6 p7 m0 m1 m2 m3
 go_loopw [36] (fun i wr=>∃ k:Nat,i=.int .i64 k∧k≤4∧Below w2.heap.size w2 wr) (fun i _=>4 - (intOf i).toNat)
 case atStart=>exact ⟨0,rfl,by omega,Below.refl _ _⟩
 case round =>
   obtain ⟨k,rfl,hk,hB⟩:=hrel
   obtain ⟨⟨p0,p1,p2,p3⟩,p4,p5,p6,p7⟩:=HP.out
   obtain h4 | h4 | h4 | h4 | h4:k=0 ∨ k=1 ∨ k=2 ∨ k=3 ∨ k=4:=by omega
   · subst h4
     have x0:=(hB.cell (p:=⟨g2,0,none⟩) hgl2).trans p0
     have x1:=(hB.cell (p:=⟨g2,1,none⟩) hgl2).trans p1
     have hgw:g2 < wr.heap.size:=Nat.lt_of_lt_of_le hgl2 hB.size
     by_cases hx0:f=0
     · have e1:(f == 0)=true:=beq_iff_eq.2 hx0
       have e2:(rf != 0)=false:=by simp [ZF.out hx0]
       have d1:decide (281474976710656 < f)=false:=decide_eq_false (by have:=HF.out;unfold ver48 at this;omega)
       have d2:¬ 281474976710656 < f:=by have:=HF.out;unfold ver48 at this;omega
       clear hx0
       go_wp2
       go_roundw
       case rel=>exact ⟨0+1,by go_num,by omega,below_step hB (below_alloc (Below.refl _ _) _)⟩
       case measure=>simp [intOf]
     · have e1:(f == 0)=false:=beq_eq_false_iff_ne.2 hx0
       have d1:decide (281474976710656 < f)=false:=decide_eq_false (by have:=HF.out;unfold ver48 at this;omega)
       have d2:¬ 281474976710656 < f:=by have:=HF.out;unfold ver48 at this;omega
       go_wp2
       go_roundw
       case rel=>exact ⟨0+1,by go_num,by omega,below_step hB (below_alloc (Below.refl _ _) _)⟩
       case measure=>simp [intOf]
   · subst h4
     have x0:=(hB.cell (p:=⟨g2,2,none⟩) hgl2).trans p2
     have x1:=(hB.cell (p:=⟨g2,3,none⟩) hgl2).trans p3
     have hgw:g2 < wr.heap.size:=Nat.lt_of_lt_of_le hgl2 hB.size
     by_cases hx0:c=0
     · have e1:(c == 0)=true:=beq_iff_eq.2 hx0
       have e2:(rc != 0)=false:=by simp [ZC.out hx0]
       have d1:decide (281474976710656 < c)=false:=decide_eq_false (by have:=HC.out;unfold ver48 at this;omega)
       have d2:¬ 281474976710656 < c:=by have:=HC.out;unfold ver48 at this;omega
       clear hx0
       go_wp2
       go_roundw
       case rel=>exact ⟨1+1,by go_num,by omega,below_step hB (below_alloc (Below.refl _ _) _)⟩
       case measure=>simp [intOf]
     · have e1:(c == 0)=false:=beq_eq_false_iff_ne.2 hx0
       have d1:decide (281474976710656 < c)=false:=decide_eq_false (by have:=HC.out;unfold ver48 at this;omega)
       have d2:¬ 281474976710656 < c:=by have:=HC.out;unfold ver48 at this;omega
       go_wp2
       go_roundw
       case rel=>exact ⟨1+1,by go_num,by omega,below_step hB (below_alloc (Below.refl _ _) _)⟩
       case measure=>simp [intOf]
   · subst h4
     have x0:=(hB.cell (p:=⟨g2,4,none⟩) hgl2).trans p4
     have x1:=(hB.cell (p:=⟨g2,5,none⟩) hgl2).trans p5
     have hgw:g2 < wr.heap.size:=Nat.lt_of_lt_of_le hgl2 hB.size
     by_cases hx0:a=0
     · have e1:(a == 0)=true:=beq_iff_eq.2 hx0
       have e2:(ra != 0)=false:=by simp [ZA.out hx0]
       have d1:decide (281474976710656 < a)=false:=decide_eq_false (by have:=HA.out;unfold ver48 at this;omega)
       have d2:¬ 281474976710656 < a:=by have:=HA.out;unfold ver48 at this;omega
       clear hx0
       go_wp2
       go_roundw
       case rel=>exact ⟨2+1,by go_num,by omega,below_step hB (below_alloc (Below.refl _ _) _)⟩
       case measure=>simp [intOf]
     · have e1:(a == 0)=false:=beq_eq_false_iff_ne.2 hx0
       have d1:decide (281474976710656 < a)=false:=decide_eq_false (by have:=HA.out;unfold ver48 at this;omega)
       have d2:¬ 281474976710656 < a:=by have:=HA.out;unfold ver48 at this;omega
       go_wp2
       go_roundw
       case rel=>exact ⟨2+1,by go_num,by omega,below_step hB (below_alloc (Below.refl _ _) _)⟩
       case measure=>simp [intOf]
   · subst h4
     have x0:=(hB.cell (p:=⟨g2,6,none⟩) hgl2).trans p6
     have x1:=(hB.cell (p:=⟨g2,7,none⟩) hgl2).trans p7
     have hgw:g2 < wr.heap.size:=Nat.lt_of_lt_of_le hgl2 hB.size
     by_cases hx0:l=0
     · have e1:(l == 0)=true:=beq_iff_eq.2 hx0
       have e2:(re != 0)=false:=by simp [ZL.out hx0]
       have d1:decide (281474976710656 < l)=false:=decide_eq_false (by have:=HL.out;unfold ver48 at this;omega)
       have d2:¬ 281474976710656 < l:=by have:=HL.out;unfold ver48 at this;omega
       clear hx0
       go_wp2
       go_roundw
       case rel=>exact ⟨3+1,by go_num,by omega,below_step hB (below_alloc (Below.refl _ _) _)⟩
       case measure=>simp [intOf]
     · have e1:(l == 0)=false:=beq_eq_false_iff_ne.2 hx0
       have d1:decide (281474976710656 < l)=false:=decide_eq_false (by have:=HL.out;unfold ver48 at this;omega)
       have d2:¬ 281474976710656 < l:=by have:=HL.out;unfold ver48 at this;omega
       go_wp2
       go_roundw
       case rel=>exact ⟨3+1,by go_num,by omega,below_step hB (below_alloc (Below.refl _ _) _)⟩
       case measure=>simp [intOf]
   · subst h4
     obtain ⟨⟨m0,m1,m2,m3⟩,hgm⟩:=HMC.out
     have n0:=(hB.cell (p:=⟨g0,0,none⟩) hgm).trans m0
     have n1:=(hB.cell (p:=⟨g0,1,none⟩) hgm).trans m1
     have n2:=(hB.cell (p:=⟨g0,2,none⟩) hgm).trans m2
     have n3:=(hB.cell (p:=⟨g0,3,none⟩) hgm).trans m3
     have hBW:=below_step (below_step (below_step HB0.out HG1.out) HW2.out) hB
     have HBW:=hide hBW
     have HS:=hide (HSV.out wr ((HH.out.below (below_step HG1.out HW2.out)).below hB))
     clear p0 p1 p2 p3 p4 p5 p6 p7 m0 m1 m2 m3 hBW hB
     go_wp2_with ((with_reducible refine (HS.out).mono ?_);rintro e w9 ⟨rfl,R',h1,h2,h3⟩;have H1:=hide h1;have H2:=hide h2;have H3:=hide h3;clear h1 h2 h3)
     go_ret
     refine ⟨rfl,R',H1.out,?_,?_⟩
     · exact H2.out.wide (fun g e=>e.imp id (fun e=>⟨Nat.le_trans HBW.out.size e.1,e.2⟩)) (Xw.bd HBD.out HBL.out (Nat.le_trans HBW.out.size H3.out.size))
     · exact (Sets.of (S:=X) HBW.out).trans H3.out (fun _ _ e=>e)
end Go.Proofs.YtgmkckjedngkdaaGreatDoor
namespace Go.Proofs.YtgmkckjedngkdaaGreatDoor
open Go.ChangeShapes Go.WideShapes Go.ChangeAt Go.RowKit
structure Nr where
 id:Int
 R:Sr
 now:Int
 grace:Int
structure NodeV (w:World) (base n s:Nat) (Y X:Nat→Prop) (N:Nr):Prop where
 box:w.heap[n]? = some (.cells #[.int .i64 N.id,ptv s,.int .u64 N.now,.int .u64 N.grace] 78 (0,0))
 st:StoreO w base s Y N.R
 inX:∀ g,Y g→X g
 nX:X n
 nY:¬ Y n
 bd:∀ g,X g→base≤g∧g < w.heap.size
def NodeO (w:World) (base n:Nat) (X:Nat→Prop) (N:Nr):Prop:=∃ s Y,NodeV w base n s Y X N
section
variable {w w':World} {base n s:Nat} {X Y Z S:Nat→Prop} {N:Nr}
theorem NodeV.lt (H:NodeV w base n s Y X N):n < w.heap.size:=(H.bd n H.nX).2
theorem NodeV.cells (H:NodeV w base n s Y X N):w.cell? ⟨n,0,none⟩=some (.int .i64 N.id)∧w.cell? ⟨n,1,none⟩=some (ptv s)∧w.cell? ⟨n,2,none⟩=some (.int .u64 N.now)∧w.cell? ⟨n,3,none⟩=some (.int .u64 N.grace):=four_cells H.box
theorem NodeV.sets (H:NodeV w base n s Y X N) (k:Sets S w w') (hS:∀ g,X g→¬ S g):NodeV w' base n s Y X N :=
 { H with
   box:=(k.block n H.lt (hS n H.nX)).trans H.box
   st:=H.st.sets k (fun g hg=>hS g (H.inX g hg))
   bd:=fun g hg=>⟨(H.bd g hg).1,Nat.lt_of_lt_of_le (H.bd g hg).2 k.size⟩ }
theorem NodeV.wide (H:NodeV w base n s Y X N) (hX:∀ g,X g→Z g) (hZ:∀ g,Z g→base≤g∧g < w.heap.size):NodeV w base n s Y Z N :=
 { H with
   inX:=fun g hg=>hX g (H.inX g hg)
   nX:=hX n H.nX
   bd:=hZ }
theorem NodeV.put (H:NodeV w base n s Y X N) (k:Sets Y w w') {R':Sr} (h:StoreO w' base s (Xw Y w w') R'):NodeV w' base n s (Xw Y w w') (Xw X w w') { N with R:=R' }:=by
 have hbl:base≤w.heap.size:=by have:=H.bd n H.nX;omega
 exact {
   box:=(k.block n H.lt H.nY).trans H.box
   st:=h
   inX:=fun g e=>e.imp (H.inX g) id
   nX:=.inl H.nX
   nY:=fun e=>by
     rcases e with e | e
     · exact H.nY e
     · have:=H.lt;omega
   bd:=Xw.bd H.bd hbl k.size }
theorem NodeV.up (H:NodeV w base n s Y X N) (k:Sets Y w w'):Sets X w w':=⟨k.os,k.tape,k.output,k.size,fun g hg hn=>k.block g hg (fun e=>hn (H.inX g e))⟩
theorem NodeO.sets (H:NodeO w base n X N) (k:Sets S w w') (hS:∀ g,X g→¬ S g):NodeO w' base n X N:=let ⟨s,Y,H⟩:=H;⟨s,Y,H.sets k hS⟩
theorem NodeO.wide (H:NodeO w base n X N) (hX:∀ g,X g→Z g) (hZ:∀ g,Z g→base≤g∧g < w.heap.size):NodeO w base n Z N:=let ⟨s,Y,H⟩:=H;⟨s,Y,H.wide hX hZ⟩
theorem NodeO.below (H:NodeO w base n X N) (k:Below w.heap.size w w'):NodeO w' base n X N:=H.sets (S:=fun _=>False) (Sets.of k) (fun _ _=>id)
theorem NodeO.lt (H:NodeO w base n X N):n < w.heap.size:=let ⟨_,_,H⟩:=H;H.lt
theorem NodeO.bd (H:NodeO w base n X N):∀ g,X g→base≤g∧g < w.heap.size:=let ⟨_,_,H⟩:=H;H.bd
end
theorem nstate_any {w:World} {base n:Nat} {X:Nat→Prop} {N:Nr} (H:NodeO w base n X N):Calls Tryz.prog 12 #[ptv n] w (RetOw N.R.S w):=by
 obtain ⟨s,Y,H⟩:=H
 obtain ⟨_,c1,_⟩:=H.cells
 have HS:=hide (sstate_any H.st)
 clear H
 go_enter Tryz.func12,Tryz.ntmps12
 go_wp2_with ((with_reducible refine (HS.out).mono ?_);rintro e w1 ⟨v1,rfl,ho1,hg1⟩;obtain ⟨A1,c1,rfl,_⟩:=OwnL.row It.cells_len ho1;have HO1:=hide ho1;have HG1:=hide hg1;clear ho1 hg1)
 go_ret
 exact ⟨_,rfl,HO1.out,HG1.out⟩
set_option maxRecDepth 100000 in
set_option maxHeartbeats 1600000 in
theorem nmeta_any {w:World} {base n:Nat} {X:Nat→Prop} {N:Nr} (H:NodeO w base n X N):Calls Tryz.prog 96 #[ptv n] w fun e w'=>e=.returned (meta4 N.R.v.fl N.R.v.ce N.R.v.at_ N.R.v.le)∧Below w.heap.size w w':=by
 have hz:=heap_alloc_new w (.cells #[.int .u64 0,.int .u64 0,.int .u64 0,.int .u64 0] 75)
 have hb:=below_alloc (Below.refl w.heap.size w) (.cells #[.int .u64 0,.int .u64 0,.int .u64 0,.int .u64 0] 75)
 obtain ⟨w0,hw0⟩:∃ w0,w.alloc (.cells #[.int .u64 0,.int .u64 0,.int .u64 0,.int .u64 0] 75)=w0:=⟨_,rfl⟩
 rw [hw0] at hz hb
 obtain ⟨s,Y,H⟩:=H.below hb
 obtain ⟨_,c1,r_⟩:=H.cells
 clear r_
 have HV:=hide (smeta_any H.st)
 have hgl:w.heap.size < w0.heap.size:=(Array.getElem?_eq_some_iff.1 hz).1
 have hnl:n < w0.heap.size:=H.lt
 obtain ⟨rf,hrf⟩:∃ v,N.R.v.fl=v:=⟨_,rfl⟩
 obtain ⟨rc,hrc⟩:∃ v,N.R.v.ce=v:=⟨_,rfl⟩
 obtain ⟨ra,hra⟩:∃ v,N.R.v.at_=v:=⟨_,rfl⟩
 obtain ⟨re,hre⟩:∃ v,N.R.v.le=v:=⟨_,rfl⟩
 rw [hrf,hrc,hra,hre] at HV ⊢
 have HZ:=hide hz
 have HB:=hide hb
 have HW0:=hide hw0
 clear H hz hb hw0 hrf hrc hra hre
 go_enter Tryz.func96,Tryz.ntmps96
 go_upto_region 1 with fail
 rw [HW0.out]
 go_wp2_with ((with_reducible refine (HV.out).mono ?_);rintro e w1 ⟨rfl,hg1⟩;have hz1:=(hg1.block w.heap.size hgl).trans HZ.out;obtain ⟨y0,y1,y2,y3⟩:=four_cells hz1;have yf:∀ o,w1.frozen? ⟨w.heap.size,o,none⟩=false:=(fun o=>by simp [World.frozen?,hz1]);have yf0:=yf 0;have yf1:=yf 1;have yf2:=yf 2;have yf3:=yf 3;have HZ1:=hide hz1;have HG1:=hide hg1;have hgl1:w.heap.size < w1.heap.size:=Nat.lt_of_lt_of_le hgl hg1.size;clear hg1 hz1 yf c1)
 have hp:=four_put HZ1.out (.int .u64 rf) (.int .u64 rc) (.int .u64 ra) (.int .u64 re)
 have hS:=(((sets1 w1 w.heap.size 0 (.int .u64 rf)).set (g:=w.heap.size) (fun _=>rfl) 1 (.int .u64 rc)).set (g:=w.heap.size) (fun _=>rfl) 2 (.int .u64 ra)).set (g:=w.heap.size) (fun _=>rfl) 3 (.int .u64 re)
 obtain ⟨w2,hw2⟩:∃ w2,(((w1.setCell ⟨w.heap.size,0,none⟩ (.int .u64 rf)).setCell ⟨w.heap.size,1,none⟩ (.int .u64 rc)).setCell ⟨w.heap.size,2,none⟩ (.int .u64 ra)).setCell ⟨w.heap.size,3,none⟩ (.int .u64 re)=w2:=⟨_,rfl⟩
 rw [hw2] at hp hS ⊢
 obtain ⟨r0,r1,r2,r3⟩:=four_cells hp
 refine bodyPost_ret (v:=meta4 rf rc ra re) (by simp [results,Tryz.results96,go_sem,r0,r1,r2,r3]) rfl ?_
 have hb:=below_step HB.out HG1.out
 exact ⟨rfl,Sets.below hb hS (fun b e=>by rw [e];exact Nat.le_refl _) hb.size⟩
theorem nstore_any {w:World} {base n s:Nat} {X Y:Nat→Prop} {N:Nr} (H:NodeV w base n s Y X N):Calls Tryz.prog 104 #[ptv n] w fun e w'=>e=.returned (ptv s)∧w'=w:=by
 obtain ⟨_,c1,_⟩:=H.cells
 clear H
 go_enter Tryz.func104,Tryz.ntmps104
 go_wp2
 go_ret
 exact ⟨rfl,rfl⟩
def nr0 (id q grace:Int) (zl zm zc:Fz):Nr:=⟨id,sr0 q zl zm zc,0,grace⟩
set_option maxRecDepth 100000 in
set_option maxHeartbeats 1600000 in
theorem nopen_any {w:World} {base p:Nat} {X:Nat→Prop} {q:Int} (H:DiskO w base p X (dk0 q)) (he:ErrOk w) (hb2:2≤base) (hq:600≤q) (id:Nat) (grace:Int) (hi:id≤6) (hg0:0≤grace) (hg:grace≤1099511627776) :
   Calls Tryz.prog 6 #[.int .i64 id,ptv p,.int .u64 grace] w fun e w'=>∃ n zl zm zc,e=.returned (.tuple #[ptv n,.int .i64 0])∧New3 zl zm zc∧NodeO w' base n (Xw X w w') (nr0 id q grace zl zm zc)∧Sets X w w':=by
 have hbd:=H.bd
 have hbl:base≤w.heap.size:=by obtain ⟨h,H⟩:=H;exact H.base_le
 have d1:decide ((id:Int) < 0)=false:=decide_eq_false (by omega)
 have d2:decide (7≤(id:Int))=false:=decide_eq_false (by omega)
 have d3:decide (1099511627776 < grace)=false:=decide_eq_false (by omega)
 have f1:¬ (id:Int) < 0:=by omega
 have f2:¬ 7≤(id:Int):=by omega
 have f3:¬ 1099511627776 < grace:=by omega
 have HO:=hide (sopen_st H he hb2 hq)
 have HBD:=hide hbd
 have HBL:=hide hbl
 clear H hbd hbl hg hg0 hi hq hb2 he
 have hfm:∀ W,(Instr.field 75 (meta4 0 0 0 0) 2).run Tryz.prog W=.ok (.int .u64 0) W:=fun W=>by kernel_rfl
 go_enter Tryz.func6,Tryz.ntmps6
 go_wp2_with (first
   | ((with_reducible refine (HO.out).mono ?_);rintro e w1 ⟨s,zl,zm,zc,rfl,hn3,hs1,hk1⟩;have HN3:=hide hn3;have HS1:=hide hs1;have HK1:=hide hk1;have HM:Hid (Calls Tryz.prog 23 #[ptv s] w1 fun e w'=>e=.returned (meta4 0 0 0 0)∧Below w1.heap.size w1 w'):=hide (smeta_any hs1);clear hn3 hs1 hk1)
   | ((with_reducible refine (HM.out).mono ?_);rintro e w2 ⟨rfl,hb2⟩;have HB2:=hide hb2;clear hb2))
 go_returns
 have hz:=heap_alloc_new w2 (.cells #[.int .i64 id,ptv s,.int .u64 (min 0 1099511627776),.int .u64 grace] 78)
 have ha:=below_alloc (Below.refl w2.heap.size w2) (.cells #[.int .i64 id,ptv s,.int .u64 (min 0 1099511627776),.int .u64 grace] 78)
 obtain ⟨w3,hw3⟩:∃ w3,w2.alloc (.cells #[.int .i64 id,ptv s,.int .u64 (min 0 1099511627776),.int .u64 grace] 78)=w3:=⟨_,rfl⟩
 rw [hw3] at hz ha ⊢
 have h13:=below_step HB2.out ha
 have hSX:Sets X w w3:=HK1.out.trans (Sets.of (S:=fun _=>False) h13) (fun _ _ h=>h.elim)
 have hlt:w2.heap.size < w3.heap.size:=(Array.getElem?_eq_some_iff.1 hz).1
 refine ⟨w2.heap.size,zl,zm,zc,rfl,HN3.out,⟨s,Xw X w w1,?_⟩,hSX⟩
 exact {
   box:=hz
   st:=HS1.out.below h13
   inX:=fun g e=>e.imp (fun h=>h) (fun e=>⟨e.1,Nat.lt_of_lt_of_le e.2 h13.size⟩)
   nX:=.inr ⟨Nat.le_trans HK1.out.size HB2.out.size,hlt⟩
   nY:=fun e=>by
     have:=HB2.out.size
     rcases e with e | e
     · have:=(HBD.out _ e).2;have:=HK1.out.size;omega
     · omega
   bd:=Xw.bd HBD.out HBL.out hSX.size }
end Go.Proofs.YtgmkckjedngkdaaGreatDoor
namespace Go.Proofs.YtgmkckjedngkdaaGreatDoor
open Go.ChangeShapes Go.WideShapes Go.ChangeAt Go.RowKit Go.Shelf
attribute [local go_sem] Oper.semAt_some
theorem chunk_any (A:Option Addr) (N c:Nat) (w:World):Calls Tryz.prog 81 #[.slice A N c,.int .i64 1000] w fun e w' =>
   e=.returned (.func (.func 160) #[] #[.pointer (some ⟨w.heap.size,0,none⟩),.pointer (some ⟨w.heap.size+1,0,none⟩)])∧w'=(w.alloc (.cells #[.slice A N c] 31)).alloc (.cells #[.int .i64 1000] 3):=by
 go_enter Tryz.func81,Tryz.ntmps81
 go_wp2
 go_ret
 exact ⟨rfl,rfl⟩
set_option maxRecDepth 100000 in
set_option maxHeartbeats 2000000 in
theorem chunk_one (F:Fence) (n:Nat) (hf:F.fn 160) (hro:F.round=none) (hn:1≤n) (l bs bn gb off:Nat) (N c:Nat) (hN:1≤N∧N≤1000) (hc:N≤c∧c≤maxLen) (J1 Jx:World→Prop) (W:World)
   (hs:W.cell? ⟨bs,0,none⟩=some (.slice (some ⟨gb,off,none⟩) N c)) (hb:W.cell? ⟨bn,0,none⟩=some (.int .i64 1000)) (hbs:bs < W.heap.size) (hbn:bn < W.heap.size)
   (hY:∀ W',Below W.heap.size W W'→YieldAt F (n - 1) Tryz.prog l #[.slice (some ⟨gb,off,none⟩) N N] W' fun e W2 =>
     (e=.returned (.bool true)∧J1 W2∧W2.cell? ⟨bs,0,none⟩=some (.slice (some ⟨gb,off,none⟩) N c)∧W2.cell? ⟨bn,0,none⟩=some (.int .i64 1000)) ∨ (e=.returned (.bool false)∧Jx W2)) :
   CallsIn F n Tryz.prog 160 #[.func (.yield l) #[] #[],.pointer (some ⟨bs,0,none⟩),.pointer (some ⟨bn,0,none⟩)] W fun e W'=>(∃ v,e=.returned v)∧(J1 W' ∨ Jx W'):=by
 refine callsIn_of_wp Tryz.func160 rfl hf ?_ hro
 simp only [Tryz.ntmps160,List.size_toArray,List.length_cons,List.length_nil,Nat.reduceAdd,Nat.reduceSub,Array.replicate_succ,Array.replicate_zero,List.push_toArray,List.append_toArray,List.nil_append,List.cons_append]
 gi_wp2
 gi_loopw [4] (fun i wr=>(i=.int .i64 0∧wr=W) ∨ (i=.int .i64 1000∧J1 wr∧wr.cell? ⟨bs,0,none⟩=some (.slice (some ⟨gb,off,none⟩) N c)∧wr.cell? ⟨bn,0,none⟩=some (.int .i64 1000))) (fun i _=>1001 - (intOf i).toNat)
 case atStart=>exact .inl ⟨rfl,rfl⟩
 case round =>
   rcases hrel with ⟨rfl,rfl⟩ | ⟨rfl,hJ,hs2,hb2⟩
   · have d1:decide ((0:Int) < (N:Int))=true:=decide_eq_true (by omega)
     have f1:(0:Int) < (N:Int):=by omega
     obtain ⟨fn,tmps,assign,body,hy,hR⟩:=hY wr.drew (Below.refl _ _).drew
     have hm1:min (1000:Int) (N:Int)=(N:Int):=by omega
     have hm2:((N:Int) < 1000 ∨ (N:Int)=1000):=by omega
     have hw1:IntKind.i64.wrap (N:Int)=(N:Int):=by rw [IntKind.wrap_i64];omega
     have hw2:wrap64 (N:Int)=(N:Int):=by unfold wrap64;omega
     gi_wp2
     gi_region
     all_goals clear hm1 hm2
     all_goals gi_wp2
     all_goals
       refine hR.mono ?_
       rintro e W3 (⟨rfl,hJ3,hs3,hb3⟩ | ⟨rfl,hx3⟩)
       · gi_wp2
         go_roundw
         case rel=>exact .inr ⟨by go_num,hJ3,hs3,hb3⟩
         case measure=>simp [intOf]
       · gi_wp2
         refine bodyPost_ret (results_none rfl _ _ _) rfl ?_
         exact ⟨⟨_,rfl⟩,.inr hx3⟩
   · have f1:¬ (1000:Int) < (N:Int):=by omega
     gi_wp2
     go_end0
     exact ⟨⟨_,rfl⟩,.inl hJ⟩
def onePost (B:Nat) (I Ix:World→Prop) (W:World):Exit→Act→World→Prop
 | .normal,_,W'=>KeepsFrom B W W'∧I W'
 | .ret,_,W'=>KeepsFrom B W W'∧Ix W'
 | .exit _,_,_=>False
 | .goto _,_,_=>False
 | .panic _,_,_=>False
 | .outgrown,_,_=>False
theorem sets_putObj (W:World) (l:Nat) (o:Obj) (_:l < W.heap.size):Sets (fun k=>k=l) W (W.putObj l o):=by
 have h:=grownBy_putObj' W l o
 exact ⟨h.os,h.tape,h.output,h.size,fun i hi hs=>h.block i hi (fun e=>hs (Option.some.inj e))⟩
theorem range_one {F:Fence} {n:Nat} {P:Program} {g:Operand} {ps:Array Tmp} {assign body:Code} {Q:Exit→Act→World→Prop} {a:Act} {w:World}
   (hro:F.round=none) (h1:1≤n) {gf:Nat} {lb:Array Value} (hg:a.eval g=.func (.func gf) #[] lb) (hFg:F.fn gf) (eg:∀ args w,(callFunc gf args).run P w=.ok (.enter gf args) w)
   {xs:Array Value} (hps:xs.size=ps.size) (a₁:Act)
   (hassign:∀ (l:Nat) (W:World) (K:Act→World→Prop),K a₁ W→assign.wpIn (F.inRound l) (n - 1 - 1) P (Exit.then K (fun _ _ _=>False)) { tmps:=(ps.zip xs).foldl (fun t (p,v)=>t.setIfInBounds p v) a.tmps,defers:=[] } W)
   (Kb:World→Prop) (hKs:∀ W W',Sets (fun k=>k=w.heap.size+1) W W'→Kb W→Kb W') (I Ix:World→World→Prop) (hKI:∀ Wb W3,I Wb W3→Kb W3)
   (hit:∀ (l:Nat) (W:World) (J1 Jx:World→Prop),Below w.heap.size w W →
     (∀ W',Below W.heap.size W W'→YieldAt F (n - 1 - 1) P l xs W' fun e W2=>(e=.returned (.bool true)∧J1 W2∧Kb W2) ∨ (e=.returned (.bool false)∧Jx W2)) →
     CallsIn F (n - 1) P gf (#[.func (.yield l) #[] #[]] ++ lb) W fun e W'=>(∃ v,e=.returned v)∧(J1 W' ∨ Jx W'))
   (hbody:∀ (l:Nat) (Wb:World),Below w.heap.size w Wb→w.heap.size+1 < Wb.heap.size→body.wpIn (F.inRound l) (n - 1 - 1) P (onePost w.heap.size (I Wb) (Ix Wb) Wb) a₁ Wb)
   (hdone:∀ (Wb W3 W5:World),Below w.heap.size w Wb→w.heap.size+1 < Wb.heap.size→I Wb W3→Sets (fun k=>k=w.heap.size+1) W3 W5→W5.heap[w.heap.size]? = some (.deferred (some []))→Q .normal { a with defers:={ target:=.collected w.heap.size,args:=#[] } :: a.defers } W5)
   (hstop:∀ (Wb W3 W5:World),Below w.heap.size w Wb→w.heap.size+1 < Wb.heap.size→Ix Wb W3→Sets (fun k=>k=w.heap.size+1) W3 W5→W5.heap[w.heap.size]? = some (.deferred (some []))→Code.ret.wpIn F n P Q { a with defers:={ target:=.collected w.heap.size,args:=#[] } :: a.defers } W5) :
   (Code.rangeFunc g ps assign body).wpIn F n P Q a w:=by
 refine wpIn_rangeFunc (fun fn hfn=>?_)
 rw [hro]
 obtain ⟨mk,hmk⟩:∃ mk:LoopState→Option Code→Loop,mk=fun st pe=>{ state:=st,pending:=pe,fn,tmps:=a.tmps,params:=ps,assign,body,defers:=w.heap.size }:=⟨_,rfl⟩
 obtain ⟨W1,hW1⟩:∃ W1,(w.alloc (.deferred (some []))).alloc (.loop (mk .ready none))=W1:=⟨_,rfl⟩
 have hbW:Below w.heap.size w W1:=by rw [← hW1];exact ((Below.refl _ w).alloc (Nat.le_refl _) _).alloc (by simp) _
 have hL:W1.heap[w.heap.size+1]? = some (.loop (mk .ready none)):=by
   have:=World.alloc_heap_new (w.alloc (.deferred (some []))) (.loop (mk .ready none))
   rw [← hW1];rwa [World.size_alloc] at this
 have hD:W1.heap[w.heap.size]? = some (.deferred (some [])):=by
   rw [← hW1];exact (Below.heap_alloc _ _ _ (by simp)).trans (World.alloc_heap_new w _)
 let J (st:LoopState) (pe:Option Code) (I:World→World→Prop) (W:World):Prop:=∃ Wb W3,Below w.heap.size w Wb∧w.heap.size+1 < Wb.heap.size∧I Wb W3∧Sets (fun k=>k=w.heap.size+1) W3 W∧W.heap[w.heap.size+1]? = some (.loop (mk st pe))∧W.heap[w.heap.size]? = some (.deferred (some []))
 refine ⟨w.heap.size+1,[{ target:=.collected w.heap.size,args:=#[] }],W1,{ target:=.fn (.func gf) lb,args:=#[.func (.yield (w.heap.size+1)) #[] #[]] },W1,gf,
   #[.func (.yield (w.heap.size+1)) #[] #[]] ++ lb,W1,by rw [← hW1,hmk];exact run_enterLoop_outer _ _ _ _ _,by simp only [resolve,hg];simp [go_sem],fun f' hf'=>by simp [Target.leads] at hf';subst hf';exact hFg,by simp [invoke,go_sem,eg],fun _=>h1,?_⟩
 refine (hit (w.heap.size+1) W1 (J .ready none I) (J .done (some .ret) Ix) hbW (fun W' hW'=>?_)).mono ?_
 ·
   have hlt1:w.heap.size+1 < W1.heap.size:=(Array.getElem?_eq_some_iff.1 hL).1
   have hl:=(hW'.block _ hlt1).trans hL
   have hd:=(hW'.block w.heap.size (by omega)).trans hD
   have hlt:w.heap.size+1 < W'.heap.size:=Nat.lt_of_lt_of_le hlt1 hW'.size
   have hy:=run_yield (P:=P) (args:=xs) hl (by rw [hmk];exact hps)
   have hb0:Below w.heap.size w W':=below_step hbW hW'
   rw [hmk] at hy
   refine ⟨fn,_,assign,body,hy,roundIn_of_wpIn hfn (hassign _ W' _ ⟨_,run_beginRound hl (by rw [hmk]),?_⟩)⟩
   have hsB:=sets_putObj W' (w.heap.size+1) (.loop { mk .ready none with state:=.busy }) hlt
   have hlB:(W'.putObj (w.heap.size+1) (.loop { mk .ready none with state:=.busy })).heap[w.heap.size+1]? = some (.loop { mk .ready none with state:=.busy }):=World.putObj_heap_same hlt
   have hdB:(W'.putObj (w.heap.size+1) (.loop { mk .ready none with state:=.busy })).heap[w.heap.size]? = some (.deferred (some [])):=(World.putObj_heap_other (by omega)).trans hd
   obtain ⟨Wb,hWb⟩:∃ Wb,W'.putObj (w.heap.size+1) (.loop { mk .ready none with state:=.busy })=Wb:=⟨_,rfl⟩
   rw [hWb] at hsB hlB hdB ⊢
   have hbb:Below w.heap.size w Wb:=Sets.below hb0 hsB (fun b e=>by omega) hb0.size
   have hltB:w.heap.size+1 < Wb.heap.size:=Nat.lt_of_lt_of_le hlt hsB.size
   refine wpIn_mono (hbody _ Wb hbb hltB) ?_
   have fin:∀ (jump:Option Code) (W3:World),KeepsFrom w.heap.size Wb W3 →
       (Instr.endRound (w.heap.size+1) jump).run P W3=.ok (.bool jump.isNone) (W3.putObj (w.heap.size+1) (.loop (mk (if jump.isNone then .ready else .done) jump))) ∧
       Sets (fun k=>k=w.heap.size+1) W3 (W3.putObj (w.heap.size+1) (.loop (mk (if jump.isNone then .ready else .done) jump))) ∧
       (W3.putObj (w.heap.size+1) (.loop (mk (if jump.isNone then .ready else .done) jump))).heap[w.heap.size+1]? = some (.loop (mk (if jump.isNone then .ready else .done) jump)) ∧
       (W3.putObj (w.heap.size+1) (.loop (mk (if jump.isNone then .ready else .done) jump))).heap[w.heap.size]? = some (.deferred (some [])):=fun jump W3 hk3=>by
     have hl3:=hk3.same _ _ (Nat.le_succ _) hlB rfl
     have he:=run_endRound (P:=P) jump hl3
     have hlt3:=(Array.getElem?_eq_some_iff.1 hl3).1
     rw [hmk] at he ⊢
     exact ⟨he,sets_putObj _ _ _ hlt3,World.putObj_heap_same hlt3,(World.putObj_heap_other (by omega)).trans (hk3.same _ _ (Nat.le_refl _) hdB rfl)⟩
   rintro e a3 W3 hp
   cases e with
   | normal =>
     obtain ⟨hr,hs4,hl4,hd4⟩:=fin none W3 hp.1
     exact ⟨_,_,hr,.inl ⟨rfl,⟨Wb,W3,hbb,hltB,hp.2,hs4,hl4,hd4⟩,hKs _ _ hs4 (hKI _ _ hp.2)⟩⟩
   | ret =>
     obtain ⟨hr,hs4,hl4,hd4⟩:=fin (some .ret) W3 hp.1
     exact ⟨_,_,hr,.inr ⟨rfl,Wb,W3,hbb,hltB,hp.2,hs4,hl4,hd4⟩⟩
   | exit id=>exact hp.elim
   | goto t=>exact hp.elim
   | panic ch=>exact hp.elim
   | outgrown=>exact hp.elim
 ·
   have hend:∀ (W2 W3:World),Sets (fun k=>k=w.heap.size+1) W3 W2→∀ r,W2.heap[w.heap.size+1]? = some (.loop r)→W2.heap[w.heap.size]? = some (.deferred (some [])) →
       Sets (fun k=>k=w.heap.size+1) W3 (W2.putObj (w.heap.size+1) (.loop { r with state:=.exhausted }))∧(W2.putObj (w.heap.size+1) (.loop { r with state:=.exhausted })).heap[w.heap.size]? = some (.deferred (some [])):=fun W2 W3 hs r hl hd =>
     ⟨hs.trans (sets_putObj _ _ _ (Array.getElem?_eq_some_iff.1 hl).1) (fun _ _ e=>e),(World.putObj_heap_other (by omega)).trans hd⟩
   rintro e W2 ⟨⟨v,rfl⟩,(⟨Wb,W3,hb,hlt,hi,hs,hl,hd⟩ | ⟨Wb,W3,hb,hlt,hi,hs,hl,hd⟩)⟩
   · obtain ⟨hs',hd'⟩:=hend W2 W3 hs _ hl hd
     have he:=run_endLoop (P:=P) hl (by rw [hmk];simp)
     rw [hmk] at he hs' hd'
     exact ⟨none,_,he,hdone Wb W3 _ hb hlt hi hs' hd'⟩
   · obtain ⟨hs',hd'⟩:=hend W2 W3 hs _ hl hd
     have he:=run_endLoop (P:=P) hl (by rw [hmk];simp)
     rw [hmk] at he hs' hd'
     exact ⟨some .ret,_,he,hstop Wb W3 _ hb hlt hi hs' hd'⟩
end Go.Proofs.YtgmkckjedngkdaaGreatDoor
