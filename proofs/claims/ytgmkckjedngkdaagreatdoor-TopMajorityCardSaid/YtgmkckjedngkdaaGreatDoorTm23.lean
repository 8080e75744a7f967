/- A part of the proof that TopMajorityLaw holds: XZEap, XZSav. Conditions: as typed. -/
import Derived.Test.YtgmkckjedngkdaaGreatDoorTm18
set_option linter.unusedVariables false
set_option linter.unusedSimpArgs false
namespace Go.Proofs.YtgmkckjedngkdaaGreatDoor
open Go.ChangeShapes Go.WideShapes Go.ChangeAt Go.RowKit
theorem clip_file0 (w:World):Calls Tryz.prog 261 #[.slice none 0 0] w fun e w'=>e=.returned (.slice none 0 0)∧w'=w:=by
 go_enter Tryz.func261,Tryz.ntmps261
 go_wp2
 go_ret
 exact ⟨rfl,rfl⟩
def upd (v:Vw) (f c a l:Int):Vw:=⟨v.log,if f=0 then v.fl else f,if c=0 then v.ce else c,if a=0 then v.at_ else a,if l=0 then v.le else l⟩
theorem al4 (w:World) (o0 o1 o2 o3:Obj):((((w.alloc o0).alloc o1).alloc o2).alloc o3).heap.size=w.heap.size+1+1+1+1∧((((w.alloc o0).alloc o1).alloc o2).alloc o3).heap[w.heap.size+1]? = some o1∧((((w.alloc o0).alloc o1).alloc o2).alloc o3).heap[w.heap.size+1+1]? = some o2∧((((w.alloc o0).alloc o1).alloc o2).alloc o3).heap[w.heap.size+1+1+1]? = some o3:=by
 have e1:(w.alloc o0).heap.size=w.heap.size+1:=World.size_alloc _ _
 have e2:((w.alloc o0).alloc o1).heap.size=w.heap.size+1+1:=(World.size_alloc _ _).trans (by rw [e1])
 have e3:(((w.alloc o0).alloc o1).alloc o2).heap.size=w.heap.size+1+1+1:=(World.size_alloc _ _).trans (by rw [e2])
 have h1:=heap_alloc_new (w.alloc o0) o1
 have h2:=heap_alloc_new ((w.alloc o0).alloc o1) o2
 have h3:=heap_alloc_new (((w.alloc o0).alloc o1).alloc o2) o3
 rw [e1] at h1
 rw [e2] at h2
 rw [e3] at h3
 have b2:=below_alloc (Below.refl (((w.alloc o0).alloc o1).alloc o2).heap.size _) o3
 have b1:=below_alloc (below_alloc (Below.refl ((w.alloc o0).alloc o1).heap.size _) o2) o3
 exact ⟨(World.size_alloc _ _).trans (by rw [e3]),(b1.block _ (by rw [e2];omega)).trans h1,(b2.block _ (by rw [e3];omega)).trans h2,h3⟩
def uk (v:Vw) (f c a l:Int) (k:Nat):Vw:=⟨v.log,if f ≠ 0∧1≤k then f else v.fl,if c ≠ 0∧2≤k then c else v.ce,if a ≠ 0∧3≤k then a else v.at_,if l ≠ 0∧4≤k then l else v.le⟩
theorem uk4 (v:Vw) (f c a l:Int):uk v f c a l 4=upd v f c a l:=by
 simp [uk,upd]
theorem upd_ok {v:Vw} {f c a l:Int} (h:v.ok) (hf:ver48 f) (hc:ver48 c) (ha:ver48 a) (hl:ver48 l):(upd v f c a l).ok:=by
 refine ⟨h.log,?_,?_,?_,?_⟩ <;> simp only [upd] <;> split
 ·exact h.fl
 ·exact hf
 ·exact h.ce
 ·exact hc
 ·exact h.at_
 ·exact ha
 ·exact h.le
 ·exact hl
def toE (f c a l:Int) (g3:Nat):List Value:=[.int .u64 f,.pointer (some ⟨g3,2,none⟩),.int .u64 c,.pointer (some ⟨g3,3,none⟩),.int .u64 a,.pointer (some ⟨g3,4,none⟩),.int .u64 l,.pointer (some ⟨g3,5,none⟩)]
theorem toE_cells {w:World} {g g3:Nat} {f c a l:Int} {t:TypeId} (h:w.heap[g]? = some (.cells (toE f c a l g3).toArray t (0,0))) :
 (w.cell? ⟨g,0,none⟩=some (.int .u64 f)∧w.cell? ⟨g,1,none⟩=some (.pointer (some ⟨g3,2,none⟩)))∧(w.cell? ⟨g,2,none⟩=some (.int .u64 c)∧w.cell? ⟨g,3,none⟩=some (.pointer (some ⟨g3,3,none⟩)))∧(w.cell? ⟨g,4,none⟩=some (.int .u64 a)∧w.cell? ⟨g,5,none⟩=some (.pointer (some ⟨g3,4,none⟩)))∧(w.cell? ⟨g,6,none⟩=some (.int .u64 l)∧w.cell? ⟨g,7,none⟩=some (.pointer (some ⟨g3,5,none⟩))) :=
 ⟨⟨(cell_of_row w g 0 _ _ _ h).trans rfl,(cell_of_row w g 1 _ _ _ h).trans rfl⟩,⟨(cell_of_row w g 2 _ _ _ h).trans rfl,(cell_of_row w g 3 _ _ _ h).trans rfl⟩,⟨(cell_of_row w g 4 _ _ _ h).trans rfl,(cell_of_row w g 5 _ _ _ h).trans rfl⟩,⟨(cell_of_row w g 6 _ _ _ h).trans rfl,(cell_of_row w g 7 _ _ _ h).trans rfl⟩⟩
set_option maxRecDepth 100000 in
set_option maxHeartbeats 1600000 in
theorem eapply_any (v:Vw) (f c a l:Int) (w:World) (h:v.ok) (hf:ver48 f) (hc:ver48 c) (ha:ver48 a) (hl:ver48 l):Calls Tryz.prog 198 #[v.val,(Ed.mk 0 f c a l).val] w fun e w'=>e=.returned (.tuple #[(upd v f c a l).val,.bool true])∧Below w.heap.size w w':=by
 obtain ⟨lo,vf,vc,va,vl⟩:=v
 have happ:=fun W=>app_files0 W 140
 have HCL:=hide (fun W=>clip_file0 W)
 go_enter Tryz.func198,Tryz.ntmps198
 go_upto_region 4 with fail
 obtain ⟨w4,hw4⟩:∃ w4,((((w.alloc (.cells #[.int .i64 lo,.slice none 0 0,.int .u64 vf,.int .u64 vc,.int .u64 va,.int .u64 vl] 142)).alloc (.cells #[.slice none 0 0,.slice none 0 0,.int .i64 0,.int .u64 f,.int .u64 c,.int .u64 a,.int .u64 l] 163)).alloc (.cells #[.int .i64 0,.slice none 0 0,.int .u64 0,.int .u64 0,.int .u64 0,.int .u64 0] 142)).alloc (.cells #[.int .i64 lo,.slice none 0 0,.int .u64 vf,.int .u64 vc,.int .u64 va,.int .u64 vl] 142))=w4:=⟨_,rfl⟩
 rw [hw4]
 have hb4:Below w.heap.size w w4:=by rw [← hw4];exact below_alloc (below_alloc (below_alloc (below_alloc (Below.refl _ w) _) _) _) _
 obtain ⟨hz4,hz1,hz2,hz3⟩:=al4 w (.cells #[.int .i64 lo,.slice none 0 0,.int .u64 vf,.int .u64 vc,.int .u64 va,.int .u64 vl] 142) (.cells #[.slice none 0 0,.slice none 0 0,.int .i64 0,.int .u64 f,.int .u64 c,.int .u64 a,.int .u64 l] 163) (.cells #[.int .i64 0,.slice none 0 0,.int .u64 0,.int .u64 0,.int .u64 0,.int .u64 0] 142) (.cells #[.int .i64 lo,.slice none 0 0,.int .u64 vf,.int .u64 vc,.int .u64 va,.int .u64 vl] 142)
 rw [hw4] at hz4 hz1 hz2 hz3
 have HW4:=hide hw4
 obtain ⟨g1,hg1⟩:∃ g1,w.heap.size+1=g1:=⟨_,rfl⟩
 rw [hg1] at hz1 hz2 hz3 hz4 ⊢
 obtain ⟨g2,hg2⟩:∃ g2,g1+1=g2:=⟨_,rfl⟩
 rw [hg2] at hz2 hz3 hz4 ⊢
 obtain ⟨g3,hg3⟩:∃ g3,g2+1=g3:=⟨_,rfl⟩
 rw [hg3] at hz3 hz4 ⊢
 have HN:=hide (And.intro hg1 (And.intro hg2 (And.intro hg3 hz4)))
 obtain ⟨x0,x1,x2,x3,x4,x5,x6⟩:=ed_cells (v:=⟨0,f,c,a,l⟩) hz1
 obtain ⟨y0,y1,y2,y3,y4,y5⟩:=vw_cells (v:=⟨lo,vf,vc,va,vl⟩) hz3
 have yf:w4.frozen? ⟨g3,1,none⟩=false:=by simp [World.frozen?,hz3]
 have HB4:=hide hb4
 have HZ1:=hide hz1
 have HZ2:=hide hz2
 have HZ3:=hide hz3
 clear hw4 hb4 hz1 hz2 hz3 hz4 hg1 hg2 hg3
 go_loopw [20] (fun i wr=>i=.int .i64 0∧wr=w4) (fun _ _=>0)
 case atStart=>exact ⟨rfl,rfl⟩
 case round =>
  obtain ⟨rfl,rfl⟩:=hrel
  go_upto_region 15 with ((with_reducible refine (HCL.out _).mono ?_);rintro e w5 ⟨rfl,rfl⟩)
  obtain ⟨w6,hw6⟩:∃ w6,(w5.setCell ⟨g3,1,none⟩ (.slice none 0 0)).alloc (.cells #[.int .u64 f,.pointer (some ⟨g3,2,none⟩),.int .u64 c,.pointer (some ⟨g3,3,none⟩),.int .u64 a,.pointer (some ⟨g3,4,none⟩),.int .u64 l,.pointer (some ⟨g3,5,none⟩)] 356)=w6:=⟨_,rfl⟩
  rw [hw6]
  have hn:=HN.out
  have hs5:(w5.setCell ⟨g3,1,none⟩ (.slice none 0 0)).heap.size=w5.heap.size:=by simp
  have hb6:Below w.heap.size w w6:=by
   rw [← hw6]
   exact below_alloc (Sets.below HB4.out (sets1 w5 g3 1 (.slice none 0 0)) (fun b e=>by rw [e];omega) HB4.out.size) _
  have hz6:w6.heap[w5.heap.size]? = some (.cells (toE f c a l g3).toArray 356 (0,0)):=by
   rw [← hw6,← hs5];exact heap_alloc_new _ _
  have hl6:w6.heap.size=w5.heap.size+1:=by rw [← hw6,World.size_alloc,hs5]
  have hk6:∀ i,i < w5.heap.size→i ≠ g3→w6.heap[i]? = w5.heap[i]?:=fun i hi hne=>by
   rw [← hw6,(below_alloc (Below.refl (w5.setCell ⟨g3,1,none⟩ (.slice none 0 0)).heap.size _) _).block i (by rw [hs5];exact hi)]
   exact (sets1 w5 g3 1 (.slice none 0 0)).block i hi hne
  have hz26:w6.heap[g2]? = some (.cells #[.int .i64 0,.slice none 0 0,.int .u64 0,.int .u64 0,.int .u64 0,.int .u64 0] 142 (0,0)):=(hk6 g2 (by omega) (by omega)).trans HZ2.out
  have hz36:w6.heap[g3]? = some (.cells #[.int .i64 lo,.slice none 0 0,.int .u64 vf,.int .u64 vc,.int .u64 va,.int .u64 vl] 142 (0,0)):=by
   rw [← hw6,(below_alloc (Below.refl (w5.setCell ⟨g3,1,none⟩ (.slice none 0 0)).heap.size _) _).block g3 (by rw [hs5];omega)]
   simp [World.setCell,Array.getElem?_modify,HZ3.out]
  have HW6:=hide hw6
  have HB6:=hide hb6
  have HZ6:=hide hz6
  have HZ26:=hide hz26
  have HZ36:=hide hz36
  have hlt6:g3 < w5.heap.size:=by omega
  have HL6:=hide (And.intro hl6 hlt6)
  have hg23:g2 < g3:=by omega
  have HG23:=hide (And.intro hg23 (show w.heap.size≤g3∧w.heap.size≤g2 by omega))
  clear hw6 hb6 hz6 hz26 hz36 hn hl6 hk6 hs5 hlt6 hg23
  go_loopw [70] (fun i wr=>∃ k:Nat,k≤4∧i=.int .i64 k∧Below w.heap.size w wr∧w6.heap.size≤wr.heap.size∧wr.heap[w5.heap.size]? = some (.cells (toE f c a l g3).toArray 356 (0,0))∧wr.heap[g2]? = some (.cells #[.int .i64 0,.slice none 0 0,.int .u64 0,.int .u64 0,.int .u64 0,.int .u64 0] 142 (0,0))∧wr.heap[g3]? = some (.cells #[.int .i64 (uk ⟨lo,vf,vc,va,vl⟩ f c a l k).log,.slice none 0 0,.int .u64 (uk ⟨lo,vf,vc,va,vl⟩ f c a l k).fl,.int .u64 (uk ⟨lo,vf,vc,va,vl⟩ f c a l k).ce,.int .u64 (uk ⟨lo,vf,vc,va,vl⟩ f c a l k).at_,.int .u64 (uk ⟨lo,vf,vc,va,vl⟩ f c a l k).le] 142 (0,0))) (fun i _=>4 - (intOf i).toNat)
  case atStart=>exact ⟨0,by omega,rfl,HB6.out,Nat.le_refl _,HZ6.out,HZ26.out,by simpa [uk] using HZ36.out⟩
  case round =>
   obtain ⟨k,hk,rfl,hbr,hlr,hzr,h2r,h3r⟩:=hrel
   clear HZ6 HZ26 HZ36 HB6 HB4 HZ1 HZ2 HZ3 HW4 HW6 x0 x1 x2 x3 x4 x5 x6 y0 y1 y2 y3 y4 y5 yf happ
   obtain ⟨⟨t0,t1⟩,⟨t2,t3⟩,⟨t4,t5⟩,⟨t6,t7⟩⟩:=toE_cells hzr
   obtain ⟨y0,y1,y2,y3,y4,y5⟩:=vw_cells (v:=uk ⟨lo,vf,vc,va,vl⟩ f c a l k) h3r
   have yf:∀ o,wr.frozen? ⟨g3,o,none⟩=false:=fun o=>by simp [World.frozen?,h3r]
   have hl6:=HL6.out.1
   have hl62:=HL6.out.2
   have hg23:=HG23.out.1
   have hge:=HG23.out.2
   have HBR:=hide hbr
   have HZR:=hide hzr
   have H2R:=hide h2r
   have H3R:=hide h3r
   have HLR:=hide hlr
   have HARI:=hide (And.intro hl6 (And.intro hl62 (And.intro hg23 hge)))
   have tb1:w5.heap.size < wr.heap.size:=by omega
   have tb2:g3 < wr.heap.size:=by omega
   clear hbr hzr h2r h3r hlr hl6 hl62 hge hg23
   have hcase:k=0 ∨ k=1 ∨ k=2 ∨ k=3 ∨ k=4:=by omega
   clear hk
   rcases hcase with rfl | rfl | rfl | rfl | rfl
   ·have HUK:Hid ((f=0→uk ⟨lo,vf,vc,va,vl⟩ f c a l 1=uk ⟨lo,vf,vc,va,vl⟩ f c a l 0)):=hide (fun e=>by simp [uk,e])
    have yfk:=yf 2
    by_cases hn0:f=0
    ·have hnb:(f != 0)=false:=by simp [hn0]
     have hnb2:(f == 0)=true:=by simp [hn0]
     have HN0:=hide hn0
     clear hn0
     go_wp2_with fail
     go_roundw
     case rel =>
      have hkk:∀ i,i < wr.heap.size→(wr.alloc (.cells #[.int .u64 f,.pointer (some ⟨g3,2,none⟩)] 356)).heap[i]? = wr.heap[i]?:=fun i hi=>(below_alloc (Below.refl wr.heap.size _) _).block i hi
      have hr:=HARI.out
      refine ⟨1,by omega,by go_num,below_alloc HBR.out _,by rw [World.size_alloc];have:=HLR.out;omega,(hkk _ (by omega)).trans HZR.out,(hkk _ (by omega)).trans H2R.out,?_⟩
      rw [HUK.out HN0.out]
      exact (hkk _ (by omega)).trans H3R.out
     case measure=>simp [intOf]
    ·have hnb:(f != 0)=true:=by simp [hn0]
     have hnb2:(f == 0)=false:=by simp [hn0]
     have HN0:=hide hn0
     clear hn0
     go_wp2_with fail
     go_roundw
     case rel =>
      have hsz:(wr.setCell ⟨g3,2,none⟩ (.int .u64 f)).heap.size=wr.heap.size:=by simp
      have hkk:∀ i,i < wr.heap.size→((wr.setCell ⟨g3,2,none⟩ (.int .u64 f)).alloc (.cells #[.int .u64 f,.pointer (some ⟨g3,2,none⟩)] 356)).heap[i]? = (wr.setCell ⟨g3,2,none⟩ (.int .u64 f)).heap[i]?:=fun i hi=>(below_alloc (Below.refl _ _) _).block i (by rw [hsz];exact hi)
      have hss:=sets1 wr g3 2 (.int .u64 f)
      have hr:=HARI.out
      have hlr:=HLR.out
      refine ⟨1,by omega,by go_num,below_alloc (Sets.below HBR.out hss (fun b e=>by rw [e];omega) HBR.out.size) _,by rw [World.size_alloc,hsz];omega,(hkk _ (by omega)).trans ((hss.block _ (by omega) (fun e=>by omega)).trans HZR.out),(hkk _ (by omega)).trans ((hss.block _ (by omega) (fun e=>by omega)).trans H2R.out),?_⟩
      refine (hkk _ (by omega)).trans ?_
      have hn1:=HN0.out
      have h3:=H3R.out
      simp [World.setCell,Array.getElem?_modify,h3,uk,hn1]
     case measure=>simp [intOf]
   ·have HUK:Hid ((c=0→uk ⟨lo,vf,vc,va,vl⟩ f c a l 2=uk ⟨lo,vf,vc,va,vl⟩ f c a l 1)):=hide (fun e=>by simp [uk,e])
    have yfk:=yf 3
    by_cases hn0:c=0
    ·have hnb:(c != 0)=false:=by simp [hn0]
     have hnb2:(c == 0)=true:=by simp [hn0]
     have HN0:=hide hn0
     clear hn0
     go_wp2_with fail
     go_roundw
     case rel =>
      have hkk:∀ i,i < wr.heap.size→(wr.alloc (.cells #[.int .u64 c,.pointer (some ⟨g3,3,none⟩)] 356)).heap[i]? = wr.heap[i]?:=fun i hi=>(below_alloc (Below.refl wr.heap.size _) _).block i hi
      have hr:=HARI.out
      refine ⟨2,by omega,by go_num,below_alloc HBR.out _,by rw [World.size_alloc];have:=HLR.out;omega,(hkk _ (by omega)).trans HZR.out,(hkk _ (by omega)).trans H2R.out,?_⟩
      rw [HUK.out HN0.out]
      exact (hkk _ (by omega)).trans H3R.out
     case measure=>simp [intOf]
    ·have hnb:(c != 0)=true:=by simp [hn0]
     have hnb2:(c == 0)=false:=by simp [hn0]
     have HN0:=hide hn0
     clear hn0
     go_wp2_with fail
     go_roundw
     case rel =>
      have hsz:(wr.setCell ⟨g3,3,none⟩ (.int .u64 c)).heap.size=wr.heap.size:=by simp
      have hkk:∀ i,i < wr.heap.size→((wr.setCell ⟨g3,3,none⟩ (.int .u64 c)).alloc (.cells #[.int .u64 c,.pointer (some ⟨g3,3,none⟩)] 356)).heap[i]? = (wr.setCell ⟨g3,3,none⟩ (.int .u64 c)).heap[i]?:=fun i hi=>(below_alloc (Below.refl _ _) _).block i (by rw [hsz];exact hi)
      have hss:=sets1 wr g3 3 (.int .u64 c)
      have hr:=HARI.out
      have hlr:=HLR.out
      refine ⟨2,by omega,by go_num,below_alloc (Sets.below HBR.out hss (fun b e=>by rw [e];omega) HBR.out.size) _,by rw [World.size_alloc,hsz];omega,(hkk _ (by omega)).trans ((hss.block _ (by omega) (fun e=>by omega)).trans HZR.out),(hkk _ (by omega)).trans ((hss.block _ (by omega) (fun e=>by omega)).trans H2R.out),?_⟩
      refine (hkk _ (by omega)).trans ?_
      have hn1:=HN0.out
      have h3:=H3R.out
      simp [World.setCell,Array.getElem?_modify,h3,uk,hn1]
     case measure=>simp [intOf]
   ·have HUK:Hid ((a=0→uk ⟨lo,vf,vc,va,vl⟩ f c a l 3=uk ⟨lo,vf,vc,va,vl⟩ f c a l 2)):=hide (fun e=>by simp [uk,e])
    have yfk:=yf 4
    by_cases hn0:a=0
    ·have hnb:(a != 0)=false:=by simp [hn0]
     have hnb2:(a == 0)=true:=by simp [hn0]
     have HN0:=hide hn0
     clear hn0
     go_wp2_with fail
     go_roundw
     case rel =>
      have hkk:∀ i,i < wr.heap.size→(wr.alloc (.cells #[.int .u64 a,.pointer (some ⟨g3,4,none⟩)] 356)).heap[i]? = wr.heap[i]?:=fun i hi=>(below_alloc (Below.refl wr.heap.size _) _).block i hi
      have hr:=HARI.out
      refine ⟨3,by omega,by go_num,below_alloc HBR.out _,by rw [World.size_alloc];have:=HLR.out;omega,(hkk _ (by omega)).trans HZR.out,(hkk _ (by omega)).trans H2R.out,?_⟩
      rw [HUK.out HN0.out]
      exact (hkk _ (by omega)).trans H3R.out
     case measure=>simp [intOf]
    ·have hnb:(a != 0)=true:=by simp [hn0]
     have hnb2:(a == 0)=false:=by simp [hn0]
     have HN0:=hide hn0
     clear hn0
     go_wp2_with fail
     go_roundw
     case rel =>
      have hsz:(wr.setCell ⟨g3,4,none⟩ (.int .u64 a)).heap.size=wr.heap.size:=by simp
      have hkk:∀ i,i < wr.heap.size→((wr.setCell ⟨g3,4,none⟩ (.int .u64 a)).alloc (.cells #[.int .u64 a,.pointer (some ⟨g3,4,none⟩)] 356)).heap[i]? = (wr.setCell ⟨g3,4,none⟩ (.int .u64 a)).heap[i]?:=fun i hi=>(below_alloc (Below.refl _ _) _).block i (by rw [hsz];exact hi)
      have hss:=sets1 wr g3 4 (.int .u64 a)
      have hr:=HARI.out
      have hlr:=HLR.out
      refine ⟨3,by omega,by go_num,below_alloc (Sets.below HBR.out hss (fun b e=>by rw [e];omega) HBR.out.size) _,by rw [World.size_alloc,hsz];omega,(hkk _ (by omega)).trans ((hss.block _ (by omega) (fun e=>by omega)).trans HZR.out),(hkk _ (by omega)).trans ((hss.block _ (by omega) (fun e=>by omega)).trans H2R.out),?_⟩
      refine (hkk _ (by omega)).trans ?_
      have hn1:=HN0.out
      have h3:=H3R.out
      simp [World.setCell,Array.getElem?_modify,h3,uk,hn1]
     case measure=>simp [intOf]
   ·have HUK:Hid ((l=0→uk ⟨lo,vf,vc,va,vl⟩ f c a l 4=uk ⟨lo,vf,vc,va,vl⟩ f c a l 3)):=hide (fun e=>by simp [uk,e])
    have yfk:=yf 5
    by_cases hn0:l=0
    ·have hnb:(l != 0)=false:=by simp [hn0]
     have hnb2:(l == 0)=true:=by simp [hn0]
     have HN0:=hide hn0
     clear hn0
     go_wp2_with fail
     go_roundw
     case rel =>
      have hkk:∀ i,i < wr.heap.size→(wr.alloc (.cells #[.int .u64 l,.pointer (some ⟨g3,5,none⟩)] 356)).heap[i]? = wr.heap[i]?:=fun i hi=>(below_alloc (Below.refl wr.heap.size _) _).block i hi
      have hr:=HARI.out
      refine ⟨4,by omega,by go_num,below_alloc HBR.out _,by rw [World.size_alloc];have:=HLR.out;omega,(hkk _ (by omega)).trans HZR.out,(hkk _ (by omega)).trans H2R.out,?_⟩
      rw [HUK.out HN0.out]
      exact (hkk _ (by omega)).trans H3R.out
     case measure=>simp [intOf]
    ·have hnb:(l != 0)=true:=by simp [hn0]
     have hnb2:(l == 0)=false:=by simp [hn0]
     have HN0:=hide hn0
     clear hn0
     go_wp2_with fail
     go_roundw
     case rel =>
      have hsz:(wr.setCell ⟨g3,5,none⟩ (.int .u64 l)).heap.size=wr.heap.size:=by simp
      have hkk:∀ i,i < wr.heap.size→((wr.setCell ⟨g3,5,none⟩ (.int .u64 l)).alloc (.cells #[.int .u64 l,.pointer (some ⟨g3,5,none⟩)] 356)).heap[i]? = (wr.setCell ⟨g3,5,none⟩ (.int .u64 l)).heap[i]?:=fun i hi=>(below_alloc (Below.refl _ _) _).block i (by rw [hsz];exact hi)
      have hss:=sets1 wr g3 5 (.int .u64 l)
      have hr:=HARI.out
      have hlr:=HLR.out
      refine ⟨4,by omega,by go_num,below_alloc (Sets.below HBR.out hss (fun b e=>by rw [e];omega) HBR.out.size) _,by rw [World.size_alloc,hsz];omega,(hkk _ (by omega)).trans ((hss.block _ (by omega) (fun e=>by omega)).trans HZR.out),(hkk _ (by omega)).trans ((hss.block _ (by omega) (fun e=>by omega)).trans H2R.out),?_⟩
      refine (hkk _ (by omega)).trans ?_
      have hn1:=HN0.out
      have h3:=H3R.out
      simp [World.setCell,Array.getElem?_modify,h3,uk,hn1]
     case measure=>simp [intOf]
   ·rw [uk4] at y0 y2 y3 y4 y5
    have hok:=upd_ok h hf hc ha hl
    obtain ⟨u,hu⟩:∃ u,upd ⟨lo,vf,vc,va,vl⟩ f c a l=u:=⟨_,rfl⟩
    rw [hu] at y0 y2 y3 y4 y5 hok
    have HU:=hide hu
    clear hu
    obtain ⟨u0,u1,u2,u3,u4⟩:=u
    have HOK:=hide (fun W=>vok_yes ⟨u0,u1,u2,u3,u4⟩ W hok)
    clear h hf hc ha hl hok H3R HZR t0 t1 t2 t3 t4 t5 t6 t7 yf
    simp only at y0 y1 y2 y3 y4 y5
    have hr:=HARI.out
    have hg2l:g2 < wr.heap.size:=by omega
    clear hr
    go_wp2_with ((with_reducible refine (HOK.out _).mono ?_);rintro e w7 ⟨rfl,hg7⟩;have hz7:=(hg7.block g2 hg2l).trans H2R.out;obtain ⟨bc7,fz7⟩:=bcell hg7;replace y0:=(bc7 g3 0 tb2).trans y0;replace y1:=(bc7 g3 1 tb2).trans y1;replace y2:=(bc7 g3 2 tb2).trans y2;replace y3:=(bc7 g3 3 tb2).trans y3;replace y4:=(bc7 g3 4 tb2).trans y4;replace y5:=(bc7 g3 5 tb2).trans y5;have yf:∀ o,w7.frozen? ⟨g2,o,none⟩=false:=(fun o=>by simp [World.frozen?,hz7]);have yf0:=yf 0;have yf1:=yf 1;have yf2:=yf 2;have yf3:=yf 3;have yf4:=yf 4;have yf5:=yf 5;obtain ⟨q0,q1,q2,q3,q4,q5⟩:=vw_cells (v:=⟨0,0,0,0,0⟩) hz7;have HZ7:=hide hz7;have HG7:=hide hg7;have tb3:g3 < w7.heap.size:=Nat.lt_of_lt_of_le tb2 hg7.size;have tb4:g2 < w7.heap.size:=Nat.lt_of_lt_of_le hg2l hg7.size;clear hg7 hz7 yf bc7 fz7)
    have hp:=vw_put HZ7.out (.int .i64 u0) (.slice none 0 0) (.int .u64 u1) (.int .u64 u2) (.int .u64 u3) (.int .u64 u4)
    obtain ⟨r0,r1,r2,r3,r4,r5⟩:=vw_cells (v:=⟨u0,u1,u2,u3,u4⟩) hp
    refine bodyPost_ret (v:=.tuple #[(Vw.mk u0 u1 u2 u3 u4).val,.bool true]) (by simp [results,Tryz.results198,go_sem,r0,r1,r2,r3,r4,r5]) rfl ?_
    have hS:=((((((sets1 w7 g2 0 (.int .i64 u0)).set (g:=g2) (fun _=>rfl) 1 (.slice none 0 0)).set (g:=g2) (fun _=>rfl) 2 (.int .u64 u1)).set (g:=g2) (fun _=>rfl) 3 (.int .u64 u2)).set (g:=g2) (fun _=>rfl) 4 (.int .u64 u3)).set (g:=g2) (fun _=>rfl) 5 (.int .u64 u4))
    have hb7:=below_step HBR.out HG7.out
    exact ⟨by rw [HU.out],Sets.below hb7 hS (fun b e=>by rw [e];exact HG23.out.2.2) hb7.size⟩
end Go.Proofs.YtgmkckjedngkdaaGreatDoor
namespace Go.Proofs.YtgmkckjedngkdaaGreatDoor
open Go.ChangeShapes Go.WideShapes Go.ChangeAt Go.RowKit
structure Zv (w:World) (g:Nat):Prop where
 row:w.heap[g]? = some (.cells #[.int .i64 0,.slice none 0 0,.int .u64 0,.int .u64 0,.int .u64 0,.int .u64 0] 142 (0,0))
theorem Zv.below {w w':World} {g:Nat} (h:Zv w g) (hb:Below w.heap.size w w'):Zv w' g:=⟨(hb.block g (Array.getElem?_eq_some_iff.1 h.row).1).trans h.row⟩
theorem Zv.cells {w:World} {g:Nat} (h:Zv w g):g < w.heap.size∧w.cell? ⟨g,0,none⟩=some (.int .i64 0)∧w.cell? ⟨g,1,none⟩=some (.slice none 0 0)∧w.cell? ⟨g,2,none⟩=some (.int .u64 0)∧w.cell? ⟨g,3,none⟩=some (.int .u64 0)∧w.cell? ⟨g,4,none⟩=some (.int .u64 0)∧w.cell? ⟨g,5,none⟩=some (.int .u64 0)∧∀ o,w.frozen? ⟨g,o,none⟩=false :=
 ⟨(Array.getElem?_eq_some_iff.1 h.row).1,(cell_of_row w g 0 _ _ _ h.row).trans rfl,(cell_of_row w g 1 _ _ _ h.row).trans rfl,(cell_of_row w g 2 _ _ _ h.row).trans rfl,(cell_of_row w g 3 _ _ _ h.row).trans rfl,(cell_of_row w g 4 _ _ _ h.row).trans rfl,(cell_of_row w g 5 _ _ _ h.row).trans rfl,fun o=>by simp [World.frozen?,h.row]⟩
def savK (K:Dk) (i:Nat) (z:Fz) (B:List Int) (v9:Value):Dk:={ K with Z:=K.Z.set i { z with v:=v9,L:=z.L ++ B,last:=z.L.length+B.length } }
def savB (f c a l:Int):List Int:=frameT 6 (bodyE ⟨0,f,c,a,l⟩)
theorem savB_len (f c a l:Int):(savB f c a l).length≤100:=by
 unfold savB;rw [frameT_len];have:=bodyE_len ⟨0,f,c,a,l⟩;omega
set_option maxRecDepth 100000 in
set_option maxHeartbeats 3200000 in
theorem msave_any {w:World} {base p g:Nat} {X:Nat→Prop} {K:Dk} {nm:ByteArray} {v:Vw} {cnt:Int} (H:DiskO w base p X K) (hm:ManAt w g p nm v cnt) (hX:¬ X g) (hv:v.ok) (hn:namedB nm=true) {i:Nat} (hh:hitN K.D nm i) {z:Fz} (hz:K.Z[i]? = some z) (hd:K.dead=false) (hst:K.stop=0)
 (f c a l:Int) (hf:ver48 f) (hc:ver48 c) (ha:ver48 a) (hl:ver48 l) (M:Nat) (hM:∀ z ∈ K.Z,z.L.length≤M) (hMl:M≤249900) (hsz:Maps.size K.D≤64) (hq:((Maps.size K.D * M+100:Nat):Int)≤K.q) :
 Calls Tryz.prog 164 #[ptv g,(Ed.mk 0 f c a l).val] w fun e w'=>e=.returned (.int .i64 0)∧∃ v9 cn,DiskO w' base p (Xw X w w') (savK K i z (savB f c a l) v9)∧ManAt w' g p nm (upd v f c a l) cn∧Sets (fun b=>X b ∨ b=g) w w':=by
 have hXb:=H.bd
 have hbl:base≤w.heap.size:=by obtain ⟨h,H⟩:=H;exact H.base_le
 have hgl:=(Array.getElem?_eq_some_iff.1 hm).1
 obtain ⟨lo,vf,vc,va,vl⟩:=v
 have hpl:p < w.heap.size∧X p:=by obtain ⟨h,H⟩:=H;exact ⟨(Array.getElem?_eq_some_iff.1 H.box).1,H.inX.1⟩
 have hcm:=mn_cells hm
 obtain ⟨c0,c1,c2,c3,c4,c5,c6,c7,c8,c12⟩:=hcm
 have hHP:=fun W=>eput_any ⟨0,f,c,a,l⟩ W ⟨⟨by simp,by simp⟩,hf,hc,ha,hl⟩
 have hHA:=fun W=>eapply_any ⟨lo,vf,vc,va,vl⟩ f c a l W hv hf hc ha hl
 have hsl:=savB_len f c a l
 have hbe:frameT 6 (bodyE ⟨0,f,c,a,l⟩)=savB f c a l:=rfl
 obtain ⟨BT,hBT⟩:∃ BT,savB f c a l=BT:=⟨_,rfl⟩
 rw [hBT] at hsl hbe
 obtain ⟨u,hu⟩:∃ u,upd ⟨lo,vf,vc,va,vl⟩ f c a l=u:=⟨_,rfl⟩
 simp only [hbe] at hHP
 simp only [hu] at hHA
 have hAPP:=fun (W:World) (Y:Nat→Prop) (hY:DiskO W base p Y K) (A:Option Addr) (cc:Nat) (hB:ValsAt u8v W A BT) (hA:∀ a,A=some a→BT ≠ []→a.block ≠ p)=>(fun (h2:∃ h,DiskV W base p Y K h)=>append_v h2.choose_spec hn hh hz A cc BT hB hA (by omega) M hM (by have:Maps.size K.D * M≤64 * 249900:=Nat.mul_le_mul hsz hMl;omega)) hY
 have HD:=hide H
 have HM:=hide hm
 have HXG:=hide hX
 have HHH:=hide (And.intro hn hh)
 have HZ:=hide hz
 have HAL:=hide (And.intro hd hst)
 have hML:=hM z (List.mem_of_getElem? hz)
 have HROOM:=hide (And.intro (show ¬ 250000 < z.L.length+BT.length by omega) (show ¬ K.q < ((Maps.size K.D * M+BT.length:Nat):Int) by omega))
 have HP:=hide hHP
 have HA:=hide hHA
 have HAPP:=hide hAPP
 have HSL:=hide hsl
 have HBT:=hide hBT
 have HU:=hide hu
 have HPL:=hide hpl
 have HXB:=hide (fun g hg=>(hXb g hg).2)
 have HBD:=hide (fun (W:World) (hs:w.heap.size≤W.heap.size)=>Xw.bd hXb hbl hs)
 have hza:=heap_alloc_new w (.cells #[.slice none 0 0,.slice none 0 0,.int .i64 0,.int .u64 f,.int .u64 c,.int .u64 a,.int .u64 l] 163)
 have hba:=below_alloc (Below.refl w.heap.size w) (.cells #[.slice none 0 0,.slice none 0 0,.int .i64 0,.int .u64 f,.int .u64 c,.int .u64 a,.int .u64 l] 163)
 have HZA:=hide hza
 have HBA:=hide hba
 clear H hm hX hv hn hh hz hd hst hf hc ha hl hM hMl hsz hq hHP hHA hAPP hsl hbe hBT hu hXb hML hza hba
 go_enter Tryz.func164,Tryz.ntmps164
 go_upto_region 6 with ((with_reducible refine (HP.out _).mono ?_);rintro e w1 ⟨v1,rfl,ho1,hg1⟩;obtain ⟨A1,cc1,rfl,hr1,ha1,_⟩:=OwnL.row (cells:=one1 u8v) (sz:=1) (fun _=>rfl) ho1;have HR1:=hide hr1;have HA1:=hide ha1;have HG1:=hide hg1;clear ho1 hr1 ha1 hg1)
 have hz1:=(HG1.out.block w.heap.size (by simp)).trans HZA.out
 have hb1:=below_step HBA.out HG1.out
 have hm1:=(hb1.block g hgl).trans HM.out
 have HZ1:=hide hz1
 have HB1:=hide hb1
 have HM1:=hide hm1
 have hgl1:g < w1.heap.size:=Nat.lt_of_lt_of_le hgl hb1.size
 have hwl1:w.heap.size < w1.heap.size:=(Array.getElem?_eq_some_iff.1 hz1).1
 clear hz1 hb1 hm1 c0 c1 c2 c3 c4 c5 c6 c7 c8 c12 HP HG1 HZA HBA
 go_cut [7,8] (fun p7 b8 W=>∃ gz,p7=.pointer (some ⟨gz,0,none⟩)∧b8=.bool true∧W.heap[gz]? = some (.cells #[.int .i64 u.log,.slice none 0 0,.int .u64 u.fl,.int .u64 u.ce,.int .u64 u.at_,.int .u64 u.le] 142 (0,0))∧w1.heap.size≤gz∧Below w1.heap.size w1 W)
 case first =>
  obtain ⟨u0,u1,u2,u3,u4⟩:=u
  obtain ⟨ud,hud⟩:∃ ud,w1.drew=ud:=⟨_,rfl⟩
  have HUD:Hid (Below w1.heap.size w1 ud):=hide (by rw [← hud];exact (Below.refl _ _).drew)
  have HS:Hid (Below ud.heap.size ud ud):=hide (Below.refl _ _)
  have HCM:Hid (∀ W,Below ud.heap.size ud W→_):=hide (fun W hW=>mn_cells (((below_step HUD.out hW).block g hgl1).trans HM1.out))
  have HCE:Hid (∀ W,Below ud.heap.size ud W→_):=hide (fun W hW=>ed_cells (v:=⟨0,f,c,a,l⟩) (((below_step HUD.out hW).block w.heap.size hwl1).trans HZ1.out))
  refine j_start [] (by kernel_rfl) ?_
  rw [hud]
  clear hud
  refine' j_th 0 [] rfl (by kernel_rfl) rfl ?y0n1 HS.out ?r0n1
  case y0n1=>(intro w' hw';go_simp;try with_reducible rfl)
  try go_frame
  refine' j_th 1 [] rfl (by kernel_rfl) rfl ?y1n2 HS.out ?r1n2
  case y1n2=>(intro w' hw';go_simp;try with_reducible rfl)
  try go_frame
  refine' j_th 2 [] rfl (by kernel_rfl) rfl ?y2n3 HS.out ?r2n3
  case y2n3=>(intro w' hw';go_simp;try with_reducible rfl)
  try go_frame
  refine' j_th 3 [] rfl (by kernel_rfl) rfl ?y3n4 HS.out ?r3n4
  case y3n4=>(intro w' hw';obtain ⟨c0,c1,c2,c3,c4,c5,c6,c7,c8,c12⟩:=HCM.out _ hw';go_simp;try with_reducible rfl)
  try go_frame
  refine' j_th 4 [] rfl (by kernel_rfl) rfl ?y4n5 HS.out ?r4n5
  case y4n5=>(intro w' hw';obtain ⟨x0,x1,x2,x3,x4,x5,x6⟩:=HCE.out _ hw';go_simp;try with_reducible rfl)
  try go_frame
  refine' wpAnyJ_step2 (i:=5) (j:=9) (oi:=_) (oj:=_) (by kernel_rfl) ?han6 ?hbn6 (fun KK hK=>?san6) (fun KK hK=>?sbn6)
  case han6=>(simp only [List.getElem?_toArray,List.getElem?_cons_succ,List.getElem?_cons_zero];rfl)
  case hbn6=>(simp only [List.getElem?_toArray,List.getElem?_cons_succ,List.getElem?_cons_zero];rfl)
  case san6 =>
   go_simp
   refine (Calls.mono (HA.out _) ?_);rintro e u5 ⟨rfl,gg⟩
   have HS:=hide (below_step HS.out gg)
   refine hK.out _ _ HS.out ?_
   clear hK KK gg
   try go_frame
   refine' j_th 6 [] rfl (by kernel_rfl) rfl ?y6n7 HS.out ?r6n7
   case y6n7=>(intro w' hw';go_simp;try with_reducible rfl)
   try go_frame
   refine' j_th 7 [] rfl (by kernel_rfl) rfl ?y7n8 HS.out ?r7n8
   case y7n8=>(intro w' hw';go_simp;try with_reducible rfl)
   try go_frame
   refine' j_th 8 [] rfl (by kernel_rfl) rfl ?y8n9 HS.out ?r8n9
   case y8n9=>(intro w' hw';go_simp;try with_reducible rfl)
   try go_frame
   refine' wpAnyJ_step (i:=9) (o:=_) (by kernel_rfl) ?ho9n10 (fun KK hK=>?step9n10)
   case ho9n10=>(simp only [List.getElem?_toArray,List.getElem?_cons_succ,List.getElem?_cons_zero];rfl)
   go_simp
   have hal:=below_alloc (Below.refl (u5).heap.size (u5)) (.cells #[.int .i64 0,.slice none 0 0,.int .u64 0,.int .u64 0,.int .u64 0,.int .u64 0] 142)
   have HZV:Hid (Zv ((u5).alloc (.cells #[.int .i64 0,.slice none 0 0,.int .u64 0,.int .u64 0,.int .u64 0,.int .u64 0] 142)) (u5).heap.size):=hide ⟨heap_alloc_new (u5) (.cells #[.int .i64 0,.slice none 0 0,.int .u64 0,.int .u64 0,.int .u64 0,.int .u64 0] 142)⟩
   obtain ⟨gz,hgz⟩:∃ gz,(u5).heap.size=gz:=⟨_,rfl⟩
   have HGG:Hid (ud.heap.size≤gz):=hide (by rw [← hgz];exact HS.out.size)
   have HS:=hide (below_step HS.out hal)
   rw [hgz] at HZV
   try rw [hgz]
   obtain ⟨u59,hu59⟩:∃ u59,(u5).alloc (.cells #[.int .i64 0,.slice none 0 0,.int .u64 0,.int .u64 0,.int .u64 0,.int .u64 0] 142)=u59:=⟨_,rfl⟩
   rw [hu59] at HZV HS
   try rw [hu59]
   clear hal hgz hu59
   refine hK.out _ _ HS.out ?_
   clear hK KK
   try go_frame
   refine' wpAnyJ_step (i:=10) (o:=_) (by kernel_rfl) ?ho10n11 (fun KK hK=>?step10n11)
   case ho10n11=>(simp only [List.getElem?_toArray,List.getElem?_cons_succ,List.getElem?_cons_zero];rfl)
   obtain ⟨zl,z0,z1,z2,z3,z4,z5,zf⟩:=Zv.cells HZV.out
   have zf0:=zf 0;have zf1:=zf 1;have zf2:=zf 2;have zf3:=zf 3;have zf4:=zf 4;have zf5:=zf 5
   clear zf
   go_simp
   have HY:Hid ((((((((u59).setCell ⟨gz,0,none⟩ (.int .i64 u0)).setCell ⟨gz,1,none⟩ (.slice none 0 0)).setCell ⟨gz,2,none⟩ (.int .u64 u1)).setCell ⟨gz,3,none⟩ (.int .u64 u2)).setCell ⟨gz,4,none⟩ (.int .u64 u3)).setCell ⟨gz,5,none⟩ (.int .u64 u4)).heap[gz]? = some (.cells #[.int .i64 u0,.slice none 0 0,.int .u64 u1,.int .u64 u2,.int .u64 u3,.int .u64 u4] 142 (0,0))):=hide (vw_put HZV.out.row _ _ _ _ _ _)
   have hgz0:=HGG.out
   have hb1:=HS.out
   have HS:Hid (Below ud.heap.size ud (((((((u59).setCell ⟨gz,0,none⟩ (.int .i64 u0)).setCell ⟨gz,1,none⟩ (.slice none 0 0)).setCell ⟨gz,2,none⟩ (.int .u64 u1)).setCell ⟨gz,3,none⟩ (.int .u64 u2)).setCell ⟨gz,4,none⟩ (.int .u64 u3)).setCell ⟨gz,5,none⟩ (.int .u64 u4))):=hide ((((((hb1.setCell hgz0 _).setCell hgz0 _).setCell hgz0 _).setCell hgz0 _).setCell hgz0 _).setCell hgz0 _)
   refine hK.out _ _ HS.out ?_
   clear hK KK z0 z1 z2 z3 z4 z5 zl hgz0 hb1 zf0 zf1 zf2 zf3 zf4 zf5
   obtain ⟨u5910,hu5910⟩:∃ u5910,((((((u59).setCell ⟨gz,0,none⟩ (.int .i64 u0)).setCell ⟨gz,1,none⟩ (.slice none 0 0)).setCell ⟨gz,2,none⟩ (.int .u64 u1)).setCell ⟨gz,3,none⟩ (.int .u64 u2)).setCell ⟨gz,4,none⟩ (.int .u64 u3)).setCell ⟨gz,5,none⟩ (.int .u64 u4)=u5910:=⟨_,rfl⟩
   rw [hu5910] at HY HS
   try rw [hu5910]
   clear hu5910
   try go_frame
   refine' j_th 11 [] rfl (by kernel_rfl) rfl ?y11n12 HS.out ?r11n12
   case y11n12=>(intro w' hw';go_simp;try with_reducible rfl)
   try go_frame
   refine wpAnyJ_done (by kernel_rfl) ?_ _
   refine NoPanic.normal ?_
   go_wp2_with fail
   go_meet
   exact ⟨gz,rfl,rfl,HY.out,by have h1:=HUD.out.size;have h2:=HGG.out;omega,below_step HUD.out HS.out⟩
  case sbn6 =>
   go_simp
   have hal:=below_alloc (Below.refl (ud).heap.size (ud)) (.cells #[.int .i64 0,.slice none 0 0,.int .u64 0,.int .u64 0,.int .u64 0,.int .u64 0] 142)
   have HZV:Hid (Zv ((ud).alloc (.cells #[.int .i64 0,.slice none 0 0,.int .u64 0,.int .u64 0,.int .u64 0,.int .u64 0] 142)) (ud).heap.size):=hide ⟨heap_alloc_new (ud) (.cells #[.int .i64 0,.slice none 0 0,.int .u64 0,.int .u64 0,.int .u64 0,.int .u64 0] 142)⟩
   obtain ⟨gz,hgz⟩:∃ gz,(ud).heap.size=gz:=⟨_,rfl⟩
   have HGG:Hid (ud.heap.size≤gz):=hide (by rw [← hgz];exact HS.out.size)
   have HS:=hide (below_step HS.out hal)
   rw [hgz] at HZV
   try rw [hgz]
   obtain ⟨u9,hu9⟩:∃ u9,(ud).alloc (.cells #[.int .i64 0,.slice none 0 0,.int .u64 0,.int .u64 0,.int .u64 0,.int .u64 0] 142)=u9:=⟨_,rfl⟩
   rw [hu9] at HZV HS
   try rw [hu9]
   clear hal hgz hu9
   refine hK.out _ _ HS.out ?_
   clear hK KK
   try go_frame
   refine' wpAnyJ_step (i:=5) (o:=_) (by kernel_rfl) ?ho5n13 (fun KK hK=>?step5n13)
   case ho5n13=>(simp only [List.getElem?_toArray,List.getElem?_cons_succ,List.getElem?_cons_zero];rfl)
   go_simp
   refine (Calls.mono (HA.out _) ?_);rintro e u95 ⟨rfl,gg⟩
   have HZV:=hide (HZV.out.below gg)
   have HS:=hide (below_step HS.out gg)
   refine hK.out _ _ HS.out ?_
   clear hK KK gg
   try go_frame
   refine' j_th 6 [] rfl (by kernel_rfl) rfl ?y6n14 HS.out ?r6n14
   case y6n14=>(intro w' hw';go_simp;try with_reducible rfl)
   try go_frame
   refine' j_th 7 [] rfl (by kernel_rfl) rfl ?y7n15 HS.out ?r7n15
   case y7n15=>(intro w' hw';go_simp;try with_reducible rfl)
   try go_frame
   refine' j_th 8 [] rfl (by kernel_rfl) rfl ?y8n16 HS.out ?r8n16
   case y8n16=>(intro w' hw';go_simp;try with_reducible rfl)
   try go_frame
   refine' wpAnyJ_step (i:=10) (o:=_) (by kernel_rfl) ?ho10n17 (fun KK hK=>?step10n17)
   case ho10n17=>(simp only [List.getElem?_toArray,List.getElem?_cons_succ,List.getElem?_cons_zero];rfl)
   obtain ⟨zl,z0,z1,z2,z3,z4,z5,zf⟩:=Zv.cells HZV.out
   have zf0:=zf 0;have zf1:=zf 1;have zf2:=zf 2;have zf3:=zf 3;have zf4:=zf 4;have zf5:=zf 5
   clear zf
   go_simp
   have HY:Hid ((((((((u95).setCell ⟨gz,0,none⟩ (.int .i64 u0)).setCell ⟨gz,1,none⟩ (.slice none 0 0)).setCell ⟨gz,2,none⟩ (.int .u64 u1)).setCell ⟨gz,3,none⟩ (.int .u64 u2)).setCell ⟨gz,4,none⟩ (.int .u64 u3)).setCell ⟨gz,5,none⟩ (.int .u64 u4)).heap[gz]? = some (.cells #[.int .i64 u0,.slice none 0 0,.int .u64 u1,.int .u64 u2,.int .u64 u3,.int .u64 u4] 142 (0,0))):=hide (vw_put HZV.out.row _ _ _ _ _ _)
   have hgz0:=HGG.out
   have hb1:=HS.out
   have HS:Hid (Below ud.heap.size ud (((((((u95).setCell ⟨gz,0,none⟩ (.int .i64 u0)).setCell ⟨gz,1,none⟩ (.slice none 0 0)).setCell ⟨gz,2,none⟩ (.int .u64 u1)).setCell ⟨gz,3,none⟩ (.int .u64 u2)).setCell ⟨gz,4,none⟩ (.int .u64 u3)).setCell ⟨gz,5,none⟩ (.int .u64 u4))):=hide ((((((hb1.setCell hgz0 _).setCell hgz0 _).setCell hgz0 _).setCell hgz0 _).setCell hgz0 _).setCell hgz0 _)
   refine hK.out _ _ HS.out ?_
   clear hK KK z0 z1 z2 z3 z4 z5 zl hgz0 hb1 zf0 zf1 zf2 zf3 zf4 zf5
   obtain ⟨u9510,hu9510⟩:∃ u9510,((((((u95).setCell ⟨gz,0,none⟩ (.int .i64 u0)).setCell ⟨gz,1,none⟩ (.slice none 0 0)).setCell ⟨gz,2,none⟩ (.int .u64 u1)).setCell ⟨gz,3,none⟩ (.int .u64 u2)).setCell ⟨gz,4,none⟩ (.int .u64 u3)).setCell ⟨gz,5,none⟩ (.int .u64 u4)=u9510:=⟨_,rfl⟩
   rw [hu9510] at HY HS
   try rw [hu9510]
   clear hu9510
   try go_frame
   refine' j_th 11 [] rfl (by kernel_rfl) rfl ?y11n18 HS.out ?r11n18
   case y11n18=>(intro w' hw';go_simp;try with_reducible rfl)
   try go_frame
   refine wpAnyJ_done (by kernel_rfl) ?_ _
   refine NoPanic.normal ?_
   go_wp2_with fail
   go_meet
   exact ⟨gz,rfl,rfl,HY.out,by have h1:=HUD.out.size;have h2:=HGG.out;omega,below_step HUD.out HS.out⟩
 case rest =>
  obtain ⟨gz,rfl,rfl,hzv,hge,hbc⟩:=hcut
  obtain ⟨u0,u1,u2,u3,u4⟩:=u
  simp only at hzv
  have hmc:=(hbc.block g hgl1).trans HM1.out
  have HMC:=hide hmc
  have HZV:=hide hzv
  have HBC:=hide hbc
  have HBW:=hide (below_step HB1.out hbc)
  have hglc:g < wc.heap.size:=Nat.lt_of_lt_of_le hgl1 hbc.size
  have hgzc:gz < wc.heap.size:=(Array.getElem?_eq_some_iff.1 hzv).1
  have hgne:¬ gz=g:=by omega
  have hgzw:w.heap.size≤gz:=by have:=HB1.out.size;omega
  have HGZW:=hide hgzw
  have HDC:=hide (HD.out.below (below_step HBW.out (Below.refl _ wc).drew))
  have HCM:Hid (∀ W,Below wc.drew.heap.size wc.drew W→_):=hide (fun W hW=>mn_cells (((below_step (Below.refl _ wc).drew hW).block g hglc).trans HMC.out))
  have HAP:=hide (HAPP.out wc.drew X HDC.out A1 cc1 ((HR1.out.below HBC.out).below (Below.refl _ wc).drew) (fun a ha _=>by
   have h1:=(HA1.out a.block a.off a.spot (by rw [ha])).1
   have h2:=HPL.out.1
   simp only [World.size_alloc] at h1
   omega))
  clear hmc hzv hbc hge hgzw HA
  go_upto_region 9 with fail
  refine j_start [9,10] (by kernel_rfl) ?_
  refine' j_t 0 [1,2,3,9,10] rfl (by kernel_rfl) rfl ?y0c ?r0c
  case y0c=>(intro w' hw';go_simp;try with_reducible rfl)
  try go_frame
  refine' j_t 1 [2,3,9,10] rfl (by kernel_rfl) rfl ?y1c ?r1c
  case y1c=>(intro w' hw';go_simp;try with_reducible rfl)
  try go_frame
  refine' j_t 2 [3,9,10] rfl (by kernel_rfl) rfl ?y2c ?r2c
  case y2c=>(intro w' hw';go_simp;try with_reducible rfl)
  try go_frame
  refine' j_t 3 [9,10] rfl (by kernel_rfl) rfl ?y3c ?r3c
  case y3c=>(intro w' hw';obtain ⟨c0,c1,c2,c3,c4,c5,c6,c7,c8,c12⟩:=HCM.out _ hw';go_simp;try with_reducible rfl)
  try go_frame
  refine' j_t 4 [5,6,7,9,10] rfl (by kernel_rfl) rfl ?y4c ?r4c
  case y4c=>(intro w' hw';go_simp;try with_reducible rfl)
  try go_frame
  refine' j_t 5 [6,7,9,10] rfl (by kernel_rfl) rfl ?y5c ?r5c
  case y5c=>(intro w' hw';go_simp;try with_reducible rfl)
  try go_frame
  refine' j_t 6 [7,9,10] rfl (by kernel_rfl) rfl ?y6c ?r6c
  case y6c=>(intro w' hw';go_simp;try with_reducible rfl)
  try go_frame
  refine' j_t 7 [9,10] rfl (by kernel_rfl) rfl ?y7c ?r7c
  case y7c=>(intro w' hw';obtain ⟨c0,c1,c2,c3,c4,c5,c6,c7,c8,c12⟩:=HCM.out _ hw';go_simp;try with_reducible rfl)
  try go_frame
  refine' j_t 8 [9,10] rfl (by kernel_rfl) rfl ?y8c ?r8c
  case y8c=>(intro w' hw';go_simp;try with_reducible rfl)
  try go_frame
  refine' wpAnyJ_last (i:=9) (o:=_) (by kernel_rfl) ?ho9c (by kernel_rfl) (fun KK hK=>?step9c)
  case ho9c=>(simp only [List.getElem?_toArray,List.getElem?_cons_succ,List.getElem?_cons_zero];rfl)
  go_simp
  refine (Calls.mono (HAP.out) ?_);rintro e u1c ⟨ee,K1,rfl,hto,hdo,hst⟩
  have HTO:=hide hto;have HDO:=hide hdo;have HST:=hide hst
  clear hto hdo hst
  refine hK.out _ _ ?_
  clear hK KK
  try go_frame
  refine' wpAnyJ_last (i:=10) (o:=_) (by kernel_rfl) ?ho10c (by kernel_rfl) (fun KK hK=>?step10c)
  case ho10c=>(simp only [List.getElem?_toArray,List.getElem?_cons_succ,List.getElem?_cons_zero];rfl)
  go_simp
  refine hK.out _ _ ?_
  clear hK KK
  try go_frame
  refine wpAnyJ_done (by kernel_rfl) ?_ _
  refine NoPanic.normal ?_
  have HK1:Hid (ee=0∧∃ v9,K1={ K with Z:=K.Z.set i { z with v:=v9,L:=z.L ++ BT } }):=hide (by
   rcases HTO.out with ⟨_,_,hb⟩ | ⟨h1,_,_,v9,hk⟩
   ·rcases hb with h1 | h1 | h1
    ·rw [HAL.out.1] at h1;cases h1
    ·have h2:=HROOM.out.1;omega
    ·have h2:=HROOM.out.2;omega
   ·exact ⟨h1,v9,by rw [hk,callD_alive HAL.out.1 HAL.out.2]⟩)
  obtain ⟨hee,v9,hk1⟩:=HK1.out
  subst hee
  have HK1:=hide hk1
  have hS1:Sets X w u1c:=(Sets.of (S:=X) (below_step HBW.out (Below.refl _ wc).drew)).trans HST.out (fun _ _ e=>e)
  have hm1:=(HST.out.block g (by simpa using hglc) HXG.out).trans HMC.out
  have hzu:u1c.heap[gz]? = some (.cells #[.int .i64 u0,.slice none 0 0,.int .u64 u1,.int .u64 u2,.int .u64 u3,.int .u64 u4] 142 (0,0)):=(HST.out.block gz (by simpa using hgzc) (fun e=>by have:=HXB.out gz e;have:=HGZW.out;omega)).trans HZV.out
  obtain ⟨_,_,_,_,_,_,_,_,c8,_⟩:=mn_cells (v:=⟨lo,vf,vc,va,vl⟩) hm1
  obtain ⟨y0,y1,y2,y3,y4,y5⟩:=vw_cells (v:=⟨u0,u1,u2,u3,u4⟩) hzu
  have yf:∀ o,u1c.frozen? ⟨g,o,none⟩=false:=fun o=>by simp [World.frozen?,hm1]
  have yf8:=yf 8;have yf2:=yf 2;have yf3:=yf 3;have yf4:=yf 4;have yf5:=yf 5;have yf6:=yf 6;have yf7:=yf 7
  obtain ⟨cn,hcn⟩:∃ cn,wrap64 (cnt+1)=cn:=⟨_,rfl⟩
  have hglu:g < u1c.heap.size:=(Array.getElem?_eq_some_iff.1 hm1).1
  have hgzu:gz < u1c.heap.size:=(Array.getElem?_eq_some_iff.1 hzu).1
  have hgne2:¬ g=gz:=fun e=>hgne e.symm
  have HM1:=hide hm1
  have HS1:=hide hS1
  clear hm1 hzu yf hS1 hk1 HTO HAP HCM
  go_upto_region 14 with fail
  have hm5:ManAt (((((((u1c.setCell ⟨g,8,none⟩ (.int .i64 cn)).setCell ⟨g,2,none⟩ (.int .i64 u0)).setCell ⟨g,3,none⟩ (.slice none 0 0)).setCell ⟨g,4,none⟩ (.int .u64 u1)).setCell ⟨g,5,none⟩ (.int .u64 u2)).setCell ⟨g,6,none⟩ (.int .u64 u3)).setCell ⟨g,7,none⟩ (.int .u64 u4)) g p nm ⟨u0,u1,u2,u3,u4⟩ cn:=mn_set 7 _ (mn_set 6 _ (mn_set 5 _ (mn_set 4 _ (mn_set 3 _ (mn_set 2 _ (mn_set 8 (.int .i64 cn) HM1.out))))))
  have hS5:Sets (fun b=>b=g) u1c (((((((u1c.setCell ⟨g,8,none⟩ (.int .i64 cn)).setCell ⟨g,2,none⟩ (.int .i64 u0)).setCell ⟨g,3,none⟩ (.slice none 0 0)).setCell ⟨g,4,none⟩ (.int .u64 u1)).setCell ⟨g,5,none⟩ (.int .u64 u2)).setCell ⟨g,6,none⟩ (.int .u64 u3)).setCell ⟨g,7,none⟩ (.int .u64 u4)):=((((((sets1 u1c g 8 (.int .i64 cn)).set (g:=g) (fun _=>rfl) 2 _).set (g:=g) (fun _=>rfl) 3 _).set (g:=g) (fun _=>rfl) 4 _).set (g:=g) (fun _=>rfl) 5 _).set (g:=g) (fun _=>rfl) 6 _).set (g:=g) (fun _=>rfl) 7 _
  obtain ⟨w5,hw5⟩:∃ w5,((((((u1c.setCell ⟨g,8,none⟩ (.int .i64 cn)).setCell ⟨g,2,none⟩ (.int .i64 u0)).setCell ⟨g,3,none⟩ (.slice none 0 0)).setCell ⟨g,4,none⟩ (.int .u64 u1)).setCell ⟨g,5,none⟩ (.int .u64 u2)).setCell ⟨g,6,none⟩ (.int .u64 u3)).setCell ⟨g,7,none⟩ (.int .u64 u4)=w5:=⟨_,rfl⟩
  rw [hw5] at hm5 hS5 ⊢
  have HM5:=hide hm5
  have HS5:=hide hS5
  have hglw:g < w5.heap.size:=(Array.getElem?_eq_some_iff.1 hm5).1
  have HCM:Hid (∀ W,Below w5.drew.heap.size w5.drew W→_):=hide (fun W hW=>mn_cells (((below_step (Below.refl _ w5).drew hW).block g hglw).trans hm5))
  have HD5:Hid (DiskO w5.drew base p (Xw X w w5) K1):=hide (((HDO.out.sets hS5 (fun b hb e=>by
   subst e
   rcases hb with hb | hb
   ·exact HXG.out hb
   ·have:wc.drew.heap.size=wc.heap.size:=rfl
    omega)).below (Below.refl _ w5).drew).wide (fun b hb=>by
   have h1:=HBW.out.size
   have h2:=hS5.size
   rcases hb with hb | hb
   ·exact .inl hb
   ·have h3:wc.drew.heap.size=wc.heap.size:=rfl
    exact .inr ⟨by omega,by omega⟩) (HBD.out _ (Nat.le_trans HS1.out.size hS5.size)))
  have hlz:i < K.Z.length:=(List.getElem?_eq_some_iff.1 HZ.out).1
  have hz5:K1.Z[i]? = some { z with v:=v9,L:=z.L ++ BT }:=by rw [HK1.out];exact List.getElem?_set_self (by simpa using hlz)
  have HAQ:=hide ((fun (h2:∃ h,DiskV w5.drew base p (Xw X w w5) K1 h)=>sync_v h2.choose_spec HHH.out.1 (show hitN K1.D nm i by rw [HK1.out];exact HHH.out.2) hz5) HD5.out)
  clear hw5 hm5 hS5 hz5 hlz c8 y0 y1 y2 y3 y4 y5 yf8 yf2 yf3 yf4 yf5 yf6 yf7 HDO HST hcn
  refine j_start [8,9] (by kernel_rfl) ?_
  refine' j_t 0 [1,2,3,8,9] rfl (by kernel_rfl) rfl ?y0d ?r0d
  case y0d=>(intro w' hw';go_simp;try with_reducible rfl)
  try go_frame
  refine' j_t 1 [2,3,8,9] rfl (by kernel_rfl) rfl ?y1d ?r1d
  case y1d=>(intro w' hw';go_simp;try with_reducible rfl)
  try go_frame
  refine' j_t 2 [3,8,9] rfl (by kernel_rfl) rfl ?y2d ?r2d
  case y2d=>(intro w' hw';go_simp;try with_reducible rfl)
  try go_frame
  refine' j_t 3 [8,9] rfl (by kernel_rfl) rfl ?y3d ?r3d
  case y3d=>(intro w' hw';obtain ⟨c0,c1,c2,c3,c4,c5,c6,c7,c8,c12⟩:=HCM.out _ hw';go_simp;try with_reducible rfl)
  try go_frame
  refine' j_t 4 [5,6,7,8,9] rfl (by kernel_rfl) rfl ?y4d ?r4d
  case y4d=>(intro w' hw';go_simp;try with_reducible rfl)
  try go_frame
  refine' j_t 5 [6,7,8,9] rfl (by kernel_rfl) rfl ?y5d ?r5d
  case y5d=>(intro w' hw';go_simp;try with_reducible rfl)
  try go_frame
  refine' j_t 6 [7,8,9] rfl (by kernel_rfl) rfl ?y6d ?r6d
  case y6d=>(intro w' hw';go_simp;try with_reducible rfl)
  try go_frame
  refine' j_t 7 [8,9] rfl (by kernel_rfl) rfl ?y7d ?r7d
  case y7d=>(intro w' hw';obtain ⟨c0,c1,c2,c3,c4,c5,c6,c7,c8,c12⟩:=HCM.out _ hw';go_simp;try with_reducible rfl)
  try go_frame
  refine' wpAnyJ_last (i:=8) (o:=_) (by kernel_rfl) ?ho8d (by kernel_rfl) (fun KK hK=>?step8d)
  case ho8d=>(simp only [List.getElem?_toArray,List.getElem?_cons_succ,List.getElem?_cons_zero];rfl)
  go_simp
  refine (Calls.mono (HAQ.out) ?_);rintro e u1d ⟨ee,K2,rfl,hto,hdo,hst⟩
  have HTP:=hide hto;have HDP:=hide hdo;have HSP:=hide hst
  clear hto hdo hst
  refine hK.out _ _ ?_
  clear hK KK
  try go_frame
  refine' wpAnyJ_last (i:=9) (o:=_) (by kernel_rfl) ?ho9d (by kernel_rfl) (fun KK hK=>?step9d)
  case ho9d=>(simp only [List.getElem?_toArray,List.getElem?_cons_succ,List.getElem?_cons_zero];rfl)
  go_simp
  refine hK.out _ _ ?_
  clear hK KK
  try go_frame
  refine wpAnyJ_done (by kernel_rfl) ?_ _
  refine NoPanic.normal ?_
  have HK2:Hid (ee=0∧K2=savK K i z BT v9):=hide (by
   have hk1:=HK1.out
   have hd1:K1.dead=false:=by rw [hk1];exact HAL.out.1
   have hs1:K1.stop=0:=by rw [hk1];exact HAL.out.2
   rcases HTP.out with ⟨_,_,hb⟩ | ⟨h1,_,hk⟩
   ·rw [hd1] at hb;cases hb
   ·refine ⟨h1,?_⟩
    rw [hk,callD_alive hd1 hs1,hk1]
    unfold savK
    simp [List.set_set])
  obtain ⟨hee,hk2⟩:=HK2.out
  subst hee
  have HKF:=hide hk2
  clear HK2
  clear hk2 HTP HAQ HCM
  go_wp2_with fail
  go_ret
  have hglw5:w5.drew.heap.size=w5.heap.size:=rfl
  have hS:Sets (fun b=>X b ∨ b=g) w w5:=(HS1.out.up (T:=fun b=>X b ∨ b=g) (fun _ e=>.inl e)).trans (HS5.out.up (T:=fun b=>X b ∨ b=g) (fun _ e=>.inr e)) (fun _ _ e=>e)
  have hSd:Sets (fun b=>X b ∨ b=g) w w5.drew:=hS.drew
  have hSX:∀ b,Xw X w w5 b→b < w.heap.size→X b ∨ b=g:=fun b hb hlt=>by
   rcases hb with hb | hb
   ·exact .inl hb
   ·omega
  refine ⟨rfl,⟨v9,?_⟩,⟨cn,?_⟩,?_⟩
  ·rw [HBT.out,← HKF.out]
   refine HDP.out.wide (fun b hb=>?_) (HBD.out _ (Nat.le_trans hSd.size HSP.out.size))
   rcases hb with (hb | hb) | hb
   ·exact .inl hb
   ·exact .inr ⟨hb.1,Nat.lt_of_lt_of_le hb.2 HSP.out.size⟩
   ·exact .inr ⟨Nat.le_trans hSd.size hb.1,hb.2⟩
  ·rw [HU.out]
   exact (show ManAt w5.drew g p nm ⟨u0,u1,u2,u3,u4⟩ cn from HM5.out).sets HSP.out (fun e=>by
    rcases e with e | e
    ·exact HXG.out e
    ·have:=hgl;omega)
  ·exact ⟨HSP.out.os.trans hSd.os,HSP.out.tape.trans hSd.tape,HSP.out.output.trans hSd.output,Nat.le_trans hSd.size HSP.out.size,fun b hb hn=>(HSP.out.block b (Nat.lt_of_lt_of_le hb hSd.size) (fun e=>hn (hSX b e hb))).trans (hSd.block b hb hn)⟩
end Go.Proofs.YtgmkckjedngkdaaGreatDoor
