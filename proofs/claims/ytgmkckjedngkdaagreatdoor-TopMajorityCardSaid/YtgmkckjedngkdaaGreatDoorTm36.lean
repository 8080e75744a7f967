/- A part of the proof that TopMajorityLaw holds: XZJob. Conditions: as typed. -/
import Derived.Test.YtgmkckjedngkdaaGreatDoorTm35
set_option linter.unusedVariables false
set_option linter.unusedSimpArgs false
namespace Go.Proofs.YtgmkckjedngkdaaGreatDoor
open Go.ChangeShapes Go.WideShapes Go.ChangeAt Go.RowKit
set_option maxRecDepth 100000 in
set_option maxHeartbeats 1600000 in
theorem each1_any {w:World} {base b:Nat} {X:Nat→Prop} {R:Co} (h:CoB w base b X R) (hl:R.AL.length≤1099511627776):Calls Tryz.prog 179 #[jobV b] w fun e w'=>e=.returned (.bool R.dn)∧Below w.heap.size w w':=by
 have HD:=hide (cdone_any h.o hl)
 clear h hl
 unfold jobV
 go_enter Tryz.func179,Tryz.ntmps179
 go_wp2_with ((with_reducible refine (HD.out).mono ?_);rintro e w1 ⟨v,rfl,ho,hg⟩;obtain ⟨A1,c1,rfl,_⟩:=OwnL.row It.cells_len ho;have HG:=hide hg;clear ho hg)
 go_ret
 exact ⟨rfl,below_alloc HG.out _⟩
theorem jidx_none (A:Option Addr) (c:Nat) (f:Value) (w:World):Calls Tryz.prog 238 #[.slice A 0 c,f] w fun e w'=>e=.returned (.int .i64 (-1))∧Below w.heap.size w w':=by
 go_enter Tryz.func238,Tryz.ntmps238
 go_wp2
 go_loopw [8] (fun i wr=>i=.int .i64 0∧wr=w) (fun _ _=>0)
 case atStart=>exact ⟨rfl,rfl⟩
 case round =>
  obtain ⟨rfl,rfl⟩:=hrel
  go_wp2
  go_ret
  exact ⟨rfl,Below.refl _ _⟩
set_option maxRecDepth 100000 in
set_option maxHeartbeats 1600000 in
theorem jidx_one {w:World} {g c:Nat} {b:Nat} (hc:w.cell? ⟨g,0,none⟩=some (jobV b)) (hg:g < w.heap.size) (d:Bool) (hd:Calls Tryz.prog 179 #[jobV b] w fun e w'=>e=.returned (.bool d)∧Below w.heap.size w w') :
 Calls Tryz.prog 238 #[.slice (some ⟨g,0,none⟩) 1 c,.func (.func 179) #[] #[]] w fun e w'=>e=.returned (.int .i64 (if d=true then 0 else -1))∧Below w.heap.size w w':=by
 have HD:=hide hd
 unfold jobV at HD hc
 clear hd
 go_enter Tryz.func238,Tryz.ntmps238
 go_wp2
 go_loopw [8] (fun i wr=>(i=.int .i64 0∧wr=w) ∨ (i=.int .i64 1∧d=false∧Below w.heap.size w wr)) (fun i _=>2 - (intOf i).toNat)
 case atStart=>exact .inl ⟨rfl,rfl⟩
 case round =>
  rcases hrel with ⟨rfl,rfl⟩ | ⟨rfl,hdf,hB⟩
  ·cases d
   ·go_wp2_with ((with_reducible refine (HD.out).mono ?_);rintro e w1 ⟨rfl,hg1⟩;have HG1:=hide hg1;clear hg1)
    go_roundw
    case rel=>exact .inr ⟨by go_num,trivial,HG1.out⟩
    case measure=>simp [intOf]
   ·go_wp2_with ((with_reducible refine (HD.out).mono ?_);rintro e w1 ⟨rfl,hg1⟩;have HG1:=hide hg1;clear hg1)
    go_ret
    exact ⟨rfl,HG1.out⟩
  ·subst hdf
   have HB:=hide hB
   clear hB
   go_wp2
   go_ret
   exact ⟨rfl,HB.out⟩
theorem jdel_none (A:Option Addr) (c:Nat) (f:Value) (w:World):Calls Tryz.prog 178 #[.slice A 0 c,f] w fun e w'=>e=.returned (.slice A 0 c)∧Below w.heap.size w w':=by
 have HI:=hide (jidx_none A c f w)
 go_enter Tryz.func178,Tryz.ntmps178
 go_wp2_with ((with_reducible refine (HI.out).mono ?_);rintro e w1 ⟨rfl,hg1⟩;have HG1:=hide hg1;clear hg1)
 go_ret
 exact ⟨rfl,HG1.out⟩
theorem jdel_stay {w:World} {g c:Nat} {b:Nat} (hc:w.cell? ⟨g,0,none⟩=some (jobV b)) (hg:g < w.heap.size) (hd:Calls Tryz.prog 179 #[jobV b] w fun e w'=>e=.returned (.bool false)∧Below w.heap.size w w') :
 Calls Tryz.prog 178 #[.slice (some ⟨g,0,none⟩) 1 c,.func (.func 179) #[] #[]] w fun e w'=>e=.returned (.slice (some ⟨g,0,none⟩) 1 c)∧Below w.heap.size w w':=by
 have HI:=hide (jidx_one (c:=c) hc hg false hd)
 clear hd hc hg
 rw [show (if false=true then (0:Int) else -1)=-1 from rfl] at HI
 go_enter Tryz.func178,Tryz.ntmps178
 go_wp2_with ((with_reducible refine (HI.out).mono ?_);rintro e w1 ⟨rfl,hg1⟩;have HG1:=hide hg1;clear hg1)
 go_ret
 exact ⟨rfl,HG1.out⟩
set_option maxRecDepth 100000 in
set_option maxHeartbeats 1600000 in
theorem jdel_done {w:World} {g c:Nat} {b:Nat} {base:Nat} (ho:OwnL (one1 (fun v:Value=>v)) 1 192 base w (.slice (some ⟨g,0,none⟩) 1 c) [jobV b]) (hd:Calls Tryz.prog 179 #[jobV b] w fun e w'=>e=.returned (.bool true)∧Below w.heap.size w w') :
 Calls Tryz.prog 178 #[.slice (some ⟨g,0,none⟩) 1 c,.func (.func 179) #[] #[]] w fun e w'=>e=.returned (.slice (some ⟨g,0,none⟩) 0 c)∧OwnL (one1 (fun v:Value=>v)) 1 192 base w' (.slice (some ⟨g,0,none⟩) 0 c) []∧Sets (fun x=>x=g) w w':=by
 obtain ⟨hlen,hh⟩:=ho
 rcases hh with ⟨h0,_⟩ | ⟨g',cap,cur,he,hb,hg,hnc,hcm,hcs,htk⟩
 ·cases h0
 obtain ⟨rfl,rfl⟩:g=g'∧c=cap:=by
  injection he with e1 e2 e3
  injection e1 with e1
  injection e1 with e1
  exact ⟨e1,e3⟩
 have lg:=(Array.getElem?_eq_some_iff.1 hg).1
 have hc0:w.cell? ⟨g,0,none⟩=some (jobV b):=by
  refine (cell_of_row w g 0 _ _ _ hg).trans ?_
  have:cur.toList[0]? = some (jobV b):=by
   have h2:=congrArg (fun l=>l[0]?) htk
   simpa using h2
  simpa using this
 have HI:=hide (jidx_one (c:=c) hc0 lg true hd)
 rw [show (if true=true then (0:Int) else -1)=0 from rfl] at HI
 have HGC:=hide hg
 clear hd hc0
 go_enter Tryz.func178,Tryz.ntmps178
 go_wp2_with ((with_reducible refine (HI.out).mono ?_);rintro e w1 ⟨rfl,hg1⟩;have HG1:=hide hg1;clear hg1)
 obtain ⟨i0,hi0,hz0,hz1,hz2⟩:=info_parts (show (Tryz.prog.info? 192).map (fun i=>(i.zero,i.size,i.bytes))=some (some .nilIface,1,16) by kernel_rfl)
 go_loopw [5,6] (fun j i wr=>j=.int .i64 0∧i=.int .i64 1∧wr=w1) (fun _ _ _=>0)
 case atStart=>exact ⟨rfl,rfl,rfl⟩
 case round =>
  obtain ⟨rfl,rfl,rfl⟩:=hrel
  have hgr:wr.heap[g]? = some (.cells cur.toList.toArray 192 (0,0)):=(HG1.out.block g lg).trans (by rw [HGC.out])
  have hcl:1≤cur.toList.length:=by rw [Array.length_toList,hcs];have:1≤c:=hnc;omega
  have HGR:=hide hgr
  have HCL:=hide hcl
  clear hgr hcl
  have hc0:(0:Int)≤(c:Int):=by omega
  have hc1:1≤c:=hnc
  go_wp2_with (refine wpList_clear_rowN _ rfl (.tmp 38) 102 rfl 192 i0 _ Tryz.underlying102 hi0 hz0 g 0 1 c rfl (by omega) _ 192 HGR.out (by have:=HCL.out;simpa [Value.cells] using this) (by simp [Builtin.zeroCells,Value.cells,Value.oneCell']) ?_;intro w2 hg2 hw2)
  go_ret
  have hzc:(Builtin.zeroCells Value.nilIface.cells 1).toList.length=1:=by simp [Builtin.zeroCells,Value.cells]
  refine ⟨rfl,⟨by simp,.inr ⟨g,c,_,rfl,hb,hg2.out,by simp,hcm,?_,by simp⟩⟩,?_⟩
  ·simp only [List.size_toArray,List.length_append,List.length_take,List.length_drop,hzc,Array.length_toList]
   omega
  ·have h1:=Sets.grown hw2
   exact (Sets.of (S:=fun x=>x=g) HG1.out).trans h1 (fun x _ e=>(Option.some.inj e).symm)
end Go.Proofs.YtgmkckjedngkdaaGreatDoor
