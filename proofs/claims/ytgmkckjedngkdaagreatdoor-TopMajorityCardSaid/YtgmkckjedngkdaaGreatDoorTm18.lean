/- A part of the proof that TopMajorityLaw holds: XZMan, XZMaw. Conditions: as typed. -/
import Derived.Test.YtgmkckjedngkdaaGreatDoorTm15
import Derived.Test.YtgmkckjedngkdaaGreatDoorTm17
set_option linter.unusedVariables false
set_option linter.unusedSimpArgs false
namespace Go.Proofs.YtgmkckjedngkdaaGreatDoor
open Go.ChangeShapes Go.WideShapes Go.ChangeAt Go.RowKit
theorem vw_put {w:World} {g:Nat} {d0 d1 d2 d3 d4 d5:Value} {t:TypeId} (h:w.heap[g]? = some (.cells #[d0,d1,d2,d3,d4,d5] t (0,0))) (e0 e1 e2 e3 e4 e5:Value) :
 ((((((w.setCell ⟨g,0,none⟩ e0).setCell ⟨g,1,none⟩ e1).setCell ⟨g,2,none⟩ e2).setCell ⟨g,3,none⟩ e3).setCell ⟨g,4,none⟩ e4).setCell ⟨g,5,none⟩ e5).heap[g]? = some (.cells #[e0,e1,e2,e3,e4,e5] t (0,0)):=by
 simp [World.setCell,Array.getElem?_modify,h]
set_option maxRecDepth 100000 in
set_option maxHeartbeats 1600000 in
theorem mown_any (v:Vw) (w:World):Calls Tryz.prog 131 #[v.val] w fun e w'=>e=.returned v.val∧Below w.heap.size w w':=by
 obtain ⟨lo,f,c,a,l⟩:=v
 have happ:=fun W=>app_files0 W 140
 have hz1:=heap_alloc_new w (.cells #[.int .i64 lo,.slice none 0 0,.int .u64 f,.int .u64 c,.int .u64 a,.int .u64 l] 142)
 go_enter Tryz.func131,Tryz.ntmps131
 go_wp2_with fail
 have hz2:=heap_alloc_new (w.alloc (.cells #[.int .i64 lo,.slice none 0 0,.int .u64 f,.int .u64 c,.int .u64 a,.int .u64 l] 142)) (.cells #[.int .i64 lo,.slice none 0 0,.int .u64 f,.int .u64 c,.int .u64 a,.int .u64 l] 142)
 rw [World.size_alloc] at hz2
 obtain ⟨r0,r1,r2,r3,r4,r5⟩:=vw_cells (v:=⟨lo,f,c,a,l⟩) hz2
 refine bodyPost_ret (v:=(Vw.mk lo f c a l).val) (by simp [results,Tryz.results131,go_sem,r0,r1,r2,r3,r4,r5]) rfl ?_
 exact ⟨rfl,below_alloc (below_alloc (Below.refl _ w) _) _⟩
def mnL (p:Nat) (nm:ByteArray) (v:Vw) (cnt:Int):List Value:=[ptv p,.string nm,.int .i64 v.log,.slice none 0 0,.int .u64 v.fl,.int .u64 v.ce,.int .u64 v.at_,.int .u64 v.le,.int .i64 cnt,.int .u32 0,.int .i32 0,.int .u32 0,.bool false]
def ManAt (w:World) (g p:Nat) (nm:ByteArray) (v:Vw) (cnt:Int):Prop:=w.heap[g]? = some (.cells (mnL p nm v cnt).toArray 219 (0,0))
theorem mn_cells {w:World} {g p:Nat} {nm:ByteArray} {v:Vw} {cnt:Int} (h:ManAt w g p nm v cnt) :
 w.cell? ⟨g,0,none⟩=some (ptv p)∧w.cell? ⟨g,1,none⟩=some (.string nm)∧w.cell? ⟨g,2,none⟩=some (.int .i64 v.log)∧w.cell? ⟨g,3,none⟩=some (.slice none 0 0)∧w.cell? ⟨g,4,none⟩=some (.int .u64 v.fl)∧w.cell? ⟨g,5,none⟩=some (.int .u64 v.ce)∧w.cell? ⟨g,6,none⟩=some (.int .u64 v.at_)∧w.cell? ⟨g,7,none⟩=some (.int .u64 v.le)∧w.cell? ⟨g,8,none⟩=some (.int .i64 cnt)∧w.cell? ⟨g,12,none⟩=some (.bool false) :=
 ⟨(cell_of_row w g 0 _ _ _ h).trans rfl,(cell_of_row w g 1 _ _ _ h).trans rfl,(cell_of_row w g 2 _ _ _ h).trans rfl,(cell_of_row w g 3 _ _ _ h).trans rfl,(cell_of_row w g 4 _ _ _ h).trans rfl,(cell_of_row w g 5 _ _ _ h).trans rfl,(cell_of_row w g 6 _ _ _ h).trans rfl,(cell_of_row w g 7 _ _ _ h).trans rfl,(cell_of_row w g 8 _ _ _ h).trans rfl,(cell_of_row w g 12 _ _ _ h).trans rfl⟩
theorem mn_set {w:World} {g:Nat} {l:List Value} (o:Nat) (v:Value) (H:w.heap[g]? = some (.cells l.toArray 219 (0,0))):(w.setCell ⟨g,o,none⟩ v).heap[g]? = some (.cells (l.set o v).toArray 219 (0,0)):=by
 simp [World.setCell,Array.getElem?_modify,H]
theorem ManAt.sets {w w':World} {S:Nat→Prop} {g p:Nat} {nm:ByteArray} {v:Vw} {cnt:Int} (h:ManAt w g p nm v cnt) (k:Sets S w w') (hS:¬ S g):ManAt w' g p nm v cnt :=
 (k.block g (Array.getElem?_eq_some_iff.1 h).1 hS).trans h
set_option maxRecDepth 100000 in
set_option maxHeartbeats 1600000 in
theorem mview_any {w:World} {g p:Nat} {nm:ByteArray} {v:Vw} {cnt:Int} (h:ManAt w g p nm v cnt):Calls Tryz.prog 61 #[ptv g] w fun e w'=>e=.returned v.val∧Below w.heap.size w w':=by
 have hgl:=(Array.getElem?_eq_some_iff.1 h).1
 have hb:=below_alloc (Below.refl w.heap.size w) (.cells #[.int .i64 0,.slice none 0 0,.int .u64 0,.int .u64 0,.int .u64 0,.int .u64 0] 142)
 have hz:=heap_alloc_new w (.cells #[.int .i64 0,.slice none 0 0,.int .u64 0,.int .u64 0,.int .u64 0,.int .u64 0] 142)
 obtain ⟨wb,hwb⟩:∃ wb,w.alloc (.cells #[.int .i64 0,.slice none 0 0,.int .u64 0,.int .u64 0,.int .u64 0,.int .u64 0] 142)=wb:=⟨_,rfl⟩
 rw [hwb] at hb hz
 obtain ⟨c0,c1,c2,c3,c4,c5,c6,c7,c8,_⟩:=mn_cells (show ManAt wb g p nm v cnt from (hb.block g hgl).trans h)
 have HO:=hide (mown_any v wb)
 have HWB:=hide hwb
 have HB:=hide hb
 have HZ:=hide hz
 have hlz:w.heap.size < wb.heap.size:=(Array.getElem?_eq_some_iff.1 hz).1
 clear hwb hb hz h
 obtain ⟨lo,f,c,a,l⟩:=v
 go_enter Tryz.func61,Tryz.ntmps61
 go_upto_region 1 with fail
 rw [HWB.out]
 go_wp2_with ((with_reducible refine (HO.out).mono ?_);rintro e w1 ⟨rfl,hg1⟩;have hz1:=(hg1.block w.heap.size hlz).trans HZ.out;obtain ⟨y0,y1,y2,y3,y4,y5⟩:=vw_cells (v:=⟨0,0,0,0,0⟩) hz1;have yf:∀ o,w1.frozen? ⟨w.heap.size,o,none⟩=false:=(fun o=>by simp [World.frozen?,hz1]);have yf0:=yf 0;have yf1:=yf 1;have yf2:=yf 2;have yf3:=yf 3;have yf4:=yf 4;have yf5:=yf 5;have HZ1:=hide hz1;have HG1:=hide hg1;clear hz1 hg1 yf c0 c1 c2 c3 c4 c5 c6 c7 c8)
 have hp:=vw_put HZ1.out (.int .i64 lo) (.slice none 0 0) (.int .u64 f) (.int .u64 c) (.int .u64 a) (.int .u64 l)
 obtain ⟨r0,r1,r2,r3,r4,r5⟩:=vw_cells (v:=⟨lo,f,c,a,l⟩) hp
 refine bodyPost_ret (v:=(Vw.mk lo f c a l).val) (by simp [results,Tryz.results61,go_sem,r0,r1,r2,r3,r4,r5]) rfl ?_
 have hS:=((((((sets1 w1 w.heap.size 0 (.int .i64 lo)).set (g:=w.heap.size) (fun _=>rfl) 1 (.slice none 0 0)).set (g:=w.heap.size) (fun _=>rfl) 2 (.int .u64 f)).set (g:=w.heap.size) (fun _=>rfl) 3 (.int .u64 c)).set (g:=w.heap.size) (fun _=>rfl) 4 (.int .u64 a)).set (g:=w.heap.size) (fun _=>rfl) 5 (.int .u64 l))
 exact ⟨rfl,Sets.below (below_step HB.out HG1.out) hS (fun b e=>by rw [e];exact Nat.le_refl _) (below_step HB.out HG1.out).size⟩
end Go.Proofs.YtgmkckjedngkdaaGreatDoor
namespace Go.Proofs.YtgmkckjedngkdaaGreatDoor
open Go.ChangeShapes Go.WideShapes Go.ChangeAt Go.RowKit
def addF (K:Dk) (nm:ByteArray) (z:Fz):Dk:={ K with D:=K.D.put (nkey nm) (.lit (.int .i64 K.Z.length)),Z:=K.Z ++ [z],tn:=K.tn+1,calm:=false }
theorem put_hit {D:DataW Unit} (hD:Maps.IsMap D) (s:ByteArray) (n:Nat):hitN (D.put (nkey s) (.lit (.int .i64 n))) s n :=
 ⟨Maps.has_put_same hD (show WideAt.IsKeyLit (nkey s) from trivial) _,fun z=>Maps.atKey_put_same hD (show WideAt.IsKeyLit (nkey s) from trivial) _ _⟩
theorem callD_alive {K:Dk} (hd:K.dead=false) (hst:K.stop=0):callD K=K:=by unfold callD;rw [hd,hst];rfl
theorem set_last {α:Type} (L:List α) (a b:α):(L ++ [a]).set L.length b=L ++ [b]:=by simp
theorem get_last {α:Type} (L:List α) (a:α):(L ++ [a])[L.length]? = some a:=by simp
theorem xw_old {X:Nat→Prop} {w w':World} {i:Nat} (hi:i < w.heap.size) (h:Xw X w w' i):X i:=by
 rcases h with h | h
 ·exact h
 ·omega
theorem xw_two {X:Nat→Prop} {w w1 w2:World} (h1:w.heap.size≤w1.heap.size) (h2:w1.heap.size≤w2.heap.size):∀ g,Xw (Xw X w w1) w1 w2 g→Xw X w w2 g:=by
 rintro g ((h | h) | h)
 ·exact .inl h
 ·exact .inr (by omega)
 ·exact .inr (by omega)
theorem size_put_le {D:DataW Unit} (h:Maps.Tidy D) (k:Lit) (d:DataW Unit):Maps.size (D.put k d)≤Maps.size D+1:=by
 rw [Maps.size_put h];split <;> omega
set_option maxRecDepth 100000 in
set_option maxHeartbeats 1600000 in
theorem mwrite_any {w:World} {base p:Nat} {X:Nat→Prop} {K:Dk} {nm:ByteArray} (H:DiskO w base p X K) (hn:namedB nm=true) (hh:missN K.D nm) (hd:K.dead=false) (hst:K.stop=0) (hsz:Maps.size K.D < 64) (hzl:K.Z.length < 1000) (htl:K.tn < 900000)
 (A:Option Addr) (c:Nat) (B:List Int) (hB:ValsAt u8v w A B) (hA:∀ a,A=some a→B ≠ []→¬ X a.block) (M:Nat) (hM:∀ z ∈ K.Z,z.L.length≤M) (hMl:M≤250000) (hBl:B.length≤250000) (hq:(((Maps.size K.D+1) * M+B.length:Nat):Int)≤K.q) :
 Calls Tryz.prog 219 #[ptv p,.string nm,.slice A B.length c] w fun e w'=>e=.returned (.int .i64 0)∧(∃ z,z.L=B∧z.last=B.length∧DiskO w' base p (Xw X w w') (addF K nm z))∧Sets X w w':=by
 obtain ⟨h,H⟩:=H
 have hMm:Maps.IsMap K.D:=H.names.isMap
 have hTy:Maps.Tidy K.D:=World.ownsMap.tidy H.names keyS
 have hXp:X p:=H.inX.1
 have hXb:=H.bd
 have hbl:=H.base_le
 have HCR:=hide (create_in H hn hh hd hst hsz hzl htl)
 have HAPP:Hid (∀ (W:World) (Y:Nat→Prop) (z:Fz),z.L=[]→DiskO W base p Y (crD K nm z)→Sets X w W→Calls Tryz.prog 228 #[ptv p,.string nm,.slice A B.length c] W fun e w'=>e=.returned (.int .i64 0)∧(∃ v,DiskO w' base p (Xw Y W w') (addF K nm { z with v:=v,L:=B }))∧Sets Y W w'):=hide (fun W Y z hz hO hS=>by
  obtain ⟨h2,H2⟩:=hO
  have hlen:∀ y ∈ (crD K nm z).Z,y.L.length≤M:=fun y hy=>by
   rcases List.mem_append.1 (show y ∈ K.Z ++ [z] from hy) with e | e
   ·exact hM y e
   ·rw [List.mem_singleton.1 e,hz];simp
  have hsz2:Maps.size (crD K nm z).D≤Maps.size K.D+1:=size_put_le hTy _ _
  have hmul:Maps.size (crD K nm z).D * M≤(Maps.size K.D+1) * M:=Nat.mul_le_mul_right _ hsz2
  refine (append_v H2 hn (put_hit hMm nm K.Z.length) (show (crD K nm z).Z[K.Z.length]? = some z from get_last _ _) A c B (hB.sets hS hA) (fun a ha hne e=>hA a ha hne (e ▸ hXp)) (by omega) M hlen (by
   have:(Maps.size K.D+1) * M≤65 * 250000:=Nat.mul_le_mul (by omega) hMl
   omega)).mono ?_
  rintro e w' ⟨ee,K2,rfl,hto,hdo,hst2⟩
  rcases hto with ⟨hne,_,hbad⟩ | ⟨rfl,_,_,v,rfl⟩
  ·exfalso
   rcases hbad with h1 | h1 | h1
   ·rw [show (crD K nm z).dead=K.dead from rfl,hd] at h1;cases h1
   ·rw [hz] at h1;simp at h1;omega
   ·have:(crD K nm z).q=K.q:=rfl
    rw [this] at h1
    omega
  ·refine ⟨rfl,⟨v,?_⟩,hst2⟩
   have e1:callD (crD K nm z)=crD K nm z:=callD_alive hd hst
   rw [e1] at hdo
   rw [hz] at hdo
   have e2:(crD K nm z).Z.set K.Z.length { z with v:=v,L:=[] ++ B }=K.Z ++ [{ z with v:=v,L:=B }]:=set_last _ _ _
   rw [e2] at hdo
   exact hdo)
 have HSY:Hid (∀ (W:World) (Y:Nat→Prop) (z:Fz),DiskO W base p Y (addF K nm z)→Calls Tryz.prog 193 #[ptv p,.string nm] W fun e w'=>e=.returned (.int .i64 0)∧DiskO w' base p (Xw Y W w') (addF K nm { z with last:=z.L.length })∧Sets Y W w'):=hide (fun W Y z hO=>by
  obtain ⟨h2,H2⟩:=hO
  refine (sync_v H2 hn (put_hit hMm nm K.Z.length) (show (addF K nm z).Z[K.Z.length]? = some z from get_last _ _)).mono ?_
  rintro e w' ⟨ee,K2,rfl,hto,hdo,hst2⟩
  rcases hto with ⟨hne,_,hbad⟩ | ⟨rfl,_,rfl⟩
  ·exfalso
   rw [show (addF K nm z).dead=K.dead from rfl,hd] at hbad;cases hbad
  ·refine ⟨rfl,?_,hst2⟩
   have e1:callD (addF K nm z)=addF K nm z:=callD_alive hd hst
   rw [e1] at hdo
   have e2:(addF K nm z).Z.set K.Z.length { z with last:=z.L.length }=K.Z ++ [{ z with last:=z.L.length }]:=set_last _ _ _
   rw [e2] at hdo
   exact hdo)
 have HXB:=hide (And.intro hXb hbl)
 clear H hn hh hd hst hsz hzl htl hB hA hM hMl hBl hq hMm hTy hXp hXb hbl
 go_enter Tryz.func219,Tryz.ntmps219
 go_wp2_with (first
  | ((with_reducible refine (HCR.out).mono ?_);rintro e w1 ⟨rfl,⟨z,hz1,hz2,hdo⟩,hS1⟩;have HA:=hide (HAPP.out w1 _ z hz1 hdo hS1);have HS1:=hide hS1;clear hz1 hz2 hdo hS1)
  | ((with_reducible refine (HA.out).mono ?_);rintro e w2 ⟨rfl,⟨v,hdo⟩,hS2⟩;have HY:=hide (HSY.out w2 _ _ hdo);have HS2:=hide hS2;clear hdo hS2)
  | ((with_reducible refine (HY.out).mono ?_);rintro e w3 ⟨rfl,hdo,hS3⟩;have HDO:=hide hdo;have HS3:=hide hS3;clear hdo hS3))
 go_ret
 have s1:=HS1.out.size
 have s2:=HS2.out.size
 have s3:=HS3.out.size
 have t2:Sets X w w2:=HS1.out.trans HS2.out (fun i hi e=>xw_old hi e)
 have t3:Sets X w w3:=t2.trans HS3.out (fun i hi e=>xw_old hi (xw_two s1 s2 i e))
 refine ⟨rfl,⟨_,rfl,rfl,HDO.out.wide (fun g e=>?_) (Xw.bd HXB.out.1 HXB.out.2 t3.size)⟩,t3⟩
 rcases e with e | e
 ·rcases xw_two s1 s2 g e with e | e
  ·exact .inl e
  ·exact .inr (by omega)
 ·exact .inr (by omega)
end Go.Proofs.YtgmkckjedngkdaaGreatDoor
