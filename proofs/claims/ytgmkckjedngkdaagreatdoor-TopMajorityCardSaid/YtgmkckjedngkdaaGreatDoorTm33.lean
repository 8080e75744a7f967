/- A part of the proof that TopMajorityLaw holds: XZSee. Conditions: as typed. -/
import Derived.Test.YtgmkckjedngkdaaGreatDoorTm32
set_option linter.unusedVariables false
set_option linter.unusedSimpArgs false
namespace Go.Proofs.YtgmkckjedngkdaaGreatDoor
open Go.ChangeShapes Go.WideShapes Go.ChangeAt Go.RowKit
set_option maxRecDepth 100000 in
set_option maxHeartbeats 1600000 in
theorem csee_4 {w:World} {k node:Nat} {now lease:Int} (h:ClkAt w k node now lease) (mk mf mt mid mn:Int) (A:Option Addr) (c:Nat) (L:List It) (hI:ItemsAt w A L) (hlen:L.length≤1500) (hmk:∀ a,A=some a→L ≠ []→a.block ≠ k) (h0:0≤mn∧mn≤18446744073709551615) (hwf:∀ x ∈ L,x.wf) (hk:4=mk) (t0:Int) (ht:t0=now) :
 Calls Tryz.prog 111 #[ptv k,.agg #[.int .i64 mk,.int .i64 mf,.int .i64 mt,.int .u64 mid,.int .u64 mn,.slice A L.length c]] w fun e w'=>e=.returned (.tuple #[])∧ClkAt w' k node (L.foldl (fun t x=>seeN t x.v) t0) lease∧Sets (fun g=>g=k) w w':=by
 have hz0:=heap_alloc_new w (.cells #[.int .i64 mk,.int .i64 mf,.int .i64 mt,.int .u64 mid,.int .u64 mn,.slice A L.length c] 33)
 have hb0:=below_alloc (Below.refl w.heap.size w) (.cells #[.int .i64 mk,.int .i64 mf,.int .i64 mt,.int .u64 mid,.int .u64 mn,.slice A L.length c] 33)
 obtain ⟨w0,hw0⟩:∃ w0,w.alloc (.cells #[.int .i64 mk,.int .i64 mf,.int .i64 mt,.int .u64 mid,.int .u64 mn,.slice A L.length c] 33)=w0:=⟨_,rfl⟩
 rw [hw0] at hz0 hb0
 obtain ⟨g,hg⟩:∃ g,w.heap.size=g:=⟨_,rfl⟩
 rw [hg] at hz0
 have lg:=(Array.getElem?_eq_some_iff.1 hz0).1
 obtain ⟨m0,m1,m2,m3,m4,m5⟩:=six_cells hz0
 have hk0:=h.sets (S:=fun _=>False) (Sets.of hb0) id
 have HIT:=hide (fun (W:World) (hW:Sets (fun g=>g=k) w0 W)=>(hI.below hb0).sets hW (fun a ha hn e=>hmk a ha hn e))
 have HWF:=hide hwf
 have HLEN:=hide hlen
 have HB0:=hide hb0
 have HW0:=hide hw0
 have HG:=hide hg
 have hgk:g ≠ k:=by have:=h.cells.1;omega
 subst hk
 rw [← ht] at hk0
 have HST:=hide (And.intro hk0 (Sets.refl (S:=fun g=>g=k) w0))
 clear ht h hI hlen hmk h0 hwf hz0 hb0 hw0 hk0 hg
 go_enter Tryz.func111,Tryz.ntmps111
 go_upto_region 1 with fail
 rw [HW0.out,HG.out]
 go_wp2_with fail
 have hlen:L.length≤1500:=HLEN.out
 go_loopw [21] (fun i wr=>∃ q:Nat,q≤L.length∧i=.int .i64 q∧ClkAt wr k node ((L.take q).foldl (fun t x=>seeN t x.v) t0) lease∧Sets (fun g=>g=k) w0 wr) (fun i _=>L.length - (intOf i).toNat)
 case atStart=>exact ⟨0,by omega,rfl,by rw [List.take_zero];exact HST.out.1,HST.out.2⟩
 case round =>
  obtain ⟨q,hq,rfl,hck,hse⟩:=hrel
  have HCK:=hide hck
  have HSE:=hide hse
  clear hck hse
  by_cases hql:q < L.length
  ·have hqI:(q:Int) < (L.length:Int):=by omega
   have hq0:(0:Int)≤(q:Int):=by omega
   have hit:=HIT.out wr HSE.out
   have hxw:=HWF.out _ (List.getElem_mem hql)
   obtain ⟨bl,ofs,rfl,hbb,z0,z1,z2,z3,z4⟩:=ItemsAt.item hit (Below.refl _ _) hql
   have HTK:Hid ((L.take (q+1)).foldl (fun t x=>seeN t x.v) t0=seeN ((L.take q).foldl (fun t x=>seeN t x.v) t0) (L[q]'hql).v):=hide (by rw [List.take_succ_eq_append_getElem hql,List.foldl_append];rfl)
   generalize L[q]'hql=x at *
   generalize (L.take q).foldl (fun t x=>seeN t x.v) t0=t1 at *
   have hbi:=below_alloc (Below.refl wr.heap.size wr) (.cells #[.int .i64 x.s,.int .i64 x.k,.int .u64 x.t,.int .u64 x.v,.int .i64 x.x] 54)
   have hzi:=heap_alloc_new wr (.cells #[.int .i64 x.s,.int .i64 x.k,.int .u64 x.t,.int .u64 x.v,.int .i64 x.x] 54)
   obtain ⟨wi,hwi⟩:∃ wi,wr.alloc (.cells #[.int .i64 x.s,.int .i64 x.k,.int .u64 x.t,.int .u64 x.v,.int .i64 x.x] 54)=wi:=⟨_,rfl⟩
   rw [hwi] at hbi hzi
   have lgi:=(Array.getElem?_eq_some_iff.1 hzi).1
   obtain ⟨v0,v1,v2,v3,v4⟩:=box_item (x:=x) hzi
   obtain ⟨gi,hgi⟩:∃ gi,wr.heap.size=gi:=⟨_,rfl⟩
   rw [hgi] at v0 v1 v2 v3 v4 lgi
   have HK:=hide (ksee_any (HCK.out.sets (S:=fun _=>False) (Sets.of hbi) id) x.v hxw.2.2.2.1.1 hxw.2.2.2.1.2)
   have HWI:=hide hwi
   have HGI:=hide hgi
   have HBI:=hide hbi
   clear hit hxw hbi hzi hwi hgi
   go_upto_region 6 with fail
   rw [HWI.out,HGI.out]
   clear z0 z1 z2 z3 z4
   go_wp2_with ((with_reducible refine (HK.out).mono ?_);rintro e w6 ⟨rfl,hc6,hs6⟩;have HC6:=hide hc6;have HS6:=hide hs6;clear hc6 hs6)
   go_roundw
   case rel=>exact ⟨q+1,by omega,by go_num,by rw [HTK.out];exact HC6.out,(HSE.out.trans (Sets.of (S:=fun _=>False) HBI.out) (fun _ _ h=>h.elim)).trans HS6.out (fun _ _ e=>e)⟩
   case measure=>simp [intOf];omega
  ·have hqI:¬ (q:Int) < (L.length:Int):=by omega
   obtain rfl:q=L.length:=by omega
   go_wp2_with fail
   go_end0
   have hc:=HCK.out
   rw [List.take_length] at hc
   exact ⟨rfl,hc,(Sets.of (S:=fun g=>g=k) HB0.out).trans HSE.out (fun _ _ e=>e)⟩
set_option maxRecDepth 100000 in
set_option maxHeartbeats 1600000 in
theorem csee_5 {w:World} {k node:Nat} {now lease:Int} (h:ClkAt w k node now lease) (mk mf mt mid mn:Int) (A:Option Addr) (c:Nat) (L:List It) (hI:ItemsAt w A L) (hlen:L.length≤1500) (hmk:∀ a,A=some a→L ≠ []→a.block ≠ k) (h0:0≤mn∧mn≤18446744073709551615) (hwf:∀ x ∈ L,x.wf) (hk:5=mk) (t0:Int) (ht:t0=now) :
 Calls Tryz.prog 111 #[ptv k,.agg #[.int .i64 mk,.int .i64 mf,.int .i64 mt,.int .u64 mid,.int .u64 mn,.slice A L.length c]] w fun e w'=>e=.returned (.tuple #[])∧ClkAt w' k node (L.foldl (fun t x=>seeN t x.v) t0) lease∧Sets (fun g=>g=k) w w':=by
 have hz0:=heap_alloc_new w (.cells #[.int .i64 mk,.int .i64 mf,.int .i64 mt,.int .u64 mid,.int .u64 mn,.slice A L.length c] 33)
 have hb0:=below_alloc (Below.refl w.heap.size w) (.cells #[.int .i64 mk,.int .i64 mf,.int .i64 mt,.int .u64 mid,.int .u64 mn,.slice A L.length c] 33)
 obtain ⟨w0,hw0⟩:∃ w0,w.alloc (.cells #[.int .i64 mk,.int .i64 mf,.int .i64 mt,.int .u64 mid,.int .u64 mn,.slice A L.length c] 33)=w0:=⟨_,rfl⟩
 rw [hw0] at hz0 hb0
 obtain ⟨g,hg⟩:∃ g,w.heap.size=g:=⟨_,rfl⟩
 rw [hg] at hz0
 have lg:=(Array.getElem?_eq_some_iff.1 hz0).1
 obtain ⟨m0,m1,m2,m3,m4,m5⟩:=six_cells hz0
 have hk0:=h.sets (S:=fun _=>False) (Sets.of hb0) id
 have HIT:=hide (fun (W:World) (hW:Sets (fun g=>g=k) w0 W)=>(hI.below hb0).sets hW (fun a ha hn e=>hmk a ha hn e))
 have HWF:=hide hwf
 have HLEN:=hide hlen
 have HB0:=hide hb0
 have HW0:=hide hw0
 have HG:=hide hg
 have hgk:g ≠ k:=by have:=h.cells.1;omega
 subst hk
 rw [← ht] at hk0
 have HST:=hide (And.intro hk0 (Sets.refl (S:=fun g=>g=k) w0))
 clear ht h hI hlen hmk h0 hwf hz0 hb0 hw0 hk0 hg
 go_enter Tryz.func111,Tryz.ntmps111
 go_upto_region 1 with fail
 rw [HW0.out,HG.out]
 go_wp2_with fail
 have hlen:L.length≤1500:=HLEN.out
 go_loopw [21] (fun i wr=>∃ q:Nat,q≤L.length∧i=.int .i64 q∧ClkAt wr k node ((L.take q).foldl (fun t x=>seeN t x.v) t0) lease∧Sets (fun g=>g=k) w0 wr) (fun i _=>L.length - (intOf i).toNat)
 case atStart=>exact ⟨0,by omega,rfl,by rw [List.take_zero];exact HST.out.1,HST.out.2⟩
 case round =>
  obtain ⟨q,hq,rfl,hck,hse⟩:=hrel
  have HCK:=hide hck
  have HSE:=hide hse
  clear hck hse
  by_cases hql:q < L.length
  ·have hqI:(q:Int) < (L.length:Int):=by omega
   have hq0:(0:Int)≤(q:Int):=by omega
   have hit:=HIT.out wr HSE.out
   have hxw:=HWF.out _ (List.getElem_mem hql)
   obtain ⟨bl,ofs,rfl,hbb,z0,z1,z2,z3,z4⟩:=ItemsAt.item hit (Below.refl _ _) hql
   have HTK:Hid ((L.take (q+1)).foldl (fun t x=>seeN t x.v) t0=seeN ((L.take q).foldl (fun t x=>seeN t x.v) t0) (L[q]'hql).v):=hide (by rw [List.take_succ_eq_append_getElem hql,List.foldl_append];rfl)
   generalize L[q]'hql=x at *
   generalize (L.take q).foldl (fun t x=>seeN t x.v) t0=t1 at *
   have hbi:=below_alloc (Below.refl wr.heap.size wr) (.cells #[.int .i64 x.s,.int .i64 x.k,.int .u64 x.t,.int .u64 x.v,.int .i64 x.x] 54)
   have hzi:=heap_alloc_new wr (.cells #[.int .i64 x.s,.int .i64 x.k,.int .u64 x.t,.int .u64 x.v,.int .i64 x.x] 54)
   obtain ⟨wi,hwi⟩:∃ wi,wr.alloc (.cells #[.int .i64 x.s,.int .i64 x.k,.int .u64 x.t,.int .u64 x.v,.int .i64 x.x] 54)=wi:=⟨_,rfl⟩
   rw [hwi] at hbi hzi
   have lgi:=(Array.getElem?_eq_some_iff.1 hzi).1
   obtain ⟨v0,v1,v2,v3,v4⟩:=box_item (x:=x) hzi
   obtain ⟨gi,hgi⟩:∃ gi,wr.heap.size=gi:=⟨_,rfl⟩
   rw [hgi] at v0 v1 v2 v3 v4 lgi
   have HK:=hide (ksee_any (HCK.out.sets (S:=fun _=>False) (Sets.of hbi) id) x.v hxw.2.2.2.1.1 hxw.2.2.2.1.2)
   have HWI:=hide hwi
   have HGI:=hide hgi
   have HBI:=hide hbi
   clear hit hxw hbi hzi hwi hgi
   go_upto_region 6 with fail
   rw [HWI.out,HGI.out]
   clear z0 z1 z2 z3 z4
   go_wp2_with ((with_reducible refine (HK.out).mono ?_);rintro e w6 ⟨rfl,hc6,hs6⟩;have HC6:=hide hc6;have HS6:=hide hs6;clear hc6 hs6)
   go_roundw
   case rel=>exact ⟨q+1,by omega,by go_num,by rw [HTK.out];exact HC6.out,(HSE.out.trans (Sets.of (S:=fun _=>False) HBI.out) (fun _ _ h=>h.elim)).trans HS6.out (fun _ _ e=>e)⟩
   case measure=>simp [intOf];omega
  ·have hqI:¬ (q:Int) < (L.length:Int):=by omega
   obtain rfl:q=L.length:=by omega
   go_wp2_with fail
   go_end0
   have hc:=HCK.out
   rw [List.take_length] at hc
   exact ⟨rfl,hc,(Sets.of (S:=fun g=>g=k) HB0.out).trans HSE.out (fun _ _ e=>e)⟩
set_option maxRecDepth 100000 in
set_option maxHeartbeats 1600000 in
theorem csee_o {w:World} {k node:Nat} {now lease:Int} (h:ClkAt w k node now lease) (mk mf mt mid mn:Int) (A:Option Addr) (c:Nat) (L:List It) (hI:ItemsAt w A L) (hlen:L.length≤1500) (hmk:∀ a,A=some a→L ≠ []→a.block ≠ k) (h0:0≤mn∧mn≤18446744073709551615) (hwf:∀ x ∈ L,x.wf) (hk:mk ≠ 4∧mk ≠ 5) (t0:Int) (ht:t0=seeN now mn) :
 Calls Tryz.prog 111 #[ptv k,.agg #[.int .i64 mk,.int .i64 mf,.int .i64 mt,.int .u64 mid,.int .u64 mn,.slice A L.length c]] w fun e w'=>e=.returned (.tuple #[])∧ClkAt w' k node (L.foldl (fun t x=>seeN t x.v) t0) lease∧Sets (fun g=>g=k) w w':=by
 have hz0:=heap_alloc_new w (.cells #[.int .i64 mk,.int .i64 mf,.int .i64 mt,.int .u64 mid,.int .u64 mn,.slice A L.length c] 33)
 have hb0:=below_alloc (Below.refl w.heap.size w) (.cells #[.int .i64 mk,.int .i64 mf,.int .i64 mt,.int .u64 mid,.int .u64 mn,.slice A L.length c] 33)
 obtain ⟨w0,hw0⟩:∃ w0,w.alloc (.cells #[.int .i64 mk,.int .i64 mf,.int .i64 mt,.int .u64 mid,.int .u64 mn,.slice A L.length c] 33)=w0:=⟨_,rfl⟩
 rw [hw0] at hz0 hb0
 obtain ⟨g,hg⟩:∃ g,w.heap.size=g:=⟨_,rfl⟩
 rw [hg] at hz0
 have lg:=(Array.getElem?_eq_some_iff.1 hz0).1
 obtain ⟨m0,m1,m2,m3,m4,m5⟩:=six_cells hz0
 have hk0:=h.sets (S:=fun _=>False) (Sets.of hb0) id
 have HIT:=hide (fun (W:World) (hW:Sets (fun g=>g=k) w0 W)=>(hI.below hb0).sets hW (fun a ha hn e=>hmk a ha hn e))
 have HWF:=hide hwf
 have HLEN:=hide hlen
 have HB0:=hide hb0
 have HW0:=hide hw0
 have HG:=hide hg
 have hgk:g ≠ k:=by have:=h.cells.1;omega
 have HK:=hide (ksee_any hk0 mn h0.1 h0.2)
 have b4:(mk != 4)=true:=by simp [hk.1]
 have b5:(mk != 5)=true:=by simp [hk.2]
 rw [← ht] at HK
 clear h hI hlen hmk h0 hwf hb0 hw0 hk0 hg hk ht
 go_enter Tryz.func111,Tryz.ntmps111
 go_upto_region 1 with fail
 rw [HW0.out,HG.out]
 have HZ0:=hide hz0
 clear hz0
 go_wp2_with ((with_reducible refine (HK.out).mono ?_);rintro e w1 ⟨rfl,hc1,hs1⟩;have HST:=hide (And.intro hc1 hs1);obtain ⟨_,_,_,_,_,n5⟩:=six_cells ((hs1.block g lg hgk).trans HZ0.out);have lg1:=Nat.lt_of_lt_of_le lg hs1.size;clear hc1 hs1 m0 m1 m2 m3 m4 m5)
 have hlen:L.length≤1500:=HLEN.out
 go_loopw [21] (fun i wr=>∃ q:Nat,q≤L.length∧i=.int .i64 q∧ClkAt wr k node ((L.take q).foldl (fun t x=>seeN t x.v) t0) lease∧Sets (fun g=>g=k) w0 wr) (fun i _=>L.length - (intOf i).toNat)
 case atStart=>exact ⟨0,by omega,rfl,by rw [List.take_zero];exact HST.out.1,HST.out.2⟩
 case round =>
  obtain ⟨q,hq,rfl,hck,hse⟩:=hrel
  have HCK:=hide hck
  have HSE:=hide hse
  clear hck hse
  by_cases hql:q < L.length
  ·have hqI:(q:Int) < (L.length:Int):=by omega
   have hq0:(0:Int)≤(q:Int):=by omega
   have hit:=HIT.out wr HSE.out
   have hxw:=HWF.out _ (List.getElem_mem hql)
   obtain ⟨bl,ofs,rfl,hbb,z0,z1,z2,z3,z4⟩:=ItemsAt.item hit (Below.refl _ _) hql
   have HTK:Hid ((L.take (q+1)).foldl (fun t x=>seeN t x.v) t0=seeN ((L.take q).foldl (fun t x=>seeN t x.v) t0) (L[q]'hql).v):=hide (by rw [List.take_succ_eq_append_getElem hql,List.foldl_append];rfl)
   generalize L[q]'hql=x at *
   generalize (L.take q).foldl (fun t x=>seeN t x.v) t0=t1 at *
   have hbi:=below_alloc (Below.refl wr.heap.size wr) (.cells #[.int .i64 x.s,.int .i64 x.k,.int .u64 x.t,.int .u64 x.v,.int .i64 x.x] 54)
   have hzi:=heap_alloc_new wr (.cells #[.int .i64 x.s,.int .i64 x.k,.int .u64 x.t,.int .u64 x.v,.int .i64 x.x] 54)
   obtain ⟨wi,hwi⟩:∃ wi,wr.alloc (.cells #[.int .i64 x.s,.int .i64 x.k,.int .u64 x.t,.int .u64 x.v,.int .i64 x.x] 54)=wi:=⟨_,rfl⟩
   rw [hwi] at hbi hzi
   have lgi:=(Array.getElem?_eq_some_iff.1 hzi).1
   obtain ⟨v0,v1,v2,v3,v4⟩:=box_item (x:=x) hzi
   obtain ⟨gi,hgi⟩:∃ gi,wr.heap.size=gi:=⟨_,rfl⟩
   rw [hgi] at v0 v1 v2 v3 v4 lgi
   have HK:=hide (ksee_any (HCK.out.sets (S:=fun _=>False) (Sets.of hbi) id) x.v hxw.2.2.2.1.1 hxw.2.2.2.1.2)
   have HWI:=hide hwi
   have HGI:=hide hgi
   have HBI:=hide hbi
   clear hit hxw hbi hzi hwi hgi
   go_upto_region 6 with fail
   rw [HWI.out,HGI.out]
   clear z0 z1 z2 z3 z4
   go_wp2_with ((with_reducible refine (HK.out).mono ?_);rintro e w6 ⟨rfl,hc6,hs6⟩;have HC6:=hide hc6;have HS6:=hide hs6;clear hc6 hs6)
   go_roundw
   case rel=>exact ⟨q+1,by omega,by go_num,by rw [HTK.out];exact HC6.out,(HSE.out.trans (Sets.of (S:=fun _=>False) HBI.out) (fun _ _ h=>h.elim)).trans HS6.out (fun _ _ e=>e)⟩
   case measure=>simp [intOf];omega
  ·have hqI:¬ (q:Int) < (L.length:Int):=by omega
   obtain rfl:q=L.length:=by omega
   go_wp2_with fail
   go_end0
   have hc:=HCK.out
   rw [List.take_length] at hc
   exact ⟨rfl,hc,(Sets.of (S:=fun g=>g=k) HB0.out).trans HSE.out (fun _ _ e=>e)⟩
def seeM (now:Int) (m:Mg):Int:=m.L.foldl (fun t x=>seeN t x.v) (if m.k=4 ∨ m.k=5 then now else seeN now m.n)
theorem csee_any {w:World} {k node:Nat} {now lease:Int} (h:ClkAt w k node now lease) (m:Mg) (hm:m.rd w) (hlen:m.L.length≤1500) (hmk:∀ a,m.A=some a→m.L ≠ []→a.block ≠ k) (h0:0≤m.n∧m.n≤18446744073709551615) (hwf:∀ x ∈ m.L,x.wf) :
 Calls Tryz.prog 111 #[ptv k,m.val] w fun e w'=>e=.returned (.tuple #[])∧ClkAt w' k node (seeM now m) lease∧Sets (fun g=>g=k) w w':=by
 unfold seeM
 by_cases h4:m.k=4
 ·rw [if_pos (.inl h4)]
  exact csee_4 h m.k m.f m.t m.id m.n m.A m.c m.L hm.1 hlen hmk h0 hwf h4.symm now rfl
 ·by_cases h5:m.k=5
  ·rw [if_pos (.inr h5)]
   exact csee_5 h m.k m.f m.t m.id m.n m.A m.c m.L hm.1 hlen hmk h0 hwf h5.symm now rfl
  ·rw [if_neg (fun e=>e.elim h4 h5)]
   exact csee_o h m.k m.f m.t m.id m.n m.A m.c m.L hm.1 hlen hmk h0 hwf ⟨h4,h5⟩ (seeN now m.n) rfl
end Go.Proofs.YtgmkckjedngkdaaGreatDoor
