/- A part of the proof that TopMajorityLaw holds: XZStp, XNetX, XZCra, XZCrb. Conditions: as typed. -/
import Derived.Test.YtgmkckjedngkdaaGreatDoorTm11
import Derived.Test.YtgmkckjedngkdaaGreatDoorTm17
import Derived.Test.YtgmkckjedngkdaaGreatDoorTm23
import Derived.Test.YtgmkckjedngkdaaGreatDoorTm27
set_option linter.unusedVariables false
set_option linter.unusedSimpArgs false
namespace Go.Proofs.YtgmkckjedngkdaaGreatDoor
open Go.ChangeShapes Go.WideShapes Go.ChangeAt Go.RowKit
theorem uload_any (b o:Nat) (n:Int) (w:World) (h:w.cell? ⟨b,o,none⟩=some (.int .u64 n)) :
 Calls Tryz.prog 171 #[.pointer (some ⟨b,o,none⟩)] w fun e w'=>e=.returned (.int .u64 n)∧w'=w:=by
 have hl:=run_call_load (P:=Tryz.prog) Tryz.func234 (by kernel_rfl) (by kernel_rfl) (by kernel_rfl) .u64 (by kernel_rfl) h
 go_enter Tryz.func171,Tryz.ntmps171
 go_wp2
 go_ret
 exact ⟨rfl,rfl⟩
theorem ustore_any (b o:Nat) (m n:Int) (w:World) (h:w.cell? ⟨b,o,none⟩=some (.int .u64 n)) (hz:w.frozen? ⟨b,o,none⟩=false) :
 Calls Tryz.prog 166 #[.pointer (some ⟨b,o,none⟩),.int .u64 m] w fun e w'=>e=.returned (.tuple #[])∧w'=w.setCell ⟨b,o,none⟩ (.int .u64 m):=by
 have hst:=run_call_store (P:=Tryz.prog) Tryz.func232 (by kernel_rfl) (by kernel_rfl) (by kernel_rfl) (by kernel_rfl) (k:=.u64) (y:=m) h hz
 go_enter Tryz.func166,Tryz.ntmps166
 go_wp2
 go_end0
 exact ⟨rfl,rfl⟩
theorem uadd_any (b o:Nat) (n y:Int) (w:World) (h:w.cell? ⟨b,o,none⟩=some (.int .u64 n)) (hz:w.frozen? ⟨b,o,none⟩=false) (hs:IntKind.u64.wrap (n+y)=n+y) :
 Calls Tryz.prog 47 #[.pointer (some ⟨b,o,none⟩),.int .u64 y] w fun e w'=>e=.returned (.int .u64 (n+y))∧w'=w.setCell ⟨b,o,none⟩ (.int .u64 (n+y)):=by
 have hadd:=run_call_add (P:=Tryz.prog) Tryz.func106 (by kernel_rfl) (by kernel_rfl) (by kernel_rfl) .u64 (by kernel_rfl) (y:=y) (s:=n+y) h hz (by simp [go_sem,hs])
 go_enter Tryz.func47,Tryz.ntmps47
 go_wp2
 go_ret
 exact ⟨rfl,rfl⟩
def ClkAt (w:World) (k:Nat) (node:Nat) (now lease:Int):Prop:=w.heap[k]? = some (.cells #[.int .i64 node,.int .u64 now,.int .u64 lease] 250 (0,0))∧node≤6∧0≤now∧now≤1099511627776∧0≤lease∧lease≤1099511627776
theorem ClkAt.cells {w:World} {k node:Nat} {now lease:Int} (h:ClkAt w k node now lease):k < w.heap.size∧w.cell? ⟨k,0,none⟩=some (.int .i64 node)∧w.cell? ⟨k,1,none⟩=some (.int .u64 now)∧w.cell? ⟨k,2,none⟩=some (.int .u64 lease)∧∀ o,w.frozen? ⟨k,o,none⟩=false :=
 ⟨(Array.getElem?_eq_some_iff.1 h.1).1,(cell_of_row w k 0 _ _ _ h.1).trans rfl,(cell_of_row w k 1 _ _ _ h.1).trans rfl,(cell_of_row w k 2 _ _ _ h.1).trans rfl,fun o=>by simp [World.frozen?,h.1]⟩
theorem ClkAt.sets {w w':World} {S:Nat→Prop} {k node:Nat} {now lease:Int} (h:ClkAt w k node now lease) (s:Sets S w w') (hS:¬ S k):ClkAt w' k node now lease:=⟨(s.block k h.cells.1 hS).trans h.1,h.2⟩
theorem ClkAt.now' {w:World} {k node:Nat} {now lease:Int} (h:ClkAt w k node now lease) {m:Int} (h0:0≤m) (h1:m≤1099511627776):ClkAt (w.setCell ⟨k,1,none⟩ (.int .u64 m)) k node m lease :=
 ⟨by have:=h.1;simp [World.setCell,Array.getElem?_modify,this],h.2.1,h0,h1,h.2.2.2.2⟩
theorem ClkAt.lease' {w:World} {k node:Nat} {now lease:Int} (h:ClkAt w k node now lease) {m:Int} (h0:0≤m) (h1:m≤1099511627776):ClkAt (w.setCell ⟨k,2,none⟩ (.int .u64 m)) k node now m :=
 ⟨by have:=h.1;simp [World.setCell,Array.getElem?_modify,this],h.2.1,h.2.2.1,h.2.2.2.1,h0,h1⟩
theorem kmake_any (c:Int) (n:Nat) (w:World) (hn:n≤6) (h0:1≤c) (h1:c≤1099511627776):Calls Tryz.prog 172 #[.int .u64 c,.int .i64 n] w fun e w'=>e=.returned (.tuple #[.int .u64 (c * 8+n),.int .i64 0])∧w'=w:=by
 have e1:IntKind.u64.wrap (c * 8)=c * 8:=by rw [IntKind.wrap_u64];omega
 have e2:IntKind.u64.wrap (n:Int)=n:=by rw [IntKind.wrap_u64];omega
 have e3:IntKind.u64.wrap (c * 8+n)=c * 8+n:=by rw [IntKind.wrap_u64];omega
 have d1:decide ((n:Int) < 0)=false:=decide_eq_false (by omega)
 have d2:decide (6 < (n:Int))=false:=decide_eq_false (by omega)
 have d3:decide (c < 1)=false:=decide_eq_false (by omega)
 have d4:decide (1099511627776 < c)=false:=decide_eq_false (by omega)
 have f1:¬ (n:Int) < 0:=by omega
 have f2:¬ 6 < (n:Int):=by omega
 have f3:¬ c < 1:=by omega
 have f4:¬ 1099511627776 < c:=by omega
 go_enter Tryz.func172,Tryz.ntmps172
 go_wp2
 go_returns
 exact ⟨rfl,rfl⟩
theorem ksplit_any (v:Int) (w:World) (h0:0≤v) (h1:v≤18446744073709551615):Calls Tryz.prog 237 #[.int .u64 v] w fun e w'=>∃ n,e=.returned (.tuple #[.int .u64 (v / 8),.int .i64 n])∧w'=w:=by
 go_enter Tryz.func237,Tryz.ntmps237
 go_wp2
 go_returns
 exact ⟨_,rfl,rfl⟩
theorem know_any {w:World} {k node:Nat} {now lease:Int} (h:ClkAt w k node now lease):Calls Tryz.prog 102 #[ptv k] w fun e w'=>e=.returned (.int .u64 now)∧w'=w:=by
 obtain ⟨_,_,c1,_⟩:=h.cells
 have HL:=hide (uload_any k 1 now w c1)
 clear h
 go_enter Tryz.func102,Tryz.ntmps102
 go_wp2_with ((with_reducible refine (HL.out).mono ?_);rintro e w1 ⟨rfl,rfl⟩)
 go_ret
 exact ⟨rfl,rfl⟩
theorem klease_any {w:World} {k node:Nat} {now lease:Int} (h:ClkAt w k node now lease):Calls Tryz.prog 103 #[ptv k] w fun e w'=>e=.returned (.int .u64 lease)∧w'=w:=by
 obtain ⟨_,_,_,c2,_⟩:=h.cells
 have HL:=hide (uload_any k 2 lease w c2)
 clear h
 go_enter Tryz.func103,Tryz.ntmps103
 go_wp2_with ((with_reducible refine (HL.out).mono ?_);rintro e w1 ⟨rfl,rfl⟩)
 go_ret
 exact ⟨rfl,rfl⟩
set_option maxHeartbeats 800000 in
theorem knext_go {w:World} {k node:Nat} {now lease:Int} (h:ClkAt w k node now lease) (h1:now < 1099511627776) (h2:now < lease):Calls Tryz.prog 101 #[ptv k] w fun e w'=>e=.returned (.tuple #[.int .u64 ((now+1) * 8+node),.int .i64 0])∧ClkAt w' k node (now+1) lease∧Sets (fun g=>g=k) w w':=by
 obtain ⟨hk,c0,c1,c2,cz⟩:=h.cells
 have H1:=hide (uload_any k 1 now w c1)
 have H2:=hide (uload_any k 2 lease w c2)
 have hdr:=(Below.refl w.heap.size w).drew
 have hd:=h.sets (S:=fun _=>False) (Sets.of hdr) id
 obtain ⟨hkd,d0,d1,d2,dz⟩:=hd.cells
 have H3:=hide (uadd_any k 1 now 1 w.drew d1 (dz 1) (by rw [IntKind.wrap_u64];have:=h.2;omega))
 have H4:=hide (fun W=>kmake_any (now+1) node W h.2.1 (by have:=h.2;omega) (by omega))
 have c0':(w.drew.setCell ⟨k,1,none⟩ (.int .u64 (now+1))).cell? ⟨k,0,none⟩=some (.int .i64 node):=(hd.now' (m:=now+1) (by have:=h.2;omega) (by omega)).cells.2.1
 have e1:decide (1099511627776≤now)=false:=decide_eq_false (by omega)
 have e2:decide (lease≤now)=false:=decide_eq_false (by omega)
 have f1:¬ 1099511627776≤now:=by omega
 have f2:¬ lease≤now:=by omega
 have HR:=hide (And.intro (hd.now' (m:=now+1) (by have:=h.2;omega) (by omega)) ((Sets.of (S:=fun g=>g=k) hdr).set (g:=k) (fun _=>rfl) 1 (.int .u64 (now+1))))
 clear h h1 h2 cz hd hdr dz d1 d2
 go_enter Tryz.func101,Tryz.ntmps101
 go_wp2_with (first
  | ((with_reducible refine (H1.out).mono ?_);rintro e w1 ⟨rfl,rfl⟩)
  | ((with_reducible refine (H2.out).mono ?_);rintro e w1 ⟨rfl,rfl⟩))
 go_region_with (first
  | (go_at_call 47;refine (Calls.mono H3.out ?_);rintro e w1 ⟨rfl,rfl⟩)
  | (go_at_call 172;refine (Calls.mono (H4.out _) ?_);rintro e w1 ⟨rfl,rfl⟩))
 all_goals
  go_wp2_with fail
  go_returns
  exact ⟨rfl,HR.out.1,HR.out.2⟩
set_option maxHeartbeats 800000 in
theorem knext_no {w:World} {k node:Nat} {now lease:Int} (h:ClkAt w k node now lease) (h1:now < 1099511627776) (h2:lease≤now):Calls Tryz.prog 101 #[ptv k] w fun e w'=>e=.returned (.tuple #[.int .u64 0,.int .i64 19])∧w'=w:=by
 obtain ⟨hk,c0,c1,c2,cz⟩:=h.cells
 have H1:=hide (uload_any k 1 now w c1)
 have H2:=hide (uload_any k 2 lease w c2)
 have d1:decide (1099511627776≤now)=false:=decide_eq_false (by omega)
 have d2:decide (lease≤now)=true:=decide_eq_true (by omega)
 have f1:¬ 1099511627776≤now:=by omega
 clear h h1 cz
 go_enter Tryz.func101,Tryz.ntmps101
 go_wp2_with (first
  | ((with_reducible refine (H1.out).mono ?_);rintro e w1 ⟨rfl,rfl⟩)
  | ((with_reducible refine (H2.out).mono ?_);rintro e w1 ⟨rfl,rfl⟩))
 go_returns
 exact ⟨rfl,rfl⟩
def seeN (now v:Int):Int:=max now (min (v / 8) 1099511627776)
set_option maxHeartbeats 800000 in
theorem ksee_any {w:World} {k node:Nat} {now lease:Int} (h:ClkAt w k node now lease) (v:Int) (h0:0≤v) (h1:v≤18446744073709551615):Calls Tryz.prog 177 #[ptv k,.int .u64 v] w fun e w'=>e=.returned (.tuple #[])∧ClkAt w' k node (seeN now v) lease∧Sets (fun g=>g=k) w w':=by
 obtain ⟨hk,c0,c1,c2,cz⟩:=h.cells
 have hn:=h.2
 have hdr:=(Below.refl w.heap.size w).drew
 have hd:=h.sets (S:=fun _=>False) (Sets.of hdr) id
 obtain ⟨hkd,d0,d1,d2,dz⟩:=hd.cells
 have H1:=hide (uload_any k 1 now w.drew d1)
 have H2:=hide (ksplit_any v w h0 h1)
 obtain ⟨q,hq⟩:∃ q,v / 8=q:=⟨_,rfl⟩
 have HQ:=hide hq
 unfold seeN
 rw [hq] at H2 ⊢
 have hq0:0≤q:=by omega
 have key:∀ m,max now (min q 1099511627776)=m→Hid (Calls Tryz.prog 166 #[.pointer (some ⟨k,1,none⟩),.int .u64 m] w.drew fun e w'=>e=.returned (.tuple #[])∧w'=w.drew.setCell ⟨k,1,none⟩ (.int .u64 m))∧Hid (ClkAt (w.drew.setCell ⟨k,1,none⟩ (.int .u64 m)) k node m lease∧Sets (fun g=>g=k) w (w.drew.setCell ⟨k,1,none⟩ (.int .u64 m))):=fun m hm =>
  ⟨hide (ustore_any k 1 m now w.drew d1 (dz 1)),hide ⟨hd.now' (m:=m) (by omega) (by omega),(Sets.of (S:=fun g=>g=k) hdr).set (g:=k) (fun _=>rfl) 1 (.int .u64 m)⟩⟩
 by_cases a1:q≤1099511627776
 all_goals skip
 ·by_cases a2:q≤now
  ·have e1:min q 1099511627776=q:=by omega
   have e2:max now q=now:=by omega
   obtain ⟨HS,HR⟩:=key now (by omega)
   rw [e1,e2]
   clear h hn key a1 a2 hq0 hq cz hd hdr dz d0 d1 d2
   go_enter Tryz.func177,Tryz.ntmps177
   go_wp2_with ((with_reducible refine (H2.out).mono ?_);rintro e w1 ⟨n9,rfl,rfl⟩)
   go_region_with (first
    | (go_at_call 171;refine (Calls.mono H1.out ?_);rintro e w1 ⟨rfl,rfl⟩)
    | (go_at_call 166;refine (Calls.mono HS.out ?_);rintro e w1 ⟨rfl,rfl⟩))
   all_goals
    go_wp2_with fail
    go_end0
    exact ⟨rfl,HR.out⟩
  ·have e1:min q 1099511627776=q:=by omega
   have e2:max now q=q:=by omega
   obtain ⟨HS,HR⟩:=key q (by omega)
   rw [e1,e2]
   clear h hn key a1 a2 hq0 hq cz hd hdr dz d0 d1 d2
   go_enter Tryz.func177,Tryz.ntmps177
   go_wp2_with ((with_reducible refine (H2.out).mono ?_);rintro e w1 ⟨n9,rfl,rfl⟩)
   go_region_with (first
    | (go_at_call 171;refine (Calls.mono H1.out ?_);rintro e w1 ⟨rfl,rfl⟩)
    | (go_at_call 166;refine (Calls.mono HS.out ?_);rintro e w1 ⟨rfl,rfl⟩))
   all_goals
    go_wp2_with fail
    go_end0
    exact ⟨rfl,HR.out⟩
 ·have e1:min q 1099511627776=1099511627776:=by omega
  have e2:max now 1099511627776=1099511627776:=by omega
  obtain ⟨HS,HR⟩:=key 1099511627776 (by omega)
  rw [e1,e2]
  clear h hn key a1 hq0 hq cz hd hdr dz d0 d1 d2
  go_enter Tryz.func177,Tryz.ntmps177
  go_wp2_with ((with_reducible refine (H2.out).mono ?_);rintro e w1 ⟨n9,rfl,rfl⟩)
  go_region_with (first
   | (go_at_call 171;refine (Calls.mono H1.out ?_);rintro e w1 ⟨rfl,rfl⟩)
   | (go_at_call 166;refine (Calls.mono HS.out ?_);rintro e w1 ⟨rfl,rfl⟩))
  all_goals
   go_wp2_with fail
   go_end0
   exact ⟨rfl,HR.out⟩
set_option maxHeartbeats 800000 in
theorem krenew_any {w:World} {k node:Nat} {now lease:Int} (h:ClkAt w k node now lease) (tt:Int) (h0:lease < tt) (h1:tt≤1099511627776):Calls Tryz.prog 105 #[ptv k,.int .u64 tt] w fun e w'=>e=.returned (.bool true)∧ClkAt w' k node now tt∧Sets (fun g=>g=k) w w':=by
 obtain ⟨hk,c0,c1,c2,cz⟩:=h.cells
 have H1:=hide (uload_any k 2 lease w c2)
 have H2:=hide (ustore_any k 2 tt lease w c2 (cz 2))
 have d1:decide (tt≤lease)=false:=decide_eq_false (by omega)
 have d2:decide (1099511627776 < tt)=false:=decide_eq_false (by omega)
 have f1:¬ tt≤lease:=by omega
 have f2:¬ 1099511627776 < tt:=by omega
 have HR:=hide (And.intro (h.lease' (m:=tt) (by have:=h.2;omega) (by omega)) ((Sets.refl (S:=fun g=>g=k) w).set (g:=k) (fun _=>rfl) 2 (.int .u64 tt)))
 clear h h0 h1 cz
 go_enter Tryz.func105,Tryz.ntmps105
 go_wp2_with (first
  | ((with_reducible refine (H1.out).mono ?_);rintro e w1 ⟨rfl,rfl⟩)
  | ((with_reducible refine (H2.out).mono ?_);rintro e w1 ⟨rfl,rfl⟩))
 go_ret
 exact ⟨rfl,HR.out.1,HR.out.2⟩
set_option maxHeartbeats 800000 in
theorem knew_any (node:Nat) (m:Int) (w:World) (hn:node≤6) (h0:0≤m) (h1:m≤1099511627776):Calls Tryz.prog 95 #[.int .i64 node,.int .u64 m] w fun e w'=>e=.returned (.tuple #[ptv w.heap.size,.int .i64 0])∧ClkAt w' w.heap.size node m m∧Below w.heap.size w w':=by
 have d1:decide ((node:Int) < 0)=false:=decide_eq_false (by omega)
 have d2:decide (6 < (node:Int))=false:=decide_eq_false (by omega)
 have d3:decide (1099511627776 < m)=false:=decide_eq_false (by omega)
 have f1:¬ (node:Int) < 0:=by omega
 have f2:¬ 6 < (node:Int):=by omega
 have f3:¬ 1099511627776 < m:=by omega
 have hz:=heap_alloc_new w (.cells #[.int .i64 node,.int .u64 0,.int .u64 0] 250)
 have hb:=below_alloc (Below.refl w.heap.size w) (.cells #[.int .i64 node,.int .u64 0,.int .u64 0] 250)
 have hk0:ClkAt (w.alloc (.cells #[.int .i64 node,.int .u64 0,.int .u64 0] 250)) w.heap.size node 0 0:=⟨hz,hn,by omega,by omega,by omega,by omega⟩
 obtain ⟨w0,hw0⟩:∃ w0,w.alloc (.cells #[.int .i64 node,.int .u64 0,.int .u64 0] 250)=w0:=⟨_,rfl⟩
 rw [hw0] at hz hb hk0
 obtain ⟨g,hg⟩:∃ g,w.heap.size=g:=⟨_,rfl⟩
 rw [hg] at hk0 hz ⊢
 obtain ⟨hkl,c0,c1,c2,cz⟩:=hk0.cells
 have hk1:=hk0.now' h0 h1
 have H1:=hide (ustore_any g 1 m 0 w0 c1 (cz 1))
 have H2:=hide (ustore_any g 2 m 0 (w0.setCell ⟨g,1,none⟩ (.int .u64 m)) hk1.cells.2.2.2.1 (hk1.cells.2.2.2.2 2))
 have HR:=hide (hk1.lease' h0 h1)
 have HS:Hid (Below g w ((w0.setCell ⟨g,1,none⟩ (.int .u64 m)).setCell ⟨g,2,none⟩ (.int .u64 m))):=hide (by
  have:=((Sets.refl (S:=fun x=>x=g) w0).set (g:=g) (fun _=>rfl) 1 (.int .u64 m)).set (g:=g) (fun _=>rfl) 2 (.int .u64 m)
  rw [← hg] at this ⊢
  exact Sets.below hb this (fun b e=>by rw [e];exact Nat.le_refl _) hb.size)
 have HW0:=hide hw0
 have HG:=hide hg
 clear hz hb hk0 hk1 h0 h1 hw0 hg cz
 go_enter Tryz.func95,Tryz.ntmps95
 go_upto_region 6 with fail
 rw [HW0.out,HG.out]
 go_wp2_with (first
  | ((with_reducible refine (H1.out).mono ?_);rintro e w1 ⟨rfl,rfl⟩)
  | ((with_reducible refine (H2.out).mono ?_);rintro e w1 ⟨rfl,rfl⟩))
 go_returns
 exact ⟨rfl,HR.out,HS.out⟩
end Go.Proofs.YtgmkckjedngkdaaGreatDoor
namespace Go.Proofs.YtgmkckjedngkdaaGreatDoor
open Go.ChangeShapes Go.WideShapes Go.ChangeAt Go.RowKit
structure NetX (w:World) (b:Nat) (rb:Option Nat) (D:Nat→Prop) (m:Nat) (C:List Mg) (l s:Int):Prop where
 at_:∃ v M,NetV w b v m M l s∧v.ownBlock=rb∧M.map Mg.bare=C∧∀ y ∈ M,∀ a,y.A=some a→y.L ≠ []→D a.block
 ok:∀ c ∈ C,mokB c=true
theorem NetX.w {w:World} {b:Nat} {rb:Option Nat} {D:Nat→Prop} {m:Nat} {C:List Mg} {l s:Int} (h:NetX w b rb D m C l s):NetW w b rb m C l s:=by
 obtain ⟨v,M,h1,h2,h3,_⟩:=h.at_
 exact ⟨⟨v,M,h1,h2,h3⟩,h.ok⟩
theorem NetX.sets {S:Nat→Prop} {w w':World} {b:Nat} {rb:Option Nat} {D:Nat→Prop} {m:Nat} {C:List Mg} {l s:Int} (h:NetX w b rb D m C l s) (k:Sets S w w') (hb:∀ g,NBlk b rb g→¬ S g) (hD:∀ g,D g→¬ S g):NetX w' b rb D m C l s:=by
 obtain ⟨v,M,h1,rfl,h3,h4⟩:=h.at_
 exact ⟨⟨v,M,h1.sets k (hb b (.inl rfl)) (fun g hg=>hb g (.inr hg)) (fun x hx a ha hn=>hD _ (h4 x hx a ha hn)),rfl,h3,h4⟩,h.ok⟩
theorem NetX.below {w w':World} {b:Nat} {rb:Option Nat} {D:Nat→Prop} {m:Nat} {C:List Mg} {l s:Int} (h:NetX w b rb D m C l s) (hb:Below w.heap.size w w'):NetX w' b rb D m C l s:=h.sets (S:=fun _=>False) (Sets.of hb) (fun _ _=>id) (fun _ _=>id)
theorem NetX.wide {w:World} {b:Nat} {rb:Option Nat} {D D':Nat→Prop} {m:Nat} {C:List Mg} {l s:Int} (h:NetX w b rb D m C l s) (hD:∀ g,D g→D' g):NetX w b rb D' m C l s:=by
 obtain ⟨v,M,h1,rfl,h3,h4⟩:=h.at_
 exact ⟨⟨v,M,h1,rfl,h3,fun x hx a ha hn=>hD _ (h4 x hx a ha hn)⟩,h.ok⟩
theorem NetX.sent {w:World} {b:Nat} {rb:Option Nat} {D:Nat→Prop} {m:Nat} {C:List Mg} {l s:Int} (h:NetX w b rb D m C l s) (s':Int):NetX (w.setCell ⟨b,3,none⟩ (.int .i64 s')) b rb D m C l s':=by
 obtain ⟨v,M,h1,rfl,h3,h4⟩:=h.at_
 have hst:Sets (fun c=>c=b) w (w.setCell ⟨b,3,none⟩ (.int .i64 s')):=(Sets.refl (S:=fun c=>c=b) w).set (g:=b) (fun _=>rfl) 3 _
 refine ⟨⟨v,M,⟨nw_put3 _ h1.box,OwnL.sets h1.own hst (fun g hg e=>by have:=OwnL.lt h1.own g hg;omega),fun x hx=>⟨(h1.rd x hx).1.sets hst (fun a ha hn e=>by have:=(h1.rd x hx).2 a ha hn;omega),(h1.rd x hx).2⟩⟩,rfl,h3,h4⟩,h.ok⟩
set_option maxRecDepth 100000 in
theorem nnew_x (n:Int) (w:World):Calls Tryz.prog 40 #[.int .i64 n] w fun e w'=>∃ b,e=.returned (.pointer (some ⟨b,0,none⟩))∧NetX w' b none (fun _=>False) (capN n) [] 0 0∧w.heap.size≤b∧Below w.heap.size w w' :=
 (nnew_any n w).mono (by
  rintro e w' ⟨b,rfl,h1,h2,h3⟩
  obtain ⟨v,M,h4,h5,h6⟩:=h1.at_
  obtain rfl:M=[]:=List.map_eq_nil_iff.1 h6
  exact ⟨b,rfl,⟨⟨v,[],h4,h5,rfl,fun y hy=>by cases hy⟩,h1.ok⟩,h2,h3⟩)
set_option maxRecDepth 100000 in
set_option maxHeartbeats 3200000 in
theorem take_x {w:World} {b:Nat} {rb:Option Nat} {D:Nat→Prop} {m:Nat} {C:List Mg} {l s:Int} (h:NetX w b rb D m C l s) (i:Nat) (hi:i < C.length) :
 Calls Tryz.prog 110 #[.pointer (some ⟨b,0,none⟩),.int .i64 i] w fun e w'=>∃ (x:Mg),e=.returned (.tuple #[x.val,.bool true])∧x.bare=C[i]'hi∧x.rd w'∧NetX w' b rb D m (C.eraseIdx i) l s∧Sets (NBlk b rb) w w'∧∀ a,x.A=some a→x.L ≠ []→D a.block∧¬ NBlk b rb a.block∧a.block < w.heap.size:=by
 obtain ⟨v,M,hV,hrb,hMC,hDD⟩:=h.at_
 have hlen:M.length=C.length:=by rw [← hMC,List.length_map]
 have hiM:i < M.length:=by omega
 have hCe:C.eraseIdx i=(M.eraseIdx i).map Mg.bare:=by rw [← hMC,map_erase]
 have hCi:C[i]'hi=(M[i]'hiM).bare:=by subst hMC;simp
 have hok2:∀ c ∈ C.eraseIdx i,mokB c=true:=fun c hc=>h.ok c (List.mem_of_mem_eraseIdx hc)
 have HDD:Hid (∀ y ∈ M.eraseIdx i,∀ a,y.A=some a→y.L ≠ []→D a.block):=hide (fun y hy=>hDD y (List.mem_of_mem_eraseIdx hy))
 have hDX:∀ a,(M[i]'hiM).A=some a→(M[i]'hiM).L ≠ []→D a.block∧¬ NBlk b rb a.block∧a.block < w.heap.size:=fun a ha hn=>⟨hDD _ (List.getElem_mem _) a ha hn,fun e=>by
  have h0:=(hV.rd _ (List.getElem_mem hiM)).2 a ha hn
  rcases e with e | e
  ·omega
  ·exact h0.2 (by rw [hrb];exact e),(hV.rd _ (List.getElem_mem hiM)).1.lt a ha hn⟩
 have hlb:=h.w.lt
 have HRL:=hide h.w.row_lt
 have hrw:=h.ok
 rw [hCi,hCe]
 rw [hCe] at hok2
 have hxr:=hV.rd M[i] (List.getElem_mem _)
 obtain ⟨A,c,rfl,hrow,hnc,hcm⟩:=hV.slice
 obtain ⟨gr,off,rfl,hgr,hcr⟩:=hrow.at_ hiM
 have hba:=below_alloc (Below.refl w.heap.size w) (.cells #[.int .i64 0,.int .i64 0,.int .i64 0,.int .u64 0,.int .u64 0,.slice none 0 0] 33)
 have hz1:=heap_alloc_new w (.cells #[.int .i64 0,.int .i64 0,.int .i64 0,.int .u64 0,.int .u64 0,.slice none 0 0] 33)
 obtain ⟨w1,hw1⟩:∃ w1,w.alloc (.cells #[.int .i64 0,.int .i64 0,.int .i64 0,.int .u64 0,.int .u64 0,.slice none 0 0] 33)=w1:=⟨_,rfl⟩
 rw [hw1] at hba hz1
 have hV1:=hV.below hba
 obtain ⟨hbl,⟨q0,q1,q2,q3⟩,hz⟩:=nw_box hV1.box
 have HAS:=hide (has_any (i:Int) q1)
 have hhas:hasB M.length i=true:=by simp [hasB,hiM]
 rw [hhas] at HAS
 obtain ⟨x,hx⟩:∃ x,M[i]'hiM=x:=⟨_,rfl⟩
 rw [hx] at hxr hDX ⊢
 have HDX:=hide hDX
 clear hDX hDD hrw
 have hxc:∀ j u,(Mg.cells x)[j]? = some u→w1.cell? ⟨gr,off+i * 6+j,none⟩=some u:=fun j u hu=>keep_cell hba (hcr i hiM j u (by rw [hx];exact hu)) hgr
 have y0:=hxc 0 _ rfl
 have y1:=hxc 1 _ rfl
 have y2:=hxc 2 _ rfl
 have y3:=hxc 3 _ rfl
 have y4:=hxc 4 _ rfl
 have y5:=hxc 5 _ rfl
 simp only [Nat.add_zero] at y0
 have hl1:w.heap.size < w1.heap.size:=(Array.getElem?_eq_some_iff.1 hz1).1
 have hbb:=below_alloc (Below.refl w1.heap.size w1) (.cells #[.int .i64 x.k,.int .i64 x.f,.int .i64 x.t,.int .u64 x.id,.int .u64 x.n,.slice x.A x.L.length x.c] 33)
 have hz2:=heap_alloc_new w1 (.cells #[.int .i64 x.k,.int .i64 x.f,.int .i64 x.t,.int .u64 x.id,.int .u64 x.n,.slice x.A x.L.length x.c] 33)
 have HD:=hide (delm_any (OwnL.below hV1.own hbb) i hiM)
 have HBA:=hide hba
 have HBB:=hide hbb
 have HZ1:=hide hz1
 have HZ2:=hide hz2
 have HXR:=hide hxr
 have HV:=hide hV
 have HOK:=hide hok2
 have HRB:=hide hrb
 obtain ⟨n,hn⟩:∃ n,M.length=n:=⟨_,rfl⟩
 have HN:=hide hn
 rw [hn] at q1 HD hnc hiM hrb
 have HVB:Hid ((Value.slice (some ⟨gr,off,none⟩) n c).ownBlock=rb):=hide hrb
 have hiI:(i:Int) < (n:Int):=by omega
 have hi0:(0:Int)≤(i:Int):=by omega
 have hi1:IntKind.i64.wrap ((i:Int)+1)=(i:Int)+1:=by unfold maxLen at hcm;rw [IntKind.wrap_i64];omega
 have HW1:=hide hw1
 clear hMC hlen hCe hCi hok2 hrow hcr hV hV1 hxc hhas hba hbb hz1 hz2 hxr hrb hn hcm hnc q0 q2 q3 hz h hx
 go_enter Tryz.func110,Tryz.ntmps110
 go_upto_region 1 with fail
 try rw [HW1.out]
 clear HW1 hw1
 go_wp2_with (go_at_call 175;refine (Calls.mono HAS.out ?_);rintro e w2 ⟨rfl,rfl⟩)
 refine (Calls.mono HD.out ?_);rintro e w3 ⟨v3,rfl,ho3,hg3,hm3⟩
 obtain ⟨A3,c3,rfl,hr3,_,hc3,hcm3⟩:=OwnL.row Mg.cells_len ho3
 have hvr:∀ q,(Value.slice (some ⟨gr,off,none⟩) n c).ownBlock=some q→b < q∧q < w.heap.size:=fun q hq=>HRL.out q (by rw [← HVB.out];exact hq)
 have hbl2:b < (w2.alloc (.cells #[.int .i64 x.k,.int .i64 x.f,.int .i64 x.t,.int .u64 x.id,.int .u64 x.n,.slice x.A x.L.length x.c] 33)).heap.size:=Nat.lt_of_lt_of_le hlb (Nat.le_trans HBA.out.size HBB.out.size)
 have hbx3:=(hg3.block b hbl2 (fun e=>by have:=hvr b e.symm;omega)).trans ((HBB.out.block b (Nat.lt_of_lt_of_le hlb HBA.out.size)).trans ((HBA.out.block b hlb).trans HV.out.box))
 have hzz1:=(hg3.block w.heap.size (Nat.lt_of_lt_of_le hl1 HBB.out.size) (fun e=>by have:=hvr _ e.symm;omega)).trans ((HBB.out.block _ hl1).trans HZ1.out)
 have hzz2:=(hg3.block w2.heap.size (Array.getElem?_eq_some_iff.1 HZ2.out).1 (fun e=>by have:=hvr _ e.symm;have:=HBA.out.size;omega)).trans HZ2.out
 have hlE:(M.eraseIdx i).length=n - 1:=by rw [List.length_eraseIdx_of_lt (by rw [HN.out];exact hiM),HN.out]
 rw [hlE] at ho3 hm3 hc3 ⊢
 have HO3:=hide ho3
 have HG3:=hide hg3
 have HM3:=hide hm3
 have HX3:=hide hbx3
 have HZZ1:=hide hzz1
 obtain ⟨bl3,⟨p0,p1,p2,p3⟩,pz⟩:=nw_box hbx3
 obtain ⟨s0,s1,s2,s3,s4,s5⟩:=six_cells hzz1
 obtain ⟨t0,t1,t2,t3,t4,t5⟩:=six_cells hzz2
 have sf:∀ o,w3.frozen? ⟨w.heap.size,o,none⟩=false:=fun o=>by simp [World.frozen?,hzz1]
 have hne1:¬ b=w.heap.size:=by omega
 have hne2:¬ b=w2.heap.size:=by omega
 have hne3:¬ w2.heap.size=b:=by omega
 have hne4:¬ w.heap.size=b:=by omega
 obtain ⟨g,hgg⟩:∃ g,w.heap.size=g:=⟨_,rfl⟩
 obtain ⟨g2,hgg2⟩:∃ g,w2.heap.size=g:=⟨_,rfl⟩
 have hgne:¬ g=g2:=by omega
 have hgne2:¬ g2=g:=by omega
 have HGG:=hide hgg
 rw [hgg] at s0 s1 s2 s3 s4 s5 sf hne1 hne4 HZZ1 ⊢
 rw [hgg2] at t0 t1 t2 t3 t4 t5 hne2 hne3 ⊢
 have pz1:=pz 1
 have hr6:=put6m (w:=w3.setCell ⟨b,1,none⟩ (.slice A3 (n - 1) c3)) (.int .i64 x.k) (.int .i64 x.f) (.int .i64 x.t) (.int .u64 x.id) (.int .u64 x.n) (.slice x.A x.L.length x.c) ((Below.heap_setCell w3 ⟨b,1,none⟩ (.slice A3 (n - 1) c3) g (fun e=>hne4 (by simpa using e))).trans HZZ1.out)
 obtain ⟨r0,r1,r2,r3,r4,r5⟩:=six_cells hr6
 have R0:=hide r0;have R1:=hide r1;have R2:=hide r2;have R3:=hide r3;have R4:=hide r4;have R5:=hide r5
 have hk1:Sets (NBlk b rb) w w3:=((Sets.of (S:=NBlk b rb) HBA.out).trans (Sets.of (S:=fun _=>False) HBB.out) (fun _ _ h=>h.elim)).trans (Sets.grown HG3.out) (fun q _ e=>.inr (by rw [← HVB.out];exact e))
 have hk2:Sets (NBlk b rb) w (w3.setCell ⟨b,1,none⟩ (.slice A3 (n - 1) c3)):=hk1.set (fun _=>.inl rfl) 1 _
 have hk3:=Sets.set6 (S:=fun c=>c=g) (Sets.refl (w3.setCell ⟨b,1,none⟩ (.slice A3 (n - 1) c3))) (g:=g) (fun _=>rfl) (.int .i64 x.k) (.int .i64 x.f) (.int .i64 x.t) (.int .u64 x.id) (.int .u64 x.n) (.slice x.A x.L.length x.c)
 have HFS:=hide (hk2.trans hk3 (fun q hq e=>absurd hq (by have:=HGG.out;omega)))
 have hvn:∀ j,j≤b ∨ w.heap.size≤j→(Value.slice A3 (n - 1) c3).ownBlock ≠ some j:=fun j hj e=>by
  have:=hvr j (by rw [← HM3.out];exact e)
  omega
 have HFN:Hid (NetV (((((((w3.setCell ⟨b,1,none⟩ (.slice A3 (n - 1) c3)).setCell ⟨g,0,none⟩ (.int .i64 x.k)).setCell ⟨g,1,none⟩ (.int .i64 x.f)).setCell ⟨g,2,none⟩ (.int .i64 x.t)).setCell ⟨g,3,none⟩ (.int .u64 x.id)).setCell ⟨g,4,none⟩ (.int .u64 x.n)).setCell ⟨g,5,none⟩ (.slice x.A x.L.length x.c)) b (.slice A3 (n - 1) c3) m (M.eraseIdx i) l s):=hide (by
  refine NetV.sets (S:=fun c=>c=g) (w:=w3.setCell ⟨b,1,none⟩ (.slice A3 (n - 1) c3)) ⟨nw_put1 _ HX3.out,OwnL.setFar HO3.out (hvn b (.inl (Nat.le_refl _))) _,fun y hy=>?_⟩ hk3 (fun e=>hne1 e) (fun q hq e=>hvn q (.inr (by have:=HGG.out;omega)) hq) (fun y hy a ha hn e=>?_)
  ·have hy0:=HV.out.rd y (List.mem_of_mem_eraseIdx hy)
   refine ⟨hy0.1.sets hk2 (fun a ha hn hs=>?_),fun a ha hn=>⟨(hy0.2 a ha hn).1,fun e=>(hy0.2 a ha hn).2 (by rw [HN.out,← HM3.out];exact e)⟩⟩
   have h2:=hy0.2 a ha hn
   rcases hs with hs | hs
   ·omega
   ·exact h2.2 (by rw [HN.out,HVB.out];exact hs)
  ·have hy0:=HV.out.rd y (List.mem_of_mem_eraseIdx hy)
   have:=hy0.1.lt a ha hn
   have:=HGG.out
   omega)
 have HFX:Hid (x.rd (((((((w3.setCell ⟨b,1,none⟩ (.slice A3 (n - 1) c3)).setCell ⟨g,0,none⟩ (.int .i64 x.k)).setCell ⟨g,1,none⟩ (.int .i64 x.f)).setCell ⟨g,2,none⟩ (.int .i64 x.t)).setCell ⟨g,3,none⟩ (.int .u64 x.id)).setCell ⟨g,4,none⟩ (.int .u64 x.n)).setCell ⟨g,5,none⟩ (.slice x.A x.L.length x.c))):=hide (by
  refine HXR.out.1.sets HFS.out (fun a ha hn hs=>?_)
  have h2:=HXR.out.2 a ha hn
  rcases hs with hs | hs
  ·omega
  ·exact h2.2 (by rw [HN.out,HVB.out];exact hs))
 have HMV:Hid ((Value.slice A3 (n - 1) c3).ownBlock=rb):=hide (by rw [HM3.out,HVB.out])
 clear hbx3 hzz1 hzz2 hk1 hk2 hk3 hr6 r0 r1 r2 r3 r4 r5 ho3 hg3 hm3 hr3 pz hvn hvr y0 y1 y2 y3 y4 y5 hgg hgg2 HD HAS
 go_wp2_with fail
 refine bodyPost_ret (v:=.tuple #[x.val,.bool true]) (by simp [results,Tryz.results110,go_sem,R0.out,R1.out,R2.out,R3.out,R4.out,R5.out]) rfl ?_
 exact ⟨x,rfl,rfl,HFX.out,⟨⟨_,_,HFN.out,HMV.out,rfl,HDD.out⟩,HOK.out⟩,HFS.out,HDX.out⟩
set_option maxRecDepth 100000 in
set_option maxHeartbeats 6400000 in
theorem send_x {w:World} {b:Nat} {rb:Option Nat} {D:Nat→Prop} {m:Nat} {C:List Mg} {l s:Int} (h:NetX w b rb D m C l s) (x:Mg) (hx:x.rd w) (hxb:∀ a,x.A=some a→x.L ≠ []→¬ NBlk b rb a.block) (hk:mokB x=true) (hC:C.length < m) (hm:m≤1000) (hs:0≤s∧s≤1099511627776) :
 Calls Tryz.prog 173 #[.pointer (some ⟨b,0,none⟩),x.val] w fun e w'=>∃ rb',e=.returned (.bool true)∧NetX w' b rb' (Xn D w w') m (C ++ [x.bare]) l (s+1)∧Sets (NBlk b rb) w w'∧MovedB w rb rb':=by
 have hxl:x.L.length≤1500:=by unfold mokB at hk;simp at hk;omega
 have hba:=below_alloc (Below.refl w.heap.size w) (.cells #[.int .i64 x.k,.int .i64 x.f,.int .i64 x.t,.int .u64 x.id,.int .u64 x.n,.slice x.A x.L.length x.c] 33)
 have hg1:=heap_alloc_new w (.cells #[.int .i64 x.k,.int .i64 x.f,.int .i64 x.t,.int .u64 x.id,.int .u64 x.n,.slice x.A x.L.length x.c] 33)
 have HO:=hide (mok_any x _ (hx.1.below hba) (by omega))
 rw [hk] at HO
 have hsw:IntKind.i64.wrap (s+1)=s+1:=by rw [IntKind.wrap_i64];omega
 have H:=hide h
 have HX:=hide hx
 have HXB:=hide hxb
 have HBA:=hide hba
 have HG1:=hide hg1
 have HK:=hide hk
 have hlb:=h.w.lt
 have hgl1:w.heap.size < (w.alloc (.cells #[.int .i64 x.k,.int .i64 x.f,.int .i64 x.t,.int .u64 x.id,.int .u64 x.n,.slice x.A x.L.length x.c] 33)).heap.size:=by simp
 clear h hx hxb hba hg1 hk
 go_enter Tryz.func173,Tryz.ntmps173
 go_wp2_with fail
 refine (Calls.mono HO.out ?_);rintro e w1 ⟨rfl,hb⟩
 have hb1:=below_step HBA.out hb
 have hN1:=H.out.below hb1
 obtain ⟨v,M,hV,hrb,hMC,hDD0⟩:=hN1.at_
 clear hDD0
 obtain ⟨hbl,⟨q0,q1,q2,q3⟩,hz⟩:=nw_box hV.box
 have HI:=hide (iadd_any b 3 s 1 _ q3 (hz 3) hsw)
 have HB1:=hide hb1
 have HG2:=hide ((hb.block _ hgl1).trans HG1.out)
 have HN2:=hide (hN1.sent (s+1))
 clear hb hb1 hN1 hV hrb hMC q0 q1 q2 q3 hz HG1 hgl1 HO M v
 go_wp2_with fail
 refine (Calls.mono HI.out ?_);rintro e w2 ⟨rfl,rfl⟩
 have hst:Sets (fun c=>c=b) w1 (w1.setCell ⟨b,3,none⟩ (.int .i64 (s+1))):=(Sets.refl (S:=fun c=>c=b) w1).set (g:=b) (fun _=>rfl) 3 _
 have HS2:Hid (Sets (NBlk b rb) w (w1.setCell ⟨b,3,none⟩ (.int .i64 (s+1)))):=hide ((Sets.of (S:=NBlk b rb) HB1.out).trans hst (fun _ _ e=>.inl e))
 have hgz:w.heap.size < w1.heap.size:=(Array.getElem?_eq_some_iff.1 HG2.out).1
 have HG3:=hide ((hst.block w.heap.size hgz (by omega)).trans HG2.out)
 obtain ⟨w3,hw3⟩:∃ w3,w1.setCell ⟨b,3,none⟩ (.int .i64 (s+1))=w3:=⟨_,rfl⟩
 rw [hw3] at HN2 HS2 HG3
 have HW3:=hide hw3
 clear hst HI HG2 hgz hw3
 obtain ⟨v,M,hV,hrb,hMC,hDD⟩:=HN2.out.at_
 have HDD:=hide hDD
 clear hDD
 obtain ⟨A,c,rfl,hrow,hnc,hcm⟩:=hV.slice
 obtain ⟨hbl2,⟨q0,q1,q2,q3⟩,hz⟩:=nw_box hV.box
 have hgl3:w.heap.size < w3.heap.size:=(Array.getElem?_eq_some_iff.1 HG3.out).1
 obtain ⟨x0,x1,x2,x3,x4,x5⟩:=six_cells HG3.out
 obtain ⟨g,hgg⟩:∃ g,w.heap.size=g:=⟨_,rfl⟩
 have HGG0:=hide hgg
 rw [hgg] at x0 x1 x2 x3 x4 x5 hgl3 ⊢
 have HC:Hid (∀ W:World,Below w3.heap.size w3.drew W→(W.cell? ⟨b,1,none⟩=some (.slice A M.length c))∧W.cell? ⟨g,0,none⟩=some (.int .i64 x.k)∧W.cell? ⟨g,1,none⟩=some (.int .i64 x.f)∧W.cell? ⟨g,2,none⟩=some (.int .i64 x.t)∧W.cell? ⟨g,3,none⟩=some (.int .u64 x.id)∧W.cell? ⟨g,4,none⟩=some (.int .u64 x.n)∧W.cell? ⟨g,5,none⟩=some (.slice x.A x.L.length x.c)):=hide (fun W hW =>
  ⟨ckd hbl2 q1 hW,ckd hgl3 x0 hW,ckd hgl3 x1 hW,ckd hgl3 x2 hW,ckd hgl3 x3 hW,ckd hgl3 x4 hW,ckd hgl3 x5 hW⟩)
 have HX3:Hid (x.rd w3):=hide (HX.out.sets HS2.out HXB.out)
 have HCP:Hid (Calls Tryz.prog 235 #[x.val] w3.drew fun e w'=>∃ A' c',e=.returned (Mg.val { x with A:=A',c:=c' })∧Ow w3.heap.size w' (.slice A' x.L.length c') x.L∧Below w3.drew.heap.size w3.drew w'):=hide (mcopy_any x w3.drew (HX3.out.below (Below.refl _ _).drew) (by omega))
 have HOW:=hide hV.own
 have HBX:=hide hV.box
 have HVV:=hide hV
 have HMC:=hide hMC
 have hlen:M.length=C.length:=by rw [← hMC,List.length_map]
 have hk6:M.length+1≤1000000:=by omega
 have HRO:Hid ((Value.slice A M.length c).ownBlock ≠ some b):=hide (fun e=>by have:=OwnL.lt hV.own b e;omega)
 have HRB:=hide hrb
 have HLEN:=hide hlen
 clear hV hrb hMC hrow q0 q1 q2 q3 hz x0 x1 x2 x3 x4 x5 hgg hcm hlen
 go_upto_region 4 with fail
 try rw [HW3.out]
 clear HW3
 refine j_start [8,9,10,11,0] (by kernel_rfl) ?_
 refine' j_tw 0 rfl (by kernel_rfl) rfl ?y0 ?r0
 case y0=>(intro w' hw';go_simp;try with_reducible rfl)
 try go_frame
 refine' j_t 1 [2,3,4,8,9,10,11] rfl (by kernel_rfl) rfl ?y1 ?r1
 case y1=>(intro w' hw';go_simp;try with_reducible rfl)
 try go_frame
 refine' j_t 2 [3,4,8,9,10,11] rfl (by kernel_rfl) rfl ?y2 ?r2
 case y2=>(intro w' hw';go_simp;try with_reducible rfl)
 try go_frame
 refine' j_t 3 [4,8,9,10,11] rfl (by kernel_rfl) rfl ?y3 ?r3
 case y3=>(intro w' hw';go_simp;try with_reducible rfl)
 try go_frame
 refine' j_t 4 [8,9,10,11] rfl (by kernel_rfl) rfl ?y4 ?r4
 case y4=>(intro w' hw';have h0:=(HC.out _ hw').1;go_simp;try with_reducible rfl)
 try go_frame
 refine' j_t 5 [6,7,8,9,10,11] rfl (by kernel_rfl) rfl ?y5 ?r5
 case y5=>(intro w' hw';obtain ⟨_,i0,i1,i2,i3,i4,i5⟩:=HC.out _ hw';go_simp;try with_reducible rfl)
 try go_frame
 refine' j_s 6 (by kernel_rfl) rfl (fun K hK=>?s6)
 go_simp
 refine (Calls.mono (HCP.out) ?_);rintro e u1 ⟨Ac,cc,rfl,hoc,gg⟩
 have HOC:=hide hoc
 have HGG:=hide gg
 clear hoc
 refine hK.out _ _ gg (j_switch gg ?_)
 clear hK K gg
 try go_frame
 refine' j_s 7 (by kernel_rfl) rfl (fun K hK=>?s7)
 go_simp
 have ha:=below_alloc (Below.refl u1.heap.size u1) (.cells #[.int .i64 x.k,.int .i64 x.f,.int .i64 x.t,.int .u64 x.id,.int .u64 x.n,.slice Ac x.L.length cc] 33)
 have HN:=hide (RowAt.new_one (cells:=Mg.cells) (sz:=6) (y:=⟨x.k,x.f,x.t,x.id,x.n,Ac,cc,x.L⟩) (heap_alloc_new u1 (.cells #[.int .i64 x.k,.int .i64 x.f,.int .i64 x.t,.int .u64 x.id,.int .u64 x.n,.slice Ac x.L.length cc] 33)))
 have HGA:Hid (Below w3.heap.size w3 (u1.alloc (.cells #[.int .i64 x.k,.int .i64 x.f,.int .i64 x.t,.int .u64 x.id,.int .u64 x.n,.slice Ac x.L.length cc] 33))):=hide (below_step (((Below.refl _ w3).drew).trans HGG.out) ha)
 have HOC:=hide (Ow.below HOC.out ha)
 refine hK.out _ _ ha (j_switch ha ?_)
 clear hK K ha
 try go_frame
 refine' j_l 8 (by kernel_rfl) rfl (by kernel_rfl) (fun K hK=>?s8)
 have hua:=HGA.out.size
 refine step_app_msg rfl (.tmp 16) (.tmp 19) rfl rfl (b+1) (.slice A M.length c) M rfl (OwnL.below HOW.out HGA.out) (some ⟨u1.heap.size,0,none⟩) 1 1 [⟨x.k,x.f,x.t,x.id,x.n,Ac,cc,x.L⟩] rfl rfl HN.out hk6 (Nat.le_trans hbl2 hua) ?_
 intro v8 w8 ho8 hg8 hm8
 obtain ⟨A8,c8,rfl,hr8,_,hc8,hcm8⟩:=OwnL.row Mg.cells_len ho8
 have hbx8:=(hg8.block b (Nat.lt_of_lt_of_le hbl2 hua) (fun e=>HRO.out e.symm)).trans ((HGA.out.block b hbl2).trans HBX.out)
 obtain ⟨bl8,⟨d0,d1,d2,d3⟩,dz⟩:=nw_box hbx8
 have HBX8:=hide hbx8
 have HO8:=hide ho8
 have HG8:=hide hg8
 have HM8:=hide hm8
 have dz1:=dz 1
 have hl8:(M ++ [(⟨x.k,x.f,x.t,x.id,x.n,Ac,cc,x.L⟩:Mg)]).length=M.length+1:=by simp
 rw [hl8] at HO8 HM8 hc8 ⊢
 clear hbx8 ho8 hg8 hm8 hr8 dz hua hl8
 refine hK.out _ _ ?_
 clear hK K
 try go_frame
 refine' j_l 9 (by kernel_rfl) rfl (by kernel_rfl) (fun K hK=>?s9)
 go_simp
 refine hK.out _ _ ?_
 clear hK K
 try go_frame
 refine' j_l 10 (by kernel_rfl) rfl (by kernel_rfl) (fun K hK=>?s10)
 go_simp
 refine hK.out _ _ ?_
 clear hK K
 try go_frame
 refine' j_l 11 (by kernel_rfl) rfl (by kernel_rfl) (fun K hK=>?s11)
 go_simp
 refine hK.out _ _ ?_
 clear hK K
 try go_frame
 refine wpAnyJ_done (by kernel_rfl) ?_ _
 refine NoPanic.normal ?_
 obtain ⟨uA,huA⟩:∃ uA,u1.alloc (.cells #[.int .i64 x.k,.int .i64 x.f,.int .i64 x.t,.int .u64 x.id,.int .u64 x.n,.slice Ac x.L.length cc] 33)=uA:=⟨_,rfl⟩
 rw [huA] at HGA HOC HG8 HM8
 clear huA HN HGG HCP
 have hvr:∀ q,(Value.slice A M.length c).ownBlock=some q→b+1≤q∧q < w3.heap.size:=fun q hq=>OwnL.lt HOW.out q hq
 have hob8:(Value.slice A8 (M.length+1) c8).ownBlock ≠ some b:=fun e=>by have:=(OwnL.lt HO8.out _ e).1;omega
 have hst8:Sets (fun c=>c=b) w8 (w8.setCell ⟨b,1,none⟩ (.slice A8 (M.length+1) c8)):=(Sets.refl (S:=fun c=>c=b) w8).set (g:=b) (fun _=>rfl) 1 _
 have hgz:=HGA.out.size
 have hgr8:=Sets.grown HG8.out
 obtain ⟨Ax,cx,ex,hrx,hlx,hcx1,hcx2⟩:=OwnL.row It.cells_len HOC.out
 have ex1:Ac=Ax∧cc=cx:=by injection ex with e1 e2 e3;exact ⟨e1,e3⟩
 obtain ⟨rfl,rfl⟩:=ex1
 have hfv:NetV (w8.setCell ⟨b,1,none⟩ (.slice A8 (M.length+1) c8)) b (.slice A8 (M.length+1) c8) m (M ++ [⟨x.k,x.f,x.t,x.id,x.n,Ac,cc,x.L⟩]) l (s+1):=by
  refine ⟨nw_put1 _ HBX8.out,OwnL.setFar HO8.out hob8 _,fun y hy=>?_⟩
  have key:y.rd uA∧∀ a,y.A=some a→y.L ≠ []→b < a.block∧(Value.slice A M.length c).ownBlock ≠ some a.block∧a.block < uA.heap.size:=by
   rcases List.mem_append.1 hy with h | h
   ·have h0:=HVV.out.rd y h
    exact ⟨h0.1.below HGA.out,fun a ha hn=>⟨(h0.2 a ha hn).1,(h0.2 a ha hn).2,Nat.lt_of_lt_of_le (h0.1.lt a ha hn) hgz⟩⟩
   ·obtain rfl:=List.mem_singleton.1 h
    refine ⟨⟨hrx,hcx1,hcx2⟩,fun a ha hn=>?_⟩
    have h1:=hlx a.block a.off a.spot (by rw [← ha])
    exact ⟨by omega,fun e=>by have:=hvr _ e;omega,h1.2⟩
  refine ⟨(key.1.sets hgr8 (fun a ha hn e=>(key.2 a ha hn).2.1 e)).sets hst8 (fun a ha hn e=>by have:=(key.2 a ha hn).1;omega),fun a ha hn=>⟨(key.2 a ha hn).1,fun e=>?_⟩⟩
  rcases HM8.out with h | h
  ·exact (key.2 a ha hn).2.1 (by rw [← h];exact e)
  ·rw [h] at e
   have e2:=Option.some.inj e
   have:=(key.2 a ha hn).2.2
   omega
 have hxm:mokB x.bare=true:=by rw [← mokB_same (bare_same x)];exact HK.out
 have HWF:Hid (NetX (w8.setCell ⟨b,1,none⟩ (.slice A8 (M.length+1) c8)) b (Value.slice A8 (M.length+1) c8).ownBlock (Xn D w (w8.setCell ⟨b,1,none⟩ (.slice A8 (M.length+1) c8))) m (C ++ [x.bare]) l (s+1)):=hide ⟨⟨_,_,hfv,rfl,by rw [List.map_append,HMC.out];rfl,fun y hy a ha hn=>by
  have hlt:=(hfv.rd y hy).1.lt a ha hn
  rcases List.mem_append.1 hy with h | h
  ·exact .inl (HDD.out y h a ha hn)
  ·obtain rfl:=List.mem_singleton.1 h
   have h1:=hlx a.block a.off a.spot (by rw [← ha])
   exact .inr ⟨by have:=HS2.out.size;omega,hlt⟩⟩,fun c hc=>by
  rcases List.mem_append.1 hc with h | h
  ·exact H.out.ok c h
  ·obtain rfl:=List.mem_singleton.1 h;exact hxm⟩
 have HSF:Hid (Sets (NBlk b rb) w (w8.setCell ⟨b,1,none⟩ (.slice A8 (M.length+1) c8))):=hide (((HS2.out.trans (Sets.of (S:=fun _=>False) HGA.out) (fun _ _ h=>h.elim)).trans hgr8 (fun q _ e=>.inr (by rw [← HRB.out];exact e))).trans hst8 (fun _ _ e=>.inl e))
 have HMF:Hid (MovedB w rb (Value.slice A8 (M.length+1) c8).ownBlock):=hide (by
  rcases HM8.out with h | h
  ·exact .inl (by rw [h,HRB.out])
  ·exact .inr ⟨_,by have:=HGG0.out;omega,h⟩)
 have hbf:=nw_box hfv.box
 obtain ⟨wf,hwf⟩:∃ wf,w8.setCell ⟨b,1,none⟩ (.slice A8 (M.length+1) c8)=wf:=⟨_,rfl⟩
 rw [hwf] at HWF HSF hbf
 obtain ⟨blf,⟨f0,f1,f2,f3⟩,ff⟩:=hbf
 have HWFE:=hide hwf
 rw [HLEN.out] at f1 HMF HWF
 clear hfv hst8 hgr8 hvr hob8 hrx hlx ex hxm hwf d0 d1 d2 d3 dz1 HO8 HG8 HM8 HBX8 HOW HVV HBX HC HRO ff f2 f3
 go_upto_region 5 with fail
 try rw [HWFE.out]
 clear HWFE
 obtain ⟨n,hn⟩:∃ n,C.length=n:=⟨_,rfl⟩
 rw [hn] at f1
 have hr:Below wf.heap.size wf wf:=Below.refl _ _
 have HR:=hide hr
 have hmn:¬ m < n+1:=by omega
 have hmI:¬ (m:Int) < (n:Int)+1:=by omega
 have hmD:decide ((m:Int) < (n:Int)+1)=false:=decide_eq_false hmI
 go_quiet (fail)
 go_wp2_with fail
 go_ret
 refine ⟨rfl,_,?_,HSF.out.trans (Sets.of (S:=NBlk b rb) (below_drewN HR.out nq)) (fun _ _ h=>h),HMF.out⟩
 exact (HWF.out.below (below_drewN HR.out nq)).wide (fun g hg=>hg.imp id (fun h=>⟨h.1,Nat.lt_of_lt_of_le h.2 (below_drewN HR.out nq).size⟩))
end Go.Proofs.YtgmkckjedngkdaaGreatDoor
namespace Go.Proofs.YtgmkckjedngkdaaGreatDoor
open Go.ChangeShapes Go.WideShapes Go.ChangeAt Go.RowKit
theorem cell0_of {w:World} {g:Nat} {v0:Value} {t:TypeId} (h:w.heap[g]? = some (.cells #[v0] t (0,0))):w.cell? ⟨g,0,none⟩=some v0:=(cell_of_row w g 0 _ _ _ h).trans rfl
abbrev intv (x:Int):Value:=.int .i64 x
def HasV (D:DataW Unit) (i:Nat):Prop:=∃ kl:Lit,∀ zd,D.atKey kl zd=.lit (.int .i64 i)
theorem has_of_at {D:DataW Unit} {kl:Lit} {i:Int} (h:∀ zd,D.atKey kl zd=.lit (.int .i64 i)):Maps.has D kl=true:=by
 have h1:=h (.lit (.int .i64 (i+1)))
 unfold DataW.atKey at h1
 cases D with
 | map es =>
  simp only at h1
  cases hf:es.find? (fun p=>p.1.sameKey kl) with
  | some p =>
   rw [Maps.has_eq,List.any_eq_true]
   exact ⟨p,List.mem_of_find?_eq_some hf,List.find?_some (p:=fun p:Lit × DataW Unit=>p.1.sameKey kl) hf⟩
  | none =>
   rw [hf] at h1
   simp at h1
   omega
 | _=>simp at h1;omega
set_option maxRecDepth 100000 in
set_option maxHeartbeats 1600000 in
theorem led1_any {w:World} {b n gi i m:Nat} {D:DataW Unit} (hn:NamesAt w b n D) (hc:w.cell? ⟨gi,0,none⟩=some (.int .i64 i)) (hl:Led D m) (B:Bool) (hB:B=true ↔ HasV D i) :
 Calls Tryz.prog 167 #[.map (some b),.pointer (some ⟨gi,0,none⟩)] w fun e w'=>e=.returned (.bool B)∧Below w.heap.size w w':=by
 have hg:gi < w.heap.size:=by
  by_cases h:gi < w.heap.size
  ·exact h
  ·rw [show w.cell? ⟨gi,0,none⟩=none by simp [World.cell?,Array.getElem?_eq_none (Nat.le_of_not_lt h)]] at hc
   cases hc
 have HN:=hide hn
 have HC:=hide hc
 have HL:=hide hl
 have HB:=hide hB
 have HG:=hide hg
 clear hn hc hl hB hg
 go_enter Tryz.func167,Tryz.ntmps167
 go_wp2_with (first
  | (at_range;refine wpList_range_own _ rfl _ 61 rfl 9 3 keyS Tryz.underlying61 _ b n _ rfl HN.out ?_;intro w0 hrg0 hg0 hs0)
  | go_in)
 go_frame
 have hb0:Below w.heap.size w w0:=(Below.refl _ w).grown hg0 (Nat.le_refl _) (fun j hj=>by cases hj)
 go_loopw [5] (fun _ wr=>∃ (left:Lit→Bool) (cnt:Nat),wr.ranges Tryz.prog 9 (plainElem Tryz.prog 3) b w.heap.size n D left cnt∧(∀ kl,Maps.has D kl=true→left kl=false→¬ ∀ zd,D.atKey kl zd=.lit (.int .i64 i))∧Below w.heap.size w wr)
  (fun _ wr=>wr.rangeLeft b w.heap.size)
 case atStart=>exact ⟨_,_,hrg0,fun kl h1 h2=>(by rw [h1] at h2;cases h2),hb0⟩
 case round =>
  clear hrg0 hg0 hs0 hb0 w0
  obtain ⟨left,cnt,hrg,hno,hnx⟩:=hrel
  go_wp2_with (first
   | (at_next;refine wpList_next_si _ rfl _ rfl 9 3 .i64 keyS Tryz.underlying9 Tryz.underlying3 b w.heap.size n _ _ _ rfl hrg ?_ ?_)
   | go_in)
  ·intro hc0 hl0
   subst hc0
   have hBf:B=false:=by
    cases hb:B with
    | false=>rfl
    | true =>
     exfalso
     obtain ⟨kl,hk⟩:=HB.out.1 hb
     exact hno kl (has_of_at hk) (hl0 kl) hk
   subst hBf
   have HNX:=hide hnx
   clear hno hl0 hnx hrg
   go_wp2
   go_ret
   exact ⟨rfl,HNX.out⟩
  ·intro x c w1 cnt1 hat hrg1 hlt hg1 hs1 hen
   obtain ⟨q,hq,hy⟩:=HL.out _ _ hat
   obtain rfl:c=q:=by injection hy with hy;injection hy
   have hnx1:=hnx.grown hg1 hnx.size (fun j hj=>by cases hj;exact Nat.le_refl _)
   have hc1:=(hnx1.cell (p:=⟨gi,0,none⟩) HG.out).trans HC.out
   have HNX:=hide hnx1
   by_cases hqi:q=i
   ·have hBt:B=true:=HB.out.2 ⟨_,fun zd=>by rw [hat zd,hqi]⟩
    subst hBt
    have d1:((q:Int) == (i:Int))=true:=by rw [hqi];exact beq_self_eq_true _
    have d2:(q:Int)=(i:Int):=by rw [hqi]
    rw [d2]
    rw [d2] at hen
    clear hno hnx1 hrg hat hnx hy d1 d2
    go_wp2_with fail
    go_ret
    exact ⟨rfl,HNX.out⟩
   ·have d1:((q:Int) == (i:Int))=false:=by rw [beq_eq_false_iff_ne];omega
    have d2:¬ (q:Int)=(i:Int):=by omega
    have HNO:Hid (∀ kl,Maps.has D kl=true→(left kl && !kl.sameKey (.string x.data.toList))=false→¬ ∀ zd,D.atKey kl zd=.lit (.int .i64 i)):=hide (fun kl h1 h2 h3=>by
     cases h4:left kl with
     | false=>exact hno kl h1 h4 h3
     | true =>
      rw [h4] at h2
      have h5:kl.sameKey (.string x.data.toList)=true:=by simpa using h2
      have h6:=WideAt.sameKey_eq h5
      rw [h6] at h3
      have h7:=(hat (.lit (.int .i64 0))).symm.trans (h3 (.lit (.int .i64 0)))
      injection h7 with h7
      injection h7 with _ h7
      exact d2 h7)
    have HRG:=hide hrg1
    have HLT:=hide hlt
    have HRO:=hide hrg
    clear hno hnx1 hat hnx hy
    go_wp2_with fail
    go_roundw
    case rel=>exact ⟨_,cnt1,HRG.out,HNO.out,HNX.out⟩
    case measure=>rw [HRG.out.left_eq,HRO.out.left_eq];exact HLT.out
theorem idxt_none (A:Option Addr) (c:Nat) (f:Value) (w:World):Calls Tryz.prog 233 #[.slice A 0 c,f] w fun e w'=>e=.returned (.int .i64 (-1))∧w'=w:=by
 go_enter Tryz.func233,Tryz.ntmps233
 go_wp2
 go_loopw [8] (fun i wr=>i=.int .i64 0∧wr=w) (fun _ _=>0)
 case atStart=>exact ⟨rfl,rfl⟩
 case round =>
  obtain ⟨rfl,rfl⟩:=hrel
  go_wp2
  go_ret
  exact ⟨rfl,rfl⟩
theorem cont_none (A:Option Addr) (c:Nat) (f:Value) (w:World):Calls Tryz.prog 168 #[.slice A 0 c,f] w fun e w'=>e=.returned (.bool false)∧w'=w:=by
 have H:=hide (idxt_none A c f w)
 go_enter Tryz.func168,Tryz.ntmps168
 go_wp2_with (refine (Calls.mono H.out ?_);rintro e w1 ⟨rfl,rfl⟩)
 go_ret
 exact ⟨rfl,rfl⟩
theorem Tryz.infoIntv:(Tryz.prog.info? 3).map (fun i=>(i.zero,i.size,i.bytes))=some (some (.int .i64 0),1,8):=by kernel_rfl
set_option maxRecDepth 100000 in
set_option maxHeartbeats 3200000 in
theorem led_any {w:World} {base p:Nat} {X:Nat→Prop} {K:Dk} {h:Dh} (H:DiskV w base p X K h) (hT:h.T=[]) (hD:h.DL=K.D) :
 Calls Tryz.prog 98 #[ptv p] w fun e w'=>∃ v,e=.returned v∧∃ L,OwnL (one1 intv) 1 3 w.heap.size w' v L∧(∀ x ∈ L,∃ i:Nat,x=(i:Int)∧i < K.Z.length)∧L.length≤K.Z.length∧Below w.heap.size w w':=by
 classical
 have hZ:=H.few.1
 have hled:=H.led
 have hnm:=H.names
 have hla:=H.lasted
 rw [hD] at hla
 have htu:=H.turns
 rw [hT] at htu
 obtain ⟨At,ct,hvt,_⟩:=OwnL.row Tn.len htu
 rw [show ([]:List Tn).length=0 from rfl] at hvt
 obtain ⟨Af,cf,hvf,_⟩:=H.row
 obtain ⟨hp,⟨c0,c1,c2,c3,c4⟩,_⟩:=dk_box H.box
 rw [hvt] at c4
 rw [hvf] at c1
 have HP:=hide hp
 have HNM:=hide hnm
 have HLA:=hide hla
 have HLD:=hide hled
 have HZ:=hide hZ
 obtain ⟨nz,hnz⟩:∃ nz,K.Z.length=nz:=⟨_,rfl⟩
 have hn3:=h.bn
 obtain ⟨bn,hbn⟩:∃ b,h.bn=b:=⟨_,rfl⟩
 obtain ⟨bl,hbl⟩:∃ b,h.bl=b:=⟨_,rfl⟩
 rw [hbn] at c2 HNM
 rw [hbl] at c3 HLA
 rw [hnz] at c1 HLD HZ ⊢
 have HCC:Hid (∀ W:World,Below w.heap.size w W→W.cell? ⟨p,1,none⟩=some (.slice Af nz cf)∧W.cell? ⟨p,2,none⟩=some (.map (some bn))∧W.cell? ⟨p,3,none⟩=some (.map (some bl))∧W.cell? ⟨p,4,none⟩=some (.slice At 0 ct)∧p < W.heap.size):=hide (fun W hW =>
  ⟨(hW.cell (p:=⟨p,1,none⟩) HP.out).trans c1,(hW.cell (p:=⟨p,2,none⟩) HP.out).trans c2,(hW.cell (p:=⟨p,3,none⟩) HP.out).trans c3,(hW.cell (p:=⟨p,4,none⟩) HP.out).trans c4,Nat.lt_of_lt_of_le HP.out hW.size⟩)
 clear H hT hD hvt hvf hZ hled hnm hla htu hnz hbn hbl hn3 c0 c2 c3 c4 hp
 have hp:=HP.out
 go_enter Tryz.func98,Tryz.ntmps98
 go_wp2_with fail
 go_loopw [3,12] (fun v i wr=>∃ (k:Nat) (L:List Int),k≤nz∧i=.int .i64 k∧OwnL (one1 intv) 1 3 w.heap.size wr v L∧(∀ x ∈ L,∃ i:Nat,x=(i:Int)∧i < nz)∧L.length≤k∧Below w.heap.size w wr) (fun _ i _=>nz - (intOf i).toNat)
 case atStart=>exact ⟨0,[],by omega,rfl,OwnL.nil_ _ _ _ _ _,fun x hx=>(by cases hx),Nat.le_refl _,Below.refl _ _⟩
 case round =>
  clear c1 hp
  obtain ⟨k,L,hk,rfl,ho,hL,hlk,hb⟩:=hrel
  have HO:=hide ho
  have HL:=hide hL
  have HLK:=hide hlk
  have HB:=hide hb
  clear ho hL hlk hb
  by_cases hlt:k < nz
  ·have hkI:(k:Int) < (nz:Int):=by omega
   have hk0:(0:Int)≤(k:Int):=by omega
   have HLT:=hide hlt
   have hz1000:=HZ.out
   go_upto_region 5 with fail
   have hz4:=heap_alloc_new wr (.cells #[.int .i64 k] 3)
   have hb4:=below_alloc (Below.refl wr.heap.size wr) (.cells #[.int .i64 k] 3)
   obtain ⟨w4,hw4⟩:∃ w4,wr.alloc (.cells #[.int .i64 k] 3)=w4:=⟨_,rfl⟩
   rw [hw4] at hz4 hb4 ⊢
   obtain ⟨g4,hg4⟩:∃ g4,wr.heap.size=g4:=⟨_,rfl⟩
   rw [hg4] at hz4 ⊢
   have q4:=cell0_of hz4
   have hl4:=(Array.getElem?_eq_some_iff.1 hz4).1
   have HB4:=hide (below_step HB.out hb4)
   have HW4:=hide hb4
   have hBB:∃ B:Bool,B=true ↔ HasV K.D k:=⟨decide (HasV K.D k),decide_eq_true_iff⟩
   obtain ⟨B,hB⟩:=hBB
   have HB1:=hide (fun (W:World) (hW:Below w4.heap.size w4 W)=>led1_any (gi:=g4) (i:=k) (m:=nz) (NamesAt.sets (S:=fun _=>False) HNM.out (Sets.of (below_step HB4.out hW)) id) ((hW.cell (p:=⟨g4,0,none⟩) hl4).trans q4) HLD.out B hB)
   have HB2:=hide (fun (W:World) (hW:Below w4.heap.size w4 W)=>led1_any (gi:=g4) (i:=k) (m:=nz) (NamesAt.sets (S:=fun _=>False) HLA.out (Sets.of (below_step HB4.out hW)) id) ((hW.cell (p:=⟨g4,0,none⟩) hl4).trans q4) HLD.out B hB)
   have HQ4:=hide (And.intro q4 hl4)
   obtain ⟨x1,x2,x3,x4,hp4⟩:=HCC.out w4 HB4.out
   have HN0:=hide (cont_none At ct (.func (.func 169) #[] #[.pointer (some ⟨g4,0,none⟩)]) w4)
   have HC1:=hide (HB1.out w4 (Below.refl _ _))
   have HG4:=hide hg4
   clear hw4 hz4 hb4 hg4 hB q4
   cases B
   ·go_wp2_with (first
     | ((with_reducible refine (HN0.out).mono ?_);rintro e w5 ⟨rfl,rfl⟩)
     | ((with_reducible refine (HC1.out).mono ?_);rintro e w6 ⟨rfl,hg6⟩;have HG6:=hide hg6;have HC2:=hide (HB2.out w6 hg6);obtain ⟨y1,y2,y3,y4,hp6⟩:=HCC.out w6 (below_step HB4.out hg6);clear hg6 HC1)
     | ((with_reducible refine (HC2.out).mono ?_);rintro e w7 ⟨rfl,hg7⟩;have HG7:=hide (below_step HG6.out hg7);clear hg7))
    go_roundw
    case rel=>exact ⟨k+1,L,HLT.out,by go_num,OwnL.below HO.out (below_step HW4.out HG7.out),HL.out,by have:=HLK.out;omega,below_step HB4.out HG7.out⟩
    case measure=>have:=HLT.out;simp [intOf];omega
   ·go_upto_region 8 with (first
     | ((with_reducible refine (HN0.out).mono ?_);rintro e w5 ⟨rfl,rfl⟩)
     | ((with_reducible refine (HC1.out).mono ?_);rintro e w6 ⟨rfl,hg6⟩;have HG6:=hide hg6;have q6:=(hg6.cell (p:=⟨g4,0,none⟩) hl4).trans HQ4.out.1;clear hg6 HC1))
    have hl6:g4 < w6.heap.size:=Nat.lt_of_lt_of_le hl4 HG6.out.size
    have HN6:=hide (RowAt.new_one (cells:=one1 intv) (sz:=1) (y:=(k:Int)) (heap_alloc_new w6 (.cells #[.int .i64 k] 3)))
    have HA6:=hide (below_alloc (Below.refl w6.heap.size w6) (.cells #[.int .i64 k] 3))
    have HO6:=hide (OwnL.below (OwnL.below HO.out (below_step HW4.out HG6.out)) HA6.out)
    have HBW:=hide (below_step HB4.out HG6.out)
    clear x1 x2 x3 x4 hp4 hl4
    go_wp2_with (at_builtin;refine wpList_app_row rfl (.tmp 39) (.tmp 41) 106 3 _ 1 8 rfl Tryz.underlying106 Tryz.infoIntv rfl (by omega) (fun _=>rfl) (fun a u hu=>by simp only [one1,List.mem_singleton] at hu;subst hu;rfl) (by omega) w.heap.size _ L rfl HO6.out (some ⟨w6.heap.size,0,none⟩) 1 1 [(k:Int)] rfl rfl HN6.out (by have:=HLK.out;have:=HZ.out;omega) (Nat.le_trans HBW.out.size HA6.out.size) ?_;intro v9 u9 ho9 hg9 hm9;have HO9:=hide ho9;have HG9:=hide hg9;clear ho9 hg9 hm9)
    go_roundw
    case rel =>
     refine ⟨k+1,L ++ [(k:Int)],HLT.out,by go_num,HO9.out,fun x hx=>?_,by rw [List.length_append];have:=HLK.out;simp only [List.length_singleton];omega,?_⟩
     ·rcases List.mem_append.1 hx with h | h
      ·exact HL.out x h
      ·rw [List.mem_singleton] at h
       exact ⟨k,h,HLT.out⟩
     ·exact (HBW.out.trans (HA6.out.mono HBW.out.size)).grown HG9.out (Nat.le_trans HBW.out.size HA6.out.size) (fun j hj=>(OwnL.lt HO.out j hj).1)
    case measure=>have:=HLT.out;simp [intOf];omega
  ·obtain rfl:k=nz:=by omega
   have hkI:¬ (k:Int) < (k:Int):=by omega
   go_wp2_with fail
   go_ret
   exact ⟨_,rfl,L,HO.out,HL.out,HLK.out,HB.out⟩
theorem rem_self (m:Nat) (h:m≤250000):wrap64 ((m:Int)+1)=(m:Int)+1∧Int.tmod (m:Int) ((m:Int)+1)=(m:Int)∧¬ (m:Int) < 0 :=
 ⟨by unfold wrap64;omega,Int.tmod_eq_of_lt (by omega) (by omega),by omega⟩
theorem next_nil {w:World} {gk:Nat} (k:Int) (hc:w.cell? ⟨gk,0,none⟩=some (.slice none 0 0)):Calls Tryz.prog 97 #[.int .i64 k,.pointer (some ⟨gk,0,none⟩)] w fun e w'=>e=.returned (.int .i64 k)∧w'=w:=by
 go_enter Tryz.func97,Tryz.ntmps97
 go_wp2
 go_ret
 exact ⟨rfl,rfl⟩
end Go.Proofs.YtgmkckjedngkdaaGreatDoor
namespace Go.Proofs.YtgmkckjedngkdaaGreatDoor
open Go.ChangeShapes Go.WideShapes Go.ChangeAt Go.RowKit
theorem crash_wrap {m:Nat} (h:m≤250000):IntKind.i64.wrap (m:Int)=(m:Int):=by rw [IntKind.wrap_i64];omega
theorem crash_ne {L:List Int} {la:Nat} (h:la≤L.length) (hn:¬ L.length=la):L ≠ []:=by
 rintro rfl
 simp at h hn
 omega
theorem crash_sum {n la m:Nat} (h:la≤n) (hm:n - la=m):(la:Int)+(m:Int)=(n:Int):=by omega
theorem crash_le {n c:Nat} (h:n≤c):¬ (n:Int) < 0∧(n:Int)≤(c:Int)∧¬ (c:Int) < (n:Int):=by omega
set_option maxRecDepth 100000 in
set_option maxHeartbeats 6400000 in
theorem crash_any {w:World} {base p:Nat} {X:Nat→Prop} {K:Dk} {h:Dh} (H:DiskV w base p X K h) (hT:h.T=[]) (hD:h.DL=K.D) :
 Calls Tryz.prog 42 #[ptv p,.slice none 0 0] w fun e w'=>e=.returned (.tuple #[])∧Sets X w w':=by
 have hz0:=heap_alloc_new w (.cells #[.slice none 0 0] 106)
 have hb0:=below_alloc (Below.refl w.heap.size w) (.cells #[.slice none 0 0] 106)
 obtain ⟨w0,hw0⟩:∃ w0,w.alloc (.cells #[.slice none 0 0] 106)=w0:=⟨_,rfl⟩
 rw [hw0] at hz0 hb0
 obtain ⟨gk,hgk⟩:∃ g,w.heap.size=g:=⟨_,rfl⟩
 rw [hgk] at hz0
 have q0:=cell0_of hz0
 have hlk0:=(Array.getElem?_eq_some_iff.1 hz0).1
 have hgX:∀ g,X g→g < gk:=fun g hg=>by rw [← hgk];exact (H.bd g hg).2
 have H0:=H.below hb0
 have HLD:=hide (led_any H0 hT hD)
 have HH:=hide H0
 have HTT:=hide hT
 have HGX:=hide hgX
 have HLK:=hide hlk0
 have HZK:=hide hz0
 have HW0:=hide hw0
 have HGK:=hide hgk
 have HB0:=hide hb0
 have hxx:=H.inX
 have HX:=hide hxx
 have HZ1:=hide H.few.1
 clear H hz0 hb0 hw0 hgk hgX hT hD H0 hxx
 go_enter Tryz.func42,Tryz.ntmps42
 go_upto_region 1 with fail
 rw [HW0.out,HGK.out]
 go_wp2_with ((with_reducible refine (HLD.out).mono ?_);rintro e w1 ⟨v1,rfl,L,ho1,hL1,hl1,hg1⟩;obtain ⟨A1,c1,rfl,hr1,_⟩:=OwnL.row (cells:=one1 intv) (sz:=1) (fun _=>rfl) ho1;have HR1:=hide hr1;have HL1:=hide hL1;have HLL:=hide hl1;have HG1:=hide hg1;have HO1:=hide ho1;clear ho1 hr1 hL1 hl1 hg1)
 have HNL:=hide (show L.length≤1000 by have:=HLL.out;have:=HZ1.out;omega)
 have HAX:Hid (∀ g,(Value.slice A1 L.length c1).ownBlock=some g→¬ X g):=hide (fun g hg hx=>by
  have h1:=(OwnL.lt HO1.out g hg).1
  have h2:=HGX.out g hx
  have h3:=HLK.out
  omega)
 have HZQ:Hid (∀ W:World,Sets X w1 W→W.drew.cell? ⟨gk,0,none⟩=some (.slice none 0 0)):=hide (fun W hW=>by
  have h1:=(HG1.out.block gk HLK.out).trans HZK.out
  have h2:=(hW.block gk (Nat.lt_of_lt_of_le HLK.out HG1.out.size) (fun e=>by have:=HGX.out gk e;omega)).trans h1
  exact cell0_of h2)
 go_loopw [16] (fun i wr=>∃ (k:Nat) (K1:Dk),k≤L.length∧i=.int .i64 k∧DiskV wr base p X K1 h∧K1.Z.length=K.Z.length∧Sets X w1 wr) (fun i _=>L.length - (intOf i).toNat)
 case atStart=>exact ⟨0,K,by omega,rfl,HH.out.below HG1.out,rfl,Sets.refl _⟩
 case round =>
  obtain ⟨k,K1,hk,rfl,h1,hlen,hs1⟩:=hrel
  have HK1:=hide h1
  have HS1:=hide hs1
  have HLN:=hide hlen
  have hk0:(0:Int)≤(k:Int):=by omega
  by_cases hlt:k < L.length
  ·have hkI:(k:Int) < (L.length:Int):=by omega
   obtain ⟨i,hi,hiz⟩:=HL1.out (L[k]'hlt) (List.getElem_mem hlt)
   rw [← hlen] at hiz
   have hrow:=(RowAt.one HR1.out (Below.refl _ _) hlt)
   obtain ⟨b,off,e1,hbb,d0⟩:=hrow
   rw [hi] at d0
   have hnb:¬ X b:=HAX.out b (by rw [e1];rfl)
   have d1:=(World.cell?_of_block (a:=⟨b,off+k,none⟩) (hs1.block b hbb hnb)).trans d0
   have hbr:=Nat.lt_of_lt_of_le hbb hs1.size
   have HE1:=hide e1
   rw [e1]
   obtain ⟨hp1,⟨_,c1',_⟩,_⟩:=dk_box h1.box
   obtain ⟨Af,cf,hvf,hrf⟩:=h1.row
   rw [hvf] at c1'
   obtain ⟨bf,offf,e2,hbf,f0⟩:=RowAt.one hrf (Below.refl _ _) (k:=i) (by rw [List.length_map];exact hiz)
   rw [List.getElem_map] at f0
   rw [e2] at c1'
   obtain ⟨A2,c2,hv2,hvals,hg2,x0,x1,xz⟩:=h1.file hiz
   have hFZ:=h1.each _ (List.getElem_mem hiz)
   have hlast:=hFZ.last
   have hfew:=hFZ.few
   obtain ⟨z,hz⟩:∃ z,K1.Z[i]'hiz=z:=⟨_,rfl⟩
   rw [hz] at f0 x0 x1 xz hg2 hFZ hlast hfew hv2
   have HZZ:=hide hz
   have HFZ:=hide hFZ
   have HV2:=hide hv2
   have hiI:(i:Int) < (K1.Z.length:Int):=by omega
   have hi0:(0:Int)≤(i:Int):=by omega
   have hwr:wrap64 ((z.L.length:Int) - (z.last:Int))=((z.L.length - z.last:Nat):Int):=by unfold wrap64;omega
   have hqk:=HZQ.out wr hs1
   obtain ⟨wd,hwd⟩:∃ wd,wr.drew=wd:=⟨_,rfl⟩
   have HD:=hide (show Below wr.heap.size wr wd by rw [← hwd];exact (Below.refl _ _).drew)
   have hgz:=hg2
   have hzl:=(Array.getElem?_eq_some_iff.1 hFZ.box).1
   have hbz:wd.heap[z.g]? = some (.cells #[z.v,.int .i64 z.last] 175 (0,0)):=(HD.out.block z.g hzl).trans hFZ.box
   have HBZ:=hide hbz
   have HLT:=hide hlt
   have hl1000:=HNL.out
   have HWD:=hide hwd
   clear hwd
   clear h1 hs1 hlen hvf hrf hvals hFZ hz hi hv2 e1 e2
   go_upto_region 6 with fail
   go_region
   rw [HWD.out]
   have y0:wd.cell? ⟨z.g,0,none⟩=some (.slice A2 z.L.length c2):=((cell_of_row wd z.g 0 _ _ _ HBZ.out).trans rfl).trans (by rw [← HV2.out];rfl)
   have y1:wd.cell? ⟨z.g,1,none⟩=some (.int .i64 z.last):=(cell_of_row wd z.g 1 _ _ _ HBZ.out).trans rfl
   have hgd:z.g < wd.heap.size:=(Array.getElem?_eq_some_iff.1 HBZ.out).1
   have hqd:wd.cell? ⟨gk,0,none⟩=some (.slice none 0 0):=by rw [← HWD.out];exact hqk
   have HQD:=hide hqd
   clear hqk hqd hwr
   by_cases hn:z.L.length=z.last
   ·have hn0:(z.L.length:Int) - (z.last:Int)=0:=by omega
    rw [hn0]
    clear hn0
    go_wp2_with fail
    go_roundw
    case rel=>exact ⟨k+1,K1,HLT.out,by go_num,HK1.out.below HD.out,HLN.out,HS1.out.trans (Sets.of (S:=X) HD.out) (fun _ _ e=>e)⟩
    case measure=>have:=HLT.out;simp [intOf];omega
   ·obtain ⟨m,hm⟩:∃ m:Nat,z.L.length - z.last=m:=⟨_,rfl⟩
    have hmi:(z.L.length:Int) - (z.last:Int)=(m:Int):=by omega
    rw [hmi]
    have hm0:((m:Int) == 0)=false:=by rw [beq_eq_false_iff_ne];omega
    have hm1:¬ (m:Int)=0:=by omega
    have hm2:¬ (m:Int)+1=0:=by omega
    have hm3:((m:Int)+1 == 0)=false:=by rw [beq_eq_false_iff_ne];omega
    obtain ⟨hmw,hmr,hm4⟩:=rem_self m (by omega)
    have HNX:=hide (next_nil (w:=wd) (gk:=gk) (m:Int) HQD.out)
    have HM:=hide hm
    clear hmi hm
    go_upto_region 11 with ((with_reducible refine (HNX.out).mono ?_);rintro e w2 ⟨rfl,rfl⟩)
    have hcap:z.L.length≤c2∧c2≤maxLen:=by
     obtain ⟨A3,c3,e3,_,_,hc3,hcm3⟩:=OwnL.row (cells:=one1 u8v) (sz:=1) (fun _=>rfl) HFZ.out.own
     rw [HV2.out] at e3
     injection e3 with _ _ e4
     rw [e4]
     exact ⟨hc3,hcm3⟩
    have hsum:(z.last:Int)+(m:Int)=(z.L.length:Int):=crash_sum hlast HM.out
    have hws:IntKind.i64.wrap (z.L.length:Int)=(z.L.length:Int):=crash_wrap hfew
    obtain ⟨bz,oz,hA2⟩:∃ bz oz,A2=some ⟨bz,oz,none⟩:=by
     obtain ⟨A3,c3,e3,hr3,_⟩:=OwnL.row (cells:=one1 u8v) (sz:=1) (fun _=>rfl) HFZ.out.own
     rw [HV2.out] at e3
     injection e3 with e5 _ _
     obtain ⟨b3,o3,e6,_⟩:=hr3 (crash_ne hlast hn)
     exact ⟨b3,o3,e5.trans e6⟩
    subst hA2
    obtain ⟨len,hlen⟩:∃ len,z.L.length=len:=⟨_,rfl⟩
    obtain ⟨la,hla⟩:∃ la,z.last=la:=⟨_,rfl⟩
    have hfz:∀ o,w2.frozen? ⟨z.g,o,none⟩=false:=fun o=>by simp [World.frozen?,HBZ.out]
    have HFR0:=hide hfz
    rw [hlen] at y0 hsum hws hcap
    rw [hla] at y1 hsum
    have HC:Hid (∀ W:World,Below w2.heap.size w2 W→W.cell? ⟨z.g,0,none⟩=some (.slice (some ⟨bz,oz,none⟩) len c2)∧W.cell? ⟨z.g,1,none⟩=some (.int .i64 la)):=hide (fun W hW=>⟨(hW.cell (p:=⟨z.g,0,none⟩) hgd).trans y0,(hW.cell (p:=⟨z.g,1,none⟩) hgd).trans y1⟩)
    have HSU:=hide hsum
    have HWS:=hide hws
    have HC1:Hid (¬ (len:Int) < 0):=hide (crash_le hcap.1).1
    have HC2:Hid ((len:Int)≤(c2:Int)):=hide (crash_le hcap.1).2.1
    have HC3:Hid (¬ (c2:Int) < (len:Int)):=hide (crash_le hcap.1).2.2
    have HLE:=hide hlen
    obtain ⟨ud,hud⟩:∃ ud,w2.drew=ud:=⟨_,rfl⟩
    have HUD:Hid (Below w2.heap.size w2 ud):=hide (by rw [← hud];exact (Below.refl _ _).drew)
    have hbu:=(HUD.out.block z.g hgd).trans HBZ.out
    have HBU:=hide hbu
    have HFR:Hid (ud.frozen? ⟨z.g,0,none⟩=false):=hide (by simp [World.frozen?,hbu])
    clear y0 y1 hsum hws hcap hfz hlen hla hgd hbz hbu hm0 hm1 hm2 hm3 hmw hmr hm4 hn hl1000 hgz hzl hg2 x0 x1 xz hiI hi0 hk0 hkI hlast
    refine j_start [14] (by kernel_rfl) ?_
    rw [hud]
    clear hud
    refine' j_t 0 [12,13,14] rfl (by kernel_rfl) rfl ?y0s ?r0s
    case y0s=>(intro w' hw';go_simp;try with_reducible rfl)
    try go_frame
    refine' j_t 1 [2,3,4,11,12,13,14] rfl (by kernel_rfl) rfl ?y1s ?r1s
    case y1s=>(intro w' hw';go_simp;try with_reducible rfl)
    try go_frame
    refine' j_t 2 [3,4,11,12,13,14] rfl (by kernel_rfl) rfl ?y2s ?r2s
    case y2s=>(intro w' hw';go_simp;try with_reducible rfl)
    try go_frame
    refine' j_t 3 [4,11,12,13,14] rfl (by kernel_rfl) rfl ?y3s ?r3s
    case y3s=>(intro w' hw';go_simp;try with_reducible rfl)
    try go_frame
    refine' j_t 4 [11,12,13,14] rfl (by kernel_rfl) rfl ?y4s ?r4s
    case y4s=>(intro w' hw';obtain ⟨q1,q2⟩:=HC.out _ (below_step HUD.out hw');go_simp;try with_reducible rfl)
    try go_frame
    refine' j_t 5 [6,7,8,10,11,12,13,14] rfl (by kernel_rfl) rfl ?y5s ?r5s
    case y5s=>(intro w' hw';go_simp;try with_reducible rfl)
    try go_frame
    refine' j_t 6 [7,8,10,11,12,13,14] rfl (by kernel_rfl) rfl ?y6s ?r6s
    case y6s=>(intro w' hw';go_simp;try with_reducible rfl)
    try go_frame
    refine' j_t 7 [8,10,11,12,13,14] rfl (by kernel_rfl) rfl ?y7s ?r7s
    case y7s=>(intro w' hw';go_simp;try with_reducible rfl)
    try go_frame
    refine' j_t 8 [10,11,12,13,14] rfl (by kernel_rfl) rfl ?y8s ?r8s
    case y8s=>(intro w' hw';obtain ⟨q1,q2⟩:=HC.out _ (below_step HUD.out hw');go_simp;try with_reducible rfl)
    try go_frame
    refine' j_t 9 [10,11,12,13,14] rfl (by kernel_rfl) rfl ?y9s ?r9s
    case y9s=>(intro w' hw';go_simp;try with_reducible rfl)
    try go_frame
    refine' j_t 10 [11,12,13,14] rfl (by kernel_rfl) rfl ?y10s ?r10s
    case y10s=>(intro w' hw';have js:=HSU.out;have jw:=HWS.out;go_simp;try with_reducible rfl)
    try go_frame
    refine' j_t 11 [12,13,14] rfl (by kernel_rfl) rfl ?y11s ?r11s
    case y11s=>(intro w' hw';have jw:=HWS.out;have c1:=HC1.out;have c3:=HC2.out;have c4:=HC3.out;go_simp;try with_reducible rfl)
    try go_frame
    refine' j_t 12 [13,14] rfl (by kernel_rfl) rfl ?y12s ?r12s
    case y12s=>(intro w' hw';go_simp;try with_reducible rfl)
    try go_frame
    refine' j_t 13 [14] rfl (by kernel_rfl) rfl ?y13s ?r13s
    case y13s=>(intro w' hw';go_simp;try with_reducible rfl)
    try go_frame
    refine' wpAnyJ_last (i:=14) (o:=_) (by kernel_rfl) ?ho14s (by kernel_rfl) (fun KK hK=>?step14s)
    case ho14s=>(simp only [List.getElem?_toArray,List.getElem?_cons_succ,List.getElem?_cons_zero];rfl)
    obtain ⟨q1,q2⟩:=HC.out _ HUD.out
    have z3:=HFR.out
    go_simp
    refine hK.out _ _ ?_
    clear hK KK
    try go_frame
    refine wpAnyJ_done (by kernel_rfl) ?_ _
    refine NoPanic.normal ?_
    have hb3:(ud.setCell ⟨z.g,0,none⟩ (.slice (some ⟨bz,oz,none⟩) len c2)).heap[z.g]? = some (.cells #[.slice (some ⟨bz,oz,none⟩) len c2,.int .i64 z.last] 175 (0,0)):=by simp [World.setCell,Array.getElem?_modify,HBU.out]
    have hs3:=sets1 ud z.g 0 (.slice (some ⟨bz,oz,none⟩) len c2)
    obtain ⟨w3,hw3⟩:∃ w3,ud.setCell ⟨z.g,0,none⟩ (.slice (some ⟨bz,oz,none⟩) len c2)=w3:=⟨_,rfl⟩
    have hsz3:w3.heap.size=ud.heap.size:=by rw [← hw3];simp [World.setCell]
    have HSZ:=hide hsz3
    rw [hw3] at hb3 hs3 ⊢
    have r0:w3.cell? ⟨z.g,0,none⟩=some (.slice (some ⟨bz,oz,none⟩) len c2):=(cell_of_row w3 z.g 0 _ _ _ hb3).trans rfl
    have r1:w3.cell? ⟨z.g,1,none⟩=some (.int .i64 z.last):=(cell_of_row w3 z.g 1 _ _ _ hb3).trans rfl
    have r2:w3.frozen? ⟨z.g,1,none⟩=false:=by simp [World.frozen?,hb3]
    have r3:z.g < w3.heap.size:=(Array.getElem?_eq_some_iff.1 hb3).1
    have HB3:=hide hb3
    have HS3:=hide hs3
    have hl1000:=HNL.out
    have hlt1:=HLT.out
    clear hw3 hb3 hs3 hsz3
    go_wp2_with fail
    go_roundw
    case rel =>
     have hvz:z.v=.slice (some ⟨bz,oz,none⟩) len c2:=by rw [HV2.out,HLE.out]
     have hnv:z.v.ownBlock ≠ some z.g:=fun e=>own_ne_box HFZ.out.own HFZ.out.box (by decide) e
     have hu:=(HK1.out.below HD.out).below HUD.out
     have hS4:Sets (fun g=>g=z.g ∨ z.v.ownBlock=some g) ud (w3.setCell ⟨z.g,1,none⟩ (.int .i64 len)):=(HS3.out.up (T:=fun g=>g=z.g ∨ z.v.ownBlock=some g) (fun g e=>.inl e)).set (fun _=>.inl rfl) 1 _
     have hF3:FzAt w3 base z:=⟨by rw [hvz];exact HB3.out,(OwnL.below (OwnL.below HFZ.out.own HD.out) HUD.out).sets HS3.out (fun g hg e=>hnv (by rw [hg,e])),HFZ.out.low,HFZ.out.few,HFZ.out.last⟩
     have hF4:FzAt (w3.setCell ⟨z.g,1,none⟩ (.int .i64 len)) base { z with last:=z.L.length } :=
      ⟨by rw [HLE.out];simp [World.setCell,Array.getElem?_modify,hF3.box],OwnL.setFar hF3.own hnv _,hF3.low,hF3.few,Nat.le_refl _⟩
     have hsz:(w3.setCell ⟨z.g,1,none⟩ (.int .i64 len)).heap.size=ud.heap.size:=by
      have e1:(w3.setCell ⟨z.g,1,none⟩ (.int .i64 len)).heap.size=w3.heap.size:=by simp [World.setCell]
      rw [e1]
      exact HSZ.out
     have hF:=hu.filed hiz (z:={ z with last:=z.L.length }) (w':=w3.setCell ⟨z.g,1,none⟩ (.int .i64 len)) (by rw [HZZ.out]) hF4 (by rw [HZZ.out];exact fun g e=>.inl e) (by rw [HZZ.out];exact hS4)
     have hzX:∀ g,(g=z.g ∨ z.v.ownBlock=some g)→X g:=by
      have h1:=HK1.out.inX.2.2.2.2.2 _ (List.getElem_mem hiz)
      rw [HZZ.out] at h1
      rintro g (e | e)
      ·exact e ▸ h1.1
      ·exact h1.2 g e
     refine ⟨k+1,_,hlt1,by go_num,hF.wide (fun g e=>?_) (fun g e=>?_),?_,?_⟩
     ·rcases e with e | e
      ·exact e
      ·rw [hsz] at e;omega
     ·have:=HK1.out.bd g e
      have:=HD.out.size
      have:=HUD.out.size
      rw [hsz]
      omega
     ·show (K1.Z.set i _).length=_
      rw [List.length_set]
      exact HLN.out
     ·exact (HS1.out.trans (Sets.of (S:=X) (below_step HD.out HUD.out)) (fun _ _ e=>e)).trans hS4 (fun g _ e=>hzX g e)
    case measure=>simp [intOf];omega
  ·obtain rfl:k=L.length:=by omega
   have hkI:¬ (L.length:Int) < (L.length:Int):=by omega
   have hX:=HX.out
   obtain ⟨At,ct,hvt,_⟩:∃ At ct,h.vt=.slice At 0 ct∧True:=by
    have htu:=h1.turns
    rw [HTT.out] at htu
    obtain ⟨At,ct,hvt,_⟩:=OwnL.row Tn.len htu
    exact ⟨At,ct,hvt,trivial⟩
   have d4:wr.cell? ⟨p,4,none⟩=some (.slice At 0 ct):=(cell_of_row wr p 4 _ _ _ h1.box).trans (by show some h.vt=_;rw [hvt])
   have d3:wr.cell? ⟨p,3,none⟩=some (.map (some h.bl)):=(cell_of_row wr p 3 _ _ _ h1.box).trans rfl
   have d2:wr.cell? ⟨p,2,none⟩=some (.map (some h.bn)):=(cell_of_row wr p 2 _ _ _ h1.box).trans rfl
   have z2:wr.frozen? ⟨p,2,none⟩=false:=by simp [World.frozen?,h1.box]
   have hpl:=(Array.getElem?_eq_some_iff.1 h1.box).1
   have HBX:=hide h1.box
   have HLA:=hide h1.lasted
   have HPX:=hide hX.1
   have HVT:=hide hvt
   clear hvt h1 hs1 hX hkI hlt hk0 hk
   obtain ⟨wa,rfl⟩:∃ wa,wa=wr:=⟨_,rfl⟩
   go_wp2_with fail
   go_loopw [79] (fun i w'=>i=.int .i64 0∧w'=wa) (fun _ _=>0)
   case atStart=>exact ⟨rfl,rfl⟩
   case round =>
    obtain ⟨rfl,rfl⟩:=hrel
    go_upto_region 21 with fail
    have hb5:=dk_set 2 (.map (some h.bl)) HBX.out
    have hs5:=sets1 wr p 2 (.map (some h.bl))
    obtain ⟨w5,hw5⟩:∃ w5,wr.setCell ⟨p,2,none⟩ (.map (some h.bl))=w5:=⟨_,rfl⟩
    rw [hw5] at hb5 hs5 ⊢
    have hla5:=HLA.out.sets hs5 (not_map HBX.out HLA.out)
    have HMC:=hide (mclone_any hla5)
    have e2:w5.cell? ⟨p,2,none⟩=some (.map (some h.bl)):=(cell_of_row w5 p 2 _ _ _ hb5).trans rfl
    have hp5:p < w5.heap.size:=(Array.getElem?_eq_some_iff.1 hb5).1
    have HS5:=hide hs5
    have HB5:=hide hb5
    clear hw5 hs5 hb5 hla5 d2 d3 d4 z2 hpl
    go_wp2_with ((with_reducible refine (HMC.out).mono ?_);rintro e w6 ⟨rfl,hn6,hg6⟩;have hb6:=(hg6.block p hp5).trans HB5.out;have q3:w6.cell? ⟨p,3,none⟩=some (.map (some h.bl)):=(cell_of_row w6 p 3 _ _ _ hb6).trans rfl;have q4:w6.cell? ⟨p,4,none⟩=some h.vt:=(cell_of_row w6 p 4 _ _ _ hb6).trans rfl;have q6:w6.cell? ⟨p,6,none⟩=some (.bool K1.dead):=(cell_of_row w6 p 6 _ _ _ hb6).trans rfl;have q7:w6.cell? ⟨p,7,none⟩=some (.int .i64 K1.stop):=(cell_of_row w6 p 7 _ _ _ hb6).trans rfl;have q8:w6.cell? ⟨p,8,none⟩=some (.int .i64 0):=(cell_of_row w6 p 8 _ _ _ hb6).trans rfl;rw [HVT.out] at q4;have zz:∀ o,w6.frozen? ⟨p,o,none⟩=false:=(fun o=>by simp [World.frozen?,hb6]);have y3:=zz 3;have y4:=zz 4;have y6:=zz 6;have y7:=zz 7;have y8:=zz 8;have HG6:=hide hg6;clear hn6 hg6 hb6 zz)
    go_end0
    have hPX:=HPX.out
    have hfin:Sets X wr _:=((HS5.out.up (T:=X) (fun g e=>e ▸ hPX)).trans (Sets.of (S:=X) HG6.out) (fun _ _ e=>e))
    refine ⟨rfl,?_⟩
    have h03:Sets X w _:=(((Sets.of (S:=X) HB0.out).trans (Sets.of (S:=X) HG1.out) (fun _ _ e=>e)).trans HS1.out (fun _ _ e=>e)).trans hfin (fun _ _ e=>e)
    exact ((((h03.set (fun _=>hPX) _ _).set (fun _=>hPX) _ _).set (fun _=>hPX) _ _).set (fun _=>hPX) _ _).set (fun _=>hPX) _ _
end Go.Proofs.YtgmkckjedngkdaaGreatDoor
