/- A part of the proof that TopMajorityLaw holds: XMsg, XTBytes. Conditions: as typed. -/
import Derived.Test.YtgmkckjedngkdaaGreatDoorTm03
import Derived.Test.YtgmkckjedngkdaaGreatDoorTm05
import Derived.Test.YtgmkckjedngkdaaGreatDoorTm07
import Derived.Test.YtgmkckjedngkdaaGreatDoorTm08
import Derived.Test.YtgmkckjedngkdaaGreatDoorTm09
set_option linter.unusedVariables false
set_option linter.unusedSimpArgs false
namespace Go.Proofs.YtgmkckjedngkdaaGreatDoor
open Go.ChangeShapes Go.WideShapes Go.ChangeAt Go.RowKit
structure Mg where
 k:Int
 f:Int
 t:Int
 id:Int
 n:Int
 A:Option Addr
 c:Nat
 L:List It
abbrev Mg.val (m:Mg):Value:=.agg #[.int .i64 m.k,.int .i64 m.f,.int .i64 m.t,.int .u64 m.id,.int .u64 m.n,.slice m.A m.L.length m.c]
def Mg.cells (m:Mg):List Value:=[.int .i64 m.k,.int .i64 m.f,.int .i64 m.t,.int .u64 m.id,.int .u64 m.n,.slice m.A m.L.length m.c]
theorem Mg.cells_len (m:Mg):(Mg.cells m).length=6:=rfl
theorem Mg.cells_one (m:Mg):∀ u ∈ Mg.cells m,u.oneCell'=true:=by
 intro u hu
 simp only [Mg.cells,List.mem_cons,List.not_mem_nil,or_false] at hu
 rcases hu with rfl | rfl | rfl | rfl | rfl | rfl <;> rfl
theorem Tryz.infoMsg:(Tryz.prog.info? 33).map (fun i=>(i.zero,i.size,i.bytes))=some (some (.agg #[.int .i64 0,.int .i64 0,.int .i64 0,.int .u64 0,.int .u64 0,.slice none 0 0]),6,64):=by kernel_rfl
def Mg.rd (w:World) (m:Mg):Prop:=ItemsAt w m.A m.L∧m.L.length≤m.c∧m.c≤maxLen
theorem Mg.rd.below {w w':World} {m:Mg} (h:m.rd w) (hb:Below w.heap.size w w'):m.rd w':=⟨h.1.below hb,h.2⟩
def Mg.same (a b:Mg):Prop:=a.k=b.k∧a.f=b.f∧a.t=b.t∧a.id=b.id∧a.n=b.n∧a.L=b.L
theorem Mg.same.refl (a:Mg):Mg.same a a:=⟨rfl,rfl,rfl,rfl,rfl,rfl⟩
theorem Mg.same.symm {a b:Mg} (h:Mg.same a b):Mg.same b a:=⟨h.1.symm,h.2.1.symm,h.2.2.1.symm,h.2.2.2.1.symm,h.2.2.2.2.1.symm,h.2.2.2.2.2.symm⟩
theorem Mg.same.trans {a b c:Mg} (h:Mg.same a b) (k:Mg.same b c):Mg.same a c:=⟨h.1.trans k.1,h.2.1.trans k.2.1,h.2.2.1.trans k.2.2.1,h.2.2.2.1.trans k.2.2.2.1,h.2.2.2.2.1.trans k.2.2.2.2.1,h.2.2.2.2.2.trans k.2.2.2.2.2⟩
def nodeB (n:Int):Bool:=decide (0≤n) && decide (n < 7)
def withB (k:Int):Bool:=decide (k=1) || decide (k=5) || decide (k=7) || decide (k=8)
def mokB (m:Mg):Bool:=decide (1≤m.k) && decide (m.k≤10) && nodeB m.f && nodeB m.t && decide (m.id≤1099511627776) && decide (m.n≤281474976710656) && decide (m.L.length≤1500) && m.L.all goodB && (decide (m.L.length=0) || withB m.k)
theorem mokB_same {a b:Mg} (h:Mg.same a b):mokB a=mokB b:=by
 obtain ⟨h1,h2,h3,h4,h5,h6⟩:=h
 unfold mokB
 rw [h1,h2,h3,h4,h5,h6]
theorem isnode_any (n:Int) (w:World):Calls Tryz.prog 75 #[.int .i64 n] w fun e w'=>e=.returned (.bool (nodeB n))∧w'=w:=by
 by_cases h0:0≤n
 ·by_cases h1:n < 7
  ·have HV:Hid (nodeB n=true):=hide (by simp [nodeB,h0,h1])
   rw [HV.out]
   go_enter Tryz.func75,Tryz.ntmps75
   go_wp2_with fail
   go_ret
   exact ⟨rfl,rfl⟩
  ·have HV:Hid (nodeB n=false):=hide (by simp [nodeB,h1])
   rw [HV.out]
   go_enter Tryz.func75,Tryz.ntmps75
   go_wp2_with fail
   go_ret
   exact ⟨rfl,rfl⟩
 ·have HV:Hid (nodeB n=false):=hide (by simp [nodeB];omega)
  rw [HV.out]
  go_enter Tryz.func75,Tryz.ntmps75
  go_wp2_with fail
  go_ret
  exact ⟨rfl,rfl⟩
theorem with_any (k:Int) (w:World):Calls Tryz.prog 77 #[.int .i64 k] w fun e w'=>e=.returned (.bool (withB k))∧w'=w:=by
 by_cases h0:k=1 ∨ k=5 ∨ k=7 ∨ k=8
 ·have HV:Hid (withB k=true):=hide (by unfold withB;rcases h0 with rfl | rfl | rfl | rfl <;> rfl)
  rw [HV.out]
  rcases h0 with rfl | rfl | rfl | rfl
  all_goals
   go_enter Tryz.func77,Tryz.ntmps77
   go_wp2_with fail
   go_ret
   exact ⟨rfl,rfl⟩
 ·have HV:Hid (withB k=false):=hide (by unfold withB;simp;omega)
  rw [HV.out]
  have b1:(k == 1)=false:=beq_eq_false_iff_ne.2 (by omega)
  have b2:(k == 5)=false:=beq_eq_false_iff_ne.2 (by omega)
  have b3:(k == 7)=false:=beq_eq_false_iff_ne.2 (by omega)
  have b4:(k == 8)=false:=beq_eq_false_iff_ne.2 (by omega)
  clear h0
  go_enter Tryz.func77,Tryz.ntmps77
  go_wp2_with fail
  go_ret
  exact ⟨rfl,rfl⟩
theorem tells_all (L:List It) (w:World):Tells 157 #[] (fun x=>!goodB x) L w:=by
 intro x hx w1 hb
 show Calls Tryz.prog 157 #[x.val] w1 fun e w2=>e=.returned (.bool (!goodB x))∧Below w1.heap.size w1 w2
 have HG:=hide (fun W=>pgood_any x W)
 generalize goodB x=g at *
 have HB:=hide (below_alloc (Below.refl w1.heap.size w1) (.cells (It.cells x).toArray 54))
 clear hb
 go_enter Tryz.func157,Tryz.ntmps157
 go_wp2_with fail
 refine (Calls.mono (HG.out _) ?_);rintro e w2 ⟨rfl,hb2⟩
 have HB2:=hide (below_step HB.out hb2)
 clear hb2 HB
 cases g
 ·go_wp2_with fail
  go_ret
  exact ⟨rfl,HB2.out⟩
 ·go_wp2_with fail
  go_ret
  exact ⟨rfl,HB2.out⟩
theorem allc_in:Enters Tryz.prog 157:=fun _ _=>by kernel_rfl
theorem any_all (L:List It):(!anyI (fun x=>!goodB x) L)=L.all goodB:=by
 unfold anyI
 rw [List.any_eq_not_all_not]
 simp
theorem iall_any (A:Option Addr) (c:Nat) (L:List It) (w:World) (hl:L.length≤9223372036854775807) (hL:ItemsAt w A L) :
 Calls Tryz.prog 76 #[.slice A L.length c] w fun e w'=>e=.returned (.bool (L.all goodB))∧Below w.heap.size w w':=by
 have HC:=hide (contains_any 157 #[] allc_in (fun x=>!goodB x) A c L w hl hL (tells_all L w))
 have HV:=hide (any_all L)
 generalize anyI (fun x=>!goodB x) L=g at *
 clear hL
 go_enter Tryz.func76,Tryz.ntmps76
 go_wp2_with fail
 refine (Calls.mono HC.out ?_);rintro e w1 ⟨rfl,hb⟩
 have HB:=hide hb
 clear hb
 go_wp2_with fail
 go_ret
 exact ⟨by rw [← HV.out];rfl,HB.out⟩
set_option maxRecDepth 100000 in
set_option maxHeartbeats 6400000 in
theorem mok_any (m:Mg) (w:World) (hI:ItemsAt w m.A m.L) (hl:m.L.length≤9223372036854775807) :
 Calls Tryz.prog 25 #[m.val] w fun e w'=>e=.returned (.bool (mokB m))∧Below w.heap.size w w':=by
 obtain ⟨k,f,t,id,n,A,c,L⟩:=m
 simp only at hI hl
 have hb:=below_alloc (Below.refl w.heap.size w) (.cells #[.int .i64 k,.int .i64 f,.int .i64 t,.int .u64 id,.int .u64 n,.slice A L.length c] 33)
 have HALL:=hide (iall_any A c L _ hl (hI.below hb))
 have HB:=hide hb
 have hgn:=heap_alloc_new w (.cells #[.int .i64 k,.int .i64 f,.int .i64 t,.int .u64 id,.int .u64 n,.slice A L.length c] 33)
 have HX:Hid (∀ W:World,Below (w.alloc (.cells #[.int .i64 k,.int .i64 f,.int .i64 t,.int .u64 id,.int .u64 n,.slice A L.length c] 33)).heap.size (w.alloc (.cells #[.int .i64 k,.int .i64 f,.int .i64 t,.int .u64 id,.int .u64 n,.slice A L.length c] 33)) W→W.cell? ⟨w.heap.size,0,none⟩=some (.int .i64 k)∧W.cell? ⟨w.heap.size,5,none⟩=some (.slice A L.length c)):=hide (fun W hW=>by
  have h:=(hW.block w.heap.size (by simp)).trans hgn
  exact ⟨(cell_of_row W _ 0 _ _ _ h).trans rfl,(cell_of_row W _ 5 _ _ _ h).trans rfl⟩)
 clear hI hb hgn
 show Calls Tryz.prog 25 #[.agg #[.int .i64 k,.int .i64 f,.int .i64 t,.int .u64 id,.int .u64 n,.slice A L.length c]] w _
 obtain ⟨l,hll⟩:∃ l,L.length=l:=⟨_,rfl⟩
 have HLL:=hide hll
 rw [hll] at HALL HB HX ⊢
 clear hll hl
 by_cases h0:1≤k
 ·by_cases h1:k≤10
  ·cases h2:nodeB f with
   | false =>
    have HV:Hid (mokB ⟨k,f,t,id,n,A,c,L⟩=false):=hide (by unfold mokB;simp [HLL.out,h0,h1,h2])
    rw [HV.out]
    go_enter Tryz.func25,Tryz.ntmps25
    go_wp2_with (first
       | (go_at_call 75;refine (Calls.mono (isnode_any _ _) ?_);rintro e w1 ⟨rfl,rfl⟩)
       | (go_at_call 76;refine (Calls.mono HALL.out ?_);rintro e w2 ⟨rfl,hb2⟩;obtain ⟨z0,z5⟩:=HX.out _ hb2;have HB2:=hide (below_step HB.out hb2);clear hb2)
       | (go_at_call 77;refine (Calls.mono (with_any _ _) ?_);rintro e w3 ⟨rfl,rfl⟩))
    go_ret
    exact ⟨rfl,HB.out⟩
   | true =>
    cases h3:nodeB t with
    | false =>
     have HV:Hid (mokB ⟨k,f,t,id,n,A,c,L⟩=false):=hide (by unfold mokB;simp [HLL.out,h0,h1,h2,h3])
     rw [HV.out]
     go_enter Tryz.func25,Tryz.ntmps25
     go_wp2_with (first
       | (go_at_call 75;refine (Calls.mono (isnode_any _ _) ?_);rintro e w1 ⟨rfl,rfl⟩)
       | (go_at_call 76;refine (Calls.mono HALL.out ?_);rintro e w2 ⟨rfl,hb2⟩;obtain ⟨z0,z5⟩:=HX.out _ hb2;have HB2:=hide (below_step HB.out hb2);clear hb2)
       | (go_at_call 77;refine (Calls.mono (with_any _ _) ?_);rintro e w3 ⟨rfl,rfl⟩))
     go_ret
     exact ⟨rfl,HB.out⟩
    | true =>
     by_cases h4:id≤1099511627776
     ·by_cases h5:n≤281474976710656
      ·by_cases h6:l≤1500
       ·have h6I:(l:Int)≤1500:=by omega
        cases h7:L.all goodB with
        | false =>
         rw [h7] at HALL
         have HV:Hid (mokB ⟨k,f,t,id,n,A,c,L⟩=false):=hide (by unfold mokB;simp [HLL.out,h0,h1,h2,h3,h4,h5,h6,h7])
         rw [HV.out]
         go_enter Tryz.func25,Tryz.ntmps25
         go_wp2_with (first
       | (go_at_call 75;refine (Calls.mono (isnode_any _ _) ?_);rintro e w1 ⟨rfl,rfl⟩)
       | (go_at_call 76;refine (Calls.mono HALL.out ?_);rintro e w2 ⟨rfl,hb2⟩;obtain ⟨z0,z5⟩:=HX.out _ hb2;have HB2:=hide (below_step HB.out hb2);clear hb2)
       | (go_at_call 77;refine (Calls.mono (with_any _ _) ?_);rintro e w3 ⟨rfl,rfl⟩))
         go_ret
         exact ⟨rfl,HB2.out⟩
        | true =>
         rw [h7] at HALL
         by_cases h8:l=0
         ·subst h8
          have HV:Hid (mokB ⟨k,f,t,id,n,A,c,L⟩=true):=hide (by unfold mokB;simp [HLL.out,h0,h1,h2,h3,h4,h5,h7])
          rw [HV.out]
          go_enter Tryz.func25,Tryz.ntmps25
          go_wp2_with (first
       | (go_at_call 75;refine (Calls.mono (isnode_any _ _) ?_);rintro e w1 ⟨rfl,rfl⟩)
       | (go_at_call 76;refine (Calls.mono HALL.out ?_);rintro e w2 ⟨rfl,hb2⟩;obtain ⟨z0,z5⟩:=HX.out _ hb2;have HB2:=hide (below_step HB.out hb2);clear hb2)
       | (go_at_call 77;refine (Calls.mono (with_any _ _) ?_);rintro e w3 ⟨rfl,rfl⟩))
          go_ret
          exact ⟨rfl,HB2.out⟩
         ·have h8I:¬ (l:Int)=0:=by omega
          have h8b:((l:Int) == 0)=false:=beq_eq_false_iff_ne.2 h8I
          cases h9:withB k with
          | true =>
           have HV:Hid (mokB ⟨k,f,t,id,n,A,c,L⟩=true):=hide (by unfold mokB;simp [HLL.out,h0,h1,h2,h3,h4,h5,h6,h7,h8,h9])
           rw [HV.out]
           go_enter Tryz.func25,Tryz.ntmps25
           go_wp2_with (first
       | (go_at_call 75;refine (Calls.mono (isnode_any _ _) ?_);rintro e w1 ⟨rfl,rfl⟩)
       | (go_at_call 76;refine (Calls.mono HALL.out ?_);rintro e w2 ⟨rfl,hb2⟩;obtain ⟨z0,z5⟩:=HX.out _ hb2;have HB2:=hide (below_step HB.out hb2);clear hb2)
       | (go_at_call 77;refine (Calls.mono (with_any _ _) ?_);rintro e w3 ⟨rfl,rfl⟩))
           go_ret
           exact ⟨rfl,HB2.out⟩
          | false =>
           have HV:Hid (mokB ⟨k,f,t,id,n,A,c,L⟩=false):=hide (by unfold mokB;simp [HLL.out,h0,h1,h2,h3,h4,h5,h6,h7,h8,h9])
           rw [HV.out]
           go_enter Tryz.func25,Tryz.ntmps25
           go_wp2_with (first
       | (go_at_call 75;refine (Calls.mono (isnode_any _ _) ?_);rintro e w1 ⟨rfl,rfl⟩)
       | (go_at_call 76;refine (Calls.mono HALL.out ?_);rintro e w2 ⟨rfl,hb2⟩;obtain ⟨z0,z5⟩:=HX.out _ hb2;have HB2:=hide (below_step HB.out hb2);clear hb2)
       | (go_at_call 77;refine (Calls.mono (with_any _ _) ?_);rintro e w3 ⟨rfl,rfl⟩))
           go_ret
           exact ⟨rfl,HB2.out⟩
       ·have h6I:¬ (l:Int)≤1500:=by omega
        have h6D:decide ((l:Int)≤1500)=false:=decide_eq_false h6I
        have HV:Hid (mokB ⟨k,f,t,id,n,A,c,L⟩=false):=hide (by unfold mokB;simp [HLL.out,h0,h1,h2,h3,h4,h5,h6])
        rw [HV.out]
        go_enter Tryz.func25,Tryz.ntmps25
        go_wp2_with (first
       | (go_at_call 75;refine (Calls.mono (isnode_any _ _) ?_);rintro e w1 ⟨rfl,rfl⟩)
       | (go_at_call 76;refine (Calls.mono HALL.out ?_);rintro e w2 ⟨rfl,hb2⟩;obtain ⟨z0,z5⟩:=HX.out _ hb2;have HB2:=hide (below_step HB.out hb2);clear hb2)
       | (go_at_call 77;refine (Calls.mono (with_any _ _) ?_);rintro e w3 ⟨rfl,rfl⟩))
        go_ret
        exact ⟨rfl,HB.out⟩
      ·have d5:decide (n≤281474976710656)=false:=decide_eq_false h5
       have HV:Hid (mokB ⟨k,f,t,id,n,A,c,L⟩=false):=hide (by unfold mokB;simp [HLL.out,h0,h1,h2,h3,h4,h5])
       rw [HV.out]
       go_enter Tryz.func25,Tryz.ntmps25
       go_wp2_with (first
       | (go_at_call 75;refine (Calls.mono (isnode_any _ _) ?_);rintro e w1 ⟨rfl,rfl⟩)
       | (go_at_call 76;refine (Calls.mono HALL.out ?_);rintro e w2 ⟨rfl,hb2⟩;obtain ⟨z0,z5⟩:=HX.out _ hb2;have HB2:=hide (below_step HB.out hb2);clear hb2)
       | (go_at_call 77;refine (Calls.mono (with_any _ _) ?_);rintro e w3 ⟨rfl,rfl⟩))
       go_ret
       exact ⟨rfl,HB.out⟩
     ·have d4:decide (id≤1099511627776)=false:=decide_eq_false h4
      have HV:Hid (mokB ⟨k,f,t,id,n,A,c,L⟩=false):=hide (by unfold mokB;simp [HLL.out,h0,h1,h2,h3,h4])
      rw [HV.out]
      go_enter Tryz.func25,Tryz.ntmps25
      go_wp2_with (first
       | (go_at_call 75;refine (Calls.mono (isnode_any _ _) ?_);rintro e w1 ⟨rfl,rfl⟩)
       | (go_at_call 76;refine (Calls.mono HALL.out ?_);rintro e w2 ⟨rfl,hb2⟩;obtain ⟨z0,z5⟩:=HX.out _ hb2;have HB2:=hide (below_step HB.out hb2);clear hb2)
       | (go_at_call 77;refine (Calls.mono (with_any _ _) ?_);rintro e w3 ⟨rfl,rfl⟩))
      go_ret
      exact ⟨rfl,HB.out⟩
  ·have d1:decide (k≤10)=false:=decide_eq_false h1
   have HV:Hid (mokB ⟨k,f,t,id,n,A,c,L⟩=false):=hide (by unfold mokB;simp [HLL.out,h0,h1])
   rw [HV.out]
   go_enter Tryz.func25,Tryz.ntmps25
   go_wp2_with (first
    | (go_at_call 75;refine (Calls.mono (isnode_any _ _) ?_);rintro e w1 ⟨rfl,rfl⟩)
    | (go_at_call 76;refine (Calls.mono HALL.out ?_);rintro e w2 ⟨rfl,hb2⟩;obtain ⟨z0,z5⟩:=HX.out _ hb2;have HB2:=hide (below_step HB.out hb2);clear hb2)
    | (go_at_call 77;refine (Calls.mono (with_any _ _) ?_);rintro e w3 ⟨rfl,rfl⟩))
   go_ret
   exact ⟨rfl,HB.out⟩
 ·have d0:decide (1≤k)=false:=decide_eq_false h0
  have HV:Hid (mokB ⟨k,f,t,id,n,A,c,L⟩=false):=hide (by unfold mokB;simp [HLL.out,h0])
  rw [HV.out]
  go_enter Tryz.func25,Tryz.ntmps25
  go_wp2_with (first
   | (go_at_call 75;refine (Calls.mono (isnode_any _ _) ?_);rintro e w1 ⟨rfl,rfl⟩)
   | (go_at_call 76;refine (Calls.mono HALL.out ?_);rintro e w2 ⟨rfl,hb2⟩;obtain ⟨z0,z5⟩:=HX.out _ hb2;have HB2:=hide (below_step HB.out hb2);clear hb2)
   | (go_at_call 77;refine (Calls.mono (with_any _ _) ?_);rintro e w3 ⟨rfl,rfl⟩))
  go_ret
  exact ⟨rfl,HB.out⟩
end Go.Proofs.YtgmkckjedngkdaaGreatDoor
namespace Go.Proofs.YtgmkckjedngkdaaGreatDoor
open Go.ChangeShapes Go.WideShapes Go.ChangeAt Go.RowKit
theorem signT_bd (x:Int):0≤signT x∧signT x < 18446744073709551616:=by
 unfold signT bits
 simp only [IntKind.wrap,IntKind.bits,IntKind.signed]
 simp
 omega
def triT (x:It) (j:Nat):List Int:=if j=0 then [] else if j=1 then putT x.t else if j=2 then putT x.t ++ putT x.v else putT x.t ++ putT x.v ++ putT (signT x.x)
def itemT (x:It):List Int:=[x.s % 256,x.k % 256] ++ triT x 3
def rowT (L:List It):List Int:=L.flatMap itemT
def itemsT (L:List It):List Int:=putT L.length ++ rowT L
theorem rowT_snoc (L:List It) (x:It):rowT (L ++ [x])=rowT L ++ itemT x:=by simp [rowT]
theorem putT_len (n:Int):(putT n).length≤11:=putAuxT_len 11 n
theorem triT_len (x:It) (j:Nat):(triT x j).length≤33:=by
 have h1:=putT_len x.t
 have h2:=putT_len x.v
 have h3:=putT_len (signT x.x)
 unfold triT
 split
 ·simp
 split
 ·omega
 split
 ·rw [List.length_append];omega
 ·rw [List.length_append,List.length_append];omega
theorem itemT_len (x:It):(itemT x).length≤35:=by
 unfold itemT
 have:=triT_len x 3
 rw [List.length_append]
 simp only [List.length_cons,List.length_nil]
 omega
theorem rowT_len:∀ (L:List It),(rowT L).length≤35 * L.length
 | []=>by simp [rowT]
 | x :: L=>by
  have h1:=rowT_len L
  have h2:=itemT_len x
  show (itemT x ++ rowT L).length≤_
  rw [List.length_append,List.length_cons]
  omega
theorem putAuxT_b:∀ (f:Nat) (n:Int),0≤n→∀ b ∈ putAuxT f n,isB b
 | 0,_,_=>fun b hb=>by simp [putAuxT] at hb
 | f+1,n,hn=>fun b hb=>by
  rw [putAuxT] at hb
  split at hb
  ·rw [List.mem_singleton] at hb
   subst hb
   unfold isB
   omega
  ·rcases List.mem_cons.1 hb with rfl | h
   ·unfold isB bits
    simp only [IntKind.wrap,IntKind.bits,IntKind.signed]
    simp
    omega
   ·exact putAuxT_b f (n / 128) (by omega) b h
theorem putT_b {n:Int} (hn:0≤n):∀ b ∈ putT n,isB b:=putAuxT_b 11 n hn
theorem itemT_b {x:It} (hx:x.wf):∀ b ∈ itemT x,isB b:=by
 intro b hb
 unfold itemT triT at hb
 simp only [Nat.reduceEqDiff,if_false] at hb
 simp only [List.mem_append,List.mem_cons,List.not_mem_nil,or_false] at hb
 unfold It.wf at hx
 rcases hb with h | (h | h) | h
 ·unfold isB;omega
 ·exact putT_b (by omega) b h
 ·exact putT_b (by omega) b h
 ·exact putT_b (signT_bd x.x).1 b h
theorem itemsT_b {L:List It} (hL:∀ x ∈ L,x.wf):∀ b ∈ itemsT L,isB b:=by
 intro b hb
 unfold itemsT rowT at hb
 rcases List.mem_append.1 hb with h | h
 ·exact putT_b (by omega) b h
 ·obtain ⟨x,hx,hb⟩:=List.mem_flatMap.1 h
  exact itemT_b (hL x hx) b hb
theorem it_cells5 {w:World} {g:Nat} {x:It} {t:TypeId} {fr:Nat × Nat} (h:w.heap[g]? = some (.cells #[.int .i64 x.s,.int .i64 x.k,.int .u64 x.t,.int .u64 x.v,.int .i64 x.x] t fr)):w.cell? ⟨g,0,none⟩=some (.int .i64 x.s)∧w.cell? ⟨g,1,none⟩=some (.int .i64 x.k)∧w.cell? ⟨g,2,none⟩=some (.int .u64 x.t)∧w.cell? ⟨g,3,none⟩=some (.int .u64 x.v)∧w.cell? ⟨g,4,none⟩=some (.int .i64 x.x) :=
 ⟨(cell_of_row w g 0 _ _ _ h).trans rfl,(cell_of_row w g 1 _ _ _ h).trans rfl,(cell_of_row w g 2 _ _ _ h).trans rfl,(cell_of_row w g 3 _ _ _ h).trans rfl,(cell_of_row w g 4 _ _ _ h).trans rfl⟩
theorem own_ne_ty {α:Type} {cells:α→List Value} {sz:Nat} {e e':TypeId} {base:Nat} {w:World} {v:Value} {L:List α} {g:Nat} {a:Array Value} {fr:Nat × Nat} (h:OwnL cells sz e base w v L) (hg:w.heap[g]? = some (.cells a e' fr)) (hne:e ≠ e'):v.ownBlock ≠ some g:=fun he=>by
 rcases h.2 with ⟨rfl,_⟩ | ⟨g',cap,cur,rfl,_,hh,_⟩
 ·cases he
 ·obtain rfl:=Option.some.inj he
  rw [hh] at hg
  injection hg with h1
  injection h1 with _ h2
  exact hne h2
set_option maxRecDepth 100000 in
set_option maxHeartbeats 3200000 in
theorem bytes_good (A:Option Addr) (c:Nat) (L:List It) (w:World) (hl:L.length≤2000) (hL:ItemsAt w A L) (hW:∀ x ∈ L,x.wf) (hg:L.all goodB=true) :
 Calls Tryz.prog 268 #[.slice none 0 0,.slice A L.length c] w fun e w'=>∃ v,e=.returned (.tuple #[v,.int .i64 0])∧OwnL (one1 u8v) 1 5 w.heap.size w' v (itemsT L)∧Below w.heap.size w w':=by
 have HA:=hide (iall_any A c L w (by omega) hL)
 rw [hg] at HA
 have HR:=hide hL
 have HW:=hide hW
 have hlI:¬ (2000:Int) < (L.length:Int):=by omega
 clear hL hW hg
 have hconv:IntKind.u64.wrap (L.length:Int)=(L.length:Int):=by simp only [IntKind.wrap,IntKind.bits,IntKind.signed];simp;omega
 go_enter Tryz.func268,Tryz.ntmps268
 go_wp2_with fail
 refine (Calls.mono HA.out ?_);rintro e w1 ⟨rfl,hb1⟩
 have HB1:=hide hb1
 clear hb1 HA
 go_wp2_with fail
 try rw [hconv]
 refine (Calls.mono (putT_any none 0 [] (L.length:Int) w1 (by simp) RowAt.nil_ (by omega)) ?_);rintro e w2 ⟨v2,rfl,ho2,hb2⟩
 rw [List.nil_append] at ho2
 have HV2:=hide (OwnL.base_ (base':=w.heap.size) ho2 HB1.out.size)
 have HB2:=hide (below_step HB1.out hb2)
 clear ho2 hb2 HB1 hconv
 go_upto_region 8 with fail
 obtain ⟨n,hn⟩:∃ n,L.length=n:=⟨_,rfl⟩
 rw [hn] at hl hlI ⊢
 have HN:=hide hn
 clear hn
 go_loopw [7,25] (fun v i wr=>∃ k:Nat,k≤n∧i=.int .i64 k∧OwnL (one1 u8v) 1 5 w2.heap.size wr v (rowT (L.take k))∧Below w2.heap.size w2 wr) (fun _ i _=>n - (intOf i).toNat)
 case atStart=>exact ⟨0,by omega,rfl,OwnL.nil_ _ _ _ _ _,Below.refl _ _⟩
 case round =>
  obtain ⟨k,hk,rfl,ho,hb⟩:=hrel
  have HO:=hide ho
  have HB:=hide hb
  have hbs:=hb.size
  clear ho hb
  by_cases hlt:k < n
  ·have hkL:k < L.length:=by rw [HN.out];exact hlt
   have hkI:(k:Int) < (n:Int):=by omega
   have hkD:decide ((k:Int) < (n:Int))=true:=decide_eq_true hkI
   obtain ⟨g,off,rfl,hgl,y0,y1,y2,y3,y4⟩:=HR.out.item (below_step HB2.out HB.out) hkL
   have HXS:Hid (rowT (L.take (k+1))=rowT (L.take k) ++ itemT (L[k]'hkL)):=hide (by rw [take_snoc hkL,rowT_snoc])
   have hxw:=HW.out (L[k]'hkL) (List.getElem_mem _)
   have HRL:Hid ((rowT (L.take k)).length≤70000):=hide (by have:=rowT_len (L.take k);have h2:(L.take k).length≤k:=List.length_take_le _ _;omega)
   generalize L[k]'hkL=x at *
   generalize rowT (L.take k)=X at *
   have hsg:=signT_bd x.x
   unfold It.wf at hxw
   have HXW:=hide hxw
   have ht:0≤x.t∧x.t < 18446744073709551616:=by omega
   have hv:0≤x.v∧x.v < 18446744073709551616:=by omega
   have HSG:Hid (∀ W:World,Calls Tryz.prog 319 #[.int .i64 x.x] W fun e w'=>e=.returned (.int .u64 (signT x.x))∧Below W.heap.size W w'):=hide (fun W=>Calls.mono (sign_any x.x W HXW.out.2.2.2.2) (by rintro e w' ⟨rfl,rfl⟩;exact ⟨rfl,Below.refl _ _⟩))
   clear hxw
   have eb:=heap_alloc_new wr (.cells #[.int .i64 x.s,.int .i64 x.k,.int .u64 x.t,.int .u64 x.v,.int .i64 x.x] 54)
   have hba:=below_alloc (Below.refl wr.heap.size wr) (.cells #[.int .i64 x.s,.int .i64 x.k,.int .u64 x.t,.int .u64 x.v,.int .i64 x.x] 54)
   have HNB:=hide (fun q hq=>(OwnL.lt HO.out q hq).2)
   go_upto_region 10 with fail
   obtain ⟨gb,hgb⟩:∃ gb,wr.heap.size=gb:=⟨_,rfl⟩
   obtain ⟨wa,hwa⟩:∃ wa,wr.alloc (.cells #[.int .i64 x.s,.int .i64 x.k,.int .u64 x.t,.int .u64 x.v,.int .i64 x.x] 54)=wa:=⟨_,rfl⟩
   have HOA:=hide (OwnL.below HO.out hba)
   have HBA:=hide (below_step HB.out hba)
   rw [hwa] at eb HOA HBA ⊢
   rw [hgb] at eb HNB ⊢
   have hbas:=HBA.out.size
   obtain ⟨a0,a1,a2,a3,a4⟩:=it_cells5 eb
   have lgb:=(Array.getElem?_eq_some_iff.1 eb).1
   clear y0 y1 y2 y3 y4 hgb hwa hba HO HB hbs hgl
   have eb2:=heap_alloc_new wa (.cells #[.int .u8 (x.s % 256),.int .u8 (x.k % 256)] 5)
   have hba2:=below_alloc (Below.refl wa.heap.size wa) (.cells #[.int .u8 (x.s % 256),.int .u8 (x.k % 256)] 5)
   have HR2:Hid (ValsAt u8v (wa.alloc (.cells #[.int .u8 (x.s % 256),.int .u8 (x.k % 256)] 5)) (some ⟨wa.heap.size,0,none⟩) [x.s % 256,x.k % 256]):=hide (vals_of_block (L:=[x.s % 256,x.k % 256]) eb2)
   have HOB:=hide (OwnL.below HOA.out hba2)
   have HBB:=hide (below_step HBA.out hba2)
   have HBC:=hide hba2
   have HEB:=hide eb
   clear eb2 hba2 eb
   go_upto_region 11 with (at_builtin;refine wpList_append_vals rfl (.tmp 29) (.tmp 36) 173 5 _ 1 rfl Tryz.underlying173 Tryz.infoU8t rfl (fun _=>rfl) (by omega) w2.heap.size _ X rfl HOB.out (some ⟨wa.heap.size,0,none⟩) 2 [x.s % 256,x.k % 256] rfl HR2.out (by have:=HRL.out;simp only [List.length_cons,List.length_nil];omega) HBB.out.size ?_;intro v5 u5 ho5 hg5)
   have HB5:=hide (HBB.out.grown hg5 HBB.out.size (fun q hq=>(OwnL.lt HOB.out q hq).1))
   have HO5:=hide ho5
   have HE5:=hide ((hg5.block gb (Nat.lt_of_lt_of_le lgb HBC.out.size) (fun e=>by have:=HNB.out gb e.symm;omega)).trans ((HBC.out.block gb lgb).trans HEB.out))
   clear a0 a1 a2 a3 a4 lgb HOA HBA HOB HBB HBC HEB HR2 hg5 ho5
   obtain ⟨e0,e1,e2,e3,e4⟩:=it_cells5 HE5.out
   have lg5:=(Array.getElem?_eq_some_iff.1 HE5.out).1
   have HC:Hid (∀ W:World,Below u5.heap.size u5 W→W.cell? ⟨gb,0,none⟩=some (.int .i64 x.s)∧W.cell? ⟨gb,1,none⟩=some (.int .i64 x.k)∧W.cell? ⟨gb,2,none⟩=some (.int .u64 x.t)∧W.cell? ⟨gb,3,none⟩=some (.int .u64 x.v)∧W.cell? ⟨gb,4,none⟩=some (.int .i64 x.x)):=hide (fun W hW=>⟨keep_cell hW e0 lg5,keep_cell hW e1 lg5,keep_cell hW e2 lg5,keep_cell hW e3 lg5,keep_cell hW e4 lg5⟩)
   have HX:Hid (Below u5.heap.size u5 u5.drew):=hide (Below.refl _ _).drew
   clear e0 e1 e2 e3 e4 lg5
   refine j_start [] (by kernel_rfl) ?_
   refine' j_t 0 [] rfl (by kernel_rfl) rfl ?y0 ?r0
   case y0=>(intro w' hw';go_simp;try with_reducible rfl)
   try go_frame
   refine' j_t 1 [] rfl (by kernel_rfl) rfl ?y1 ?r1
   case y1=>(intro w' hw';obtain ⟨i0,i1,i2,i3,i4⟩:=HC.out _ (below_step HX.out hw');go_simp;try with_reducible rfl)
   try go_frame
   refine' j_t 2 [] rfl (by kernel_rfl) rfl ?y2 ?r2
   case y2=>(intro w' hw';go_simp;try with_reducible rfl)
   try go_frame
   refine' j_t 3 [] rfl (by kernel_rfl) rfl ?y3 ?r3
   case y3=>(intro w' hw';obtain ⟨i0,i1,i2,i3,i4⟩:=HC.out _ (below_step HX.out hw');go_simp;try with_reducible rfl)
   try go_frame
   refine' j_t 4 [] rfl (by kernel_rfl) rfl ?y4 ?r4
   case y4=>(intro w' hw';go_simp;try with_reducible rfl)
   try go_frame
   refine' j_t 5 [] rfl (by kernel_rfl) rfl ?y5 ?r5
   case y5=>(intro w' hw';obtain ⟨i0,i1,i2,i3,i4⟩:=HC.out _ (below_step HX.out hw');go_simp;try with_reducible rfl)
   try go_frame
   refine' j_t 9 [] rfl (by kernel_rfl) rfl ?y9 ?r9
   case y9=>(intro w' hw';go_simp;try with_reducible rfl)
   try go_frame
   refine' j_s 6 (by kernel_rfl) rfl (fun K hK=>?s6)
   go_simp
   refine (Calls.mono (HSG.out _) ?_);rintro e u1 ⟨rfl,gg⟩
   have HX:=hide (below_step HX.out gg)
   refine hK.out _ _ gg (j_switch gg ?_)
   clear hK K gg
   try go_frame
   refine' j_s 7 (by kernel_rfl) rfl (fun K hK=>?s7)
   go_simp
   have hal:=below_alloc (Below.refl u1.heap.size u1) (.cells #[.int .u64 x.t,.int .u64 x.v,.int .u64 (signT x.x)] 29)
   have hz3:=heap_alloc_new u1 (.cells #[.int .u64 x.t,.int .u64 x.v,.int .u64 (signT x.x)] 29)
   have HX:=hide (below_step HX.out hal)
   obtain ⟨g3,hg3⟩:∃ g3,u1.heap.size=g3:=⟨_,rfl⟩
   obtain ⟨u3,hu3⟩:∃ u3,u1.alloc (.cells #[.int .u64 x.t,.int .u64 x.v,.int .u64 (signT x.x)] 29)=u3:=⟨_,rfl⟩
   refine hK.out _ _ hal (j_switch hal ?_)
   clear hK K
   rw [hu3,hg3] at hz3
   rw [hu3] at HX
   try rw [hu3]
   try rw [hg3]
   have HZ3:=hide hz3
   clear hz3 hal hu3 hg3
   try go_frame
   refine' j_t 8 [] rfl (by kernel_rfl) rfl ?y8 ?r8
   case y8=>(intro w' hw';go_simp;try with_reducible rfl)
   try go_frame
   refine wpAnyJ_done (by kernel_rfl) ?_ _
   refine NoPanic.normal ?_
   go_upto_region 12 with fail
   have HOI:=hide (OwnL.below HO5.out HX.out)
   have HBI:=hide (below_step HB5.out HX.out)
   obtain ⟨ui,rfl⟩:∃ ui,ui=u3:=⟨_,rfl⟩
   have hls:(X ++ [x.s % 256,x.k % 256]).length≤80000:=by have:=HRL.out;rw [List.length_append];simp only [List.length_cons,List.length_nil];omega
   have HIT:Hid (X ++ [x.s % 256,x.k % 256] ++ triT x 3=X ++ itemT x):=hide (by unfold itemT;rw [List.append_assoc])
   generalize X ++ [x.s % 256,x.k % 256]=Y at *
   go_loopw [7,47] (fun v i wr=>∃ j:Nat,j≤3∧i=.int .i64 j∧OwnL (one1 u8v) 1 5 w2.heap.size wr v (Y ++ triT x j)∧wr.heap[g3]? = some (.cells #[.int .u64 x.t,.int .u64 x.v,.int .u64 (signT x.x)] 29 (0,0))∧Below w2.heap.size w2 wr) (fun _ i _=>3 - (intOf i).toNat)
   case atStart=>exact ⟨0,by omega,rfl,by rw [show triT x 0=[] from rfl,List.append_nil];exact HOI.out,HZ3.out,HBI.out⟩
   case round =>
    obtain ⟨j,hj,rfl,ho2,hz,hb2⟩:=hrel
    clear HOI
    have HO:=hide ho2
    have HBJ:=hide hb2
    have HZJ:=hide hz
    clear ho2
    by_cases hj3:j < 3
    ·have hjI:(j:Int) < 3:=by omega
     obtain ⟨q,hq0,hq1,hc,HN3⟩:∃ q:Int,0≤q∧q < 18446744073709551616∧wr.cell? ⟨g3,j,none⟩=some (.int .u64 q)∧Hid (triT x (j+1)=triT x j ++ putT q):=by
      have h2:j=0 ∨ j=1 ∨ j=2:=by omega
      rcases h2 with rfl | rfl | rfl
      ·exact ⟨x.t,ht.1,ht.2,(cell_of_row wr _ 0 _ _ _ hz).trans rfl,hide rfl⟩
      ·exact ⟨x.v,hv.1,hv.2,(cell_of_row wr _ 1 _ _ _ hz).trans rfl,hide rfl⟩
      ·exact ⟨signT x.x,hsg.1,hsg.2,(cell_of_row wr _ 2 _ _ _ hz).trans rfl,hide rfl⟩
     have hj33:=triT_len x j
     have HJL:Hid ((Y ++ triT x j).length≤90000):=hide (by rw [List.length_append];omega)
     obtain ⟨Z,hZ⟩:∃ Z,Y ++ triT x j=Z:=⟨_,rfl⟩
     have HZY:=hide hZ
     rw [hZ] at HO HJL
     clear hZ
     clear hb2 hj33 hz
     obtain ⟨wc,rfl⟩:∃ wc,wc=wr:=⟨_,rfl⟩
     go_wp2_with fail
     refine (Calls.mono (putT_any none 0 [] q wc (by simp) RowAt.nil_ ⟨hq0,hq1⟩) ?_);rintro e w6 ⟨v6,rfl,ho6,hb6⟩
     rw [List.nil_append] at ho6
     obtain ⟨A6,c6,rfl,hr6,_,_⟩:=OwnL.vals ho6
     have HR6:=hide hr6
     have HO6:=hide (OwnL.below HO.out hb6)
     have HB6:=hide hb6
     have HW6:=hide (below_step HBJ.out hb6)
     have HZ6:=hide ((hb6.block _ (Array.getElem?_eq_some_iff.1 HZJ.out).1).trans HZJ.out)
     have hpl:=putT_len q
     clear ho6 hr6 hb6 hc
     go_wp2_with (at_builtin;refine wpList_append_vals rfl (.tmp 51) (.tmp 53) 173 5 _ 1 rfl Tryz.underlying173 Tryz.infoU8t rfl (fun _=>rfl) (by omega) w2.heap.size _ Z rfl HO6.out A6 c6 (putT q) rfl HR6.out (by have:=HJL.out;omega) HW6.out.size ?_;intro v7 w7 ho7 hg7)
     have HO7:=hide ho7
     have HB7:=hide (HW6.out.grown hg7 HW6.out.size (fun q hq=>(OwnL.lt HO6.out q hq).1))
     have HZ7:=hide ((hg7.block _ (Array.getElem?_eq_some_iff.1 HZ6.out).1 (fun e=>own_ne_ty HO6.out HZ6.out (by decide) e.symm)).trans HZ6.out)
     have HOO:Hid (OwnL (one1 u8v) 1 5 w2.heap.size w7 v7 (Y ++ triT x (j+1))):=hide (by
      rw [HN3.out,← List.append_assoc,HZY.out]
      exact HO7.out)
     clear ho7 hg7
     go_wp2_with fail
     go_roundw
     case rel=>exact ⟨j+1,by omega,by go_num,HOO.out,HZ7.out,HB7.out⟩
     case measure=>simp only [intOf];omega
    ·obtain rfl:j=3:=by omega
     have HO3:Hid (OwnL (one1 u8v) 1 5 w2.heap.size wr u7 (rowT (L.take (k+1)))):=hide (by rw [HXS.out,← HIT.out];exact HO.out)
     have HBF:=hide HBJ.out
     clear hb2 hz
     go_wp2_with fail
     go_roundw
     case rel=>exact ⟨k+1,by omega,by go_num,HO3.out,HBF.out⟩
     case measure=>simp only [intOf];omega
  ·obtain rfl:k=n:=by omega
   have hkI:¬ (k:Int) < (k:Int):=by omega
   have htk:L.take k=L:=List.take_of_length_le (by rw [HN.out];exact Nat.le_refl _)
   rw [htk] at HO
   obtain ⟨A7,c7,rfl,hr7,_,_⟩:=OwnL.vals HO.out
   have HR7:=hide hr7
   have HV:=hide (OwnL.below HV2.out HB.out)
   have HBF:=hide (below_step HB2.out HB.out)
   have hpl:=putT_len (L.length:Int)
   have HRL:Hid ((rowT L).length≤70000):=hide (by have:=rowT_len L;rw [HN.out] at this;omega)
   clear hr7 htk
   go_wp2_with (at_builtin;refine wpList_append_vals rfl (.tmp 57) (.tmp 58) 173 5 _ 1 rfl Tryz.underlying173 Tryz.infoU8t rfl (fun _=>rfl) (by omega) w.heap.size _ (putT (L.length:Int)) rfl HV.out A7 c7 (rowT L) rfl HR7.out (by have:=HRL.out;omega) HBF.out.size ?_;intro v8 w8 ho8 hg8)
   have HB8:=hide (HBF.out.grown hg8 HBF.out.size (fun q hq=>(OwnL.lt HV.out q hq).1))
   refine bodyPost_ret (v:=.tuple #[v8,.int .i64 0]) (by simp [results,Tryz.results268]) rfl ⟨v8,rfl,?_,HB8.out⟩
   exact ho8
end Go.Proofs.YtgmkckjedngkdaaGreatDoor
