/- A part of the proof that TopQuotaLaw holds: XMsg. Conditions: as typed. -/
import Derived.Test.YtgmkckjedngkdaaGreatDoorTq02
import Derived.Test.YtgmkckjedngkdaaGreatDoorTq04
import Derived.Test.YtgmkckjedngkdaaGreatDoorTq08
import Derived.Test.YtgmkckjedngkdaaGreatDoorTq09
set_option linter.unusedVariables false
set_option linter.unusedSimpArgs false
namespace Go.Proofs.YtgmkckjedngkdaaGreatDoor
open Go.ChangeShapes Go.WideShapes Go.ChangeAt Go.RowKit
structure Mg where
 k:Int
 f:Int
 t:Int
 id:Int
 n:Int
 A:Option Addr
 c:Nat
 L:List It
abbrev Mg.val (m:Mg):Value:=.agg #[.int .i64 m.k,.int .i64 m.f,.int .i64 m.t,.int .u64 m.id,.int .u64 m.n,.slice m.A m.L.length m.c]
def Mg.cells (m:Mg):List Value:=[.int .i64 m.k,.int .i64 m.f,.int .i64 m.t,.int .u64 m.id,.int .u64 m.n,.slice m.A m.L.length m.c]
theorem Mg.cells_len (m:Mg):(Mg.cells m).length=6:=rfl
theorem Mg.cells_one (m:Mg):∀ u ∈ Mg.cells m,u.oneCell'=true:=by
 intro u hu
 simp only [Mg.cells,List.mem_cons,List.not_mem_nil,or_false] at hu
 rcases hu with rfl | rfl | rfl | rfl | rfl | rfl <;> rfl
theorem Tryz.infoMsg:(Tryz.prog.info? 33).map (fun i=>(i.zero,i.size,i.bytes))=some (some (.agg #[.int .i64 0,.int .i64 0,.int .i64 0,.int .u64 0,.int .u64 0,.slice none 0 0]),6,64):=by kernel_rfl
def Mg.rd (w:World) (m:Mg):Prop:=ItemsAt w m.A m.L∧m.L.length≤m.c∧m.c≤maxLen
theorem Mg.rd.below {w w':World} {m:Mg} (h:m.rd w) (hb:Below w.heap.size w w'):m.rd w':=⟨h.1.below hb,h.2⟩
def Mg.same (a b:Mg):Prop:=a.k=b.k∧a.f=b.f∧a.t=b.t∧a.id=b.id∧a.n=b.n∧a.L=b.L
theorem Mg.same.refl (a:Mg):Mg.same a a:=⟨rfl,rfl,rfl,rfl,rfl,rfl⟩
theorem Mg.same.symm {a b:Mg} (h:Mg.same a b):Mg.same b a:=⟨h.1.symm,h.2.1.symm,h.2.2.1.symm,h.2.2.2.1.symm,h.2.2.2.2.1.symm,h.2.2.2.2.2.symm⟩
theorem Mg.same.trans {a b c:Mg} (h:Mg.same a b) (k:Mg.same b c):Mg.same a c:=⟨h.1.trans k.1,h.2.1.trans k.2.1,h.2.2.1.trans k.2.2.1,h.2.2.2.1.trans k.2.2.2.1,h.2.2.2.2.1.trans k.2.2.2.2.1,h.2.2.2.2.2.trans k.2.2.2.2.2⟩
def nodeB (n:Int):Bool:=decide (0≤n) && decide (n < 7)
def withB (k:Int):Bool:=decide (k=1) || decide (k=5) || decide (k=7) || decide (k=8)
def mokB (m:Mg):Bool:=decide (1≤m.k) && decide (m.k≤10) && nodeB m.f && nodeB m.t && decide (m.id≤1099511627776) && decide (m.n≤281474976710656) && decide (m.L.length≤1500) && m.L.all goodB && (decide (m.L.length=0) || withB m.k)
theorem mokB_same {a b:Mg} (h:Mg.same a b):mokB a=mokB b:=by
 obtain ⟨h1,h2,h3,h4,h5,h6⟩:=h
 unfold mokB
 rw [h1,h2,h3,h4,h5,h6]
theorem isnode_any (n:Int) (w:World):Calls Tryz.prog 75 #[.int .i64 n] w fun e w'=>e=.returned (.bool (nodeB n))∧w'=w:=by
 by_cases h0:0≤n
 · by_cases h1:n < 7
   · have HV:Hid (nodeB n=true):=hide (by simp [nodeB,h0,h1])
     rw [HV.out]
     go_enter Tryz.func75,Tryz.ntmps75
     go_wp2_with fail
     go_ret
     exact ⟨rfl,rfl⟩
   · have HV:Hid (nodeB n=false):=hide (by simp [nodeB,h1])
     rw [HV.out]
     go_enter Tryz.func75,Tryz.ntmps75
     go_wp2_with fail
     go_ret
     exact ⟨rfl,rfl⟩
 · have HV:Hid (nodeB n=false):=hide (by simp [nodeB];omega)
   rw [HV.out]
   go_enter Tryz.func75,Tryz.ntmps75
   go_wp2_with fail
   go_ret
   exact ⟨rfl,rfl⟩
theorem with_any (k:Int) (w:World):Calls Tryz.prog 77 #[.int .i64 k] w fun e w'=>e=.returned (.bool (withB k))∧w'=w:=by
 by_cases h0:k=1 ∨ k=5 ∨ k=7 ∨ k=8
 · have HV:Hid (withB k=true):=hide (by unfold withB;rcases h0 with rfl | rfl | rfl | rfl <;> rfl)
   rw [HV.out]
   rcases h0 with rfl | rfl | rfl | rfl
   all_goals
     go_enter Tryz.func77,Tryz.ntmps77
     go_wp2_with fail
     go_ret
     exact ⟨rfl,rfl⟩
 · have HV:Hid (withB k=false):=hide (by unfold withB;simp;omega)
   rw [HV.out]
   have b1:(k == 1)=false:=beq_eq_false_iff_ne.2 (by omega)
   have b2:(k == 5)=false:=beq_eq_false_iff_ne.2 (by omega)
   have b3:(k == 7)=false:=beq_eq_false_iff_ne.2 (by omega)
   have b4:(k == 8)=false:=beq_eq_false_iff_ne.2 (by omega)
   clear h0
   go_enter Tryz.func77,Tryz.ntmps77
   go_wp2_with fail
   go_ret
   exact ⟨rfl,rfl⟩
theorem tells_all (L:List It) (w:World):Tells 157 #[] (fun x=>!goodB x) L w:=by
 intro x hx w1 hb
 show Calls Tryz.prog 157 #[x.val] w1 fun e w2=>e=.returned (.bool (!goodB x))∧Below w1.heap.size w1 w2
 have HG:=hide (fun W=>pgood_any x W)
 generalize goodB x=g at *
 have HB:=hide (below_alloc (Below.refl w1.heap.size w1) (.cells (It.cells x).toArray 54))
 clear hb
 go_enter Tryz.func157,Tryz.ntmps157
 go_wp2_with fail
 refine (Calls.mono (HG.out _) ?_);rintro e w2 ⟨rfl,hb2⟩
 have HB2:=hide (below_step HB.out hb2)
 clear hb2 HB
 cases g
 · go_wp2_with fail
   go_ret
   exact ⟨rfl,HB2.out⟩
 · go_wp2_with fail
   go_ret
   exact ⟨rfl,HB2.out⟩
theorem allc_in:Enters Tryz.prog 157:=fun _ _=>by kernel_rfl
theorem any_all (L:List It):(!anyI (fun x=>!goodB x) L)=L.all goodB:=by
 unfold anyI
 rw [List.any_eq_not_all_not]
 simp
theorem iall_any (A:Option Addr) (c:Nat) (L:List It) (w:World) (hl:L.length≤9223372036854775807) (hL:ItemsAt w A L) :
   Calls Tryz.prog 76 #[.slice A L.length c] w fun e w'=>e=.returned (.bool (L.all goodB))∧Below w.heap.size w w':=by
 have HC:=hide (contains_any 157 #[] allc_in (fun x=>!goodB x) A c L w hl hL (tells_all L w))
 have HV:=hide (any_all L)
 generalize anyI (fun x=>!goodB x) L=g at *
 clear hL
 go_enter Tryz.func76,Tryz.ntmps76
 go_wp2_with fail
 refine (Calls.mono HC.out ?_);rintro e w1 ⟨rfl,hb⟩
 have HB:=hide hb
 clear hb
 go_wp2_with fail
 go_ret
 exact ⟨by rw [← HV.out];rfl,HB.out⟩
set_option maxRecDepth 100000 in
set_option maxHeartbeats 6400000 in
theorem mok_any (m:Mg) (w:World) (hI:ItemsAt w m.A m.L) (hl:m.L.length≤9223372036854775807) :
   Calls Tryz.prog 25 #[m.val] w fun e w'=>e=.returned (.bool (mokB m))∧Below w.heap.size w w':=by
 obtain ⟨k,f,t,id,n,A,c,L⟩:=m
 simp only at hI hl
 have hb:=below_alloc (Below.refl w.heap.size w) (.cells #[.int .i64 k,.int .i64 f,.int .i64 t,.int .u64 id,.int .u64 n,.slice A L.length c] 33)
 have HALL:=hide (iall_any A c L _ hl (hI.below hb))
 have HB:=hide hb
 have hgn:=heap_alloc_new w (.cells #[.int .i64 k,.int .i64 f,.int .i64 t,.int .u64 id,.int .u64 n,.slice A L.length c] 33)
 have HX:Hid (∀ W:World,Below (w.alloc (.cells #[.int .i64 k,.int .i64 f,.int .i64 t,.int .u64 id,.int .u64 n,.slice A L.length c] 33)).heap.size (w.alloc (.cells #[.int .i64 k,.int .i64 f,.int .i64 t,.int .u64 id,.int .u64 n,.slice A L.length c] 33)) W→W.cell? ⟨w.heap.size,0,none⟩=some (.int .i64 k)∧W.cell? ⟨w.heap.size,5,none⟩=some (.slice A L.length c)):=hide (fun W hW=>by
   have h:=(hW.block w.heap.size (by simp)).trans hgn
   exact ⟨(cell_of_row W _ 0 _ _ _ h).trans rfl,(cell_of_row W _ 5 _ _ _ h).trans rfl⟩)
 clear hI hb hgn
 show Calls Tryz.prog 25 #[.agg #[.int .i64 k,.int .i64 f,.int .i64 t,.int .u64 id,.int .u64 n,.slice A L.length c]] w _
 obtain ⟨l,hll⟩:∃ l,L.length=l:=⟨_,rfl⟩
 have HLL:=hide hll
 rw [hll] at HALL HB HX ⊢
 clear hll hl
 by_cases h0:1≤k
 · by_cases h1:k≤10
   · cases h2:nodeB f with
     | false =>
       have HV:Hid (mokB ⟨k,f,t,id,n,A,c,L⟩=false):=hide (by unfold mokB;simp [HLL.out,h0,h1,h2])
       rw [HV.out]
       go_enter Tryz.func25,Tryz.ntmps25
       go_wp2_with (first
       | (go_at_call 75;refine (Calls.mono (isnode_any _ _) ?_);rintro e w1 ⟨rfl,rfl⟩)
       | (go_at_call 76;refine (Calls.mono HALL.out ?_);rintro e w2 ⟨rfl,hb2⟩;obtain ⟨z0,z5⟩:=HX.out _ hb2;have HB2:=hide (below_step HB.out hb2);clear hb2)
       | (go_at_call 77;refine (Calls.mono (with_any _ _) ?_);rintro e w3 ⟨rfl,rfl⟩))
       go_ret
       exact ⟨rfl,HB.out⟩
     | true =>
       cases h3:nodeB t with
       | false =>
         have HV:Hid (mokB ⟨k,f,t,id,n,A,c,L⟩=false):=hide (by unfold mokB;simp [HLL.out,h0,h1,h2,h3])
         rw [HV.out]
         go_enter Tryz.func25,Tryz.ntmps25
         go_wp2_with (first
       | (go_at_call 75;refine (Calls.mono (isnode_any _ _) ?_);rintro e w1 ⟨rfl,rfl⟩)
       | (go_at_call 76;refine (Calls.mono HALL.out ?_);rintro e w2 ⟨rfl,hb2⟩;obtain ⟨z0,z5⟩:=HX.out _ hb2;have HB2:=hide (below_step HB.out hb2);clear hb2)
       | (go_at_call 77;refine (Calls.mono (with_any _ _) ?_);rintro e w3 ⟨rfl,rfl⟩))
         go_ret
         exact ⟨rfl,HB.out⟩
       | true =>
         by_cases h4:id≤1099511627776
         · by_cases h5:n≤281474976710656
           · by_cases h6:l≤1500
             · have h6I:(l:Int)≤1500:=by omega
               cases h7:L.all goodB with
               | false =>
                 rw [h7] at HALL
                 have HV:Hid (mokB ⟨k,f,t,id,n,A,c,L⟩=false):=hide (by unfold mokB;simp [HLL.out,h0,h1,h2,h3,h4,h5,h6,h7])
                 rw [HV.out]
                 go_enter Tryz.func25,Tryz.ntmps25
                 go_wp2_with (first
       | (go_at_call 75;refine (Calls.mono (isnode_any _ _) ?_);rintro e w1 ⟨rfl,rfl⟩)
       | (go_at_call 76;refine (Calls.mono HALL.out ?_);rintro e w2 ⟨rfl,hb2⟩;obtain ⟨z0,z5⟩:=HX.out _ hb2;have HB2:=hide (below_step HB.out hb2);clear hb2)
       | (go_at_call 77;refine (Calls.mono (with_any _ _) ?_);rintro e w3 ⟨rfl,rfl⟩))
                 go_ret
                 exact ⟨rfl,HB2.out⟩
               | true =>
                 rw [h7] at HALL
                 by_cases h8:l=0
                 · subst h8
                   have HV:Hid (mokB ⟨k,f,t,id,n,A,c,L⟩=true):=hide (by unfold mokB;simp [HLL.out,h0,h1,h2,h3,h4,h5,h7])
                   rw [HV.out]
                   go_enter Tryz.func25,Tryz.ntmps25
                   go_wp2_with (first
       | (go_at_call 75;refine (Calls.mono (isnode_any _ _) ?_);rintro e w1 ⟨rfl,rfl⟩)
       | (go_at_call 76;refine (Calls.mono HALL.out ?_);rintro e w2 ⟨rfl,hb2⟩;obtain ⟨z0,z5⟩:=HX.out _ hb2;have HB2:=hide (below_step HB.out hb2);clear hb2)
       | (go_at_call 77;refine (Calls.mono (with_any _ _) ?_);rintro e w3 ⟨rfl,rfl⟩))
                   go_ret
                   exact ⟨rfl,HB2.out⟩
                 · have h8I:¬ (l:Int)=0:=by omega
                   have h8b:((l:Int) == 0)=false:=beq_eq_false_iff_ne.2 h8I
                   cases h9:withB k with
                   | true =>
                     have HV:Hid (mokB ⟨k,f,t,id,n,A,c,L⟩=true):=hide (by unfold mokB;simp [HLL.out,h0,h1,h2,h3,h4,h5,h6,h7,h8,h9])
                     rw [HV.out]
                     go_enter Tryz.func25,Tryz.ntmps25
                     go_wp2_with (first
       | (go_at_call 75;refine (Calls.mono (isnode_any _ _) ?_);rintro e w1 ⟨rfl,rfl⟩)
       | (go_at_call 76;refine (Calls.mono HALL.out ?_);rintro e w2 ⟨rfl,hb2⟩;obtain ⟨z0,z5⟩:=HX.out _ hb2;have HB2:=hide (below_step HB.out hb2);clear hb2)
       | (go_at_call 77;refine (Calls.mono (with_any _ _) ?_);rintro e w3 ⟨rfl,rfl⟩))
                     go_ret
                     exact ⟨rfl,HB2.out⟩
                   | false =>
                     have HV:Hid (mokB ⟨k,f,t,id,n,A,c,L⟩=false):=hide (by unfold mokB;simp [HLL.out,h0,h1,h2,h3,h4,h5,h6,h7,h8,h9])
                     rw [HV.out]
                     go_enter Tryz.func25,Tryz.ntmps25
                     go_wp2_with (first
       | (go_at_call 75;refine (Calls.mono (isnode_any _ _) ?_);rintro e w1 ⟨rfl,rfl⟩)
       | (go_at_call 76;refine (Calls.mono HALL.out ?_);rintro e w2 ⟨rfl,hb2⟩;obtain ⟨z0,z5⟩:=HX.out _ hb2;have HB2:=hide (below_step HB.out hb2);clear hb2)
       | (go_at_call 77;refine (Calls.mono (with_any _ _) ?_);rintro e w3 ⟨rfl,rfl⟩))
                     go_ret
                     exact ⟨rfl,HB2.out⟩
             · have h6I:¬ (l:Int)≤1500:=by omega
               have h6D:decide ((l:Int)≤1500)=false:=decide_eq_false h6I
               have HV:Hid (mokB ⟨k,f,t,id,n,A,c,L⟩=false):=hide (by unfold mokB;simp [HLL.out,h0,h1,h2,h3,h4,h5,h6])
               rw [HV.out]
               go_enter Tryz.func25,Tryz.ntmps25
               go_wp2_with (first
       | (go_at_call 75;refine (Calls.mono (isnode_any _ _) ?_);rintro e w1 ⟨rfl,rfl⟩)
       | (go_at_call 76;refine (Calls.mono HALL.out ?_);rintro e w2 ⟨rfl,hb2⟩;obtain ⟨z0,z5⟩:=HX.out _ hb2;have HB2:=hide (below_step HB.out hb2);clear hb2)
       | (go_at_call 77;refine (Calls.mono (with_any _ _) ?_);rintro e w3 ⟨rfl,rfl⟩))
               go_ret
               exact ⟨rfl,HB.out⟩
           · have d5:decide (n≤281474976710656)=false:=decide_eq_false h5
             have HV:Hid (mokB ⟨k,f,t,id,n,A,c,L⟩=false):=hide (by unfold mokB;simp [HLL.out,h0,h1,h2,h3,h4,h5])
             rw [HV.out]
             go_enter Tryz.func25,Tryz.ntmps25
             go_wp2_with (first
       | (go_at_call 75;refine (Calls.mono (isnode_any _ _) ?_);rintro e w1 ⟨rfl,rfl⟩)
       | (go_at_call 76;refine (Calls.mono HALL.out ?_);rintro e w2 ⟨rfl,hb2⟩;obtain ⟨z0,z5⟩:=HX.out _ hb2;have HB2:=hide (below_step HB.out hb2);clear hb2)
       | (go_at_call 77;refine (Calls.mono (with_any _ _) ?_);rintro e w3 ⟨rfl,rfl⟩))
             go_ret
             exact ⟨rfl,HB.out⟩
         · have d4:decide (id≤1099511627776)=false:=decide_eq_false h4
           have HV:Hid (mokB ⟨k,f,t,id,n,A,c,L⟩=false):=hide (by unfold mokB;simp [HLL.out,h0,h1,h2,h3,h4])
           rw [HV.out]
           go_enter Tryz.func25,Tryz.ntmps25
           go_wp2_with (first
       | (go_at_call 75;refine (Calls.mono (isnode_any _ _) ?_);rintro e w1 ⟨rfl,rfl⟩)
       | (go_at_call 76;refine (Calls.mono HALL.out ?_);rintro e w2 ⟨rfl,hb2⟩;obtain ⟨z0,z5⟩:=HX.out _ hb2;have HB2:=hide (below_step HB.out hb2);clear hb2)
       | (go_at_call 77;refine (Calls.mono (with_any _ _) ?_);rintro e w3 ⟨rfl,rfl⟩))
           go_ret
           exact ⟨rfl,HB.out⟩
   · have d1:decide (k≤10)=false:=decide_eq_false h1
     have HV:Hid (mokB ⟨k,f,t,id,n,A,c,L⟩=false):=hide (by unfold mokB;simp [HLL.out,h0,h1])
     rw [HV.out]
     go_enter Tryz.func25,Tryz.ntmps25
     go_wp2_with (first
       | (go_at_call 75;refine (Calls.mono (isnode_any _ _) ?_);rintro e w1 ⟨rfl,rfl⟩)
       | (go_at_call 76;refine (Calls.mono HALL.out ?_);rintro e w2 ⟨rfl,hb2⟩;obtain ⟨z0,z5⟩:=HX.out _ hb2;have HB2:=hide (below_step HB.out hb2);clear hb2)
       | (go_at_call 77;refine (Calls.mono (with_any _ _) ?_);rintro e w3 ⟨rfl,rfl⟩))
     go_ret
     exact ⟨rfl,HB.out⟩
 · have d0:decide (1≤k)=false:=decide_eq_false h0
   have HV:Hid (mokB ⟨k,f,t,id,n,A,c,L⟩=false):=hide (by unfold mokB;simp [HLL.out,h0])
   rw [HV.out]
   go_enter Tryz.func25,Tryz.ntmps25
   go_wp2_with (first
       | (go_at_call 75;refine (Calls.mono (isnode_any _ _) ?_);rintro e w1 ⟨rfl,rfl⟩)
       | (go_at_call 76;refine (Calls.mono HALL.out ?_);rintro e w2 ⟨rfl,hb2⟩;obtain ⟨z0,z5⟩:=HX.out _ hb2;have HB2:=hide (below_step HB.out hb2);clear hb2)
       | (go_at_call 77;refine (Calls.mono (with_any _ _) ?_);rintro e w3 ⟨rfl,rfl⟩))
   go_ret
   exact ⟨rfl,HB.out⟩
end Go.Proofs.YtgmkckjedngkdaaGreatDoor
