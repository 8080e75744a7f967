/- A part of the proof that TopMajorityLaw holds: XZSum, XZCat, XZFrm, XPl, XPh, XPAdd, XPOk, XPSt, XMsg3. Conditions: as typed. -/
import Derived.Test.YtgmkckjedngkdaaGreatDoorTm05
import Derived.Test.YtgmkckjedngkdaaGreatDoorTm09
import Derived.Test.YtgmkckjedngkdaaGreatDoorTm10
import Derived.Test.YtgmkckjedngkdaaGreatDoorTm12
import Derived.Test.YtgmkckjedngkdaaGreatDoorTm13
import Derived.Lib.AppendZerosOnto
import Derived.IntWalk
set_option linter.unusedVariables false
set_option linter.unusedSimpArgs false
namespace Go.Proofs.YtgmkckjedngkdaaGreatDoor
open Go.ChangeShapes Go.WideShapes Go.ChangeAt Go.RowKit
theorem bits_u32 (op:BinOp) (x y:Int):0≤bits op .u32 x y∧bits op .u32 x y≤4294967295:=by
 have h:=wf_bits op .u32 x y
 unfold Lit.wf at h
 simpa [IntKind.min,IntKind.max,IntKind.signed,IntKind.bits] using h
def crcBit (n:Int):Int:=bits .xor .u32 (n / 2) (bits .and .u32 2197175160 ((-(bits .and .u32 n 1)) % 4294967296))
def crcBits:Nat→Int→Int
 | 0,n=>n
 | k+1,n=>crcBit (crcBits k n)
def crcByte (n c:Int):Int:=crcBits 8 (bits .xor .u32 n c)
def crcL (n:Int) (L:List Int):Int:=L.foldl crcByte n
theorem crcBit_bd (n:Int):0≤crcBit n∧crcBit n≤4294967295:=bits_u32 _ _ _
theorem crcBits_bd {n:Int} (h:0≤n∧n≤4294967295):∀ k,0≤crcBits k n∧crcBits k n≤4294967295
 | 0=>h
 | k+1=>crcBit_bd _
theorem crcByte_bd (n c:Int):0≤crcByte n c∧crcByte n c≤4294967295:=crcBits_bd (bits_u32 _ _ _) 8
theorem crcL_snoc (n:Int) (L:List Int) (c:Int):crcL n (L ++ [c])=crcByte (crcL n L) c:=by simp [crcL]
theorem crcL_bd {n:Int} (h:0≤n∧n≤4294967295) (L:List Int):0≤crcL n L∧crcL n L≤4294967295:=by
 rcases List.eq_nil_or_concat L with rfl | ⟨M,c,rfl⟩
 ·exact h
 ·rw [List.concat_eq_append,crcL_snoc];exact crcByte_bd _ _
set_option maxHeartbeats 800000 in
theorem crcadd_any (n:Int) (A:Option Addr) (c:Nat) (L:List Int) (w:World) (hn:0≤n∧n≤4294967295) (hl:L.length≤9223372036854775807) (hL:ValsAt u8v w A L) (hB:∀ b ∈ L,isB b) :
 Calls Tryz.prog 376 #[.int .u32 n,.slice A L.length c] w fun e w'=>e=.returned (.int .u32 (crcL n L))∧Below w.heap.size w w':=by
 have HN:=hide hn
 go_enter Tryz.func376,Tryz.ntmps376
 go_wp2_with fail
 go_loopw [0,9] (fun h i wr=>∃ k:Nat,k≤L.length∧i=.int .i64 k∧h=.int .u32 (crcL n (L.take k))∧Below w.heap.size w wr) (fun _ i _=>L.length - (intOf i).toNat)
 case atStart=>exact ⟨0,by omega,rfl,rfl,Below.refl _ _⟩
 case round =>
  obtain ⟨k,hk,rfl,rfl,hb⟩:=hrel
  have HB:=hide hb
  by_cases hlt:k < L.length
  ·obtain ⟨b,off,rfl,hbb,c0⟩:=RowAt.one hL hb hlt
   have h1:=hB L[k] (List.getElem_mem hlt)
   have h2:crcL n (L.take (k+1))=crcByte (crcL n (L.take k)) L[k]:=by rw [take_snoc hlt,crcL_snoc]
   have h3:=crcL_bd HN.out (L.take k)
   generalize L[k]=x at *
   unfold isB at h1
   have H2:=hide h2
   clear h2 hb
   generalize crcL n (L.take k)=h at *
   have e1:(x:Int) % 4294967296=x:=by omega
   obtain ⟨y,hy⟩:∃ y,bits .xor .u32 h x=y:=⟨_,rfl⟩
   have hyb:0≤y∧y≤4294967295:=by rw [← hy];exact bits_u32 _ _ _
   have HY:=hide hy
   go_wp2_with fail
   go_loopw [0,17] (fun h i wr=>∃ j:Nat,j≤8∧i=.int .i64 j∧h=.int .u32 (crcBits j y)∧Below w.heap.size w wr) (fun _ i _=>8 - (intOf i).toNat)
   case atStart=>exact ⟨0,by omega,rfl,rfl,HB.out⟩
   case round =>
    obtain ⟨j,hj,rfl,rfl,hb⟩:=hrel
    have HB:=hide hb
    have h5:=crcBits_bd hyb j
    have h6:crcBits (j+1) y=crcBit (crcBits j y):=rfl
    have H6:=hide h6
    clear hb h6
    by_cases hj8:j < 8
    ·have hjI:(j:Int) < 8:=by omega
     unfold crcBit at H6
     generalize crcBits j y=q at *
     go_wp2_with fail
     go_roundw
     case rel=>exact ⟨j+1,by omega,by go_num,by rw [H6.out],HB.out⟩
     case measure=>simp [intOf];omega
    ·obtain rfl:j=8:=by omega
     have H8:Hid (crcL n (L.take (k+1))=crcBits 8 y):=hide (by rw [H2.out,← HY.out];rfl)
     clear H6
     generalize crcBits 8 y=q at *
     go_wp2_with fail
     go_roundw
     case rel=>exact ⟨k+1,by omega,by go_num,by rw [H8.out],HB.out⟩
     case measure=>simp [intOf];omega
  ·have h2:L.take k=L:=List.take_of_length_le (by omega)
   have H2:=hide h2
   have hlI:¬ (k:Int) < (L.length:Int):=by omega
   clear h2
   go_wp2_with fail
   go_ret
   exact ⟨congrArg (fun l=>Ending.returned (.int .u32 (crcL n l))) H2.out,HB.out⟩
def sumL (L:List Int):Int:=bits .xor .u32 4294967295 (crcL 4294967295 L)
theorem sumL_bd (L:List Int):0≤sumL L∧sumL L≤4294967295:=bits_u32 _ _ _
set_option maxHeartbeats 800000 in
theorem parts_one (b:Nat) (A:Option Addr) (c:Nat) (L:List Int) (w:World) (hc:w.cell? ⟨b,0,none⟩=some (.slice A L.length c)) (hb:b < w.heap.size) (hl:L.length≤9223372036854775807) (hL:ValsAt u8v w A L) (hB:∀ x ∈ L,isB x) :
 Calls Tryz.prog 352 #[.slice (some ⟨b,0,none⟩) 1 1] w fun e w'=>e=.returned (.int .u32 (sumL L))∧Below w.heap.size w w':=by
 have HA:=hide (crcadd_any 4294967295 A c L w (by omega) hl hL hB)
 have hbd:=crcL_bd (n:=4294967295) (by omega) L
 have HS:=hide (show sumL L=bits .xor .u32 4294967295 (crcL 4294967295 L) from rfl)
 clear hL hB
 generalize crcL 4294967295 L=y at *
 go_enter Tryz.func352,Tryz.ntmps352
 go_wp2_with fail
 go_loopw [3,8] (fun n i wr=>(n=.int .u32 4294967295∧i=.int .i64 0∧wr=w) ∨ (n=.int .u32 y∧i=.int .i64 1∧Below w.heap.size w wr)) (fun _ i _=>1 - (intOf i).toNat)
 case atStart=>exact .inl ⟨rfl,rfl,rfl⟩
 case round =>
  rcases hrel with ⟨rfl,rfl,rfl⟩ | ⟨rfl,rfl,hb⟩
  ·go_wp2_with ((with_reducible refine (HA.out).mono ?_);rintro e w1 ⟨rfl,hg1⟩)
   go_roundw
   case rel=>exact .inr ⟨rfl,by go_num,hg1⟩
   case measure=>simp [intOf]
  ·have HB:=hide hb
   clear hb
   go_wp2_with fail
   go_ret
   exact ⟨by rw [HS.out];rfl,HB.out⟩
set_option maxHeartbeats 800000 in
theorem of_any (A:Option Addr) (c:Nat) (L:List Int) (w:World) (hl:L.length≤9223372036854775807) (hL:ValsAt u8v w A L) (hB:∀ x ∈ L,isB x) :
 Calls Tryz.prog 308 #[.slice A L.length c] w fun e w'=>e=.returned (.int .u32 (sumL L))∧Below w.heap.size w w':=by
 have hb:=below_alloc (Below.refl w.heap.size w) (.cells #[.slice A L.length c] 173)
 have HP:=hide (parts_one w.heap.size A c L (w.alloc (.cells #[.slice A L.length c] 173)) ((cell_of_row _ _ 0 _ _ _ (heap_alloc_new w _)).trans rfl) (by simp) hl (hL.below hb) hB)
 have HB:=hide hb
 clear hb hL hB hl
 go_enter Tryz.func308,Tryz.ntmps308
 go_wp2_with ((with_reducible refine (HP.out).mono ?_);rintro e w1 ⟨rfl,hg1⟩)
 go_ret
 exact ⟨rfl,below_step HB.out hg1⟩
def le4 (n:Int):List Int:=[n % 256,n / 256 % 256,n / 65536 % 256,n / 16777216]
def sealT (L:List Int):List Int:=L ++ le4 (sumL L)
theorem sealT_len (L:List Int):(sealT L).length=L.length+4:=by simp [sealT,le4]
set_option maxRecDepth 100000 in
set_option maxHeartbeats 1600000 in
theorem seal_any (A:Option Addr) (c:Nat) (L:List Int) (w:World) (hl:L.length≤1000000) (hL:ValsAt u8v w A L) (hB:∀ x ∈ L,isB x) :
 Calls Tryz.prog 254 #[.slice A L.length c] w fun e w'=>∃ v,e=.returned v∧OwnL (one1 u8v) 1 5 w.heap.size w' v (sealT L)∧Below w.heap.size w w':=by
 have HO:=hide (of_any A c L w (by omega) hL hB)
 have HL:=hide hL
 have HN:=hide hl
 have hs:=sumL_bd L
 have HST:=hide (show sealT L=L ++ le4 (sumL L) from rfl)
 clear hL hB hl
 generalize sumL L=n at *
 go_enter Tryz.func254,Tryz.ntmps254
 go_upto_region 2 with ((with_reducible refine (HO.out).mono ?_);rintro e w1 ⟨rfl,hg1⟩)
 have HG:=hide hg1
 have HL1:=hide (HL.out.below hg1)
 clear hg1
 have HB1:=hide HG.out.size
 go_wp2_with (first
  | (at_builtin;refine wpList_append_vals rfl (.const (.slice none 0 0)) (.tmp 6) 173 5 _ 1 rfl Tryz.underlying173 Tryz.infoU8t rfl (fun _=>rfl) (by omega) w.heap.size _ [] rfl (OwnL.nil_ _ _ _ _ _) A c L rfl HL1.out (by have:=HN.out;simp only [List.length_nil];omega) HB1.out ?_;intro v1 u1 ho1 hgu1;have hA1:=hide ho1;have hG1:=hide hgu1;have hU1:Hid (w.heap.size≤u1.heap.size):=hide (Nat.le_trans HB1.out hgu1.size);have HO1:Hid (OwnL (one1 u8v) 1 5 w.heap.size (u1.alloc (.cells #[.int .u8 (n % 256),.int .u8 (n / 256 % 256),.int .u8 (n / 65536 % 256),.int .u8 (n / 16777216)] 5)) v1 L):=hide (OwnL.alloc (by simpa using ho1) _);have HR1:Hid (ValsAt u8v (u1.alloc (.cells #[.int .u8 (n % 256),.int .u8 (n / 256 % 256),.int .u8 (n / 65536 % 256),.int .u8 (n / 16777216)] 5)) (some ⟨u1.heap.size,0,none⟩) [n % 256,n / 256 % 256,n / 65536 % 256,n / 16777216]):=hide (vals_of_block (L:=[n % 256,n / 256 % 256,n / 65536 % 256,n / 16777216]) (heap_alloc_new u1 _));have HS1:Hid (w.heap.size≤(u1.alloc (.cells #[.int .u8 (n % 256),.int .u8 (n / 256 % 256),.int .u8 (n / 65536 % 256),.int .u8 (n / 16777216)] 5)).heap.size):=hide (by have:=hU1.out;simp;omega);clear ho1 hgu1)
  | (at_builtin;refine wpList_append_vals rfl (.tmp 7) (.tmp 19) 173 5 _ 1 rfl Tryz.underlying173 Tryz.infoU8t rfl (fun _=>rfl) (by omega) w.heap.size _ L rfl HO1.out (some ⟨u1.heap.size,0,none⟩) 4 [n % 256,n / 256 % 256,n / 65536 % 256,n / 16777216] rfl HR1.out (by have:=HN.out;simp only [List.length_cons,List.length_nil];omega) HS1.out ?_;intro v2 u2 ho2 hgu2))
 go_ret
 refine ⟨v2,rfl,by rw [HST.out];exact ho2,?_⟩
 have h1:Below w.heap.size w u1:=HG.out.grown hG1.out HG.out.size (fun j hj=>by cases hj)
 exact (below_alloc h1 _).grown hgu2 HS1.out (fun j hj=>(OwnL.lt hA1.out j hj).1)
end Go.Proofs.YtgmkckjedngkdaaGreatDoor
namespace Go.Proofs.YtgmkckjedngkdaaGreatDoor
open Go.ChangeShapes Go.WideShapes Go.ChangeAt Go.RowKit
theorem nsc_small (n:Nat) (h0:1≤n) (hn:n≤2000000):Builtin.nextslicecap n 0 * 1≤281474976710656:=by
 unfold Builtin.nextslicecap
 rw [if_pos (by omega)]
 omega
theorem wpList_append_zeros0 {ops:Array Oper} {rest:List Oper} {o:Oper} {a:Act} {Q:Exit→Act→World→Prop} (hgd:o.guard=none) (s x:Operand)
 (ho:o.op=.call { callee:=.builtin .append,args:=#[s,x],argTypes:=#[173,3] }) (w:World) (n:Nat) (k:Int) (hk:k=n) (hs:a.eval s=.slice none 0 0) (hx:a.eval x=.int .i64 k) (h0:1≤n) (h1:n≤1000000)
 (h:∀ (G:Nat) (cur:Array Value) (w':World),n≤G→G≤maxLen→cur.size=G→w'.heap[w.heap.size]? = some (.cells cur 5 (0,0))→Below w.heap.size w w' →
  wpList Tryz.prog ops Q rest (a.put o.dst (.slice (some ⟨w.heap.size,0,none⟩) n G)) w'):wpList Tryz.prog ops Q (o :: rest) a w:=by
 subst hk
 obtain ⟨i0,hi0,hz0,hz1,hz2⟩:=info_parts Tryz.infoU8t
 refine wpList_plain hgd fun K hK=>?_
 have hrun:=Lib.run_append_grow_zeros w 173 3 o.type 5 i0 _ .i64 .i64 Tryz.underlying173 Tryz.underlying3 hi0 hz0 none 0 0 [] (by simp [Builtin.firstCells]) n (by omega) (by omega) (by omega) (by omega) (by rw [hz2];omega) (by rw [hz2,Nat.zero_add];exact nsc_small n h0 (by omega))
 have hG:=grownCap_ge w (0+n) 0 5
 have hG2:=grownCap_le_maxLen w (0+n) 0 5 (by unfold maxLen;omega)
 rw [Nat.zero_add] at hrun hG hG2
 generalize grownCap w n 0 5=G at *
 unfold Oper.wp execOp
 simp only [ho,resolve,invoke,builtin,Sem.run_bind,Sem.run_pure,Result.andThen_ok,List.map_toArray,List.map_cons,List.map_nil,hs,hx,hrun]
 refine hK _ _ (h G _ _ hG hG2 ?_ (heap_alloc_new w.drew _) (below_alloc (below_step (Below.refl _ w).drew (Below.refl _ _)) _))
 simp only [Array.size_append,size_zeroCells]
 show 0+n * 1+(G - n) * 1=G
 omega
set_option maxRecDepth 100000 in
set_option maxHeartbeats 800000 in
theorem grow_any (n:Nat) (w:World) (h0:1≤n) (h1:n≤1000000) :
 Calls Tryz.prog 323 #[.slice none 0 0,.int .i64 n] w fun e w'=>∃ v,e=.returned v∧OwnL (one1 u8v) 1 5 w.heap.size w' v []∧Below w.heap.size w w':=by
 have p1:¬ (n:Int) < 0:=by omega
 have p2:0 < (n:Int):=by omega
 have hw:wrap64 (n:Int)=(n:Int):=by unfold wrap64;omega
 have HW:=hide hw
 have HN:=hide (And.intro h0 h1)
 clear h0 h1
 go_enter Tryz.func323,Tryz.ntmps323
 go_wp2_with (at_builtin;refine wpList_append_zeros0 rfl (.tmp 20) (.tmp 21) rfl w n (wrap64 (n:Int)) HW.out rfl rfl HN.out.1 HN.out.2 ?_;intro G cur w1 hG hG2 hcs hb hbl;have HX:=hide (show OwnL (one1 u8v) 1 5 w.heap.size w1 (.slice (some ⟨w.heap.size,0,none⟩) 0 G) [] from ⟨rfl,.inr ⟨w.heap.size,G,cur,rfl,Nat.le_refl _,hb,Nat.zero_le _,hG2,by omega,rfl⟩⟩);have HB:=hide hbl;have hGn:n≤G:=hG;clear hG hG2 hcs hb hbl)
 go_ret
 exact ⟨_,rfl,HX.out,HB.out⟩
structure SB where
 A:Option Addr
 c:Nat
 L:List Int
abbrev sbv (s:SB):Value:=.slice s.A s.L.length s.c
def lenS (V:List SB):Nat:=(V.flatMap SB.L).length
theorem lenS_take {V:List SB} {k:Nat} (hk:k < V.length):lenS (V.take (k+1))=lenS (V.take k)+V[k].L.length:=by
 unfold lenS
 rw [take_snoc hk,List.flatMap_append,List.length_append]
 simp
theorem lenS_le (V:List SB) (k:Nat):lenS (V.take k)≤lenS V:=by
 conv=>rhs;rw [← List.take_append_drop k V]
 unfold lenS
 rw [List.flatMap_append,List.length_append]
 omega
set_option maxRecDepth 100000 in
set_option maxHeartbeats 1600000 in
theorem concat_any (A:Option Addr) (c:Nat) (V:List SB) (w:World) (hV:ValsAt sbv w A V) (hr:∀ s ∈ V,ValsAt u8v w s.A s.L) (h0:1≤lenS V) (h1:lenS V≤1000000) (hl:V.length≤1000) :
 Calls Tryz.prog 281 #[.slice A V.length c] w fun e w'=>∃ v,e=.returned v∧OwnL (one1 u8v) 1 5 w.heap.size w' v (V.flatMap SB.L)∧Below w.heap.size w w':=by
 have HV:=hide hV
 have HR:=hide hr
 have HB:=hide (And.intro h0 h1)
 clear hV hr h0 h1
 go_enter Tryz.func281,Tryz.ntmps281
 go_wp2_with fail
 go_loopw [3,11] (fun n i wr=>∃ k:Nat,k≤V.length∧i=.int .i64 k∧n=.int .i64 (lenS (V.take k))∧wr=w) (fun _ i _=>V.length - (intOf i).toNat)
 case atStart=>exact ⟨0,by omega,rfl,rfl,rfl⟩
 case round =>
  obtain ⟨k,hk,rfl,rfl,rfl⟩:=hrel
  by_cases hlt:k < V.length
  ·obtain ⟨b,off,rfl,hbb,c0⟩:=RowAt.one HV.out (Below.refl _ _) hlt
   have hltI:(k:Int) < V.length:=by omega
   have h2:=lenS_take hlt
   have h3:=lenS_le V (k+1)
   have HE:=hide h2
   have hbd:(lenS (V.take k):Int)+(V[k]'hlt).L.length≤1000000:=by have:=HB.out.2;omega
   clear h2 h3
   generalize lenS (V.take k)=n at *
   generalize V[k]'hlt=s at *
   obtain ⟨A2,c2,L2⟩:=s
   replace c0:wr.cell? ⟨b,off+k,none⟩=some (.slice A2 L2.length c2):=c0
   replace hbd:(n:Int)+L2.length≤1000000:=hbd
   replace HE:Hid (lenS (V.take (k+1))=n+L2.length):=HE
   generalize L2.length=m at *
   have hw:wrap64 ((n:Int)+m)=(n:Int)+m:=by unfold wrap64;omega
   have hng:¬ (n:Int)+m < 0:=by omega
   go_wp2_with fail
   go_roundw
   case rel=>exact ⟨k+1,by omega,by go_num,by rw [HE.out];go_num,trivial⟩
   case measure=>simp [intOf];omega
  ·have hltI:¬ (k:Int) < (V.length:Int):=by omega
   have ht:V.take k=V:=List.take_of_length_le (by omega)
   rw [ht]
   have HG:=hide (grow_any (lenS V) wr HB.out.1 HB.out.2)
   clear ht
   go_wp2_with ((with_reducible refine (HG.out).mono ?_);rintro e w1 ⟨v1,rfl,ho,hg⟩;have HO1:=hide ho;have HG1:=hide hg;clear ho hg)
   obtain ⟨wa,rfl⟩:∃ wa,wa=wr:=⟨_,rfl⟩
   clear hltI HG hlt hk
   go_loopw [6,27] (fun v i wr=>∃ k:Nat,k≤V.length∧i=.int .i64 k∧OwnL (one1 u8v) 1 5 wa.heap.size wr v ((V.take k).flatMap SB.L)∧Below wa.heap.size wa wr) (fun _ i _=>V.length - (intOf i).toNat)
   case atStart=>exact ⟨0,by omega,rfl,HO1.out,HG1.out⟩
   case round =>
    clear HO1 HG1
    obtain ⟨k,hk,rfl,ho,hg⟩:=hrel
    have HO:=hide ho
    have HG:=hide hg
    clear ho hg
    by_cases hlt:k < V.length
    ·obtain ⟨b,off,rfl,hbb,c0⟩:=RowAt.one HV.out HG.out hlt
     have hltI:(k:Int) < V.length:=by omega
     have hbd:lenS (V.take k)+(V[k]'hlt).L.length≤1000000:=by have:=lenS_take hlt;have:=lenS_le V (k+1);have:=HB.out.2;omega
     have HRL:=hide ((HR.out _ (List.getElem_mem hlt)).below HG.out)
     have HT:Hid ((V.take (k+1)).flatMap SB.L=(V.take k).flatMap SB.L ++ (V[k]'hlt).L):=hide (by rw [take_snoc hlt,List.flatMap_append];simp)
     unfold lenS at hbd
     generalize (V.take k).flatMap SB.L=LL at *
     generalize V[k]'hlt=s at *
     obtain ⟨A2,c2,L2⟩:=s
     replace c0:wr.cell? ⟨b,off+k,none⟩=some (.slice A2 L2.length c2):=c0
     replace hbd:LL.length+L2.length≤1000000:=hbd
     replace HRL:Hid (ValsAt u8v wr A2 L2):=HRL
     replace HT:Hid ((V.take (k+1)).flatMap SB.L=LL ++ L2):=HT
     have HBD:=hide hbd
     go_wp2_with (at_builtin;refine wpList_append_vals rfl (.tmp 31) (.tmp 32) 173 5 _ 1 rfl Tryz.underlying173 Tryz.infoU8t rfl (fun _=>rfl) (by omega) wa.heap.size _ LL rfl HO.out A2 c2 L2 rfl HRL.out (by have:=HBD.out;omega) HG.out.size ?_;intro v5 w5 ho5 hg5)
     go_roundw
     case rel=>exact ⟨k+1,by omega,by go_num,by rw [HT.out];exact ho5,HG.out.grown hg5 HG.out.size (fun j hj=>(OwnL.lt HO.out j hj).1)⟩
     case measure=>simp [intOf];omega
    ·have hltI:¬ (k:Int) < (V.length:Int):=by omega
     have HT:Hid (V.take k=V):=hide (List.take_of_length_le (by omega))
     go_wp2_with fail
     go_ret
     exact ⟨_,rfl,by have:=HO.out;rwa [HT.out] at this,HG.out⟩
end Go.Proofs.YtgmkckjedngkdaaGreatDoor
namespace Go.Proofs.YtgmkckjedngkdaaGreatDoor
open Go.ChangeShapes Go.WideShapes Go.ChangeAt Go.RowKit
def headT (k n:Int):List Int:=[k,n / 65536,n / 256,n % 256]
def frameT (k:Int) (L:List Int):List Int:=sealT (headT k L.length) ++ sealT L
theorem headT_b {k n:Int} (hk:1≤k∧k≤100) (hn:0≤n∧n≤60000):∀ x ∈ headT k n,isB x:=by
 intro x hx
 simp only [headT,List.mem_cons,List.not_mem_nil,or_false] at hx
 unfold isB
 omega
theorem frameT_len (k:Int) (L:List Int):(frameT k L).length=L.length+12:=by
 unfold frameT
 rw [List.length_append,sealT_len,sealT_len]
 simp [headT]
 omega
set_option maxRecDepth 100000 in
set_option maxHeartbeats 1600000 in
theorem fput_any (k:Int) (A:Option Addr) (c:Nat) (L:List Int) (w:World) (hk:1≤k∧k≤100) (hl:L.length≤60000) (hL:ValsAt u8v w A L) (hB:∀ x ∈ L,isB x) :
 Calls Tryz.prog 220 #[.slice none 0 0,.int .i64 k,.slice A L.length c] w fun e w'=>∃ v,e=.returned (.tuple #[v,.int .i64 0])∧OwnL (one1 u8v) 1 5 w.heap.size w' v (frameT k L)∧Below w.heap.size w w':=by
 have k1:¬ k < 1:=by omega
 have k2:¬ 100 < k:=by omega
 have hn:¬ 60000 < (L.length:Int):=by omega
 have HL:=hide hL
 have HB:=hide hB
 have HN:=hide hl
 have HK:=hide hk
 clear hL hB hl hk
 go_enter Tryz.func220,Tryz.ntmps220
 have hzb:=heap_alloc_new w (.cells #[.int .u8 k,.int .u8 ((L.length:Int) / 65536),.int .u8 ((L.length:Int) / 256),.int .u8 ((L.length:Int) % 256)] 5)
 have hba:=below_alloc (Below.refl w.heap.size w) (.cells #[.int .u8 k,.int .u8 ((L.length:Int) / 65536),.int .u8 ((L.length:Int) / 256),.int .u8 ((L.length:Int) % 256)] 5)
 have HS1:=hide (seal_any (some ⟨w.heap.size,0,none⟩) 4 (headT k L.length) (w.alloc (.cells #[.int .u8 k,.int .u8 ((L.length:Int) / 65536),.int .u8 ((L.length:Int) / 256),.int .u8 ((L.length:Int) % 256)] 5)) (by simp [headT]) (vals_of_block (L:=headT k L.length) hzb) (headT_b HK.out (by have:=HN.out;omega)))
 rw [show (headT k L.length).length=4 from rfl] at HS1
 have HBA:=hide hba
 have HSB:Hid (∀ W,Below w.heap.size w W→Calls Tryz.prog 254 #[.slice A L.length c] W fun e w'=>∃ v,e=.returned v∧OwnL (one1 u8v) 1 5 W.heap.size w' v (sealT L)∧Below W.heap.size W w'):=hide (fun W hW=>seal_any A c L W (by have:=HN.out;omega) (HL.out.below hW) HB.out)
 have HHL:Hid ((sealT (headT k L.length)).length=8):=hide (by rw [sealT_len];rfl)
 have HBL:Hid ((sealT L).length=L.length+4):=hide (sealT_len L)
 have HF:Hid (frameT k L=sealT (headT k L.length) ++ sealT L):=hide rfl
 clear hzb hba
 generalize sealT (headT k L.length)=S1 at *
 generalize sealT L=S2 at *
 go_wp2_with (first
  | ((with_reducible refine (HS1.out).mono ?_);rintro e w1 ⟨v1,rfl,ho1,hg1⟩;obtain ⟨A1,c1,rfl,hr1,hc1,hm1⟩:=OwnL.vals ho1;have HR1:=hide hr1;have HG1:=hide (below_step HBA.out hg1);clear ho1 hg1 hr1 hc1 hm1)
  | ((with_reducible refine (HSB.out _ HG1.out).mono ?_);rintro e w2 ⟨v2,rfl,ho2,hg2⟩;obtain ⟨A2,c2,rfl,hr2,hc2,hm2⟩:=OwnL.vals ho2;have HR2:=hide hr2;have HG2:=hide (below_step HG1.out hg2);have HR1b:=hide (HR1.out.below hg2);clear ho2 hg2 hr2 hc2 hm2)
  | fail)
 have hzv:=heap_alloc_new w2 (.cells #[.slice none 0 0,.slice A1 S1.length c1,.slice A2 S2.length c2] 173)
 have hbv:=below_alloc (Below.refl w2.heap.size w2) (.cells #[.slice none 0 0,.slice A1 S1.length c1,.slice A2 S2.length c2] 173)
 have hcl:([(⟨none,0,[]⟩:SB),⟨A1,c1,S1⟩,⟨A2,c2,S2⟩].flatMap SB.L)=S1 ++ S2:=by simp
 have hll:lenS [(⟨none,0,[]⟩:SB),⟨A1,c1,S1⟩,⟨A2,c2,S2⟩]=S1.length+S2.length:=by unfold lenS;rw [hcl,List.length_append]
 refine (Calls.mono (concat_any (some ⟨w2.heap.size,0,none⟩) 3 [(⟨none,0,[]⟩:SB),⟨A1,c1,S1⟩,⟨A2,c2,S2⟩] _ (vals_of_block (val:=sbv) (L:=[(⟨none,0,[]⟩:SB),⟨A1,c1,S1⟩,⟨A2,c2,S2⟩]) hzv) (by
  intro s hs
  simp only [List.mem_cons,List.not_mem_nil,or_false] at hs
  rcases hs with rfl | rfl | rfl
  ·exact RowAt.nil_
  ·exact HR1b.out.below hbv
  ·exact HR2.out.below hbv) (by rw [hll,HHL.out];omega) (by rw [hll,HHL.out,HBL.out];have:=HN.out;omega) (by simp)) ?_)
 rintro e w3 ⟨v3,rfl,ho3,hg3⟩
 rw [hcl,← HF.out] at ho3
 have hbw:=below_step (below_step HG2.out hbv) hg3
 have HO3:Hid (OwnL (one1 u8v) 1 5 w.heap.size w3 v3 (frameT k L)):=hide (OwnL.base_ ho3 (by have:=HG2.out.size;simp;omega))
 have HB3:=hide hbw
 clear hzv hbv hcl hll ho3 hg3 hbw
 go_wp2_with fail
 go_returns
 exact ⟨v3,rfl,HO3.out,HB3.out⟩
end Go.Proofs.YtgmkckjedngkdaaGreatDoor
namespace Go.Proofs.YtgmkckjedngkdaaGreatDoor
open Go.ChangeShapes Go.WideShapes Go.ChangeAt Go.RowKit
theorem clip_any (A:Option Addr) (n c:Nat) (w:World) (h:n≤c) (hc:c≤maxLen):Calls Tryz.prog 138 #[.slice A n c] w fun e w'=>e=.returned (.slice A n n)∧w=w':=by
 unfold maxLen at hc
 go_enter Tryz.func138,Tryz.ntmps138
 go_wp2_with fail
 go_ret
 exact ⟨rfl,rfl⟩
theorem RowAt.none_nil {w:World} {M:List It} (h:ItemsAt w none M):M=[]:=by
 cases M with
 | nil=>rfl
 | cons a M=>obtain ⟨b,off,e,_⟩:=h (by simp);cases e
set_option maxHeartbeats 400000 in
theorem own_any (A:Option Addr) (c:Nat) (L:List It) (w:World) (hL:ItemsAt w A L) (hn:L.length≤2199023255552):Calls Tryz.prog 147 #[.slice A L.length c] w (RetOw L w):=by
 have HL:=hide hL
 have HN:=hide (fun h:A=none=>RowAt.none_nil (by rw [h] at hL;exact hL))
 clear hL
 obtain ⟨i0,hi,hz0,hz1,hz2⟩:=info_parts Tryz.infoItem
 go_enter Tryz.func147,Tryz.ntmps147
 go_wp2_with (at_builtin;refine wpList_append_row _ rfl (.const (.slice none 0 0)) (.tmp 3) 31 rfl w.heap.size 54 i0 _ 5 40 Tryz.underlying31 hi hz0 hz1 hz2 rfl (by omega) It.cells_len (.slice none 0 0) [] rfl (OwnL.nil_ _ _ _ _ _) A c L rfl HL.out HN.out (fun m _=>It.cells_one m) (by simp only [List.length_nil,maxLen];omega) (by simp only [List.length_nil];omega) (Nat.le_refl _) ?_;intro v1 w1 hown1 hg1 _)
 go_ret
 refine ⟨_,rfl,by rw [List.nil_append] at hown1;exact hown1,(Below.refl _ _).grown hg1 (Nat.le_refl _) (fun k hk=>by simp [Value.ownBlock] at hk)⟩
set_option maxHeartbeats 400000 in
theorem cmp_any (y x:It) (w:World):Calls Tryz.prog 277 #[y.val,x.val] w fun e w'=>e=.returned (.int .i64 (if ltB y x then -1 else 1))∧Below w.heap.size w w':=by
 cases hl:ltB y x
 all_goals
  go_enter Tryz.func277,Tryz.ntmps277
  go_wp2_with fail
  refine (Calls.mono (pless_any y x _) ?_);rintro e w1 ⟨rfl,hg1⟩
  rw [hl]
  go_wp2_with fail
  go_ret
  exact ⟨rfl,below_step (below_alloc (below_alloc (Below.refl _ _) _) _) hg1⟩
def Asks (F:FuncId) (x:It):Prop:=∀ (y:It) (w:World),Calls Tryz.prog F #[y.val,x.val] w fun e w'=>e=.returned (.int .i64 (if ltB y x then -1 else 1))∧Below w.heap.size w w'
set_option maxHeartbeats 1600000 in
theorem bsf_any (F:FuncId) (hcf:Enters Tryz.prog F) (x:It) (A:Option Addr) (c:Nat) (L:List It) (w:World) (hL:ItemsAt w A L) (hn:L.length≤4611686018427387904) (hr:Rising L) (hF:Asks F x) :
 Calls Tryz.prog 276 #[.slice A L.length c,x.val,.func (.func F) #[] #[]] w fun e w'=>e=.returned (.tuple #[.int .i64 (lowI x L),.bool false])∧Below w.heap.size w w':=by
 have HL:=hide hL
 have HR:=hide hr
 unfold Enters at hcf
 clear hL hr
 have hll:=low_le x L
 go_enter Tryz.func276,Tryz.ntmps276
 go_wp2_with fail
 go_loopw [9,10] (fun a b wr=>∃ i j:Nat,a=.int .i64 i∧b=.int .i64 j∧i≤lowI x L∧lowI x L≤j∧j≤L.length∧Below (w.alloc (.cells x.cells.toArray 54)).heap.size (w.alloc (.cells x.cells.toArray 54)) wr) (fun a b _=>(intOf b).toNat - (intOf a).toNat)
 case atStart=>exact ⟨0,L.length,rfl,rfl,by omega,hll,by omega,Below.refl _ _⟩
 case round =>
  obtain ⟨i,j,rfl,rfl,hi,hj,hjl,hb⟩:=hrel
  have hbw:Below w.heap.size w wr:=((Below.refl _ _).alloc (Nat.le_refl _) _).trans (hb.mono (by simp))
  obtain ⟨x0,x1,x2,x3,x4⟩:=box_item (g:=w.heap.size) (x:=x) ((hb.block _ (by simp)).trans (heap_alloc_new w _))
  have hsz:w.heap.size < wr.heap.size:=by have:=hb.size;simp at this;omega
  have HB:=hide hb
  have HW:=hide hbw
  clear hb hbw
  have hnc:=near_cells wr
  by_cases hij:i < j
  ·have bij:decide ((i:Int) < (j:Int))=true:=decide_eq_true (by omega)
   go_wp2_with fail
   obtain ⟨h,hh,hih,hhj⟩:∃ h:Nat,((i:Int)+(j:Int)) / 2=(h:Int)∧i≤h∧h < j:=⟨(i+j) / 2,by omega,by omega,by omega⟩
   rw [hh]
   clear hh
   obtain ⟨bl,off,rfl,hbb,y0,y1,y2,y3,y4⟩:=ItemsAt.item HL.out HW.out (k:=h) (by omega)
   have hbl:bl < wr.heap.size:=Nat.lt_of_lt_of_le hbb HW.out.size
   have hhL:(h:Int) < (L.length:Int):=by omega
   have H1:=hide (fun hf:ltB (L[h]'(by omega)) x=false=>Nat.le_of_not_lt fun hlt=>by
    have:=low_lt x L h (by omega) hlt
    rw [this] at hf;cases hf)
   have H2:=hide (fun ht:ltB (L[h]'(by omega)) x=true=>Nat.lt_of_not_le fun hle=>by
    have:=low_ge (x:=x) (j:=h) HR.out (by omega) hle
    rw [this] at ht;cases ht)
   generalize L[h]'(by omega)=y at *
   have hFy:=hF y
   cases hl:ltB y x
   all_goals
    rw [hl] at hFy
    refine wp_region_near (by kernel_rfl) (by kernel_rfl) ?_
    repeat (go_big_quiet_step (exact near_of (hFy _)))
    refine wpQuiet_nil ?_
    intro _ hw'
    obtain ⟨s1,rfl⟩:=hw'
    go_wp2_with fail
   ·go_roundw
    case rel=>exact ⟨i,h,rfl,rfl,hi,H1.out hl,by omega,below_step HB.out s1.is⟩
    case measure=>simp [intOf];omega
   ·go_roundw
    case rel=>exact ⟨h+1,j,by go_num,rfl,H2.out hl,hj,hjl,below_step HB.out s1.is⟩
    case measure=>simp [intOf];omega
  ·have bij:decide ((i:Int) < (j:Int))=false:=decide_eq_false (by omega)
   obtain rfl:i=lowI x L:=by omega
   by_cases hlt:lowI x L < L.length
   ·obtain ⟨bl,off,rfl,hbb,y0,y1,y2,y3,y4⟩:=ItemsAt.item HL.out HW.out hlt
    have hbl:bl < wr.heap.size:=Nat.lt_of_lt_of_le hbb HW.out.size
    have hFy:=hF L[lowI x L]
    generalize L[lowI x L]=y at *
    have HI:=hide hlt
    have hhL:(lowI x L:Int) < (L.length:Int):=by omega
    have bL:decide ((lowI x L:Int) < (L.length:Int))=true:=decide_eq_true (by omega)
    generalize hq:lowI x L=q at *
    have HQ:=hide hq
    clear hq
    cases hl:ltB y x
    all_goals
     rw [hl] at hFy
     go_wp2_with fail
     refine wp_region_near (by kernel_rfl) (by kernel_rfl) ?_
     repeat (go_big_quiet_step (exact near_of (hFy _)))
     refine wpQuiet_nil ?_
     intro _ hw'
     obtain ⟨s1,rfl⟩:=hw'
     go_wp2_with fail
     go_ret2
     exact ⟨by rw [HQ.out];rfl,below_step HW.out s1.is⟩
   ·have bL:decide ((lowI x L:Int) < (L.length:Int))=false:=decide_eq_false (by omega)
    generalize hq:lowI x L=q at *
    have HQ:=hide hq
    clear hq
    go_wp2_with fail
    refine wp_region_near (by kernel_rfl) (by kernel_rfl) ?_
    repeat (go_big_quiet_step (fail))
    refine wpQuiet_nil ?_
    intro _ hw'
    obtain ⟨s1,rfl⟩:=hw'
    go_wp2_with fail
    go_ret2
    exact ⟨by rw [HQ.out];rfl,below_step HW.out s1.is⟩
theorem asks_cmp (x:It):Asks 277 x:=fun y w=>cmp_any y x w
set_option maxHeartbeats 1600000 in
theorem place_any (x:It) (A:Option Addr) (c:Nat) (L:List It) (w:World) (hL:ItemsAt w A L) (hn:L.length≤4611686018427387904) (hr:Rising L) :
 Calls Tryz.prog 212 #[.slice A L.length c,x.val] w fun e w'=>e=.returned (.tuple #[.int .i64 (lowI x L),.bool (sameAt x L)])∧Below w.heap.size w w':=by
 have HL:=hide hL
 have HR:=hide hr
 clear hL hr
 have hcf:Enters Tryz.prog 277:=fun args W=>by kernel_rfl
 have HC:=hide hcf
 clear hcf
 have hbox:Below w.heap.size w (w.alloc (.cells x.cells.toArray 54)):=below_alloc (Below.refl _ _) _
 have HB:=hide hbox
 clear hbox
 go_enter Tryz.func212,Tryz.ntmps212
 go_wp2_with fail
 refine (Calls.mono (bsf_any 277 HC.out x A c L _ (HL.out.below HB.out) hn HR.out (asks_cmp x)) ?_);rintro e w1 ⟨rfl,hg1⟩
 obtain ⟨x0,x1,x2,x3,x4⟩:=box_item (g:=w.heap.size) (x:=x) ((hg1.block _ (by simp)).trans (heap_alloc_new w _))
 have hsz:w.heap.size < w1.heap.size:=by have:=hg1.size;simp at this;omega
 have HW:=hide (below_step HB.out hg1)
 clear hg1
 have hnc:=near_cells w1
 by_cases hlt:lowI x L < L.length
 ·obtain ⟨bl,off,rfl,hbb,y0,y1,y2,y3,y4⟩:=ItemsAt.item HL.out HW.out hlt
  have hbl:bl < w1.heap.size:=Nat.lt_of_lt_of_le hbb HW.out.size
  have hsa:=sameAt_in hlt
  generalize L[lowI x L]=y at *
  have HS:=hide hsa
  clear hsa
  have hhL:(lowI x L:Int) < (L.length:Int):=by omega
  have bL:decide ((lowI x L:Int) < (L.length:Int))=true:=decide_eq_true (by omega)
  generalize hq:lowI x L=q at *
  have HQ:=hide hq
  clear hq
  go_wp2_with fail
  refine wp_region_near (by kernel_rfl) (by kernel_rfl) ?_
  repeat (go_big_quiet_step (exact near_of (psame_any y x _)))
  refine wpQuiet_nil ?_
  intro _ hw'
  obtain ⟨s1,rfl⟩:=hw'
  go_wp2_with fail
  go_ret2
  exact ⟨by rw [HS.out,HQ.out];rfl,below_step HW.out s1.is⟩
 ·have bL:decide ((lowI x L:Int) < (L.length:Int))=false:=decide_eq_false (by omega)
  have HS:=hide (sameAt_out (x:=x) (l:=L) (by omega))
  generalize hq:lowI x L=q at *
  have HQ:=hide hq
  clear hq
  go_wp2_with fail
  refine wp_region_near (by kernel_rfl) (by kernel_rfl) ?_
  repeat (go_big_quiet_step (fail))
  refine wpQuiet_nil ?_
  intro _ hw'
  obtain ⟨s1,rfl⟩:=hw'
  go_wp2_with fail
  go_ret2
  exact ⟨by rw [HS.out,HQ.out];rfl,below_step HW.out s1.is⟩
def tombAt (s:Int) (L:List It):It:=match L[lowI (tombOf s) L]? with
 | some t=>if sameAt (tombOf s) L then t else ⟨0,0,0,0,0⟩
 | none=>⟨0,0,0,0,0⟩
set_option maxHeartbeats 1600000 in
theorem tomb_any (s:Int) (A:Option Addr) (c:Nat) (L:List It) (w:World) (hL:ItemsAt w A L) (hn:L.length≤4611686018427387904) (hr:Rising L) :
 Calls Tryz.prog 275 #[.slice A L.length c,.int .i64 s] w fun e w'=>e=.returned (.tuple #[(tombAt s L).val,.bool (sameAt (tombOf s) L)])∧Below w.heap.size w w':=by
 have HL:=hide hL
 have HR:=hide hr
 clear hL hr
 cases hs:sameAt (tombOf s) L
 ·have HT:Hid (tombAt s L=⟨0,0,0,0,0⟩):=hide (by unfold tombAt;rw [hs];cases L[lowI (tombOf s) L]? <;> rfl)
  go_enter Tryz.func275,Tryz.ntmps275
  go_wp2_with fail
  refine (Calls.mono (place_any (tombOf s) A c L _ (HL.out.below (by go_grown)) hn HR.out) ?_);rintro e w1 ⟨rfl,hg1⟩;obtain ⟨hc1,hf1⟩:=bcell hg1
  rw [hs]
  go_wp2_with fail
  have hb1:Below w.heap.size w w1:=below_step (below_alloc (Below.refl _ _) _) hg1
  obtain ⟨r0,r1,r2,r3,r4⟩:=box_item (put_res (⟨0,0,0,0,0⟩:It) ((hg1.block w.heap.size (by simp)).trans (heap_alloc_new w _)))
  refine bodyPost_ret (v:=.tuple #[((⟨0,0,0,0,0⟩:It)).val,.bool false]) (by simp [results,Tryz.results275,go_sem,r0,r1,r2,r3,r4]) rfl ?_
  exact ⟨by rw [HT.out],((((hb1.setCell (Nat.le_refl _) _).setCell (Nat.le_refl _) _).setCell (Nat.le_refl _) _).setCell (Nat.le_refl _) _).setCell (Nat.le_refl _) _⟩
 ·obtain ⟨hlt,hse⟩:=sameAt_true hs
  have HT:Hid (tombAt s L=L[lowI (tombOf s) L]):=hide (by unfold tombAt;rw [hs,List.getElem?_eq_getElem hlt];rfl)
  have hrow:=HL.out
  obtain ⟨bl,off,rfl,hbb,y0,y1,y2,y3,y4⟩:=ItemsAt.item HL.out (Below.refl _ _) hlt
  have hhL:(lowI (tombOf s) L:Int) < (L.length:Int):=by omega
  generalize L[lowI (tombOf s) L]=y at *
  clear hse hrow
  have HP:=hide (fun W hW=>place_any (tombOf s) (some ⟨bl,off,none⟩) c L W (HL.out.below hW) hn HR.out)
  generalize lowI (tombOf s) L=q at *
  go_enter Tryz.func275,Tryz.ntmps275
  go_wp2_with fail
  refine (Calls.mono (HP.out _ (below_alloc (Below.refl _ _) _)) ?_);rintro e w1 ⟨rfl,hg1⟩;obtain ⟨hc1,hf1⟩:=bcell hg1
  rw [hs]
  have hb1:Below w.heap.size w w1:=below_step (below_alloc (Below.refl _ _) _) hg1
  go_wp2_with fail
  obtain ⟨r0,r1,r2,r3,r4⟩:=box_item (put_res y ((hg1.block w.heap.size (by simp)).trans (heap_alloc_new w _)))
  refine bodyPost_ret (v:=.tuple #[(y).val,.bool true]) (by simp [results,Tryz.results275,go_sem,r0,r1,r2,r3,r4]) rfl ?_
  exact ⟨by rw [HT.out],((((hb1.setCell (Nat.le_refl _) _).setCell (Nat.le_refl _) _).setCell (Nat.le_refl _) _).setCell (Nat.le_refl _) _).setCell (Nat.le_refl _) _⟩
end Go.Proofs.YtgmkckjedngkdaaGreatDoor
namespace Go.Proofs.YtgmkckjedngkdaaGreatDoor
open Go.ChangeShapes Go.WideShapes Go.ChangeAt Go.RowKit
theorem hidB_tomb {L:List It} (hr:Rising L) (hg:∀ y ∈ L,It.good y) (x:It):hidB L x=(sameAt (tombOf x.s) L && hidesB (tombAt x.s L) x):=by
 rw [hid_tomb hr hg]
 unfold tombAt
 cases h:sameAt (tombOf x.s) L
 ·simp
 ·obtain ⟨hl,_⟩:=sameAt_true h
  rw [List.getElem?_eq_getElem hl]
  simp
set_option maxHeartbeats 1600000 in
theorem hidden_any (A:Option Addr) (c:Nat) (L:List It) (x:It) (w:World) (hL:ItemsAt w A L) (hn:L.length≤4611686018427387904) (hr:Rising L) (hg:∀ y ∈ L,It.good y) :
 Calls Tryz.prog 211 #[.slice A L.length c,x.val] w fun e w'=>e=.returned (.bool (hidB L x))∧Below w.heap.size w w':=by
 have HE:=hide (hidB_tomb hr hg x)
 have HT:=hide (fun W hW=>tomb_any x.s A c L W (RowAt.below hL hW) hn hr)
 clear hL hr hg
 generalize tombAt x.s L=t at *
 cases hs:sameAt (tombOf x.s) L
 ·rw [hs] at HE
  go_enter Tryz.func211,Tryz.ntmps211
  go_wp2_with fail
  refine (Calls.mono (HT.out _ (below_alloc (Below.refl _ _) _)) ?_);rintro e w1 ⟨rfl,hg1⟩
  rw [hs]
  have hb1:Below w.heap.size w w1:=below_step (below_alloc (Below.refl _ _) _) hg1
  go_wp2_with fail
  go_ret
  exact ⟨by rw [HE.out];rfl,below_alloc hb1 _⟩
 ·rw [hs] at HE
  go_enter Tryz.func211,Tryz.ntmps211
  go_wp2_with fail
  refine (Calls.mono (HT.out _ (below_alloc (Below.refl _ _) _)) ?_);rintro e w1 ⟨rfl,hg1⟩
  rw [hs]
  obtain ⟨x0,x1,x2,x3,x4⟩:=box_item (g:=w.heap.size) (x:=x) ((hg1.block _ (by simp)).trans (heap_alloc_new w _))
  have hz:w.heap.size < w1.heap.size:=by have:=hg1.size;simp at this;omega
  have hb1:Below w.heap.size w w1:=below_step (below_alloc (Below.refl _ _) _) hg1
  go_wp2_with fail
  refine (Calls.mono (phides_any t x _) ?_);rintro e w2 ⟨rfl,hg2⟩
  go_wp2_with fail
  go_ret
  exact ⟨by rw [HE.out];rfl,below_step (below_alloc hb1 _) hg2⟩
end Go.Proofs.YtgmkckjedngkdaaGreatDoor
namespace Go.Proofs.YtgmkckjedngkdaaGreatDoor
open Go.ChangeShapes Go.WideShapes Go.ChangeAt Go.RowKit
theorem Wrote.trans {a b c:World} {v v1 v2:Value} (h:Wrote a b v v1) (k:Wrote b c v1 v2):Wrote a c v v2:=by
 refine ⟨⟨k.grown.os.trans h.grown.os,k.grown.tape.trans h.grown.tape,k.grown.output.trans h.grown.output,Nat.le_trans h.grown.size k.grown.size,fun i hi hne=>?_⟩,?_⟩
 ·refine (k.grown.block i (Nat.lt_of_lt_of_le hi h.grown.size) (fun e=>?_)).trans (h.grown.block i hi hne)
  rcases h.lies with h1 | ⟨g,h1,h2⟩
  ·rw [h1] at e;exact hne e
  ·rw [h1] at e;injection e with e;omega
 ·rcases k.lies with h1 | ⟨g,h1,h2⟩
  ·rcases h.lies with h3 | ⟨g,h3,h4⟩
   ·exact .inl (h1.trans h3)
   ·exact .inr ⟨g,h1.trans h3,h4⟩
  ·exact .inr ⟨g,h1,Nat.le_trans h.grown.size h2⟩
theorem Wrote.below {a b c:World} {v v':Value} (h:Below a.heap.size a b) (k:Wrote b c v v'):Wrote a c v v':=Wrote.trans ⟨grownBy_below h,.inl rfl⟩ k
theorem Wrote.same {a b:World} {v:Value} (h:Below a.heap.size a b):Wrote a b v v:=⟨grownBy_below h,.inl rfl⟩
theorem Wrote.far {a b:World} {v v':Value} (h:Wrote a b v v') {g:Nat} {o:Obj} (hg:a.heap[g]? = some o) (hne:v.ownBlock ≠ some g):b.heap[g]? = some o :=
 (h.grown.block g (Array.getElem?_eq_some_iff.1 hg).1 (fun e=>hne e.symm)).trans hg
theorem grown_far {a b:World} {row:Option Nat} (h:a.grownBy b row) {g:Nat} {o:Obj} (hg:a.heap[g]? = some o) (hne:row ≠ some g):b.heap[g]? = some o :=
 (h.block g (Array.getElem?_eq_some_iff.1 hg).1 (fun e=>hne e.symm)).trans hg
set_option maxHeartbeats 400000 in
theorem addc_any (y x:It) (b:Nat) (w:World) (h:w.heap[b]? = some (.cells x.cells.toArray 54 (0,0))) :
 Calls Tryz.prog 215 #[y.val,.pointer (some ⟨b,0,none⟩)] w fun e w'=>e=.returned (.bool (hidesB x y))∧Below w.heap.size w w':=by
 obtain ⟨x0,x1,x2,x3,x4⟩:=box_item h
 have hb:b < w.heap.size:=(Array.getElem?_eq_some_iff.1 h).1
 have hne:¬ (b=w.heap.size):=by omega
 have H:=hide h
 clear h
 go_enter Tryz.func215,Tryz.ntmps215
 go_wp2_with fail
 refine (Calls.mono (phides_any x y _) ?_);rintro e w1 ⟨rfl,hg1⟩
 go_wp2_with fail
 go_ret
 exact ⟨rfl,below_step (below_alloc (Below.refl _ _) _) hg1⟩
theorem addc_tells (x:It) (b:Nat) (L:List It) (row:Option Nat) (w:World) (h:w.heap[b]? = some (.cells x.cells.toArray 54 (0,0))) (hne:row ≠ some b):TellsG 215 #[.pointer (some ⟨b,0,none⟩)] (hidesB x) L row w :=
 fun y _ w1 hg=>addc_any y x b w1 (grown_far hg h hne)
set_option maxHeartbeats 3200000 in
set_option maxRecDepth 100000 in
theorem add_any (base:Nat) (v:Value) (L:List It) (x:It) (w:World) (h:Og base w v L) (hbase:base≤w.heap.size) (hst:IsState L) (hn:L.length≤1099511627776) :
 Calls Tryz.prog 149 #[v,x.val] w (RetOg base (addL L x) v w):=by
 obtain ⟨A,c,rfl,hrow,h1,h2⟩:=h.sl
 have hcf:Enters Tryz.prog 215:=fun args W=>by kernel_rfl
 have HC:=hide hcf
 have HO:=hide h
 have HR:=hide hrow
 have HS:=hide hst
 clear h hrow hst hcf
 have HP:=hide (fun W hW=>place_any x A c L W (RowAt.below HR.out hW) (by omega) HS.out.2.1)
 have HH:=hide (fun W hW=>hidden_any A c L x W (RowAt.below HR.out hW) (by omega) HS.out.2.1 HS.out.1)
 cases hgd:goodB x
 ·have HA:=hide (addL_bad (l:=L) (x:=x) (by simpa only [goodB,decide_eq_false_iff_not] using hgd))
  go_enter Tryz.func149,Tryz.ntmps149
  go_wp2_with fail
  refine (Calls.mono (pgood_any x _) ?_);rintro e w1 ⟨rfl,hg1⟩
  rw [hgd]
  have hb1:Below w.heap.size w w1:=below_step (below_alloc (Below.refl _ _) _) hg1
  go_wp2_with fail
  go_ret
  exact ⟨_,rfl,by rw [HA.out];exact HO.out.below hb1,Wrote.same hb1⟩
 have hgx:It.good x:=by simpa only [goodB,decide_eq_true_eq] using hgd
 have HGX:=hide hgx
 clear hgx
 cases hhd:hidB L x
 case true =>
  have HA:=hide (addL_hid HGX.out hhd)
  go_enter Tryz.func149,Tryz.ntmps149
  go_wp2_with fail
  refine (Calls.mono (pgood_any x _) ?_);rintro e w1 ⟨rfl,hg1⟩
  rw [hgd]
  have hb1:Below w.heap.size w w1:=below_step (below_alloc (Below.refl _ _) _) hg1
  obtain ⟨hc1,hf1⟩:=bcell hg1
  go_wp2_with fail
  refine (Calls.mono (HH.out _ hb1) ?_);rintro e w2 ⟨rfl,hg2⟩
  rw [hhd]
  have hb2:Below w.heap.size w w2:=below_step hb1 hg2
  go_wp2_with fail
  go_ret
  exact ⟨_,rfl,by rw [HA.out];exact HO.out.below hb2,Wrote.same hb2⟩
 cases hsa:sameAt x L
 ·have HA:=hide (addL_insert HS.out.2.1 HGX.out hhd hsa)
  have hll:=low_le x L
  go_enter Tryz.func149,Tryz.ntmps149
  go_wp2_with fail
  refine (Calls.mono (pgood_any x _) ?_);rintro e w1 ⟨rfl,hg1⟩
  rw [hgd]
  have hb1:Below w.heap.size w w1:=below_step (below_alloc (Below.refl _ _) _) hg1
  have HX1:=hide ((hg1.block w.heap.size (by simp)).trans (heap_alloc_new w (.cells x.cells.toArray 54)))
  obtain ⟨x0,x1,x2,x3,x4⟩:=box_item HX1.out
  have hz1:w.heap.size < w1.heap.size:=(Array.getElem?_eq_some_iff.1 HX1.out).1
  go_wp2_with fail
  refine (Calls.mono (HH.out _ hb1) ?_);rintro e w2 ⟨rfl,hg2⟩
  rw [hhd]
  have hb2:Below w.heap.size w w2:=below_step hb1 hg2
  have HX2:=hide ((hg2.block w.heap.size hz1).trans HX1.out)
  clear hg2 x0 x1 x2 x3 x4
  obtain ⟨x0,x1,x2,x3,x4⟩:=box_item HX2.out
  have hz2:w.heap.size < w2.heap.size:=(Array.getElem?_eq_some_iff.1 HX2.out).1
  go_wp2_with fail
  refine (Calls.mono (HP.out _ hb2) ?_);rintro e w3 ⟨rfl,hg3⟩
  rw [hsa]
  have hb3:Below w.heap.size w w3:=below_step hb2 hg3
  have HX3:=hide ((hg3.block w.heap.size hz2).trans HX2.out)
  clear hg3 x0 x1 x2 x3 x4
  obtain ⟨x0,x1,x2,x3,x4⟩:=box_item HX3.out
  have hz3:w.heap.size < w3.heap.size:=(Array.getElem?_eq_some_iff.1 HX3.out).1
  generalize hq:lowI x L=q at *
  have HQ:=hide hq
  clear hq
  go_wp2_with fail
  refine wp_region_near (by kernel_rfl) (by kernel_rfl) ?_
  repeat (go_big_quiet_step (fail))
  refine wpQuiet_nil ?_
  intro _ hw'
  obtain ⟨s1,rfl⟩:=hw'
  have hb4:Below w.heap.size w s1.at_:=below_step hb3 s1.is
  have HX4:=hide ((s1.is.block w.heap.size hz3).trans HX3.out)
  clear x0 x1 x2 x3 x4
  obtain ⟨x0,x1,x2,x3,x4⟩:=box_item HX4.out
  have hz4:w.heap.size < s1.at_.heap.size:=(Array.getElem?_eq_some_iff.1 HX4.out).1
  have hgo:=HO.out.lt
  have hnx:(Value.slice A L.length c).ownBlock ≠ some w.heap.size:=fun e=>by have:=(hgo _ e).2;omega
  have hny:(Value.slice A L.length c).ownBlock ≠ some s1.at_.heap.size:=fun e=>by have:=(hgo _ e).2;omega
  have hb5:=below_alloc hb4 (.cells x.cells.toArray 54)
  go_wp2_with fail
  refine (Calls.mono (ins_any s1.at_.heap.size base _ L x q _ (HO.out.below hb5) (Nat.le_trans hbase hb5.size) (heap_alloc_new s1.at_ _) hny (by omega) (by omega)) ?_);rintro e w5 ⟨v5,rfl,ho5,hw5⟩
  have HX5:=hide (hw5.far ((Below.heap_alloc s1.at_ _ _ hz4).trans HX4.out) hnx)
  have hn5:v5.ownBlock ≠ some w.heap.size:=fun e=>by
   rcases hw5.lies with h | ⟨g,h,hg⟩
   ·rw [h] at e;exact hnx e
   ·rw [h] at e;injection e with e;simp at hg;omega
  go_wp2_with fail
  refine (Calls.mono (del_any 215 #[.pointer (some ⟨w.heap.size,0,none⟩)] HC.out (hidesB x) base v5 _ w5 ho5 (addc_tells x w.heap.size _ _ w5 HX5.out hn5)) ?_);rintro e w6 ⟨v6,rfl,ho6,hw6⟩
  go_wp2_with fail
  go_ret
  exact ⟨_,rfl,by rw [HA.out];exact ho6,Wrote.below hb5 (hw5.trans hw6)⟩
 ·obtain ⟨hlt,hse⟩:=sameAt_true hsa
  have hAw:=fun hw=>addL_store HS.out.2.1 HGX.out hhd hsa hlt hw
  have hAb:=fun hw=>addL_beaten HS.out.2.1 HGX.out hhd hsa hlt hw
  obtain ⟨bl,off,rfl,hbb,y0,y1,y2,y3,y4⟩:=ItemsAt.item HR.out (Below.refl _ _) hlt
  have HAW:=hide hAw
  have HAB:=hide hAb
  clear hse hAw hAb
  have hhL:(lowI x L:Int) < (L.length:Int):=by omega
  generalize L[lowI x L]=y at *
  generalize hq:lowI x L=q at *
  have HQ:=hide hq
  clear hq
  go_enter Tryz.func149,Tryz.ntmps149
  go_wp2_with fail
  refine (Calls.mono (pgood_any x _) ?_);rintro e w1 ⟨rfl,hg1⟩
  rw [hgd]
  have hb1:Below w.heap.size w w1:=below_step (below_alloc (Below.refl _ _) _) hg1
  have HX1:=hide ((hg1.block w.heap.size (by simp)).trans (heap_alloc_new w (.cells x.cells.toArray 54)))
  obtain ⟨x0,x1,x2,x3,x4⟩:=box_item HX1.out
  have hz1:w.heap.size < w1.heap.size:=(Array.getElem?_eq_some_iff.1 HX1.out).1
  go_wp2_with fail
  refine (Calls.mono (HH.out _ hb1) ?_);rintro e w2 ⟨rfl,hg2⟩
  rw [hhd]
  have hb2:Below w.heap.size w w2:=below_step hb1 hg2
  have HX2:=hide ((hg2.block w.heap.size hz1).trans HX1.out)
  clear hg2 x0 x1 x2 x3 x4
  obtain ⟨x0,x1,x2,x3,x4⟩:=box_item HX2.out
  have hz2:w.heap.size < w2.heap.size:=(Array.getElem?_eq_some_iff.1 HX2.out).1
  go_wp2_with fail
  refine (Calls.mono (HP.out _ hb2) ?_);rintro e w3 ⟨rfl,hg3⟩
  rw [hsa]
  have hb3:Below w.heap.size w w3:=below_step hb2 hg3
  have HX3:=hide ((hg3.block w.heap.size hz2).trans HX2.out)
  clear hg3 x0 x1 x2 x3 x4
  obtain ⟨x0,x1,x2,x3,x4⟩:=box_item HX3.out
  have hz3:w.heap.size < w3.heap.size:=(Array.getElem?_eq_some_iff.1 HX3.out).1
  have hnc:=near_cells w3
  have hbl3:bl < w3.heap.size:=Nat.lt_of_lt_of_le hbb hb3.size
  have y0:=(hb3.cell (p:=⟨bl,_,none⟩) hbb).trans y0
  have y1:=(hb3.cell (p:=⟨bl,_,none⟩) hbb).trans y1
  have y2:=(hb3.cell (p:=⟨bl,_,none⟩) hbb).trans y2
  have y3:=(hb3.cell (p:=⟨bl,_,none⟩) hbb).trans y3
  have y4:=(hb3.cell (p:=⟨bl,_,none⟩) hbb).trans y4
  cases hwi:winsB x y
  all_goals
   go_wp2_with fail
   refine wp_region_near (by kernel_rfl) (by kernel_rfl) ?_
   repeat (go_big_quiet_step (exact near_of (pwins_any x y _)))
   refine wpQuiet_nil ?_
   intro _ hw'
   obtain ⟨s1,rfl⟩:=hw'
   rw [hwi]
   have hb4:Below w.heap.size w s1.at_:=below_step hb3 s1.is
  ·have HA:=hide (HAB.out hwi)
   go_wp2_with fail
   go_ret
   exact ⟨_,rfl,by rw [HA.out];exact HO.out.below hb4,Wrote.same hb4⟩
  ·have HA:=hide (HAW.out hwi)
   have HX4:=hide ((s1.is.block w.heap.size hz3).trans HX3.out)
   clear x0 x1 x2 x3 x4 y0 y1 y2 y3 y4
   obtain ⟨x0,x1,x2,x3,x4⟩:=box_item HX4.out
   have hz4:w.heap.size < s1.at_.heap.size:=(Array.getElem?_eq_some_iff.1 HX4.out).1
   have ho4:=HO.out.below hb4
   rcases ho4 with ⟨_,h0⟩ | ⟨g,cap,R,hv,hbg,hgr,hnc',hcm,hfit⟩
   ·subst h0;simp at hlt
   ·injection hv with hv1 hv2 hv3
    injection hv1 with hv1
    injection hv1 with hv4 hv5 _
    subst hv3 hv4 hv5
    have HGR:=hide hgr
    obtain ⟨z0,z1,z2,z3,z4⟩:=row_item5 hgr (k:=q) hlt
    have hfz:=row_free hgr
    clear hgr hnc
    have hne:¬ (w.heap.size=bl):=by omega
    have hne2:¬ (bl=w.heap.size):=by omega
    have hls:(L.set q x).length=L.length:=List.length_set
    have hog:Og base (put5 s1.at_ bl (q * 5) x) (.slice (some ⟨bl,0,none⟩) L.length c) (L.set q x) :=
     .inr ⟨bl,c,R,by rw [hls],hbg,put5_row HGR.out hlt,by rw [hls];exact hnc',hcm,by rw [hls];exact hfit⟩
    have hnx:(Value.slice (some ⟨bl,0,none⟩) L.length c).ownBlock ≠ some w.heap.size:=fun e=>hne2 (by injection e)
    have hnx2:(some bl:Option Nat) ≠ some w.heap.size:=fun e=>hne2 (by injection e)
    have HOG:=hide hog
    have HT:=hide (addc_tells x w.heap.size (L.set q x) (Value.slice (some ⟨bl,0,none⟩) L.length c).ownBlock (put5 s1.at_ bl (q * 5) x) (grown_far (put5_grown _ bl _ x) HX4.out hnx2) hnx)
    clear hls hog hnx hnx2
    go_wp2_with fail
    refine (Calls.mono (del_any 215 #[.pointer (some ⟨w.heap.size,0,none⟩)] HC.out (hidesB x) base _ (L.set q x) (put5 s1.at_ bl (q * 5) x) HOG.out HT.out) ?_);rintro e w6 ⟨v6,rfl,ho6,hw6⟩
    go_wp2_with fail
    go_ret
    exact ⟨_,rfl,by rw [HA.out];exact ho6,Wrote.below hb4 (Wrote.trans ⟨put5_grown _ bl (q * 5) x,.inl rfl⟩ hw6)⟩
end Go.Proofs.YtgmkckjedngkdaaGreatDoor
namespace Go.Proofs.YtgmkckjedngkdaaGreatDoor
open Go.ChangeShapes Go.WideShapes Go.ChangeAt Go.RowKit
theorem RowAt.take_ {w:World} {A:Option Addr} {L:List It} (h:ItemsAt w A L) (k:Nat):ItemsAt w A (L.take k):=fun hne=>by
 obtain ⟨b,off,e,hlt,hc⟩:=h (fun e=>hne (by rw [e];simp))
 refine ⟨b,off,e,hlt,fun i hi j u hu=>hc i (by simp at hi;omega) j u ?_⟩
 rw [List.getElem_take] at hu
 exact hu
theorem hidden_n (A:Option Addr) (c n:Nat) (L:List It) (x:It) (w:World) (hnL:L.length=n) (hL:ItemsAt w A L) (hn:n≤4611686018427387904) (hs:IsState L) :
 Calls Tryz.prog 211 #[.slice A n c,x.val] w fun e w'=>e=.returned (.bool (hidB L x))∧Below w.heap.size w w':=by
 subst hnL
 exact hidden_any A c L x w hL hn hs.2.1 hs.1
theorem pst_no {L:List It} {k:Nat} (h:¬ IsState (L.take k)):stateB L=false:=stateB_false fun e=>h (e.take k)
theorem pst_bad {L:List It} {k:Nat} (hk:k < L.length) (h:goodB L[k]=false):stateB L=false:=pst_no (k:=k+1) fun e=>by
 have:=((isState_snoc hk).1 e).2.1
 rw [goodB_true this] at h;cases h
theorem pst_drop {L:List It} {k:Nat} (hk:k < L.length) (h0:0 < k) (h:ltB (L[k - 1]'(by omega)) L[k]=false):stateB L=false:=pst_no (k:=k+1) fun e=>by
 have:=((isState_snoc hk).1 e).2.2.1 h0
 rw [ltB_true this] at h;cases h
theorem pst_hid {L:List It} {k:Nat} (hk:k < L.length) (h:hidB (L.take k) L[k]=true):stateB L=false:=pst_no (k:=k+1) fun e=>by
 obtain ⟨t,ht,hh⟩:=List.any_eq_true.1 h
 exact ((isState_snoc hk).1 e).2.2.2 t ht (by simpa [hidesB] using hh)
theorem pst_on {L:List It} {k:Nat} (hk:k < L.length) (hs:IsState (L.take k)) (h1:goodB L[k]=true) (h2:∀ h:0 < k,ltB (L[k - 1]'(by omega)) L[k]=true) (h3:hidB (L.take k) L[k]=false):IsState (L.take (k+1)):=by
 rw [isState_snoc hk]
 refine ⟨hs,by simpa only [goodB,decide_eq_true_eq] using h1,fun h=>by simpa only [ltB,decide_eq_true_eq] using h2 h,fun t ht hh=>?_⟩
 have:hidB (L.take k) L[k]=true:=List.any_eq_true.2 ⟨t,ht,hidesB_true hh⟩
 rw [this] at h3;cases h3
set_option maxHeartbeats 3200000 in
set_option maxRecDepth 100000 in
theorem pok_any (A:Option Addr) (c:Nat) (L:List It) (w:World) (hL:ItemsAt w A L) (hlc:L.length≤c) (hn:L.length≤4611686018427387904) :
 Calls Tryz.prog 148 #[.slice A L.length c] w fun e w'=>e=.returned (.bool (stateB L))∧Below w.heap.size w w':=by
 have HL:=hide hL
 clear hL
 go_enter Tryz.func148,Tryz.ntmps148
 go_wp2_with fail
 go_loopw [7] (fun i wr=>∃ k:Nat,i=.int .i64 k∧k≤L.length∧Below w.heap.size w wr∧IsState (L.take k)) (fun i _=>L.length - (intOf i).toNat)
 case atStart=>exact ⟨0,rfl,by omega,Below.refl _ _,by rw [List.take_zero];exact IsState.nil_⟩
 case round =>
  obtain ⟨k,rfl,hk,hb,hs⟩:=hrel
  have HS:=hide hs
  have HB:=hide hb
  clear hs hb
  by_cases hlt:k < L.length
  ·obtain ⟨bl,off,rfl,hbb,y0,y1,y2,y3,y4⟩:=ItemsAt.item HL.out HB.out hlt
   have hbl:bl < wr.heap.size:=Nat.lt_of_lt_of_le hbb HB.out.size
   have hkl:(L.take k).length=k:=by rw [List.length_take];omega
   have HH:=hide (fun x W hW=>hidden_n (some ⟨bl,off,none⟩) c k (L.take k) x W hkl (RowAt.take_ (RowAt.below HL.out hW) k) (by omega) HS.out)
   have H1:=hide (pst_bad hlt)
   have H2:=hide (pst_drop hlt)
   have H3:=hide (pst_hid hlt)
   have H4:=hide (pst_on hlt HS.out)
   clear hkl
   have hkc:(k:Int)≤(c:Int):=by omega
   by_cases h0:0 < k
   ·obtain ⟨bl',off',hA,hbb',z0,z1,z2,z3,z4⟩:=ItemsAt.item HL.out HB.out (k:=k - 1) (by omega)
    injection hA with hA
    injection hA with hA1 hA2
    subst hA1 hA2
    have b0:decide ((0:Int) < (k:Int))=true:=decide_eq_true (by omega)
    have e1:IntKind.i64.wrap ((k:Int) - 1)=(k:Int) - 1:=IntWalk.i64_in _ (by omega)
    have e2:((k:Int) - 1).toNat=k - 1:=by omega
    have e3:(0:Int)≤(k:Int) - 1:=by omega
    have e4:(k:Int) - 1 < (L.length:Int):=by omega
    have e5:(1:Int)≤(k:Int):=by omega
    have e6:(k:Int) - 1 < (L.length:Int):=by omega
    have H5:=hide (H2.out h0)
    have H6:=hide (fun h1 (h2:ltB (L[k - 1]'(by omega)) L[k]=true) h3=>H4.out h1 (fun _=>h2) h3)
    clear H2 H4
    generalize L[k]=y at *
    generalize L[k - 1]=z at *
    cases hg:goodB y
    ·clear HH z0 z1 z2 z3 z4
     go_wp2_with fail
     refine wp_name (fun W=>Below wr.heap.size wr W∧W.heap[wr.heap.size]? = some (.cells y.cells.toArray 54 (0,0))) ⟨below_alloc (Below.refl _ _) _,heap_alloc_new _ _⟩ ?_
     rintro W ⟨hbW,hxW⟩
     have HBW:=hide (below_step HB.out hbW)
     obtain ⟨x0,x1,x2,x3,x4⟩:=box_item hxW
     have hxl:wr.heap.size < W.heap.size:=(Array.getElem?_eq_some_iff.1 hxW).1
     have hbl2:bl < W.heap.size:=by omega
     have hnc:=near_cells W
     refine wp_region_near (by kernel_rfl) (by kernel_rfl) ?_
     repeat (go_big_quiet_step (((go_at_call 143;exact near_of (pgood_any y _)))))
     refine wpQuiet_nil ?_
     intro _ hw'
     obtain ⟨s1,rfl⟩:=hw'
     go_wp2_with fail
     go_ret
     exact ⟨by rw [H1.out hg];rfl,below_step HBW.out s1.is⟩
    ·cases hl:ltB z y
     ·go_wp2_with fail
      refine wp_name (fun W=>Below wr.heap.size wr W∧W.heap[wr.heap.size]? = some (.cells y.cells.toArray 54 (0,0))) ⟨below_alloc (Below.refl _ _) _,heap_alloc_new _ _⟩ ?_
      rintro W ⟨hbW,hxW⟩
      have HBW:=hide (below_step HB.out hbW)
      obtain ⟨x0,x1,x2,x3,x4⟩:=box_item hxW
      have hxl:wr.heap.size < W.heap.size:=(Array.getElem?_eq_some_iff.1 hxW).1
      have hbl2:bl < W.heap.size:=by omega
      have hnc:=near_cells W
      have z0:=(hbW.cell (p:=⟨bl,_,none⟩) hbl).trans z0
      have z1:=(hbW.cell (p:=⟨bl,_,none⟩) hbl).trans z1
      have z2:=(hbW.cell (p:=⟨bl,_,none⟩) hbl).trans z2
      have z3:=(hbW.cell (p:=⟨bl,_,none⟩) hbl).trans z3
      have z4:=(hbW.cell (p:=⟨bl,_,none⟩) hbl).trans z4
      refine wp_region_near (by kernel_rfl) (by kernel_rfl) ?_
      repeat (go_big_quiet_step ((first | (go_at_call 143;exact near_of (pgood_any y _)) | (go_at_call 137;exact near_of (pless_any z y _)))))
      refine wpQuiet_nil ?_
      intro _ hw'
      obtain ⟨s1,rfl⟩:=hw'
      go_wp2_with fail
      go_ret
      exact ⟨by rw [H5.out hl];rfl,below_step HBW.out s1.is⟩
     ·cases hh:hidB (L.take k) y
      all_goals
       go_wp2_with fail
       refine wp_name (fun W=>Below wr.heap.size wr W∧W.heap[wr.heap.size]? = some (.cells y.cells.toArray 54 (0,0))) ⟨below_alloc (Below.refl _ _) _,heap_alloc_new _ _⟩ ?_
       rintro W ⟨hbW,hxW⟩
       have HBW:=hide (below_step HB.out hbW)
       obtain ⟨x0,x1,x2,x3,x4⟩:=box_item hxW
       have hxl:wr.heap.size < W.heap.size:=(Array.getElem?_eq_some_iff.1 hxW).1
       have hbl2:bl < W.heap.size:=by omega
       have hnc:=near_cells W
       have z0:=(hbW.cell (p:=⟨bl,_,none⟩) hbl).trans z0
       have z1:=(hbW.cell (p:=⟨bl,_,none⟩) hbl).trans z1
       have z2:=(hbW.cell (p:=⟨bl,_,none⟩) hbl).trans z2
       have z3:=(hbW.cell (p:=⟨bl,_,none⟩) hbl).trans z3
       have z4:=(hbW.cell (p:=⟨bl,_,none⟩) hbl).trans z4
       refine wp_region_near (by kernel_rfl) (by kernel_rfl) ?_
       repeat (go_big_quiet_step ((first | (go_at_call 143;exact near_of (pgood_any y _)) | (go_at_call 137;exact near_of (pless_any z y _)) | (go_at_call 211;exact near_of (HH.out y _ (below_step HBW.out (Near.is _)))))))
       refine wpQuiet_nil ?_
       intro _ hw'
       obtain ⟨s1,rfl⟩:=hw'
       rw [hh]
       go_wp2_with fail
      ·go_roundw
       case rel=>exact ⟨k+1,by go_num,by omega,below_step HBW.out s1.is,H6.out hg hl hh⟩
       case measure=>simp [intOf];omega
      ·go_ret
       exact ⟨by rw [H3.out hh];rfl,below_step HBW.out s1.is⟩
   ·have b0:decide ((0:Int) < (k:Int))=false:=decide_eq_false (by omega)
    clear H2
    have H4':=hide (fun h1 h3=>H4.out h1 (fun h=>absurd h h0) h3)
    clear H4
    generalize L[k]=y at *
    cases hg:goodB y
    ·go_wp2_with fail
     refine wp_name (fun W=>Below wr.heap.size wr W∧W.heap[wr.heap.size]? = some (.cells y.cells.toArray 54 (0,0))) ⟨below_alloc (Below.refl _ _) _,heap_alloc_new _ _⟩ ?_
     rintro W ⟨hbW,hxW⟩
     have HBW:=hide (below_step HB.out hbW)
     obtain ⟨x0,x1,x2,x3,x4⟩:=box_item hxW
     have hxl:wr.heap.size < W.heap.size:=(Array.getElem?_eq_some_iff.1 hxW).1
     have hbl2:bl < W.heap.size:=by omega
     have hnc:=near_cells W
     refine wp_region_near (by kernel_rfl) (by kernel_rfl) ?_
     repeat (go_big_quiet_step (((go_at_call 143;exact near_of (pgood_any y _)))))
     refine wpQuiet_nil ?_
     intro _ hw'
     obtain ⟨s1,rfl⟩:=hw'
     go_wp2_with fail
     go_ret
     exact ⟨by rw [H1.out hg];rfl,below_step HBW.out s1.is⟩
    ·cases hh:hidB (L.take k) y
     all_goals
      go_wp2_with fail
      refine wp_name (fun W=>Below wr.heap.size wr W∧W.heap[wr.heap.size]? = some (.cells y.cells.toArray 54 (0,0))) ⟨below_alloc (Below.refl _ _) _,heap_alloc_new _ _⟩ ?_
      rintro W ⟨hbW,hxW⟩
      have HBW:=hide (below_step HB.out hbW)
      obtain ⟨x0,x1,x2,x3,x4⟩:=box_item hxW
      have hxl:wr.heap.size < W.heap.size:=(Array.getElem?_eq_some_iff.1 hxW).1
      have hbl2:bl < W.heap.size:=by omega
      have hnc:=near_cells W
      refine wp_region_near (by kernel_rfl) (by kernel_rfl) ?_
      repeat (go_big_quiet_step ((first | (go_at_call 143;exact near_of (pgood_any y _)) | (go_at_call 211;exact near_of (HH.out y _ (below_step HBW.out (Near.is _)))))))
      refine wpQuiet_nil ?_
      intro _ hw'
      obtain ⟨s1,rfl⟩:=hw'
      rw [hh]
      go_wp2_with fail
     ·go_roundw
      case rel=>exact ⟨k+1,by go_num,by omega,below_step HBW.out s1.is,H4'.out hg hh⟩
      case measure=>simp [intOf];omega
     ·go_ret
      exact ⟨by rw [H3.out hh];rfl,below_step HBW.out s1.is⟩
  ·have HF:Hid (stateB L=true):=hide (stateB_true (by have:=HS.out;rwa [List.take_of_length_le (by omega)] at this))
   go_wp2_with fail
   go_ret
   exact ⟨by rw [HF.out];rfl,HB.out⟩
end Go.Proofs.YtgmkckjedngkdaaGreatDoor
namespace Go.Proofs.YtgmkckjedngkdaaGreatDoor
open Go.ChangeShapes Go.WideShapes Go.ChangeAt Go.RowKit
def RetOf (L:List It) (w:World) (e:Ending) (w':World):Prop:=∃ v,e=.returned v∧Og w.heap.size w' v L∧Below w.heap.size w w'
theorem pok_sl {v:Value} {L:List It} {w:World} (h:Sl w v L) (hn:L.length≤4611686018427387904):Calls Tryz.prog 148 #[v] w fun e w'=>e=.returned (.bool (stateB L))∧Below w.heap.size w w':=by
 obtain ⟨A,c,rfl,hL,h1,h2⟩:=h
 exact pok_any A c L w hL h1 hn
theorem own_sl {v:Value} {L:List It} {w:World} (h:Sl w v L) (hn:L.length≤2199023255552):Calls Tryz.prog 147 #[v] w (RetOw L w):=by
 obtain ⟨A,c,rfl,hL,h1,h2⟩:=h
 exact own_any A c L w hL hn
theorem clip_og {base:Nat} {v:Value} {L:List It} {w:World} (h:Og base w v L):Calls Tryz.prog 138 #[v] w fun e w'=>(∃ v',e=.returned v'∧Og base w v' L)∧w=w':=by
 rcases h with ⟨rfl,rfl⟩ | ⟨g,cap,R,rfl,hb,hg,hnc,hcm,hfit⟩
 ·refine (clip_any none 0 0 w (by omega) (by simp)).mono ?_
  rintro e w' ⟨rfl,rfl⟩
  exact ⟨⟨_,rfl,Og.nil_ _ _⟩,rfl⟩
 ·refine (clip_any _ L.length cap w hnc hcm).mono ?_
  rintro e w' ⟨rfl,rfl⟩
  exact ⟨⟨_,rfl,.inr ⟨g,L.length,R,rfl,hb,hg,Nat.le_refl _,Nat.le_trans hnc hcm,by omega⟩⟩,rfl⟩
theorem below_wrote {B base:Nat} {w0 w w':World} {v v':Value} {L:List It} (h:Below B w0 w) (ho:Og base w v L) (k:Wrote w w' v v') (hB:B≤base) (hs:B≤w.heap.size):Below B w0 w':=below_grown h ho k.grown hB hs
set_option maxHeartbeats 3200000 in
theorem pjoin_state (va:Value) (La:List It) (A:Option Addr) (c:Nat) (L:List It) (w:World) (ha:Sl w va La) (hL:ItemsAt w A L) (hst:IsState La) (hna:La.length≤274877906944) (hn:L.length≤274877906944) :
 Calls Tryz.prog 69 #[va,.slice A L.length c] w (RetOf (L.foldl addL La) w):=by
 have HL:=hide hL
 have HA:=hide ha
 have HS:=hide hst
 have hsb:=stateB_true hst
 clear hL ha hst
 go_enter Tryz.func69,Tryz.ntmps69
 go_wp2_with fail
 refine (Calls.mono (own_sl HA.out (by omega)) ?_);rintro e w1 ⟨v1,rfl,ho1,hg1⟩
 go_wp2_with fail
 refine (Calls.mono (pok_sl (HA.out.below hg1) (by omega)) ?_);rintro e w2 ⟨rfl,hg2⟩
 rw [hsb]
 have HB2:=hide (below_step hg1 hg2)
 have HO2:=hide ((ho1.below hg2).og)
 clear hg1 hg2 ho1
 go_wp2_with fail
 go_loopw [5,17] (fun v i wr=>∃ k:Nat,i=.int .i64 k∧k≤L.length∧Below w.heap.size w wr∧Og w.heap.size wr v ((L.take k).foldl addL La)) (fun _ i _=>L.length - (intOf i).toNat)
 case atStart=>exact ⟨0,rfl,by omega,HB2.out,HO2.out⟩
 case round =>
  obtain ⟨k,rfl,hk,hb,ho⟩:=hrel
  have HB:=hide hb
  have HO:=hide ho
  clear hb ho
  by_cases hlt:k < L.length
  ·obtain ⟨bl,off,rfl,hbb,y0,y1,y2,y3,y4⟩:=ItemsAt.item HL.out HB.out hlt
   have hbl:bl < wr.heap.size:=Nat.lt_of_lt_of_le hbb HB.out.size
   have HF:Hid ((L.take (k+1)).foldl addL La=addL ((L.take k).foldl addL La) L[k]):=hide (by rw [List.take_succ_eq_append_getElem hlt,List.foldl_append];rfl)
   have HN:=hide (foldl_state (L.take k) HS.out)
   have hNl:((L.take k).foldl addL La).length≤La.length+k:=Nat.le_trans (foldl_len _ _) (by have:=List.length_take_le k L;omega)
   generalize (L.take k).foldl addL La=N at *
   generalize L[k]=y at *
   go_wp2_with fail
   refine (Calls.mono (add_any w.heap.size _ N y _ (HO.out.below (below_alloc (Below.refl _ _) _)) (Nat.le_trans HB.out.size (by simp)) HN.out (by omega)) ?_);rintro e w3 ⟨v3,rfl,ho3,hw3⟩
   have hb3:Below w.heap.size w w3:=below_wrote (below_alloc HB.out _) (HO.out.below (below_alloc (Below.refl _ _) _)) hw3 (Nat.le_refl _) (Nat.le_trans HB.out.size (by simp))
   go_wp2_with fail
   go_roundw
   case rel=>exact ⟨k+1,by go_num,by omega,hb3,by rw [HF.out];exact ho3⟩
   case measure=>simp [intOf];omega
  ·obtain rfl:k=L.length:=by omega
   have HO2:=HO.out
   rw [List.take_length] at HO2
   go_wp2_with fail
   refine (Calls.mono (clip_og HO2) ?_);rintro e w3 ⟨⟨v3,rfl,ho3⟩,rfl⟩
   go_wp2_with fail
   go_ret
   exact ⟨_,rfl,ho3,HB.out⟩
theorem pof_any (A:Option Addr) (c:Nat) (L:List It) (w:World) (hL:ItemsAt w A L) (hn:L.length≤274877906944):Calls Tryz.prog 70 #[.slice A L.length c] w (RetOf (ofL L) w):=by
 have H:=hide (pjoin_state (.slice none 0 0) [] A c L w (Sl.nil_ w) hL IsState.nil_ (by simp) hn)
 clear hL
 go_enter Tryz.func70,Tryz.ntmps70
 go_wp2_with fail
 refine (Calls.mono H.out ?_);rintro e w1 ⟨v1,rfl,ho1,hg1⟩
 go_wp2_with fail
 go_ret
 exact ⟨_,rfl,ho1,hg1⟩
theorem pof_sl {v:Value} {L:List It} {w:World} (h:Sl w v L) (hn:L.length≤274877906944):Calls Tryz.prog 70 #[v] w (RetOf (ofL L) w):=by
 obtain ⟨A,c,rfl,hL,h1,h2⟩:=h
 exact pof_any A c L w hL hn
set_option maxHeartbeats 3200000 in
theorem pjoin_not (va:Value) (La:List It) (A:Option Addr) (c:Nat) (L:List It) (w:World) (ha:Sl w va La) (hL:ItemsAt w A L) (hsb:stateB La=false) (hna:La.length≤274877906944) (hn:L.length≤274877906944) :
 Calls Tryz.prog 69 #[va,.slice A L.length c] w (RetOf (L.foldl addL (ofL La)) w):=by
 have HL:=hide hL
 have HA:=hide ha
 have hol:=ofL_len La
 clear hL ha
 go_enter Tryz.func69,Tryz.ntmps69
 go_wp2_with fail
 refine (Calls.mono (own_sl HA.out (by omega)) ?_);rintro e w1 ⟨v1,rfl,ho1,hg1⟩
 go_wp2_with fail
 refine (Calls.mono (pok_sl (HA.out.below hg1) (by omega)) ?_);rintro e w2 ⟨rfl,hg2⟩
 rw [hsb]
 have HB2:=hide (below_step hg1 hg2)
 clear hg1 hg2 ho1
 go_wp2_with fail
 refine (Calls.mono (pof_sl (HA.out.below HB2.out) hna) ?_);rintro e w3 ⟨v3,rfl,ho3,hg3⟩
 have HB3:=hide (below_step HB2.out hg3)
 have HO3:=hide (ho3.base_ HB2.out.size)
 clear hg3 ho3
 go_wp2_with fail
 go_loopw [5,17] (fun v i wr=>∃ k:Nat,i=.int .i64 k∧k≤L.length∧Below w.heap.size w wr∧Og w.heap.size wr v ((L.take k).foldl addL (ofL La))) (fun _ i _=>L.length - (intOf i).toNat)
 case atStart=>exact ⟨0,rfl,by omega,HB3.out,HO3.out⟩
 case round =>
  obtain ⟨k,rfl,hk,hb,ho⟩:=hrel
  have HB:=hide hb
  have HO:=hide ho
  clear hb ho
  by_cases hlt:k < L.length
  ·obtain ⟨bl,off,rfl,hbb,y0,y1,y2,y3,y4⟩:=ItemsAt.item HL.out HB.out hlt
   have hbl:bl < wr.heap.size:=Nat.lt_of_lt_of_le hbb HB.out.size
   have HF:Hid ((L.take (k+1)).foldl addL (ofL La)=addL ((L.take k).foldl addL (ofL La)) L[k]):=hide (by rw [List.take_succ_eq_append_getElem hlt,List.foldl_append];rfl)
   have HN:=hide (foldl_state (L.take k) (ofL_state La))
   have hNl:((L.take k).foldl addL (ofL La)).length≤(ofL La).length+k:=Nat.le_trans (foldl_len _ _) (by have:=List.length_take_le k L;omega)
   generalize (L.take k).foldl addL (ofL La)=N at *
   generalize L[k]=y at *
   go_wp2_with fail
   refine (Calls.mono (add_any w.heap.size _ N y _ (HO.out.below (below_alloc (Below.refl _ _) _)) (Nat.le_trans HB.out.size (by simp)) HN.out (by omega)) ?_);rintro e w4 ⟨v4,rfl,ho3,hw3⟩
   have hb3:Below w.heap.size w w4:=below_wrote (below_alloc HB.out _) (HO.out.below (below_alloc (Below.refl _ _) _)) hw3 (Nat.le_refl _) (Nat.le_trans HB.out.size (by simp))
   go_wp2_with fail
   go_roundw
   case rel=>exact ⟨k+1,by go_num,by omega,hb3,by rw [HF.out];exact ho3⟩
   case measure=>simp [intOf];omega
  ·obtain rfl:k=L.length:=by omega
   have HO2:=HO.out
   rw [List.take_length] at HO2
   go_wp2_with fail
   refine (Calls.mono (clip_og HO2) ?_);rintro e w4 ⟨⟨v4,rfl,ho3⟩,rfl⟩
   go_wp2_with fail
   go_ret
   exact ⟨_,rfl,ho3,HB.out⟩
theorem pjoin_sl {v u:Value} {L M:List It} {w:World} (h:Sl w v L) (k:Sl w u M) (hn:L.length≤274877906944) (hm:M.length≤274877906944):Calls Tryz.prog 69 #[v,u] w (RetOf (joinL L M) w):=by
 obtain ⟨A,c,rfl,hM,h1,h2⟩:=k
 cases hs:stateB L
 ·have e:joinL L M=M.foldl addL (ofL L):=by unfold joinL;rw [hs];rfl
  rw [e]
  exact pjoin_not v L A c M w h hM hs hn hm
 ·rw [joinL_of (stateB_iff.1 hs)]
  exact pjoin_state v L A c M w h hM (stateB_iff.1 hs) hn hm
end Go.Proofs.YtgmkckjedngkdaaGreatDoor
namespace Go.Proofs.YtgmkckjedngkdaaGreatDoor
open Go.ChangeShapes Go.WideShapes Go.ChangeAt Go.RowKit
theorem put6m {w:World} {g:Nat} {a0 a1 a2 a3 a4 a5:Value} {t:TypeId} (v0 v1 v2 v3 v4 v5:Value) (h:w.heap[g]? = some (.cells #[a0,a1,a2,a3,a4,a5] t (0,0))) :
 ((((((w.setCell ⟨g,0,none⟩ v0).setCell ⟨g,1,none⟩ v1).setCell ⟨g,2,none⟩ v2).setCell ⟨g,3,none⟩ v3).setCell ⟨g,4,none⟩ v4).setCell ⟨g,5,none⟩ v5).heap[g]? = some (.cells #[v0,v1,v2,v3,v4,v5] t (0,0)):=by
 simp [World.setCell,Array.getElem?_modify,h]
set_option maxRecDepth 100000 in
set_option maxHeartbeats 1600000 in
theorem mcopy_any (m:Mg) (w:World) (hm:m.rd w) (hl:m.L.length≤1099511627776) :
 Calls Tryz.prog 235 #[m.val] w fun e w'=>∃ A' c',e=.returned (Mg.val { m with A:=A',c:=c' })∧Ow w.heap.size w' (.slice A' m.L.length c') m.L∧Below w.heap.size w w':=by
 obtain ⟨k,f,t,id,n,A,c,L⟩:=m
 obtain ⟨hI,hc1,hc2⟩:=hm
 simp only at hI hc1 hc2 hl
 have hb:=below_alloc (below_alloc (Below.refl w.heap.size w) (.cells #[.int .i64 k,.int .i64 f,.int .i64 t,.int .u64 id,.int .u64 n,.slice A L.length c] 33)) (.cells #[.int .i64 0,.int .i64 0,.int .i64 0,.int .u64 0,.int .u64 0,.slice none 0 0] 33)
 have hg0:=heap_alloc_new w (.cells #[.int .i64 k,.int .i64 f,.int .i64 t,.int .u64 id,.int .u64 n,.slice A L.length c] 33)
 have hg1:=(Below.heap_alloc (w.alloc (.cells #[.int .i64 k,.int .i64 f,.int .i64 t,.int .u64 id,.int .u64 n,.slice A L.length c] 33)) (.cells #[.int .i64 0,.int .i64 0,.int .i64 0,.int .u64 0,.int .u64 0,.slice none 0 0] 33) w.heap.size (by simp)).trans hg0
 have hg2:=heap_alloc_new (w.alloc (.cells #[.int .i64 k,.int .i64 f,.int .i64 t,.int .u64 id,.int .u64 n,.slice A L.length c] 33)) (.cells #[.int .i64 0,.int .i64 0,.int .i64 0,.int .u64 0,.int .u64 0,.slice none 0 0] 33)
 rw [show (w.alloc (.cells #[.int .i64 k,.int .i64 f,.int .i64 t,.int .u64 id,.int .u64 n,.slice A L.length c] 33)).heap.size=w.heap.size+1 by simp] at hg2
 obtain ⟨wx,hwx⟩:∃ wx,(w.alloc (.cells #[.int .i64 k,.int .i64 f,.int .i64 t,.int .u64 id,.int .u64 n,.slice A L.length c] 33)).alloc (.cells #[.int .i64 0,.int .i64 0,.int .i64 0,.int .u64 0,.int .u64 0,.slice none 0 0] 33)=wx:=⟨_,rfl⟩
 rw [hwx] at hb hg1 hg2
 have hbs:=hb.size
 have HL:=hide (hI.below hb)
 have HB:=hide hb
 have HG1:=hide hg1
 have HG2:=hide hg2
 obtain ⟨x0,x1,x2,x3,x4,x5⟩:=six_cells hg1
 have xl:=(Array.getElem?_eq_some_iff.1 hg1).1
 clear hI hb hg0 hg1 hg2
 go_enter Tryz.func235,Tryz.ntmps235
 go_upto_region 1 with fail
 try rw [hwx]
 clear hwx
 go_wp2_with (at_builtin;refine wpList_append_items rfl (.const (.slice none 0 0)) (.tmp 4) rfl w.heap.size wx.heap.size w wx (.slice none 0 0) [] A L.length c L rfl rfl rfl HL.out (Ow.nil_ _ _) HB.out hbs (Nat.le_refl _) (by simp only [List.length_nil];omega) ?_;intro v1 w1 ho1 hb1 hgr1;obtain ⟨A1,c1,rfl,hr1,hlo1,hc3,hc4⟩:=OwnL.row It.cells_len ho1;have HO1:=hide ho1;have hk1:=(hgr1.block w.heap.size xl (by simp [Value.ownBlock])).trans HG1.out;have hk2:=(hgr1.block (w.heap.size+1) (Array.getElem?_eq_some_iff.1 HG2.out).1 (by simp [Value.ownBlock])).trans HG2.out;have HK1:=hide hk1;have HK2:=hide hk2;have HB1:=hide hb1;have HGR:=hide hgr1.size;obtain ⟨y0,y1,y2,y3,y4,y5⟩:=six_cells hk1;obtain ⟨z0,z1,z2,z3,z4,z5⟩:=six_cells hk2;have yf:∀ o,w1.frozen? ⟨w.heap.size,o,none⟩=false:=(fun o=>by simp [World.frozen?,hk1]);have zf:∀ o,w1.frozen? ⟨w.heap.size+1,o,none⟩=false:=(fun o=>by simp [World.frozen?,hk2]);clear ho1 hb1 hgr1 hk1 hk2 hr1 hlo1 x0 x1 x2 x3 x4 x5)
 have hm1:((((((w1.setCell ⟨w.heap.size,5,none⟩ (.slice A1 L.length c1)).setCell ⟨w.heap.size+1,0,none⟩ (.int .i64 k)).setCell ⟨w.heap.size+1,1,none⟩ (.int .i64 f)).setCell ⟨w.heap.size+1,2,none⟩ (.int .i64 t)).setCell ⟨w.heap.size+1,3,none⟩ (.int .u64 id)).setCell ⟨w.heap.size+1,4,none⟩ (.int .u64 n)).setCell ⟨w.heap.size+1,5,none⟩ (.slice A1 L.length c1) |>.heap[w.heap.size+1]? = some (.cells #[.int .i64 k,.int .i64 f,.int .i64 t,.int .u64 id,.int .u64 n,.slice A1 L.length c1] 33 (0,0)) :=
  put6m _ _ _ _ _ _ ((Below.heap_setCell w1 ⟨w.heap.size,5,none⟩ (.slice A1 L.length c1) (w.heap.size+1) (by simp)).trans HK2.out)
 obtain ⟨r0,r1,r2,r3,r4,r5⟩:=six_cells hm1
 have hne:∀ j,j≤w.heap.size+1→(Value.slice A1 L.length c1).ownBlock ≠ some j:=fun j hj e=>by
  have h1:=(OwnL.lt HO1.out _ e).1
  have h2:=(Array.getElem?_eq_some_iff.1 HG2.out).1
  omega
 have hof:=(((((((OwnL.setFar HO1.out (hne w.heap.size (by omega)) (o:=5) (.slice A1 L.length c1)).setFar (hne (w.heap.size+1) (by omega)) (o:=0) (.int .i64 k)).setFar (hne (w.heap.size+1) (by omega)) (o:=1) (.int .i64 f)).setFar (hne (w.heap.size+1) (by omega)) (o:=2) (.int .i64 t)).setFar (hne (w.heap.size+1) (by omega)) (o:=3) (.int .u64 id)).setFar (hne (w.heap.size+1) (by omega)) (o:=4) (.int .u64 n)).setFar (hne (w.heap.size+1) (by omega)) (o:=5) (.slice A1 L.length c1)).base_ hbs
 have hbf:=((((((HB1.out.setCell (p:=⟨w.heap.size,5,none⟩) (Nat.le_refl _) (.slice A1 L.length c1)).setCell (p:=⟨w.heap.size+1,0,none⟩) (Nat.le_succ _) (.int .i64 k)).setCell (p:=⟨w.heap.size+1,1,none⟩) (Nat.le_succ _) (.int .i64 f)).setCell (p:=⟨w.heap.size+1,2,none⟩) (Nat.le_succ _) (.int .i64 t)).setCell (p:=⟨w.heap.size+1,3,none⟩) (Nat.le_succ _) (.int .u64 id)).setCell (p:=⟨w.heap.size+1,4,none⟩) (Nat.le_succ _) (.int .u64 n)).setCell (p:=⟨w.heap.size+1,5,none⟩) (Nat.le_succ _) (.slice A1 L.length c1)
 refine bodyPost_ret (v:=Mg.val ⟨k,f,t,id,n,A1,c1,L⟩) (by simp [results,Tryz.results235,go_sem,r0,r1,r2,r3,r4,r5]) rfl ?_
 exact ⟨A1,c1,rfl,hof,hbf⟩
end Go.Proofs.YtgmkckjedngkdaaGreatDoor
