/- A part of the proof that TopQuotaLaw holds: XTBytes, XZDsk. Conditions: as typed. -/
import Derived.Test.YtgmkckjedngkdaaGreatDoorTq02
import Derived.Test.YtgmkckjedngkdaaGreatDoorTq05
import Derived.Test.YtgmkckjedngkdaaGreatDoorTq10
import Derived.Maps.OwnSet
import Derived.Maps.RangeWalk
set_option linter.unusedVariables false
set_option linter.unusedSimpArgs false
namespace Go.Proofs.YtgmkckjedngkdaaGreatDoor
open Go.ChangeShapes Go.WideShapes Go.ChangeAt Go.RowKit
theorem signT_bd (x:Int):0≤signT x∧signT x < 18446744073709551616:=by
 unfold signT bits
 simp only [IntKind.wrap,IntKind.bits,IntKind.signed]
 simp
 omega
def triT (x:It) (j:Nat):List Int:=if j=0 then [] else if j=1 then putT x.t else if j=2 then putT x.t ++ putT x.v else putT x.t ++ putT x.v ++ putT (signT x.x)
def itemT (x:It):List Int:=[x.s % 256,x.k % 256] ++ triT x 3
def rowT (L:List It):List Int:=L.flatMap itemT
def itemsT (L:List It):List Int:=putT L.length ++ rowT L
theorem rowT_snoc (L:List It) (x:It):rowT (L ++ [x])=rowT L ++ itemT x:=by simp [rowT]
theorem putT_len (n:Int):(putT n).length≤11:=putAuxT_len 11 n
theorem triT_len (x:It) (j:Nat):(triT x j).length≤33:=by
 have h1:=putT_len x.t
 have h2:=putT_len x.v
 have h3:=putT_len (signT x.x)
 unfold triT
 split
 · simp
 split
 · omega
 split
 · rw [List.length_append];omega
 · rw [List.length_append,List.length_append];omega
theorem itemT_len (x:It):(itemT x).length≤35:=by
 unfold itemT
 have:=triT_len x 3
 rw [List.length_append]
 simp only [List.length_cons,List.length_nil]
 omega
theorem rowT_len:∀ (L:List It),(rowT L).length≤35 * L.length
 | []=>by simp [rowT]
 | x :: L=>by
   have h1:=rowT_len L
   have h2:=itemT_len x
   show (itemT x ++ rowT L).length≤_
   rw [List.length_append,List.length_cons]
   omega
theorem putAuxT_b:∀ (f:Nat) (n:Int),0≤n→∀ b ∈ putAuxT f n,isB b
 | 0,_,_=>fun b hb=>by simp [putAuxT] at hb
 | f+1,n,hn=>fun b hb=>by
   rw [putAuxT] at hb
   split at hb
   · rw [List.mem_singleton] at hb
     subst hb
     unfold isB
     omega
   · rcases List.mem_cons.1 hb with rfl | h
     · unfold isB bits
       simp only [IntKind.wrap,IntKind.bits,IntKind.signed]
       simp
       omega
     · exact putAuxT_b f (n / 128) (by omega) b h
theorem putT_b {n:Int} (hn:0≤n):∀ b ∈ putT n,isB b:=putAuxT_b 11 n hn
theorem itemT_b {x:It} (hx:x.wf):∀ b ∈ itemT x,isB b:=by
 intro b hb
 unfold itemT triT at hb
 simp only [Nat.reduceEqDiff,if_false] at hb
 simp only [List.mem_append,List.mem_cons,List.not_mem_nil,or_false] at hb
 unfold It.wf at hx
 rcases hb with h | (h | h) | h
 · unfold isB;omega
 · exact putT_b (by omega) b h
 · exact putT_b (by omega) b h
 · exact putT_b (signT_bd x.x).1 b h
theorem itemsT_b {L:List It} (hL:∀ x ∈ L,x.wf):∀ b ∈ itemsT L,isB b:=by
 intro b hb
 unfold itemsT rowT at hb
 rcases List.mem_append.1 hb with h | h
 · exact putT_b (by omega) b h
 · obtain ⟨x,hx,hb⟩:=List.mem_flatMap.1 h
   exact itemT_b (hL x hx) b hb
theorem it_cells5 {w:World} {g:Nat} {x:It} {t:TypeId} {fr:Nat × Nat} (h:w.heap[g]? = some (.cells #[.int .i64 x.s,.int .i64 x.k,.int .u64 x.t,.int .u64 x.v,.int .i64 x.x] t fr)):w.cell? ⟨g,0,none⟩=some (.int .i64 x.s)∧w.cell? ⟨g,1,none⟩=some (.int .i64 x.k)∧w.cell? ⟨g,2,none⟩=some (.int .u64 x.t)∧w.cell? ⟨g,3,none⟩=some (.int .u64 x.v)∧w.cell? ⟨g,4,none⟩=some (.int .i64 x.x) :=
 ⟨(cell_of_row w g 0 _ _ _ h).trans rfl,(cell_of_row w g 1 _ _ _ h).trans rfl,(cell_of_row w g 2 _ _ _ h).trans rfl,(cell_of_row w g 3 _ _ _ h).trans rfl,(cell_of_row w g 4 _ _ _ h).trans rfl⟩
theorem own_ne_ty {α:Type} {cells:α→List Value} {sz:Nat} {e e':TypeId} {base:Nat} {w:World} {v:Value} {L:List α} {g:Nat} {a:Array Value} {fr:Nat × Nat} (h:OwnL cells sz e base w v L) (hg:w.heap[g]? = some (.cells a e' fr)) (hne:e ≠ e'):v.ownBlock ≠ some g:=fun he=>by
 rcases h.2 with ⟨rfl,_⟩ | ⟨g',cap,cur,rfl,_,hh,_⟩
 · cases he
 · obtain rfl:=Option.some.inj he
   rw [hh] at hg
   injection hg with h1
   injection h1 with _ h2
   exact hne h2
set_option maxRecDepth 100000 in
set_option maxHeartbeats 3200000 in
theorem bytes_good (A:Option Addr) (c:Nat) (L:List It) (w:World) (hl:L.length≤2000) (hL:ItemsAt w A L) (hW:∀ x ∈ L,x.wf) (hg:L.all goodB=true) :
   Calls Tryz.prog 268 #[.slice none 0 0,.slice A L.length c] w fun e w'=>∃ v,e=.returned (.tuple #[v,.int .i64 0])∧OwnL (one1 u8v) 1 5 w.heap.size w' v (itemsT L)∧Below w.heap.size w w':=by
 have HA:=hide (iall_any A c L w (by omega) hL)
 rw [hg] at HA
 have HR:=hide hL
 have HW:=hide hW
 have hlI:¬ (2000:Int) < (L.length:Int):=by omega
 clear hL hW hg
 have hconv:IntKind.u64.wrap (L.length:Int)=(L.length:Int):=by simp only [IntKind.wrap,IntKind.bits,IntKind.signed];simp;omega
 go_enter Tryz.func268,Tryz.ntmps268
 go_wp2_with fail
 refine (Calls.mono HA.out ?_);rintro e w1 ⟨rfl,hb1⟩
 have HB1:=hide hb1
 clear hb1 HA
 go_wp2_with fail
 try rw [hconv]
 refine (Calls.mono (putT_any none 0 [] (L.length:Int) w1 (by simp) RowAt.nil_ (by omega)) ?_);rintro e w2 ⟨v2,rfl,ho2,hb2⟩
 rw [List.nil_append] at ho2
 have HV2:=hide (OwnL.base_ (base':=w.heap.size) ho2 HB1.out.size)
 have HB2:=hide (below_step HB1.out hb2)
 clear ho2 hb2 HB1 hconv
 go_upto_region 8 with fail
 obtain ⟨n,hn⟩:∃ n,L.length=n:=⟨_,rfl⟩
 rw [hn] at hl hlI ⊢
 have HN:=hide hn
 clear hn
 go_loopw [7,25] (fun v i wr=>∃ k:Nat,k≤n∧i=.int .i64 k∧OwnL (one1 u8v) 1 5 w2.heap.size wr v (rowT (L.take k))∧Below w2.heap.size w2 wr) (fun _ i _=>n - (intOf i).toNat)
 case atStart=>exact ⟨0,by omega,rfl,OwnL.nil_ _ _ _ _ _,Below.refl _ _⟩
 case round =>
   obtain ⟨k,hk,rfl,ho,hb⟩:=hrel
   have HO:=hide ho
   have HB:=hide hb
   have hbs:=hb.size
   clear ho hb
   by_cases hlt:k < n
   · have hkL:k < L.length:=by rw [HN.out];exact hlt
     have hkI:(k:Int) < (n:Int):=by omega
     have hkD:decide ((k:Int) < (n:Int))=true:=decide_eq_true hkI
     obtain ⟨g,off,rfl,hgl,y0,y1,y2,y3,y4⟩:=HR.out.item (below_step HB2.out HB.out) hkL
     have HXS:Hid (rowT (L.take (k+1))=rowT (L.take k) ++ itemT (L[k]'hkL)):=hide (by rw [take_snoc hkL,rowT_snoc])
     have hxw:=HW.out (L[k]'hkL) (List.getElem_mem _)
     have HRL:Hid ((rowT (L.take k)).length≤70000):=hide (by have:=rowT_len (L.take k);have h2:(L.take k).length≤k:=List.length_take_le _ _;omega)
     generalize L[k]'hkL=x at *
     generalize rowT (L.take k)=X at *
     have hsg:=signT_bd x.x
     unfold It.wf at hxw
     have HXW:=hide hxw
     have ht:0≤x.t∧x.t < 18446744073709551616:=by omega
     have hv:0≤x.v∧x.v < 18446744073709551616:=by omega
     have HSG:Hid (∀ W:World,Calls Tryz.prog 319 #[.int .i64 x.x] W fun e w'=>e=.returned (.int .u64 (signT x.x))∧Below W.heap.size W w'):=hide (fun W=>Calls.mono (sign_any x.x W HXW.out.2.2.2.2) (by rintro e w' ⟨rfl,rfl⟩;exact ⟨rfl,Below.refl _ _⟩))
     clear hxw
     have eb:=heap_alloc_new wr (.cells #[.int .i64 x.s,.int .i64 x.k,.int .u64 x.t,.int .u64 x.v,.int .i64 x.x] 54)
     have hba:=below_alloc (Below.refl wr.heap.size wr) (.cells #[.int .i64 x.s,.int .i64 x.k,.int .u64 x.t,.int .u64 x.v,.int .i64 x.x] 54)
     have HNB:=hide (fun q hq=>(OwnL.lt HO.out q hq).2)
     go_upto_region 10 with fail
     obtain ⟨gb,hgb⟩:∃ gb,wr.heap.size=gb:=⟨_,rfl⟩
     obtain ⟨wa,hwa⟩:∃ wa,wr.alloc (.cells #[.int .i64 x.s,.int .i64 x.k,.int .u64 x.t,.int .u64 x.v,.int .i64 x.x] 54)=wa:=⟨_,rfl⟩
     have HOA:=hide (OwnL.below HO.out hba)
     have HBA:=hide (below_step HB.out hba)
     rw [hwa] at eb HOA HBA ⊢
     rw [hgb] at eb HNB ⊢
     have hbas:=HBA.out.size
     obtain ⟨a0,a1,a2,a3,a4⟩:=it_cells5 eb
     have lgb:=(Array.getElem?_eq_some_iff.1 eb).1
     clear y0 y1 y2 y3 y4 hgb hwa hba HO HB hbs hgl
     have eb2:=heap_alloc_new wa (.cells #[.int .u8 (x.s % 256),.int .u8 (x.k % 256)] 5)
     have hba2:=below_alloc (Below.refl wa.heap.size wa) (.cells #[.int .u8 (x.s % 256),.int .u8 (x.k % 256)] 5)
     have HR2:Hid (ValsAt u8v (wa.alloc (.cells #[.int .u8 (x.s % 256),.int .u8 (x.k % 256)] 5)) (some ⟨wa.heap.size,0,none⟩) [x.s % 256,x.k % 256]):=hide (vals_of_block (L:=[x.s % 256,x.k % 256]) eb2)
     have HOB:=hide (OwnL.below HOA.out hba2)
     have HBB:=hide (below_step HBA.out hba2)
     have HBC:=hide hba2
     have HEB:=hide eb
     clear eb2 hba2 eb
     go_upto_region 11 with (at_builtin;refine wpList_append_vals rfl (.tmp 29) (.tmp 36) 173 5 _ 1 rfl Tryz.underlying173 Tryz.infoU8t rfl (fun _=>rfl) (by omega) w2.heap.size _ X rfl HOB.out (some ⟨wa.heap.size,0,none⟩) 2 [x.s % 256,x.k % 256] rfl HR2.out (by have:=HRL.out;simp only [List.length_cons,List.length_nil];omega) HBB.out.size ?_;intro v5 u5 ho5 hg5)
     have HB5:=hide (HBB.out.grown hg5 HBB.out.size (fun q hq=>(OwnL.lt HOB.out q hq).1))
     have HO5:=hide ho5
     have HE5:=hide ((hg5.block gb (Nat.lt_of_lt_of_le lgb HBC.out.size) (fun e=>by have:=HNB.out gb e.symm;omega)).trans ((HBC.out.block gb lgb).trans HEB.out))
     clear a0 a1 a2 a3 a4 lgb HOA HBA HOB HBB HBC HEB HR2 hg5 ho5
     obtain ⟨e0,e1,e2,e3,e4⟩:=it_cells5 HE5.out
     have lg5:=(Array.getElem?_eq_some_iff.1 HE5.out).1
     have HC:Hid (∀ W:World,Below u5.heap.size u5 W→W.cell? ⟨gb,0,none⟩=some (.int .i64 x.s)∧W.cell? ⟨gb,1,none⟩=some (.int .i64 x.k)∧W.cell? ⟨gb,2,none⟩=some (.int .u64 x.t)∧W.cell? ⟨gb,3,none⟩=some (.int .u64 x.v)∧W.cell? ⟨gb,4,none⟩=some (.int .i64 x.x)):=hide (fun W hW=>⟨keep_cell hW e0 lg5,keep_cell hW e1 lg5,keep_cell hW e2 lg5,keep_cell hW e3 lg5,keep_cell hW e4 lg5⟩)
     have HX:Hid (Below u5.heap.size u5 u5.drew):=hide (Below.refl _ _).drew
     clear e0 e1 e2 e3 e4 lg5
     refine j_start [] (by kernel_rfl) ?_
     refine' j_t 0 [] rfl (by kernel_rfl) rfl ?y0 ?r0
     case y0=>(intro w' hw';go_simp;try with_reducible rfl)
     try go_frame
     refine' j_t 1 [] rfl (by kernel_rfl) rfl ?y1 ?r1
     case y1=>(intro w' hw';obtain ⟨i0,i1,i2,i3,i4⟩:=HC.out _ (below_step HX.out hw');go_simp;try with_reducible rfl)
     try go_frame
     refine' j_t 2 [] rfl (by kernel_rfl) rfl ?y2 ?r2
     case y2=>(intro w' hw';go_simp;try with_reducible rfl)
     try go_frame
     refine' j_t 3 [] rfl (by kernel_rfl) rfl ?y3 ?r3
     case y3=>(intro w' hw';obtain ⟨i0,i1,i2,i3,i4⟩:=HC.out _ (below_step HX.out hw');go_simp;try with_reducible rfl)
     try go_frame
     refine' j_t 4 [] rfl (by kernel_rfl) rfl ?y4 ?r4
     case y4=>(intro w' hw';go_simp;try with_reducible rfl)
     try go_frame
     refine' j_t 5 [] rfl (by kernel_rfl) rfl ?y5 ?r5
     case y5=>(intro w' hw';obtain ⟨i0,i1,i2,i3,i4⟩:=HC.out _ (below_step HX.out hw');go_simp;try with_reducible rfl)
     try go_frame
     refine' j_t 9 [] rfl (by kernel_rfl) rfl ?y9 ?r9
     case y9=>(intro w' hw';go_simp;try with_reducible rfl)
     try go_frame
     refine' j_s 6 (by kernel_rfl) rfl (fun K hK=>?s6)
     go_simp
     refine (Calls.mono (HSG.out _) ?_);rintro e u1 ⟨rfl,gg⟩
     have HX:=hide (below_step HX.out gg)
     refine hK.out _ _ gg (j_switch gg ?_)
     clear hK K gg
     try go_frame
     refine' j_s 7 (by kernel_rfl) rfl (fun K hK=>?s7)
     go_simp
     have hal:=below_alloc (Below.refl u1.heap.size u1) (.cells #[.int .u64 x.t,.int .u64 x.v,.int .u64 (signT x.x)] 29)
     have hz3:=heap_alloc_new u1 (.cells #[.int .u64 x.t,.int .u64 x.v,.int .u64 (signT x.x)] 29)
     have HX:=hide (below_step HX.out hal)
     obtain ⟨g3,hg3⟩:∃ g3,u1.heap.size=g3:=⟨_,rfl⟩
     obtain ⟨u3,hu3⟩:∃ u3,u1.alloc (.cells #[.int .u64 x.t,.int .u64 x.v,.int .u64 (signT x.x)] 29)=u3:=⟨_,rfl⟩
     refine hK.out _ _ hal (j_switch hal ?_)
     clear hK K
     rw [hu3,hg3] at hz3
     rw [hu3] at HX
     try rw [hu3]
     try rw [hg3]
     have HZ3:=hide hz3
     clear hz3 hal hu3 hg3
     try go_frame
     refine' j_t 8 [] rfl (by kernel_rfl) rfl ?y8 ?r8
     case y8=>(intro w' hw';go_simp;try with_reducible rfl)
     try go_frame
     refine wpAnyJ_done (by kernel_rfl) ?_ _
     refine NoPanic.normal ?_
     go_upto_region 12 with fail
     have HOI:=hide (OwnL.below HO5.out HX.out)
     have HBI:=hide (below_step HB5.out HX.out)
     obtain ⟨ui,rfl⟩:∃ ui,ui=u3:=⟨_,rfl⟩
     have hls:(X ++ [x.s % 256,x.k % 256]).length≤80000:=by have:=HRL.out;rw [List.length_append];simp only [List.length_cons,List.length_nil];omega
     have HIT:Hid (X ++ [x.s % 256,x.k % 256] ++ triT x 3=X ++ itemT x):=hide (by unfold itemT;rw [List.append_assoc])
     generalize X ++ [x.s % 256,x.k % 256]=Y at *
     go_loopw [7,47] (fun v i wr=>∃ j:Nat,j≤3∧i=.int .i64 j∧OwnL (one1 u8v) 1 5 w2.heap.size wr v (Y ++ triT x j)∧wr.heap[g3]? = some (.cells #[.int .u64 x.t,.int .u64 x.v,.int .u64 (signT x.x)] 29 (0,0))∧Below w2.heap.size w2 wr) (fun _ i _=>3 - (intOf i).toNat)
     case atStart=>exact ⟨0,by omega,rfl,by rw [show triT x 0=[] from rfl,List.append_nil];exact HOI.out,HZ3.out,HBI.out⟩
     case round =>
       obtain ⟨j,hj,rfl,ho2,hz,hb2⟩:=hrel
       clear HOI
       have HO:=hide ho2
       have HBJ:=hide hb2
       have HZJ:=hide hz
       clear ho2
       by_cases hj3:j < 3
       · have hjI:(j:Int) < 3:=by omega
         obtain ⟨q,hq0,hq1,hc,HN3⟩:∃ q:Int,0≤q∧q < 18446744073709551616∧wr.cell? ⟨g3,j,none⟩=some (.int .u64 q)∧Hid (triT x (j+1)=triT x j ++ putT q):=by
           have h2:j=0 ∨ j=1 ∨ j=2:=by omega
           rcases h2 with rfl | rfl | rfl
           · exact ⟨x.t,ht.1,ht.2,(cell_of_row wr _ 0 _ _ _ hz).trans rfl,hide rfl⟩
           · exact ⟨x.v,hv.1,hv.2,(cell_of_row wr _ 1 _ _ _ hz).trans rfl,hide rfl⟩
           · exact ⟨signT x.x,hsg.1,hsg.2,(cell_of_row wr _ 2 _ _ _ hz).trans rfl,hide rfl⟩
         have hj33:=triT_len x j
         have HJL:Hid ((Y ++ triT x j).length≤90000):=hide (by rw [List.length_append];omega)
         obtain ⟨Z,hZ⟩:∃ Z,Y ++ triT x j=Z:=⟨_,rfl⟩
         have HZY:=hide hZ
         rw [hZ] at HO HJL
         clear hZ
         clear hb2 hj33 hz
         obtain ⟨wc,rfl⟩:∃ wc,wc=wr:=⟨_,rfl⟩
         go_wp2_with fail
         refine (Calls.mono (putT_any none 0 [] q wc (by simp) RowAt.nil_ ⟨hq0,hq1⟩) ?_);rintro e w6 ⟨v6,rfl,ho6,hb6⟩
         rw [List.nil_append] at ho6
         obtain ⟨A6,c6,rfl,hr6,_,_⟩:=OwnL.vals ho6
         have HR6:=hide hr6
         have HO6:=hide (OwnL.below HO.out hb6)
         have HB6:=hide hb6
         have HW6:=hide (below_step HBJ.out hb6)
         have HZ6:=hide ((hb6.block _ (Array.getElem?_eq_some_iff.1 HZJ.out).1).trans HZJ.out)
         have hpl:=putT_len q
         clear ho6 hr6 hb6 hc
         go_wp2_with (at_builtin;refine wpList_append_vals rfl (.tmp 51) (.tmp 53) 173 5 _ 1 rfl Tryz.underlying173 Tryz.infoU8t rfl (fun _=>rfl) (by omega) w2.heap.size _ Z rfl HO6.out A6 c6 (putT q) rfl HR6.out (by have:=HJL.out;omega) HW6.out.size ?_;intro v7 w7 ho7 hg7)
         have HO7:=hide ho7
         have HB7:=hide (HW6.out.grown hg7 HW6.out.size (fun q hq=>(OwnL.lt HO6.out q hq).1))
         have HZ7:=hide ((hg7.block _ (Array.getElem?_eq_some_iff.1 HZ6.out).1 (fun e=>own_ne_ty HO6.out HZ6.out (by decide) e.symm)).trans HZ6.out)
         have HOO:Hid (OwnL (one1 u8v) 1 5 w2.heap.size w7 v7 (Y ++ triT x (j+1))):=hide (by
           rw [HN3.out,← List.append_assoc,HZY.out]
           exact HO7.out)
         clear ho7 hg7
         go_wp2_with fail
         go_roundw
         case rel=>exact ⟨j+1,by omega,by go_num,HOO.out,HZ7.out,HB7.out⟩
         case measure=>simp only [intOf];omega
       · obtain rfl:j=3:=by omega
         have HO3:Hid (OwnL (one1 u8v) 1 5 w2.heap.size wr u7 (rowT (L.take (k+1)))):=hide (by rw [HXS.out,← HIT.out];exact HO.out)
         have HBF:=hide HBJ.out
         clear hb2 hz
         go_wp2_with fail
         go_roundw
         case rel=>exact ⟨k+1,by omega,by go_num,HO3.out,HBF.out⟩
         case measure=>simp only [intOf];omega
   · obtain rfl:k=n:=by omega
     have hkI:¬ (k:Int) < (k:Int):=by omega
     have htk:L.take k=L:=List.take_of_length_le (by rw [HN.out];exact Nat.le_refl _)
     rw [htk] at HO
     obtain ⟨A7,c7,rfl,hr7,_,_⟩:=OwnL.vals HO.out
     have HR7:=hide hr7
     have HV:=hide (OwnL.below HV2.out HB.out)
     have HBF:=hide (below_step HB2.out HB.out)
     have hpl:=putT_len (L.length:Int)
     have HRL:Hid ((rowT L).length≤70000):=hide (by have:=rowT_len L;rw [HN.out] at this;omega)
     clear hr7 htk
     go_wp2_with (at_builtin;refine wpList_append_vals rfl (.tmp 57) (.tmp 58) 173 5 _ 1 rfl Tryz.underlying173 Tryz.infoU8t rfl (fun _=>rfl) (by omega) w.heap.size _ (putT (L.length:Int)) rfl HV.out A7 c7 (rowT L) rfl HR7.out (by have:=HRL.out;omega) HBF.out.size ?_;intro v8 w8 ho8 hg8)
     have HB8:=hide (HBF.out.grown hg8 HBF.out.size (fun q hq=>(OwnL.lt HV.out q hq).1))
     refine bodyPost_ret (v:=.tuple #[v8,.int .i64 0]) (by simp [results,Tryz.results268]) rfl ⟨v8,rfl,?_,HB8.out⟩
     exact ho8
end Go.Proofs.YtgmkckjedngkdaaGreatDoor
namespace Go.Proofs.YtgmkckjedngkdaaGreatDoor
open Go.ChangeShapes Go.WideShapes Go.ChangeAt Go.RowKit
abbrev ptv (g:Nat):Value:=.pointer (some ⟨g,0,none⟩)
structure Tn where
 k:Int
 f:Int
 a:ByteArray
 b:ByteArray
def Tn.cells (t:Tn):List Value:=[.int .i64 t.k,.int .i64 t.f,.string t.a,.string t.b]
theorem Tn.len (t:Tn):t.cells.length=4:=rfl
structure Fz where
 g:Nat
 v:Value
 L:List Int
 last:Nat
structure Dk where
 q:Int
 Z:List Fz
 D:DataW Unit
 dead:Bool
 stop:Int
 tn:Nat
 calm:Bool
structure Dh where
 vf:Value
 vt:Value
 bn:Nat
 bl:Nat
 DL:DataW Unit
 T:List Tn
 calls:Int
structure FzAt (w:World) (base:Nat) (z:Fz):Prop where
 box:w.heap[z.g]? = some (.cells #[z.v,.int .i64 z.last] 175 (0,0))
 own:OwnL (one1 u8v) 1 5 base w z.v z.L
 low:base≤z.g
 few:z.L.length≤250000
 last:z.last≤z.L.length
abbrev NamesAt (w:World) (b n:Nat) (D:DataW Unit):Prop:=w.ownsMap Tryz.prog 9 (plainElem Tryz.prog 3) b n D
def dkL (K:Dk) (h:Dh):List Value:=[.int .i64 K.q,h.vf,.map (some h.bn),.map (some h.bl),h.vt,.int .i64 h.calls,.bool K.dead,.int .i64 K.stop,.int .i64 0]
def Led (D:DataW Unit) (n:Nat):Prop:=∀ (kl:Lit) (y:DataW Unit),(∀ z,D.atKey kl z=y)→∃ i:Nat,i < n∧y=.lit (.int .i64 i)
def FzFar (x y:Fz):Prop:=x.g ≠ y.g∧∀ g,x.v.ownBlock=some g→y.v.ownBlock ≠ some g
structure DiskV (w:World) (base p:Nat) (X:Nat→Prop) (K:Dk) (h:Dh):Prop where
 box:w.heap[p]? = some (.cells (dkL K h).toArray 70 (0,0))
 low:base≤p
 names:NamesAt w h.bn (Maps.size K.D) K.D
 lasted:NamesAt w h.bl (Maps.size h.DL) h.DL
 two:h.bn ≠ h.bl
 files:OwnL (one1 ptv) 1 172 base w h.vf (K.Z.map Fz.g)
 turns:OwnL Tn.cells 4 177 base w h.vt h.T
 each:∀ z ∈ K.Z,FzAt w base z
 far:∀ i j (hi:i < K.Z.length) (hj:j < K.Z.length),i ≠ j→FzFar (K.Z[i]'hi) (K.Z[j]'hj)
 inX:X p∧X h.bn∧X h.bl∧(∀ g,h.vf.ownBlock=some g→X g)∧(∀ g,h.vt.ownBlock=some g→X g)∧∀ z ∈ K.Z,X z.g∧∀ g,z.v.ownBlock=some g→X g
 bd:∀ g,X g→base≤g∧g < w.heap.size
 few:K.Z.length≤1000∧h.T.length≤K.tn∧K.tn≤1000000
 led:Led K.D K.Z.length
 stop0:0≤K.stop∧K.stop≤9223372036854775807
 quota:0≤K.q∧K.q≤9223372036854775807
 calm_:K.calm=true→h.T=[]∧h.DL=K.D
def DiskO (w:World) (base p:Nat) (X:Nat→Prop) (K:Dk):Prop:=∃ h,DiskV w base p X K h
theorem NamesAt.sets {w w':World} {S:Nat→Prop} {b n:Nat} {D:DataW Unit} (h:NamesAt w b n D) (k:Sets S w w') (hS:¬ S b):NamesAt w' b n D:=by
 have hlt:=h.lt
 obtain ⟨es,clock,hb,h2⟩:=h
 exact ⟨es,clock,(k.block b hlt hS).trans hb,h2⟩
theorem FzAt.sets {w w':World} {S:Nat→Prop} {base:Nat} {z:Fz} (h:FzAt w base z) (k:Sets S w w') (hS:¬ S z.g) (hV:∀ g,z.v.ownBlock=some g→¬ S g):FzAt w' base z :=
 ⟨(k.block z.g (Array.getElem?_eq_some_iff.1 h.box).1 hS).trans h.box,h.own.sets k hV,h.low,h.few,h.last⟩
theorem sets1 (w:World) (p o:Nat) (v:Value):Sets (fun g=>g=p) w (w.setCell ⟨p,o,none⟩ v):=(Sets.refl (S:=fun g=>g=p) w).set (fun _=>rfl) o v
theorem DiskV.sets {w w':World} {S X:Nat→Prop} {base p:Nat} {K:Dk} {h:Dh} (H:DiskV w base p X K h) (k:Sets S w w') (hS:∀ g,X g→¬ S g):DiskV w' base p X K h where
 box:=(k.block p (H.bd p H.inX.1).2 (hS p H.inX.1)).trans H.box
 low:=H.low
 names:=H.names.sets k (hS _ H.inX.2.1)
 lasted:=H.lasted.sets k (hS _ H.inX.2.2.1)
 two:=H.two
 files:=H.files.sets k (fun g hg=>hS g (H.inX.2.2.2.1 g hg))
 turns:=H.turns.sets k (fun g hg=>hS g (H.inX.2.2.2.2.1 g hg))
 each:=fun z hz=>(H.each z hz).sets k (hS _ (H.inX.2.2.2.2.2 z hz).1) (fun g hg=>hS g ((H.inX.2.2.2.2.2 z hz).2 g hg))
 far:=H.far
 inX:=H.inX
 bd:=fun g hg=>⟨(H.bd g hg).1,Nat.lt_of_lt_of_le (H.bd g hg).2 k.size⟩
 few:=H.few
 led:=H.led
 stop0:=H.stop0
 quota:=H.quota
 calm_:=H.calm_
theorem DiskV.below {w w':World} {X:Nat→Prop} {base p:Nat} {K:Dk} {h:Dh} (H:DiskV w base p X K h) (hb:Below w.heap.size w w'):DiskV w' base p X K h:=H.sets (S:=fun _=>False) (Sets.of hb) (fun _ _=>id)
theorem DiskV.wide {w:World} {X Y:Nat→Prop} {base p:Nat} {K:Dk} {h:Dh} (H:DiskV w base p X K h) (hX:∀ g,X g→Y g) (hY:∀ g,Y g→base≤g∧g < w.heap.size):DiskV w base p Y K h :=
 { H with
   inX:=⟨hX _ H.inX.1,hX _ H.inX.2.1,hX _ H.inX.2.2.1,fun g hg=>hX g (H.inX.2.2.2.1 g hg),fun g hg=>hX g (H.inX.2.2.2.2.1 g hg),fun z hz=>⟨hX _ (H.inX.2.2.2.2.2 z hz).1,fun g hg=>hX g ((H.inX.2.2.2.2.2 z hz).2 g hg)⟩⟩
   bd:=hY }
theorem DiskO.sets {w w':World} {S X:Nat→Prop} {base p:Nat} {K:Dk} (H:DiskO w base p X K) (k:Sets S w w') (hS:∀ g,X g→¬ S g):DiskO w' base p X K:=let ⟨h,H⟩:=H;⟨h,H.sets k hS⟩
theorem DiskO.below {w w':World} {X:Nat→Prop} {base p:Nat} {K:Dk} (H:DiskO w base p X K) (hb:Below w.heap.size w w'):DiskO w' base p X K:=let ⟨h,H⟩:=H;⟨h,H.below hb⟩
theorem DiskO.wide {w:World} {X Y:Nat→Prop} {base p:Nat} {K:Dk} (H:DiskO w base p X K) (hX:∀ g,X g→Y g) (hY:∀ g,Y g→base≤g∧g < w.heap.size):DiskO w base p Y K:=let ⟨h,H⟩:=H;⟨h,H.wide hX hY⟩
theorem DiskO.bd {w:World} {X:Nat→Prop} {base p:Nat} {K:Dk} (H:DiskO w base p X K):∀ g,X g→base≤g∧g < w.heap.size:=let ⟨_,H⟩:=H;H.bd
theorem DiskO.at_ {w:World} {X:Nat→Prop} {base p:Nat} {K:Dk} (H:DiskO w base p X K):X p:=let ⟨_,H⟩:=H;H.inX.1
theorem not_map {w:World} {b:Nat} {c:Array Value} {t:TypeId} {fr:Nat × Nat} {n:Nat} {D:DataW Unit} (h:w.heap[b]? = some (.cells c t fr)) {m:Nat} (k:NamesAt w m n D):m ≠ b:=by
 rintro rfl
 obtain ⟨es,clock,hb,_⟩:=k
 rw [h] at hb
 cases hb
theorem own_not_map {α:Type} {cells:α→List Value} {sz:Nat} {e:TypeId} {base:Nat} {w:World} {v:Value} {L:List α} (h:OwnL cells sz e base w v L) {m n:Nat} {D:DataW Unit} (k:NamesAt w m n D):v.ownBlock ≠ some m:=by
 intro hv
 obtain ⟨_,h1⟩:=h
 rcases h1 with ⟨rfl,_⟩ | ⟨g,cap,cur,rfl,h2,h3,h4⟩
 · cases hv
 · cases hv
   exact not_map h3 k rfl
theorem own_ne_box {α:Type} {cells:α→List Value} {sz:Nat} {e:TypeId} {base:Nat} {w:World} {v:Value} {L:List α} (h:OwnL cells sz e base w v L) {b:Nat} {c:Array Value} {t:TypeId} {fr:Nat × Nat} (k:w.heap[b]? = some (.cells c t fr)) (ht:e ≠ t):v.ownBlock ≠ some b:=by
 intro hv
 obtain ⟨_,h1⟩:=h
 rcases h1 with ⟨rfl,_⟩ | ⟨g,cap,cur,rfl,h2,h3,h4⟩
 · cases hv
 · cases hv
   rw [k] at h3
   cases h3
   exact ht rfl
theorem own_ne_own {α β:Type} {cells:α→List Value} {cells':β→List Value} {sz sz':Nat} {e e':TypeId} {base base':Nat} {w:World} {v v':Value} {L:List α} {L':List β} (h:OwnL cells sz e base w v L) (k:OwnL cells' sz' e' base' w v' L') (ht:e ≠ e') {g:Nat} (hg:v.ownBlock=some g):v'.ownBlock ≠ some g:=by
 intro hv
 obtain ⟨_,h1⟩:=h
 rcases h1 with ⟨rfl,_⟩ | ⟨g1,cap,cur,rfl,h2,h3,h4⟩
 · cases hg
 · cases hg
   exact own_ne_box k h3 (fun e=>ht e.symm) hv
theorem box_ne {w:World} {b b':Nat} {c c':Array Value} {t t':TypeId} {fr fr':Nat × Nat} (h:w.heap[b]? = some (.cells c t fr)) (k:w.heap[b']? = some (.cells c' t' fr')) (ht:t ≠ t'):b ≠ b':=by
 rintro rfl
 rw [h] at k
 injection k with k
 injection k with _ k
 exact ht k
theorem DiskV.boxed {w w':World} {X:Nat→Prop} {base p:Nat} {K K':Dk} {h h':Dh} (H:DiskV w base p X K h) (k:Sets (fun g=>g=p) w w') (hbox:w'.heap[p]? = some (.cells (dkL K' h').toArray 70 (0,0)))
   (e1:K'.Z=K.Z) (e2:K'.D=K.D) (e3:h'.vf=h.vf) (e4:h'.vt=h.vt) (e5:h'.bn=h.bn) (e6:h'.bl=h.bl) (e8:h'.DL=h.DL) (e9:h'.T=h.T) (e10:K'.tn=K.tn) (e11:K'.calm=K.calm) (hs:0≤K'.stop∧K'.stop≤9223372036854775807) (hq:0≤K'.q∧K'.q≤9223372036854775807):DiskV w' base p X K' h' where
 box:=hbox
 low:=H.low
 names:=by rw [e5,e2];exact H.names.sets k (not_map H.box H.names)
 lasted:=by rw [e6,e8];exact H.lasted.sets k (not_map H.box H.lasted)
 two:=by rw [e5,e6];exact H.two
 files:=by rw [e3,e1];exact H.files.sets k (fun g hg e=>own_ne_box H.files H.box (by decide) (e ▸ hg))
 turns:=by rw [e4,e9];exact H.turns.sets k (fun g hg e=>own_ne_box H.turns H.box (by decide) (e ▸ hg))
 each:=by
   rw [e1]
   intro z hz
   refine (H.each z hz).sets k (fun e=>?_) (fun g hg e=>own_ne_box (H.each z hz).own H.box (by decide) (e ▸ hg))
   exact box_ne (H.each z hz).box H.box (by decide) e
 far:=by
   obtain ⟨q,Z,D,dd,st,tn,cm⟩:=K'
   dsimp only at e1
   subst e1
   exact H.far
 inX:=by rw [e1,e3,e4,e5,e6];exact H.inX
 bd:=fun g hg=>⟨(H.bd g hg).1,Nat.lt_of_lt_of_le (H.bd g hg).2 k.size⟩
 few:=by rw [e1,e9,e10];exact H.few
 led:=by rw [e1,e2];exact H.led
 stop0:=hs
 quota:=hq
 calm_:=by rw [e11,e8,e9,e2];exact H.calm_
theorem DiskV.facts {w:World} {X:Nat→Prop} {base p:Nat} {K:Dk} {h:Dh} (H:DiskV w base p X K h):p < w.heap.size∧(w.cell? ⟨p,0,none⟩=some (.int .i64 K.q)∧w.cell? ⟨p,1,none⟩=some h.vf∧w.cell? ⟨p,2,none⟩=some (.map (some h.bn))∧w.cell? ⟨p,3,none⟩=some (.map (some h.bl))∧w.cell? ⟨p,4,none⟩=some h.vt∧w.cell? ⟨p,5,none⟩=some (.int .i64 h.calls)∧w.cell? ⟨p,6,none⟩=some (.bool K.dead)∧w.cell? ⟨p,7,none⟩=some (.int .i64 K.stop)∧w.cell? ⟨p,8,none⟩=some (.int .i64 0))∧∀ o,w.frozen? ⟨p,o,none⟩=false :=
 ⟨(Array.getElem?_eq_some_iff.1 H.box).1,⟨(cell_of_row w p 0 _ _ _ H.box).trans rfl,(cell_of_row w p 1 _ _ _ H.box).trans rfl,(cell_of_row w p 2 _ _ _ H.box).trans rfl,(cell_of_row w p 3 _ _ _ H.box).trans rfl,(cell_of_row w p 4 _ _ _ H.box).trans rfl,(cell_of_row w p 5 _ _ _ H.box).trans rfl,(cell_of_row w p 6 _ _ _ H.box).trans rfl,(cell_of_row w p 7 _ _ _ H.box).trans rfl,(cell_of_row w p 8 _ _ _ H.box).trans rfl⟩,fun o=>by simp [World.frozen?,H.box]⟩
theorem dk_set {w:World} {p:Nat} {l:List Value} (o:Nat) (v:Value) (H:w.heap[p]? = some (.cells l.toArray 70 (0,0))):(w.setCell ⟨p,o,none⟩ v).heap[p]? = some (.cells (l.set o v).toArray 70 (0,0)):=by
 simp [World.setCell,Array.getElem?_modify,H]
def Xw (X:Nat→Prop) (w w':World) (g:Nat):Prop:=X g ∨ (w.heap.size≤g∧g < w'.heap.size)
theorem own_lt {α:Type} {cells:α→List Value} {sz:Nat} {e:TypeId} {base:Nat} {w:World} {v:Value} {L:List α} (h:OwnL cells sz e base w v L):∀ g,v.ownBlock=some g→base≤g∧g < w.heap.size:=OwnL.lt h
theorem DiskV.filed {w w':World} {X:Nat→Prop} {base p:Nat} {K:Dk} {h:Dh} (H:DiskV w base p X K h) {i:Nat} (hi:i < K.Z.length) {z:Fz} (hg:z.g=(K.Z[i]'hi).g) (hz:FzAt w' base z) (hv:∀ g,z.v.ownBlock=some g→(K.Z[i]'hi).v.ownBlock=some g ∨ w.heap.size≤g)
   (k:Sets (fun g=>g=(K.Z[i]'hi).g ∨ (K.Z[i]'hi).v.ownBlock=some g) w w'):DiskV w' base p (Xw X w w') { K with Z:=K.Z.set i z } h where
 box:=by
   refine (k.block p (H.bd p H.inX.1).2 ?_).trans H.box
   rintro (e | e)
   · exact box_ne H.box (H.each _ (List.getElem_mem hi)).box (by decide) e
   · exact own_ne_box (H.each _ (List.getElem_mem hi)).own H.box (by decide) e
 low:=H.low
 names:=H.names.sets k (by
   rintro (e | e)
   · exact not_map (H.each _ (List.getElem_mem hi)).box H.names e
   · exact own_not_map (H.each _ (List.getElem_mem hi)).own H.names e)
 lasted:=H.lasted.sets k (by
   rintro (e | e)
   · exact not_map (H.each _ (List.getElem_mem hi)).box H.lasted e
   · exact own_not_map (H.each _ (List.getElem_mem hi)).own H.lasted e)
 two:=H.two
 files:=by
   have e1:(K.Z.set i z).map Fz.g=K.Z.map Fz.g:=by
     rw [List.map_set,hg]
     apply List.ext_getElem
     · simp
     · intro n h1 h2
       rw [List.getElem_set]
       split
       · rename_i e;subst e;simp
       · rfl
   show OwnL (one1 ptv) 1 172 base w' h.vf ((K.Z.set i z).map Fz.g)
   rw [e1]
   refine H.files.sets k (fun g hf e=>?_)
   rcases e with e | e
   · exact own_ne_box H.files (H.each _ (List.getElem_mem hi)).box (by decide) (e ▸ hf)
   · exact own_ne_own H.files (H.each _ (List.getElem_mem hi)).own (by decide) hf e
 turns:=H.turns.sets k (fun g hf e=>by
   rcases e with e | e
   · exact own_ne_box H.turns (H.each _ (List.getElem_mem hi)).box (by decide) (e ▸ hf)
   · exact own_ne_own H.turns (H.each _ (List.getElem_mem hi)).own (by decide) hf e)
 each:=by
   intro y hy
   obtain ⟨j,hj,rfl⟩:=List.getElem_of_mem hy
   rw [List.getElem_set]
   split
   · exact hz
   · rename_i hne
     have hj':j < K.Z.length:=by simpa using hj
     have hf:=H.far i j hi hj' hne
     refine (H.each _ (List.getElem_mem hj')).sets k (fun e=>?_) (fun g hgv e=>?_)
     · rcases e with e | e
       · exact hf.1 e.symm
       · exact own_ne_box (H.each _ (List.getElem_mem hi)).own (H.each _ (List.getElem_mem hj')).box (by decide) e
     · rcases e with e | e
       · exact own_ne_box (H.each _ (List.getElem_mem hj')).own (H.each _ (List.getElem_mem hi)).box (by decide) (e ▸ hgv)
       · exact hf.2 g e hgv
 far:=by
   have old:∀ j (hj:j < K.Z.length),i ≠ j→FzFar z (K.Z[j]'hj)∧FzFar (K.Z[j]'hj) z:=by
     intro j hj hne
     have h1:=H.far i j hi hj hne
     have hlt:=own_lt (H.each _ (List.getElem_mem hj)).own
     refine ⟨⟨by rw [hg];exact h1.1,fun g e1 e2=>?_⟩,⟨by rw [hg];exact fun e=>h1.1 e.symm,fun g e2 e1=>?_⟩⟩
     · rcases hv g e1 with e3 | e3
       · exact h1.2 g e3 e2
       · have:=hlt g e2;omega
     · rcases hv g e1 with e3 | e3
       · exact h1.2 g e3 e2
       · have:=hlt g e2;omega
   intro a b ha hb hne
   have ha':a < K.Z.length:=by simpa using ha
   have hb':b < K.Z.length:=by simpa using hb
   show FzFar ((K.Z.set i z)[a]'ha) ((K.Z.set i z)[b]'hb)
   rw [List.getElem_set,List.getElem_set]
   split
   · rename_i e
     split
     · rename_i e2;omega
     · rename_i e2;exact (old b hb' e2).1
   · rename_i e
     split
     · exact (old a ha' e).2
     · exact H.far a b ha' hb' hne
 inX:=by
   refine ⟨.inl H.inX.1,.inl H.inX.2.1,.inl H.inX.2.2.1,fun g hg=>.inl (H.inX.2.2.2.1 g hg),fun g hg=>.inl (H.inX.2.2.2.2.1 g hg),fun y hy=>?_⟩
   obtain ⟨j,hj,rfl⟩:=List.getElem_of_mem hy
   have hj':j < K.Z.length:=by simpa using hj
   rw [List.getElem_set]
   split
   · refine ⟨.inl (by rw [hg];exact (H.inX.2.2.2.2.2 _ (List.getElem_mem hi)).1),fun g e=>?_⟩
     rcases hv g e with e2 | e2
     · exact .inl ((H.inX.2.2.2.2.2 _ (List.getElem_mem hi)).2 g e2)
     · exact .inr ⟨e2,(own_lt hz.own g e).2⟩
   · exact ⟨.inl (H.inX.2.2.2.2.2 _ (List.getElem_mem hj')).1,fun g e=>.inl ((H.inX.2.2.2.2.2 _ (List.getElem_mem hj')).2 g e)⟩
 bd:=by
   have hs:=k.size
   have hb:base≤w.heap.size:=by have:=H.bd p H.inX.1;omega
   rintro g (e | e)
   · have:=H.bd g e;omega
   · omega
 few:=by
   show (K.Z.set i z).length≤1000∧_
   rw [List.length_set]
   exact H.few
 led:=by
   show Led K.D (K.Z.set i z).length
   rw [List.length_set]
   exact H.led
 stop0:=H.stop0
 quota:=H.quota
 calm_:=H.calm_
end Go.Proofs.YtgmkckjedngkdaaGreatDoor
