/- A part of the proof that TopMajorityLaw holds: XOne, XIdxI, XBlm, XSets, XZRow. Conditions: as typed. -/
import Derived.Test.YtgmkckjedngkdaaGreatDoorTm02
import Derived.Deep.DeepCutAuto
import Derived.Deep.CutBlock
import Derived.BigRegion
set_option linter.unusedVariables false
set_option linter.unusedSimpArgs false
namespace Go.Proofs.YtgmkckjedngkdaaGreatDoor
open Go.ChangeShapes Go.WideShapes Go.ChangeAt Go.RowKit
abbrev one1 {α:Type} (val:α→Value):α→List Value:=fun a=>[val a]
abbrev ValsAt {α:Type} (val:α→Value) (w:World) (A:Option Addr) (L:List α):Prop:=RowAt (one1 val) 1 w A L
abbrev u8v (b:Int):Value:=.int .u8 b
abbrev u64v (b:Int):Value:=.int .u64 b
theorem wpList_append_one {P:Program} {α:Type} {val:α→Value} {ops:Array Oper} {rest:List Oper} {o:Oper} {a:Act} {Q:Exit→Act→World→Prop} (hgd:o.guard=none) (s x:Operand) (t e:TypeId) (z:Value) (bytes:Nat)
 (ho:o.op=.call { callee:=.builtin .append,args:=#[s,x],argTypes:=#[t,t] })
 (ht:P.underlying t=some (.slice e)) (hinf:(P.info? e).map (fun i=>(i.zero,i.size,i.bytes))=some (some z,1,bytes)) (hzs:z.cells.size=1) (h1:∀ a,(val a).oneCell'=true) (hby:bytes≤16)
 (B base:Nat) (w0 w W:World) (v:Value) (L:List α) (y:α) (hs:a.eval s=v) (hx:a.eval x=.slice (some ⟨w.heap.size,0,none⟩) 1 1) (hW:W=w.alloc (.cells #[val y] e))
 (hown:OwnL (one1 val) 1 e base w v L) (hb:Below B w0 w) (hB:B≤base) (hbase:base≤w.heap.size) (hn:L.length≤2199023255552)
 (h:∀ v' w',OwnL (one1 val) 1 e base w' v' (L ++ [y])→Below B w0 w'→w.grownBy w' v.ownBlock→wpList P ops Q rest (a.put o.dst v') w'):wpList P ops Q (o :: rest) a W:=by
 subst hW
 obtain ⟨i0,hi,hz0,hz1,hz2⟩:=info_parts hinf
 have hbb:(L.length+1) * bytes≤140737488355328:=by
  have:(L.length+1) * bytes≤(L.length+1) * 16:=Nat.mul_le_mul_left _ hby
  omega
 refine wpList_append_row (w.alloc _) hgd s x t ho base e i0 _ 1 bytes ht hi hz0 hz1 hz2 hzs (by omega) (fun _=>rfl) v L hs (OwnL.alloc hown _) (some ⟨w.heap.size,0,none⟩) 1 [y] hx (RowAt.new_one (t:=e) (fr:=(0,0)) (heap_alloc_new w _)) (by simp) (fun m _ u hu=>by simp only [List.mem_singleton] at hu;subst hu;exact h1 m) (by simp only [List.length_singleton,maxLen];omega) (by simpa using hbb) (by simp;omega) ?_
 intro v1 w1 h1 hg _
 refine h v1 w1 h1 ?_ ?_
 ·exact (hb.alloc (Nat.le_trans hB hbase) _).grown hg (by simp;omega) (fun k hk=>Nat.le_trans hB (OwnL.lt hown k hk).1)
 ·exact ⟨hg.os,hg.tape,hg.output,Nat.le_trans (by simp) hg.size,fun k hk hne=>(hg.block k (by simp;omega) hne).trans (Below.heap_alloc w _ k hk)⟩
theorem run_append_vals {P:Program} {α:Type} {val:α→Value} (w:World) (base:Nat) (t ty e:TypeId) (z:Value) (bytes:Nat) (ht:P.underlying t=some (.slice e)) (hinf:(P.info? e).map (fun i=>(i.zero,i.size,i.bytes))=some (some z,1,bytes)) (hzs:z.cells.size=1) (h1:∀ a,(val a).oneCell'=true) (hby:bytes≤16)
 (v:Value) (L:List α) (hown:OwnL (one1 val) 1 e base w v L) (A:Option Addr) (c:Nat) (M:List α) (hr:ValsAt val w A M) (hn:L.length+M.length≤2199023255552) (hbase:base≤w.heap.size) :
 ∃ v' w',(Builtin.append_ #[t,t] ty #[v,.slice A M.length c]).run P w=.ok v' w'∧OwnL (one1 val) 1 e base w' v' (L ++ M)∧w.grownBy w' v.ownBlock∧(v'.ownBlock=v.ownBlock ∨ v'.ownBlock=some w.heap.size):=by
 obtain ⟨i0,hi,hz0,hz1,hz2⟩:=info_parts hinf
 have hbb:(L.length+M.length) * bytes≤140737488355328:=by
  have:(L.length+M.length) * bytes≤(L.length+M.length) * 16:=Nat.mul_le_mul_left _ hby
  omega
 exact run_append_row w base t ty e i0 z 1 bytes ht hi hz0 hz1 hz2 hzs (by omega) (fun _=>rfl) v L hown A c M hr
  (fun hA=>by
   rcases M with _ | ⟨m,M⟩
   ·rfl
   ·obtain ⟨b,off,e1,_⟩:=hr (by simp)
    rw [hA] at e1;cases e1)
  (fun m _ u hu=>by simp only [List.mem_singleton] at hu;subst hu;exact h1 m) (by simp only [maxLen];omega) hbb hbase
theorem wpList_append_vals {P:Program} {α:Type} {val:α→Value} {ops:Array Oper} {rest:List Oper} {o:Oper} {a:Act} {w:World} {Q:Exit→Act→World→Prop} (hgd:o.guard=none) (s x:Operand) (t e:TypeId) (z:Value) (bytes:Nat)
 (ho:o.op=.call { callee:=.builtin .append,args:=#[s,x],argTypes:=#[t,t] })
 (ht:P.underlying t=some (.slice e)) (hinf:(P.info? e).map (fun i=>(i.zero,i.size,i.bytes))=some (some z,1,bytes)) (hzs:z.cells.size=1) (h1:∀ a,(val a).oneCell'=true) (hby:bytes≤16)
 (base:Nat) (v:Value) (L:List α) (hs:a.eval s=v) (hown:OwnL (one1 val) 1 e base w v L) (A:Option Addr) (c:Nat) (M:List α) (hx:a.eval x=.slice A M.length c) (hr:ValsAt val w A M) (hn:L.length+M.length≤2199023255552) (hbase:base≤w.heap.size)
 (h:∀ v' w',OwnL (one1 val) 1 e base w' v' (L ++ M)→w.grownBy w' v.ownBlock→wpList P ops Q rest (a.put o.dst v') w'):wpList P ops Q (o :: rest) a w:=by
 refine wpList_plain hgd fun K hK=>?_
 obtain ⟨v',w',hrun,h2,h3,_⟩:=run_append_vals (P:=P) w base t o.type e z bytes ht hinf hzs h1 hby v L hown A c M hr hn hbase
 unfold Oper.wp execOp
 simp only [ho,resolve,invoke,builtin,Sem.run_bind,Sem.run_pure,Result.andThen_ok,List.map_toArray,List.map_cons,List.map_nil,hs,hx,hrun]
 exact hK _ _ (h v' w' h2 h3)
theorem OwnL.vals {α:Type} {val:α→Value} {e:TypeId} {base:Nat} {w:World} {v:Value} {L:List α} (h:OwnL (one1 val) 1 e base w v L) :
 ∃ A c,v=.slice A L.length c∧ValsAt val w A L∧L.length≤c∧c≤maxLen:=by
 obtain ⟨A,c,e,hr,_,h1,h2⟩:=OwnL.row (cells:=one1 val) (fun _=>rfl) h
 exact ⟨A,c,e,hr,h1,h2⟩
theorem vals_of_block {α:Type} {val:α→Value} {w:World} {g:Nat} {t:TypeId} {fr:Nat × Nat} {L:List α} (h:w.heap[g]? = some (.cells (L.map val).toArray t fr)):ValsAt val w (some ⟨g,0,none⟩) L:=by
 intro _
 refine ⟨g,0,rfl,(Array.getElem?_eq_some_iff.1 h).1,fun k hk j u hu=>?_⟩
 have hj:j=0:=by
  have:=(List.getElem?_eq_some_iff.1 hu).1
  simpa [one1] using this
 subst hj
 have:=cell_of_row w g (0+k * 1+0) _ _ _ h
 rw [this]
 simp only [one1,List.getElem?_cons_zero,Option.some.injEq] at hu
 subst hu
 simp [hk]
theorem take_snoc {α:Type} {L:List α} {k:Nat} (hk:k < L.length):L.take (k+1)=L.take k ++ [L[k]]:=List.take_succ_eq_append_getElem hk
end Go.Proofs.YtgmkckjedngkdaaGreatDoor
namespace Go.Proofs.YtgmkckjedngkdaaGreatDoor
open Go.ChangeShapes Go.WideShapes Go.ChangeAt Go.RowKit
end Go.Proofs.YtgmkckjedngkdaaGreatDoor
namespace Go.Proofs.YtgmkckjedngkdaaGreatDoor
open Go.ChangeShapes Go.WideShapes Go.ChangeAt Go.RowKit
def isB (b:Int):Prop:=0≤b∧b≤255
def hashS (h c:Int):Int:=IntKind.u64.wrap (bits .xor .u64 h c * 1099511628211)
def hashL (L:List Int):Int:=L.foldl hashS 14695981039346656037
theorem hashL_snoc (L:List Int) (c:Int):hashL (L ++ [c])=hashS (hashL L) c:=by simp [hashL]
theorem hashL_bd (L:List Int):0≤hashL L∧hashL L < 18446744073709551616:=by
 rcases List.eq_nil_or_concat L with rfl | ⟨M,c,rfl⟩
 ·decide
 ·rw [List.concat_eq_append,hashL_snoc];unfold hashS;exact ⟨Int.emod_nonneg _ (by decide),Int.emod_lt_of_pos _ (by decide)⟩
set_option maxHeartbeats 400000 in
theorem hash_any (A:Option Addr) (c:Nat) (L:List Int) (w:World) (hl:L.length≤9223372036854775807) (hL:ValsAt u8v w A L) (hB:∀ b ∈ L,isB b) :
 Calls Tryz.prog 209 #[.slice A L.length c] w fun e w'=>e=.returned (.int .u64 (hashL L))∧Below w.heap.size w w':=by
 go_enter Tryz.func209,Tryz.ntmps209
 go_wp2
 go_loopw [3,8] (fun h i wr=>∃ k:Nat,k≤L.length∧i=.int .i64 k∧h=.int .u64 (hashL (L.take k))∧Below w.heap.size w wr) (fun _ i _=>L.length - (intOf i).toNat)
 case atStart=>exact ⟨0,by omega,rfl,rfl,Below.refl _ _⟩
 case round =>
  obtain ⟨k,hk,rfl,rfl,hb⟩:=hrel
  by_cases hlt:k < L.length
  ·obtain ⟨b,off,rfl,hbb,c0⟩:=RowAt.one hL hb hlt
   have h1:=hB L[k] (List.getElem_mem hlt)
   have h2:hashL (L.take (k+1))=hashS (hashL (L.take k)) L[k]:=by rw [take_snoc hlt,hashL_snoc]
   have h3:=hashL_bd (L.take k)
   generalize L[k]=x at *
   unfold isB at h1
   have H2:=hide h2
   clear h2
   generalize hashL (L.take k)=h at *
   have e1:(x:Int) % 18446744073709551616=x:=by omega
   unfold hashS at H2
   go_wp2
   go_roundw
   case rel=>exact ⟨k+1,by omega,by go_num,by rw [H2.out],hb⟩
   case measure=>simp [intOf];omega
  ·have h2:L.take k=L:=List.take_of_length_le (by omega)
   have H2:=hide h2
   clear h2
   go_wp2
   go_ret
   exact ⟨congrArg (fun l=>Ending.returned (.int .u64 (hashL l))) H2.out,hb⟩
structure Flt (w:World) (p g:Nat) (k:Nat) (B:List Int):Prop where
 st:w.heap[p]? = some (.cells #[.int .i64 k,.slice (some ⟨g,0,none⟩) B.length B.length] 404 (0,0))
 bl:w.heap[g]? = some (.cells (B.map u8v).toArray 5 (0,0))
 ne:p ≠ g
 k1:1≤k∧k≤14
 len:1≤B.length∧B.length≤25000
 byt:∀ b ∈ B,isB b
theorem Flt.below {w w':World} {p g k:Nat} {B:List Int} (h:Flt w p g k B) (hb:Below w.heap.size w w'):Flt w' p g k B :=
 { h with st:=(hb.block p (Array.getElem?_eq_some_iff.1 h.st).1).trans h.st,bl:=(hb.block g (Array.getElem?_eq_some_iff.1 h.bl).1).trans h.bl }
theorem Flt.lt {w:World} {p g k:Nat} {B:List Int} (h:Flt w p g k B):p < w.heap.size∧g < w.heap.size:=⟨(Array.getElem?_eq_some_iff.1 h.st).1,(Array.getElem?_eq_some_iff.1 h.bl).1⟩
theorem Flt.cells {w:World} {p g k:Nat} {B:List Int} (h:Flt w p g k B):w.cell? ⟨p,0,none⟩=some (.int .i64 k)∧w.cell? ⟨p,1,none⟩=some (.slice (some ⟨g,0,none⟩) B.length B.length) :=
 ⟨(cell_of_row w p 0 _ _ _ h.st).trans rfl,(cell_of_row w p 1 _ _ _ h.st).trans rfl⟩
theorem Flt.row {w:World} {p g k:Nat} {B:List Int} (h:Flt w p g k B):ValsAt u8v w (some ⟨g,0,none⟩) B:=vals_of_block h.bl
end Go.Proofs.YtgmkckjedngkdaaGreatDoor
namespace Go.Proofs.YtgmkckjedngkdaaGreatDoor
open Go.ChangeShapes Go.WideShapes Go.ChangeAt Go.RowKit
structure Sets (S:Nat→Prop) (w w':World):Prop where
 os:w'.os=w.os
 tape:w'.tape=w.tape
 output:w'.output=w.output
 size:w.heap.size≤w'.heap.size
 block:∀ b,b < w.heap.size→¬ S b→w'.heap[b]? = w.heap[b]?
theorem Sets.of {S:Nat→Prop} {w w':World} (h:Below w.heap.size w w'):Sets S w w':=⟨h.os,h.tape,h.output,h.size,fun b hb _=>h.block b hb⟩
theorem Sets.refl {S:Nat→Prop} (w:World):Sets S w w:=Sets.of (Below.refl _ _)
theorem Sets.trans {S T:Nat→Prop} {a b c:World} (h:Sets S a b) (k:Sets T b c) (ht:∀ i,i < a.heap.size→T i→S i):Sets S a c :=
 ⟨k.os.trans h.os,k.tape.trans h.tape,k.output.trans h.output,Nat.le_trans h.size k.size,fun i hi hs=>(k.block i (Nat.lt_of_lt_of_le hi h.size) (fun t=>hs (ht i hi t))).trans (h.block i hi hs)⟩
theorem Sets.set {S:Nat→Prop} {w w':World} (h:Sets S w w') {g:Nat} (hg:g < w.heap.size→S g) (o:Nat) (u:Value):Sets S w (w'.setCell ⟨g,o,none⟩ u) :=
 ⟨h.os,h.tape,h.output,by simpa using h.size,fun i hi hs=>by
  have hne:i ≠ g:=fun e=>hs (e ▸ hg (e ▸ hi))
  exact (Below.heap_setCell w' ⟨g,o,none⟩ u i (fun e=>hne (by simpa using e))).trans (h.block i hi hs)⟩
theorem Sets.drew {S:Nat→Prop} {w w':World} (h:Sets S w w'):Sets S w w'.drew:=⟨h.os,h.tape,h.output,h.size,h.block⟩
theorem Sets.below {S:Nat→Prop} {B:Nat} {w0 w w':World} (h:Below B w0 w) (k:Sets S w w') (hS:∀ b,S b→B≤b) (hB:B≤w.heap.size):Below B w0 w' :=
 ⟨k.os.trans h.os,k.tape.trans h.tape,k.output.trans h.output,Nat.le_trans h.size k.size,fun i hi=>(k.block i (by omega) (fun s=>by have:=hS i s;omega)).trans (h.block i hi)⟩
theorem six_cells {w:World} {g:Nat} {v0 v1 v2 v3 v4 v5:Value} {t:TypeId} {fr:Nat × Nat} (h:w.heap[g]? = some (.cells #[v0,v1,v2,v3,v4,v5] t fr)) :
 w.cell? ⟨g,0,none⟩=some v0∧w.cell? ⟨g,1,none⟩=some v1∧w.cell? ⟨g,2,none⟩=some v2∧w.cell? ⟨g,3,none⟩=some v3∧w.cell? ⟨g,4,none⟩=some v4∧w.cell? ⟨g,5,none⟩=some v5 :=
 ⟨(cell_of_row w g 0 _ _ _ h).trans rfl,(cell_of_row w g 1 _ _ _ h).trans rfl,(cell_of_row w g 2 _ _ _ h).trans rfl,(cell_of_row w g 3 _ _ _ h).trans rfl,(cell_of_row w g 4 _ _ _ h).trans rfl,(cell_of_row w g 5 _ _ _ h).trans rfl⟩
theorem RowAt.sets {α:Type} {cells:α→List Value} {sz:Nat} {S:Nat→Prop} {w w':World} {A:Option Addr} {L:List α} (h:RowAt cells sz w A L) (k:Sets S w w') (hS:∀ a,A=some a→L ≠ []→¬ S a.block):RowAt cells sz w' A L:=fun hn=>by
 obtain ⟨b,off,rfl,hlt,hc⟩:=h hn
 exact ⟨b,off,rfl,Nat.lt_of_lt_of_le hlt k.size,fun i hi j u hu=>(World.cell?_of_block (k.block b hlt (hS _ rfl hn))).trans (hc i hi j u hu)⟩
theorem OwnL.sets {α:Type} {cells:α→List Value} {sz:Nat} {e:TypeId} {base:Nat} {S:Nat→Prop} {w w':World} {v:Value} {L:List α} (h:OwnL cells sz e base w v L) (k:Sets S w w') (hS:∀ g,v.ownBlock=some g→¬ S g):OwnL cells sz e base w' v L:=by
 obtain ⟨h0,h1⟩:=h
 refine ⟨h0,?_⟩
 rcases h1 with h1 | ⟨g,cap,cur,rfl,h2,h3,h4⟩
 ·exact .inl h1
 ·exact .inr ⟨g,cap,cur,rfl,h2,(k.block g (Array.getElem?_eq_some_iff.1 h3).1 (hS g rfl)).trans h3,h4⟩
theorem Sets.cell {S:Nat→Prop} {w w':World} (h:Sets S w w') {b o:Nat} {v:Value} (hb:b < w.heap.size) (hS:¬ S b) (hc:w.cell? ⟨b,o,none⟩=some v):w'.cell? ⟨b,o,none⟩=some v:=(World.cell?_of_block (h.block b hb hS)).trans hc
end Go.Proofs.YtgmkckjedngkdaaGreatDoor
namespace Go.Proofs.YtgmkckjedngkdaaGreatDoor
open Go.ChangeShapes Go.WideShapes Go.ChangeAt Go.RowKit
theorem run_app_row {P:Program} {α:Type} {cells:α→List Value} (w:World) (base:Nat) (t ty e:TypeId) (z:Value) (size bytes:Nat) (ht:P.underlying t=some (.slice e)) (hinf:(P.info? e).map (fun i=>(i.zero,i.size,i.bytes))=some (some z,size,bytes)) (hzs:z.cells.size=size) (hsz:0 < size) (hc:∀ a,(cells a).length=size)
 (h1:∀ a,∀ u ∈ cells a,u.oneCell'=true) (hby:bytes≤128) (v:Value) (L:List α) (hown:OwnL cells size e base w v L) (A:Option Addr) (c:Nat) (M:List α) (hr:RowAt cells size w A M) (hn:L.length+M.length≤1000000) (hbase:base≤w.heap.size) :
 ∃ v' w',(Builtin.append_ #[t,t] ty #[v,.slice A M.length c]).run P w=.ok v' w'∧OwnL cells size e base w' v' (L ++ M)∧w.grownBy w' v.ownBlock∧(v'.ownBlock=v.ownBlock ∨ v'.ownBlock=some w.heap.size):=by
 obtain ⟨i0,hi,hz0,hz1,hz2⟩:=info_parts hinf
 have hbb:(L.length+M.length) * bytes≤140737488355328:=by
  have:(L.length+M.length) * bytes≤(L.length+M.length) * 128:=Nat.mul_le_mul_left _ hby
  omega
 exact run_append_row w base t ty e i0 z size bytes ht hi hz0 hz1 hz2 hzs hsz hc v L hown A c M hr
  (fun hA=>by
   rcases M with _ | ⟨m,M⟩
   ·rfl
   ·obtain ⟨b,off,e1,_⟩:=hr (by simp)
    rw [hA] at e1;cases e1)
  (fun m _ u hu=>h1 m u hu) (by simp only [maxLen];omega) hbb hbase
theorem wpList_app_row {P:Program} {α:Type} {cells:α→List Value} {ops:Array Oper} {rest:List Oper} {o:Oper} {a:Act} {w:World} {Q:Exit→Act→World→Prop} (hgd:o.guard=none) (s x:Operand) (t e:TypeId) (z:Value) (size bytes:Nat)
 (ho:o.op=.call { callee:=.builtin .append,args:=#[s,x],argTypes:=#[t,t] })
 (ht:P.underlying t=some (.slice e)) (hinf:(P.info? e).map (fun i=>(i.zero,i.size,i.bytes))=some (some z,size,bytes)) (hzs:z.cells.size=size) (hsz:0 < size) (hc:∀ a,(cells a).length=size) (h1:∀ a,∀ u ∈ cells a,u.oneCell'=true) (hby:bytes≤128)
 (base:Nat) (v:Value) (L:List α) (hs:a.eval s=v) (hown:OwnL cells size e base w v L) (A:Option Addr) (c n:Nat) (M:List α) (hM:M.length=n) (hx:a.eval x=.slice A n c) (hr:RowAt cells size w A M) (hn:L.length+n≤1000000) (hbase:base≤w.heap.size)
 (h:∀ v' w',OwnL cells size e base w' v' (L ++ M)→w.grownBy w' v.ownBlock→(v'.ownBlock=v.ownBlock ∨ v'.ownBlock=some w.heap.size)→wpList P ops Q rest (a.put o.dst v') w'):wpList P ops Q (o :: rest) a w:=by
 subst hM
 refine wpList_plain hgd fun K hK=>?_
 obtain ⟨v',w',hrun,h2,h3,h4⟩:=run_app_row (P:=P) w base t o.type e z size bytes ht hinf hzs hsz hc h1 hby v L hown A c M hr hn hbase
 unfold Oper.wp execOp
 simp only [ho,resolve,invoke,builtin,Sem.run_bind,Sem.run_pure,Result.andThen_ok,List.map_toArray,List.map_cons,List.map_nil,hs,hx,hrun]
 exact hK _ _ (h v' w' h2 h3 h4)
theorem step_app_row {P:Program} {α:Type} {cells:α→List Value} {ops:Array Oper} {o:Oper} {a:Act} {w:World} {K:Act→World→Prop} {Q:Exit→Act→World→Prop} {E:Prop} (hgd:o.guard=none) (s x:Operand) (t e:TypeId) (z:Value) (size bytes:Nat)
 (ho:o.op=.call { callee:=.builtin .append,args:=#[s,x],argTypes:=#[t,t] })
 (ht:P.underlying t=some (.slice e)) (hinf:(P.info? e).map (fun i=>(i.zero,i.size,i.bytes))=some (some z,size,bytes)) (hzs:z.cells.size=size) (hsz:0 < size) (hc:∀ a,(cells a).length=size) (h1:∀ a,∀ u ∈ cells a,u.oneCell'=true) (hby:bytes≤128)
 (base:Nat) (v:Value) (L:List α) (hs:a.eval s=v) (hown:OwnL cells size e base w v L) (A:Option Addr) (c n:Nat) (M:List α) (hM:M.length=n) (hx:a.eval x=.slice A n c) (hr:RowAt cells size w A M) (hn:L.length+n≤1000000) (hbase:base≤w.heap.size)
 (h:∀ v' w',OwnL cells size e base w' v' (L ++ M)→w.grownBy w' v.ownBlock→(v'.ownBlock=v.ownBlock ∨ v'.ownBlock=some w.heap.size)→K (a.put o.dst v') w'):if Region.wanted o (yielded ops a.tmps)=true then Oper.wp P o a w K Q else E:=by
 subst hM
 have hw:Region.wanted o (yielded ops a.tmps)=true:=by simp [Region.wanted,hgd]
 rw [if_pos hw]
 obtain ⟨v',w',hrun,h2,h3,h4⟩:=run_app_row (P:=P) w base t o.type e z size bytes ht hinf hzs hsz hc h1 hby v L hown A c M hr hn hbase
 unfold Oper.wp execOp
 simp only [ho,resolve,invoke,builtin,Sem.run_bind,Sem.run_pure,Result.andThen_ok,List.map_toArray,List.map_cons,List.map_nil,hs,hx,hrun]
 exact h v' w' h2 h3 h4
end Go.Proofs.YtgmkckjedngkdaaGreatDoor
