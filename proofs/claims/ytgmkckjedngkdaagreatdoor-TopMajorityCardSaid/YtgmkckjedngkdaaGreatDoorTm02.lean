/- A part of the proof that TopMajorityLaw holds: XOwn. Conditions: as typed. -/
import Derived.Test.YtgmkckjedngkdaaGreatDoorTm01
import Derived.Maps.AppendAt
import Derived.Deep.AppendLies
import Derived.RegionTactic
import Derived.OwnWalk
set_option linter.unusedVariables false
set_option linter.unusedSimpArgs false
namespace Go.Proofs.YtgmkckjedngkdaaGreatDoor
open Go.ChangeShapes Go.WideShapes Go.ChangeAt Go.RowKit
section
variable {α:Type} {cells:α→List Value} {sz:Nat}
theorem flat_len (hsz:∀ a,(cells a).length=sz):∀ L:List α,(L.flatMap cells).length=L.length * sz
 | []=>by simp
 | a :: L=>by simp only [List.flatMap_cons,List.length_append,List.length_cons,hsz,flat_len hsz L,Nat.succ_mul];omega
theorem flat_get (hsz:∀ a,(cells a).length=sz):∀ (L:List α) (k:Nat) (hk:k < L.length) (j:Nat),j < sz→(L.flatMap cells)[k * sz+j]? = (cells L[k])[j]?
 | a :: L,0,_,j,hj=>by
  simp only [List.flatMap_cons,Nat.zero_mul,Nat.zero_add,List.getElem_cons_zero]
  rw [List.getElem?_append_left (by rw [hsz];exact hj)]
 | a :: L,k+1,hk,j,hj=>by
  simp only [List.flatMap_cons,List.getElem_cons_succ]
  rw [List.getElem?_append_right (by rw [hsz,Nat.succ_mul];omega),hsz,show (k+1) * sz+j - sz=k * sz+j by rw [Nat.succ_mul];omega]
  exact flat_get hsz L k (by simpa using hk) j hj
def OwnL (cells:α→List Value) (sz:Nat) (e:TypeId) (base:Nat) (w:World) (v:Value) (L:List α):Prop:=w.ownsRow base e sz v L.length (L.flatMap cells)
variable {e:TypeId} {base:Nat} {w w':World} {v:Value} {L:List α}
theorem OwnL.nil_ (cells:α→List Value) (sz:Nat) (e:TypeId) (base:Nat) (w:World):OwnL cells sz e base w (.slice none 0 0) ([]:List α):=⟨by simp,.inl ⟨rfl,rfl⟩⟩
theorem OwnL.alloc (h:OwnL cells sz e base w v L) (o:Obj):OwnL cells sz e base (w.alloc o) v L:=World.ownsRow.alloc h o
theorem OwnL.lt (h:OwnL cells sz e base w v L):∀ g,v.ownBlock=some g→base≤g∧g < w.heap.size:=World.ownsRow.lt h
theorem OwnL.drewN (h:OwnL cells sz e base w v L) (n:Nat):OwnL cells sz e base (w.drewN n) v L:=h
theorem OwnL.kept {row:Option Nat} (h:OwnL cells sz e base w v L) (hg:w.grownBy w' row) (hne:v.ownBlock=none ∨ v.ownBlock ≠ row):OwnL cells sz e base w' v L:=World.ownsRow.kept h hg hne
theorem OwnL.below (h:OwnL cells sz e base w v L) (hb:Below w.heap.size w w'):OwnL cells sz e base w' v L :=
 World.ownsRow.kept (row:=none) h ⟨hb.os,hb.tape,hb.output,hb.size,fun k hk _=>hb.block k hk⟩ (by cases v.ownBlock <;> simp)
theorem OwnL.row (hsz:∀ a,(cells a).length=sz) (h:OwnL cells sz e base w v L):∃ A c,v=.slice A L.length c∧RowAt cells sz w A L∧(∀ g o s,A=some ⟨g,o,s⟩→base≤g∧g < w.heap.size)∧L.length≤c∧c≤maxLen:=by
 rcases h.2 with ⟨rfl,h0⟩ | ⟨g,cap,cur,rfl,hb,hh,hnc,hcm,hcs,htk⟩
 ·have hL:L=[]:=List.eq_nil_of_length_eq_zero h0
  subst hL
  exact ⟨none,0,rfl,RowAt.nil_,by simp,by simp,by simp⟩
 ·refine ⟨some ⟨g,0,none⟩,cap,rfl,?_,?_,hnc,hcm⟩
  ·intro hne
   have hlt:g < w.heap.size:=(Array.getElem?_eq_some_iff.1 hh).1
   refine ⟨g,0,rfl,hlt,fun k hk j u hu=>?_⟩
   have hj:j < sz:=by
    have:=(List.getElem?_eq_some_iff.1 hu).1
    rwa [hsz] at this
   have hx:(L.flatMap cells)[k * sz+j]? = some u:=(flat_get hsz L k hk j hj).trans hu
   have:=World.ownsRow.cells h (g:=g) rfl (k * sz+j) u hx
   have e1:(⟨g,0,none⟩:Addr).add (k * sz+j)=⟨g,0+k * sz+j,none⟩:=by
    unfold Addr.add
    by_cases hz:k * sz+j=0 <;> simp [hz]
    omega
   rwa [e1] at this
  ·intro g' o s heq
   injection heq with heq
   injection heq with h1 _ _
   subst h1
   exact ⟨hb,(Array.getElem?_eq_some_iff.1 hh).1⟩
end
section
variable {P:Program} (w:World)
theorem run_append_of_nil (base:Nat) (t ty e:TypeId) (i:TypeInfo) (size:Nat) (ht:P.underlying t=some (.slice e)) (hi:P.info? e=some i)
 (v:Value) (n:Nat) (xs:List Value) (hown:w.ownsRow base e size v n xs) (c:Nat):(Builtin.append_ #[t,t] ty #[v,.slice none 0 c]).run P w=.ok v w:=by
 rcases hown.2 with ⟨rfl,rfl⟩ | ⟨g,cap,cur,rfl,_,_,hnc,_⟩
 ·simp [Builtin.append_,run_underlying ht,sizeOf,typeInfo,hi,Builtin.lenOf,Builtin.firstCells]
 ·simp [Builtin.append_,run_underlying ht,sizeOf,typeInfo,hi,Builtin.lenOf,Builtin.firstCells,hnc,storeCells]
theorem run_append_row {α:Type} {cells:α→List Value} (base:Nat) (t ty e:TypeId) (i:TypeInfo) (z:Value) (size bytes:Nat) (ht:P.underlying t=some (.slice e)) (hi:P.info? e=some i) (hz:i.zero=some z)
 (hsize:i.size=size) (hby:i.bytes=bytes) (hzs:z.cells.size=size) (hsz:0 < size) (hc:∀ a,(cells a).length=size)
 (v:Value) (L:List α) (hown:OwnL cells size e base w v L)
 (A:Option Addr) (c:Nat) (M:List α) (hr:RowAt cells size w A M) (hA:A=none→M=[]) (h1:∀ a ∈ M,∀ u ∈ cells a,u.oneCell'=true)
 (h63:L.length+M.length≤maxLen) (hbytes:(L.length+M.length) * bytes≤140737488355328) (hbase:base≤w.heap.size) :
 ∃ v' w',(Builtin.append_ #[t,t] ty #[v,.slice A M.length c]).run P w=.ok v' w'∧OwnL cells size e base w' v' (L ++ M)∧w.grownBy w' v.ownBlock∧(v'.ownBlock=v.ownBlock ∨ v'.ownBlock=some w.heap.size):=by
 rcases A with _ | ad
 ·have hM:=hA rfl
  subst hM
  exact ⟨v,w,run_append_of_nil w base t ty e i size ht hi v _ _ hown c,by simpa using hown,World.grownBy.refl w _,.inl rfl⟩
 ·have hcells:∀ j u,(M.flatMap cells)[j]? = some u→w.cell? (ad.add j)=some u:=by
   intro j u hu
   have hlt:=(List.getElem?_eq_some_iff.1 hu).1
   rw [flat_len hc] at hlt
   have hM:M ≠ []:=by rintro rfl;simp at hlt
   obtain ⟨b,off,hA',_,hcell⟩:=hr hM
   injection hA' with hA'
   subst hA'
   have hk:j / size < M.length:=Nat.div_lt_of_lt_mul (by rw [Nat.mul_comm];exact hlt)
   have hj:j % size < size:=Nat.mod_lt _ hsz
   have e1:j=j / size * size+j % size:=by rw [Nat.mul_comm];exact (Nat.div_add_mod j size).symm
   have hx:=flat_get hc M (j / size) hk (j % size) hj
   rw [← e1,hu] at hx
   have:=hcell (j / size) hk (j % size) u hx.symm
   have e2:(⟨b,off,none⟩:Addr).add j=⟨b,off+j / size * size+j % size,none⟩:=by
    unfold Addr.add
    by_cases hz0:j=0
    ·subst hz0;simp
    ·simp [hz0];omega
   rwa [e2]
  have h1':∀ u ∈ M.flatMap cells,u.oneCell'=true:=by
   intro u hu
   obtain ⟨a,hm,ha⟩:=List.mem_flatMap.1 hu
   exact h1 a hm u ha
  obtain ⟨v',w',hrun,h2,h3,_,h5⟩:=run_append_own_at (P:=P) w base t ty e i z size bytes ht hi hz hsize hby hzs hsz v L.length (L.flatMap cells) hown ad M.length c (M.flatMap cells) (flat_len hc M) hcells h1' h63 hbytes hbase
  refine ⟨v',w',hrun,?_,h3,h5⟩
  unfold OwnL
  rw [List.length_append,List.flatMap_append]
  exact h2
theorem wpList_append_row {α:Type} {cells:α→List Value} {ops:Array Oper} {rest:List Oper} {o:Oper} {a:Act} {Q:Exit→Act→World→Prop} (hgd:o.guard=none) (s x:Operand) (t:TypeId)
 (ho:o.op=.call { callee:=.builtin .append,args:=#[s,x],argTypes:=#[t,t] })
 (base:Nat) (e:TypeId) (i:TypeInfo) (z:Value) (size bytes:Nat) (ht:P.underlying t=some (.slice e)) (hi:P.info? e=some i) (hz:i.zero=some z)
 (hsize:i.size=size) (hby:i.bytes=bytes) (hzs:z.cells.size=size) (hsz:0 < size) (hc:∀ a,(cells a).length=size)
 (v:Value) (L:List α) (hs:a.eval s=v) (hown:OwnL cells size e base w v L)
 (A:Option Addr) (c:Nat) (M:List α) (hx:a.eval x=.slice A M.length c) (hr:RowAt cells size w A M) (hA:A=none→M=[]) (h1:∀ a ∈ M,∀ u ∈ cells a,u.oneCell'=true)
 (h63:L.length+M.length≤maxLen) (hbytes:(L.length+M.length) * bytes≤140737488355328) (hbase:base≤w.heap.size)
 (h:∀ v' w',OwnL cells size e base w' v' (L ++ M)→w.grownBy w' v.ownBlock→(v'.ownBlock=v.ownBlock ∨ v'.ownBlock=some w.heap.size)→wpList P ops Q rest (a.put o.dst v') w'):wpList P ops Q (o :: rest) a w:=by
 refine wpList_plain hgd fun K hK=>?_
 obtain ⟨v',w',hr,h2,h3,h5⟩:=run_append_row (P:=P) w base t o.type e i z size bytes ht hi hz hsize hby hzs hsz hc v L hown A c M hr hA h1 h63 hbytes hbase
 unfold Oper.wp execOp
 simp only [ho,resolve,invoke,builtin,Sem.run_bind,Sem.run_pure,Result.andThen_ok,List.map_toArray,List.map_cons,List.map_nil,hs,hx,hr]
 exact hK _ _ (h v' w' h2 h3 h5)
end
theorem heap_at {w:World} {o:Obj} {g:Nat} (h:w.heap.size=g):(w.alloc o).heap[g]? = some o:=by rw [← h];exact heap_alloc_new w o
theorem RowAt.new_one {α:Type} {cells:α→List Value} {sz:Nat} {w:World} {g:Nat} {y:α} {t:TypeId} {fr:Nat × Nat} (h:w.heap[g]? = some (.cells (cells y).toArray t fr)):RowAt cells sz w (some ⟨g,0,none⟩) [y]:=by
 intro _
 refine ⟨g,0,rfl,(Array.getElem?_eq_some_iff.1 h).1,fun k hk j u hu=>?_⟩
 obtain rfl:k=0:=by simpa using hk
 have:=cell_of_row w g j (cells y).toArray t fr h
 simp only [Nat.zero_mul,Nat.zero_add]
 rw [this]
 simpa using hu
theorem OwnL.setFar {α:Type} {cells:α→List Value} {sz:Nat} {e:TypeId} {base:Nat} {w:World} {v:Value} {L:List α} (h:OwnL cells sz e base w v L) {b o:Nat} (hne:v.ownBlock ≠ some b) (u:Value):OwnL cells sz e base (w.setCell ⟨b,o,none⟩ u) v L :=
 OwnL.kept (row:=some b) h ⟨rfl,rfl,rfl,by simp [World.setCell],fun k _ hk=>Below.heap_setCell _ _ _ _ (fun e=>hk (by rw [e]))⟩ (.inr hne)
theorem keep_cell {w w':World} (hb:Below w.heap.size w w') {b o:Nat} {u:Value} (h:w.cell? ⟨b,o,none⟩=some u) (hlt:b < w.heap.size):w'.cell? ⟨b,o,none⟩=some u:=(hb.cell (p:=⟨b,o,none⟩) hlt).trans h
theorem OwnL.base_ {α:Type} {cells:α→List Value} {sz:Nat} {e:TypeId} {base base':Nat} {w:World} {v:Value} {L:List α} (h:OwnL cells sz e base w v L) (hb:base'≤base):OwnL cells sz e base' w v L :=
 ⟨h.1,h.2.imp id fun ⟨g,cap,cur,h1,h2,h3⟩=>⟨g,cap,cur,h1,Nat.le_trans hb h2,h3⟩⟩
theorem It.cells_len (a:It):(It.cells a).length=5:=rfl
theorem It.cells_one (a:It):∀ u ∈ It.cells a,u.oneCell'=true:=by
 intro u hu
 simp only [It.cells,List.mem_cons,List.not_mem_nil,or_false] at hu
 rcases hu with rfl | rfl | rfl | rfl | rfl <;> rfl
end Go.Proofs.YtgmkckjedngkdaaGreatDoor
