/- A part of the proof that TopMajorityLaw holds: XOg, XApp. Conditions: as typed. -/
import Derived.Test.YtgmkckjedngkdaaGreatDoorTm06
set_option linter.unusedVariables false
set_option linter.unusedSimpArgs false
namespace Go.Proofs.YtgmkckjedngkdaaGreatDoor
open Go.ChangeShapes Go.WideShapes Go.ChangeAt Go.RowKit
def flat (L:List It):List Value:=L.flatMap It.cells
theorem flat_cons (x:It) (L:List It):flat (x :: L)=It.cells x ++ flat L:=rfl
theorem flat_app (L M:List It):flat (L ++ M)=flat L ++ flat M:=List.flatMap_append
theorem flat_length (L:List It):(flat L).length=L.length * 5:=flat_len It.cells_len L
theorem flat_one (L:List It):∀ u ∈ flat L,u.oneCell'=true:=by
 intro u hu
 obtain ⟨a,_,ha⟩:=List.mem_flatMap.1 hu
 exact It.cells_one a u ha
theorem flat_at (L:List It) (R:List Value) (k:Nat) (hk:k < L.length) (j:Nat) (u:Value) (hu:(It.cells L[k])[j]? = some u):(flat L ++ R)[k * 5+j]? = some u:=by
 have hj:j < 5:=(List.getElem?_eq_some_iff.1 hu).1
 rw [List.getElem?_append_left (by rw [flat_length];omega)]
 exact (flat_get It.cells_len L k hk j hj).trans hu
def Og (base:Nat) (w:World) (v:Value) (L:List It):Prop :=
 (v=.slice none 0 0∧L=[]) ∨
 ∃ g cap R,v=.slice (some ⟨g,0,none⟩) L.length cap∧base≤g∧w.heap[g]? = some (.cells (flat L ++ R).toArray 54 (0,0))∧L.length≤cap∧cap≤maxLen∧cap * 5≤L.length * 5+R.length
theorem Ow.og {base:Nat} {w:World} {v:Value} {L:List It} (h:Ow base w v L):Og base w v L:=by
 rcases h.2 with ⟨e,h0⟩ | ⟨g,cap,cur,e,hb,hh,hnc,hcm,hcs,htk⟩
 ·exact .inl ⟨e,List.eq_nil_of_length_eq_zero h0⟩
 ·refine .inr ⟨g,cap,cur.toList.drop (L.length * 5),e,hb,?_,hnc,hcm,?_⟩
  ·have e1:flat L ++ cur.toList.drop (L.length * 5)=cur.toList:=by
    unfold flat
    rw [← htk,List.take_append_drop]
   rw [e1];simpa using hh
  ·rw [List.length_drop];simp only [Array.length_toList,hcs];omega
theorem row_items {w:World} {g:Nat} {L:List It} {R:List Value} (h:w.heap[g]? = some (.cells (flat L ++ R).toArray 54 (0,0))):ItemsAt w (some ⟨g,0,none⟩) L:=by
 intro _
 refine ⟨g,0,rfl,(Array.getElem?_eq_some_iff.1 h).1,fun k hk j u hu=>?_⟩
 have:=cell_of_row w g (0+k * 5+j) _ _ _ h
 rw [this,Nat.zero_add]
 have:=flat_at L R k hk j u hu
 simpa using this
theorem Og.sl {base:Nat} {w:World} {v:Value} {L:List It} (h:Og base w v L):Sl w v L:=by
 rcases h with ⟨rfl,rfl⟩ | ⟨g,cap,R,rfl,_,hh,h1,h2,_⟩
 ·exact Sl.nil_ w
 ·exact Sl.mk_ (row_items hh) h1 h2
theorem new_row {w:World} {L:List It} {g:Nat} {cs:Array Value} {t:TypeId} (h:w.heap[g]? = some (.cells cs t (0,0))) (hc:cs=(flat L).toArray):ItemsAt w (some ⟨g,0,none⟩) L:=by
 subst hc
 intro _
 refine ⟨g,0,rfl,(Array.getElem?_eq_some_iff.1 h).1,fun k hk j u hu=>?_⟩
 have:=cell_of_row w g (0+k * 5+j) _ _ _ h
 rw [this,Nat.zero_add]
 have:=flat_at L [] k hk j u hu
 simpa using this
theorem Og.nil_ (base:Nat) (w:World):Og base w (.slice none 0 0) []:=.inl ⟨rfl,rfl⟩
theorem Og.kept {base:Nat} {w w':World} {v:Value} {L:List It} (h:Og base w v L) (hk:∀ g,v.ownBlock=some g→g < w.heap.size→w'.heap[g]? = w.heap[g]?):Og base w' v L:=by
 rcases h with h | ⟨g,cap,R,rfl,hb,hh,h1⟩
 ·exact .inl h
 ·exact .inr ⟨g,cap,R,rfl,hb,(hk g rfl (Array.getElem?_eq_some_iff.1 hh).1).trans hh,h1⟩
theorem Og.below {base:Nat} {w w':World} {v:Value} {L:List It} (h:Og base w v L) (hb:Below w.heap.size w w'):Og base w' v L:=h.kept fun g _ hg=>hb.block g hg
theorem Og.lt {base:Nat} {w:World} {v:Value} {L:List It} (h:Og base w v L):∀ g,v.ownBlock=some g→base≤g∧g < w.heap.size:=by
 intro g hg
 rcases h with ⟨rfl,_⟩ | ⟨g',cap,R,rfl,hb,hh,_⟩
 ·simp [Value.ownBlock] at hg
 ·simp [Value.ownBlock] at hg
  subst hg
  exact ⟨hb,(Array.getElem?_eq_some_iff.1 hh).1⟩
theorem Og.base_ {base base':Nat} {w:World} {v:Value} {L:List It} (h:Og base w v L) (hb:base'≤base):Og base' w v L :=
 h.imp id fun ⟨g,cap,R,h1,h2,h3⟩=>⟨g,cap,R,h1,Nat.le_trans hb h2,h3⟩
structure Wrote (w w':World) (v v':Value):Prop where
 grown:w.grownBy w' v.ownBlock
 lies:v'.ownBlock=v.ownBlock ∨ ∃ g,v'.ownBlock=some g∧w.heap.size≤g
theorem grownBy_below {w w':World} {row:Option Nat} (h:Below w.heap.size w w'):w.grownBy w' row:=⟨h.os,h.tape,h.output,h.size,fun k hk _=>h.block k hk⟩
theorem grownBy_trans {a b c:World} {row:Option Nat} (h:a.grownBy b row) (k:b.grownBy c row):a.grownBy c row :=
 ⟨k.os.trans h.os,k.tape.trans h.tape,k.output.trans h.output,Nat.le_trans h.size k.size,fun i hi hne=>(k.block i (Nat.lt_of_lt_of_le hi h.size) hne).trans (h.block i hi hne)⟩
theorem below_grown {B:Nat} {w0 w w':World} {v:Value} {base:Nat} {L:List It} (hb:Below B w0 w) (ho:Og base w v L) (hg:w.grownBy w' v.ownBlock) (hB:B≤base) (hs:B≤w.heap.size):Below B w0 w' :=
 hb.grown hg hs fun k hk=>Nat.le_trans hB (ho.lt k hk).1
theorem grownBy_setRow (w:World) (g:Nat) (cs:Array Value):w.grownBy (w.setRow g cs) (some g) :=
 ⟨rfl,rfl,rfl,by simp [World.setRow],fun k _ hk=>setRow_other w g k cs (fun e=>hk (by rw [e]))⟩
theorem grownBy_setCell (w:World) (g o:Nat) (u:Value):w.grownBy (w.setCell ⟨g,o,none⟩ u) (some g) :=
 ⟨rfl,rfl,rfl,by simp [World.setCell],fun k _ hk=>Below.heap_setCell _ _ _ _ (fun e=>hk (by rw [e]))⟩
theorem set5 (x:It):∀ (L:List It) (i:Nat) (R:List Value),i < L.length →
 (((((flat L ++ R).set (i * 5) (.int .i64 x.s)).set (i * 5+1) (.int .i64 x.k)).set (i * 5+2) (.int .u64 x.t)).set (i * 5+3) (.int .u64 x.v)).set (i * 5+4) (.int .i64 x.x)=flat (L.set i x) ++ R
 | y :: L,0,R,_=>by simp [flat_cons,It.cells]
 | y :: L,i+1,R,h=>by
  have ih:=set5 x L i R (by simpa using h)
  have e:∀ j:Nat,(i+1) * 5+j=(It.cells y).length+(i * 5+j):=by intro j;simp [It.cells];omega
  have e0:=e 0
  simp only [Nat.add_zero] at e0
  have s:∀ (l:List Value) (j:Nat) (u:Value),(It.cells y ++ l).set ((i+1) * 5+j) u=It.cells y ++ l.set (i * 5+j) u:=by
   intro l j u
   rw [e j,List.set_append_right _ _ (by omega),Nat.add_sub_cancel_left]
  have s0:∀ (l:List Value) (u:Value),(It.cells y ++ l).set ((i+1) * 5) u=It.cells y ++ l.set (i * 5) u:=by
   intro l u
   have:=s l 0 u
   simpa using this
  simp only [List.set_cons_succ,flat_cons,List.append_assoc]
  rw [s0,s,s,s,s,ih]
def put5 (w:World) (g o:Nat) (x:It):World :=
 ((((w.setCell ⟨g,o,none⟩ (.int .i64 x.s)).setCell ⟨g,o+1,none⟩ (.int .i64 x.k)).setCell ⟨g,o+2,none⟩ (.int .u64 x.t)).setCell ⟨g,o+3,none⟩ (.int .u64 x.v)).setCell ⟨g,o+4,none⟩ (.int .i64 x.x)
theorem heap_set {w:World} {g o:Nat} {l:List Value} {t:TypeId} {u:Value} (h:w.heap[g]? = some (.cells l.toArray t (0,0))):(w.setCell ⟨g,o,none⟩ u).heap[g]? = some (.cells (l.set o u).toArray t (0,0)):=by
 simp [World.setCell,Array.getElem?_modify,h]
theorem put5_row {w:World} {g i:Nat} {L:List It} {R:List Value} {x:It} (h:w.heap[g]? = some (.cells (flat L ++ R).toArray 54 (0,0))) (hi:i < L.length):(put5 w g (i * 5) x).heap[g]? = some (.cells (flat (L.set i x) ++ R).toArray 54 (0,0)):=by
 rw [← set5 x L i R hi]
 exact heap_set (heap_set (heap_set (heap_set (heap_set h))))
theorem put5_grown (w:World) (g o:Nat) (x:It):w.grownBy (put5 w g o x) (some g) :=
 grownBy_trans (grownBy_trans (grownBy_trans (grownBy_trans (grownBy_setCell w g _ _) (grownBy_setCell _ g _ _)) (grownBy_setCell _ g _ _)) (grownBy_setCell _ g _ _)) (grownBy_setCell _ g _ _)
section
variable {P:Program}
theorem run_copy_rowN (w:World) (dT sT ty elem:TypeId) (i:TypeInfo) (g o dLen dCap:Nat) (a:Addr) (sLen sCap:Nat) (cur:List Value) (t:TypeId) (cs:List Value)
 (hu:P.underlying dT=some (.slice elem)) (hi:P.info? elem=some i) (hg:w.heap[g]? = some (.cells cur.toArray t (0,0))) (hn:cs.length=Nat.min sLen dLen * i.size)
 (hsrc:∀ j v,cs[j]? = some v→w.cell? (a.add j)=some v) (hfit:o+cs.length≤cur.length) (h1:∀ v ∈ cs,v.oneCell'=true) :
 (Builtin.copy_ #[dT,sT] ty #[.slice (some ⟨g,o,none⟩) dLen dCap,.slice (some a) sLen sCap]).run P w =
  .ok (goInt (Nat.min sLen dLen)) (w.setRow g (cur.take o ++ cs ++ cur.drop (o+cs.length)).toArray):=by
 have hl:=run_loadCells_list (P:=P) w a cs hsrc
 have hst:=run_storeCells_at P g o t cs 0 cur.toArray w hg (by simpa using hfit) h1
 simp [Builtin.copy_,run_underlying hu,Builtin.lenOf,Builtin.firstCells,sizeOf,typeInfo,hi,← hn,hl,hst]
end
end Go.Proofs.YtgmkckjedngkdaaGreatDoor
namespace Go.Proofs.YtgmkckjedngkdaaGreatDoor
open Go.ChangeShapes Go.WideShapes Go.ChangeAt Go.RowKit
theorem items_none {w:World} {M:List It} {A:Option Addr} (h:ItemsAt w A M):A=none→M=[]:=by
 intro e
 subst e
 cases M with
 | nil=>rfl
 | cons a M=>obtain ⟨b,off,e,_⟩:=h (by simp);cases e
theorem wpList_append_items {ops:Array Oper} {rest:List Oper} {o:Oper} {a:Act} {Q:Exit→Act→World→Prop} (hgd:o.guard=none) (s x:Operand)
 (ho:o.op=.call { callee:=.builtin .append,args:=#[s,x],argTypes:=#[31,31] })
 (B base:Nat) (w0 w:World) (v:Value) (L:List It) (A:Option Addr) (n c:Nat) (M:List It) (hs:a.eval s=v) (hx:a.eval x=.slice A n c) (hM:M.length=n) (hr:ItemsAt w A M)
 (hown:Ow base w v L) (hb:Below B w0 w) (hB:B≤base) (hbase:base≤w.heap.size) (hn:L.length+n≤2199023255553)
 (h:∀ v' w',Ow base w' v' (L ++ M)→Below B w0 w'→w.grownBy w' v.ownBlock→wpList Tryz.prog ops Q rest (a.put o.dst v') w'):wpList Tryz.prog ops Q (o :: rest) a w:=by
 subst hM
 obtain ⟨i0,hi,hz0,hz1,hz2⟩:=info_parts Tryz.infoItem
 refine wpList_append_row w hgd s x 31 ho base 54 i0 _ 5 40 Tryz.underlying31 hi hz0 hz1 hz2 rfl (by omega) It.cells_len v L hs hown A c M hx hr (items_none hr) (fun m _=>It.cells_one m) (by simp only [maxLen];omega) (by omega) hbase ?_
 intro v1 w1 h1 hg _
 exact h v1 w1 h1 (hb.grown hg (Nat.le_trans hB hbase) (fun k hk=>Nat.le_trans hB (OwnL.lt hown k hk).1)) hg
end Go.Proofs.YtgmkckjedngkdaaGreatDoor
