/- A part of the proof that TopQuotaLaw holds: XSl. Conditions: as typed. -/
import Derived.Test.YtgmkckjedngkdaaGreatDoorTq02
import Derived.Test.YtgmkckjedngkdaaGreatDoorTq06
import Derived.Deep.DeepCutAuto
import Derived.Deep.CutBlock
import Derived.BigRegion
set_option linter.unusedVariables false
set_option linter.unusedSimpArgs false
namespace Go.Proofs.YtgmkckjedngkdaaGreatDoor
open Go.ChangeShapes Go.WideShapes Go.ChangeAt Go.RowKit
theorem Tryz.infoItem:(Tryz.prog.info? 54).map (fun i=>(i.zero,i.size,i.bytes))=some (some (.agg #[.int .i64 0,.int .i64 0,.int .u64 0,.int .u64 0,.int .i64 0]),5,40):=by kernel_rfl
def Sl (w:World) (v:Value) (L:List It):Prop:=∃ A c,v=.slice A L.length c∧ItemsAt w A L∧L.length≤c∧c≤maxLen
theorem Sl.below {w w':World} {v:Value} {L:List It} (h:Sl w v L) (hb:Below w.heap.size w w'):Sl w' v L:=by
 obtain ⟨A,c,e,hr,h1,h2⟩:=h
 exact ⟨A,c,e,hr.below hb,h1,h2⟩
theorem Sl.mk_ {w:World} {A:Option Addr} {c:Nat} {L:List It} (h:ItemsAt w A L) (h1:L.length≤c) (h2:c≤maxLen):Sl w (.slice A L.length c) L:=⟨A,c,rfl,h,h1,h2⟩
theorem Sl.drewN {w:World} {v:Value} {L:List It} (h:Sl w v L) (n:Nat):Sl (w.drewN n) v L:=h
theorem Sl.nil_ (w:World):Sl w (.slice none 0 0) []:=⟨none,0,rfl,RowAt.nil_,by simp,by simp⟩
def Ow (base:Nat) (w:World) (v:Value) (L:List It):Prop:=OwnL It.cells 5 54 base w v L
theorem Ow.sl {base:Nat} {w:World} {v:Value} {L:List It} (h:Ow base w v L):Sl w v L:=by
 obtain ⟨A,c,e,hr,_,h1,h2⟩:=OwnL.row It.cells_len h
 exact ⟨A,c,e,hr,h1,h2⟩
theorem Ow.below {base:Nat} {w w':World} {v:Value} {L:List It} (h:Ow base w v L) (hb:Below w.heap.size w w'):Ow base w' v L:=OwnL.below h hb
theorem Ow.nil_ (base:Nat) (w:World):Ow base w (.slice none 0 0) []:=OwnL.nil_ _ _ _ _ _
theorem Ow.base_ {base base':Nat} {w:World} {v:Value} {L:List It} (h:Ow base w v L) (hb:base'≤base):Ow base' w v L:=OwnL.base_ h hb
def RetOw (L:List It) (w:World) (e:Ending) (w':World):Prop:=∃ v,e=.returned v∧Ow w.heap.size w' v L∧Below w.heap.size w w'
theorem wpList_append_item {ops:Array Oper} {rest:List Oper} {o:Oper} {a:Act} {Q:Exit→Act→World→Prop} (hgd:o.guard=none) (s x:Operand)
   (ho:o.op=.call { callee:=.builtin .append,args:=#[s,x],argTypes:=#[31,31] })
   (B base:Nat) (w0 w W:World) (v:Value) (L:List It) (y:It) (hs:a.eval s=v) (hx:a.eval x=.slice (some ⟨w.heap.size,0,none⟩) 1 1) (hW:W=w.alloc (.cells y.cells.toArray 54))
   (hown:Ow base w v L) (hb:Below B w0 w) (hB:B≤base) (hbase:base≤w.heap.size) (hn:L.length≤2199023255552)
   (h:∀ v' w',Ow base w' v' (L ++ [y])→Below B w0 w'→w.grownBy w' v.ownBlock→wpList Tryz.prog ops Q rest (a.put o.dst v') w'):wpList Tryz.prog ops Q (o :: rest) a W:=by
 subst hW
 obtain ⟨i0,hi,hz0,hz1,hz2⟩:=info_parts Tryz.infoItem
 refine wpList_append_row (w.alloc _) hgd s x 31 ho base 54 i0 _ 5 40 Tryz.underlying31 hi hz0 hz1 hz2 rfl (by omega) It.cells_len v L hs (OwnL.alloc hown _) (some ⟨w.heap.size,0,none⟩) 1 [y] hx (RowAt.new_one (t:=54) (fr:=(0,0)) (heap_alloc_new w _)) (by simp) (fun m _=>It.cells_one m) (by simp only [List.length_singleton,maxLen];omega) (by simp only [List.length_singleton];omega) (by simp;omega) ?_
 intro v1 w1 h1 hg _
 refine h v1 w1 h1 ?_ ?_
 · exact (hb.alloc (Nat.le_trans hB hbase) _).grown hg (by simp;omega) (fun k hk=>Nat.le_trans hB (OwnL.lt hown k hk).1)
 · exact ⟨hg.os,hg.tape,hg.output,Nat.le_trans (by simp) hg.size,fun k hk hne=>(hg.block k (by simp;omega) hne).trans (Below.heap_alloc w _ k hk)⟩
theorem gcell {w w':World} {row:Option Nat} (hg:w.grownBy w' row) {b:Nat} (hb:b < w.heap.size) (hne:some b ≠ row):(∀ o,w'.cell? ⟨b,o,none⟩=w.cell? ⟨b,o,none⟩)∧(∀ o,w'.frozen? ⟨b,o,none⟩=w.frozen? ⟨b,o,none⟩) :=
 ⟨fun o=>World.cell?_of_block (hg.block b hb hne),fun o=>World.frozen?_of_block (hg.block b hb hne)⟩
theorem near_cells (w:World):∀ (s:Near w) (b o:Nat),b < w.heap.size→s.at_.cell? ⟨b,o,none⟩=w.cell? ⟨b,o,none⟩:=fun s b o h=>s.is.cell (p:=⟨b,o,none⟩) h
theorem box_item {w:World} {g:Nat} {x:It} {t:TypeId} (h:w.heap[g]? = some (.cells x.cells.toArray t (0,0))) :
   w.cell? ⟨g,0,none⟩=some (.int .i64 x.s)∧w.cell? ⟨g,1,none⟩=some (.int .i64 x.k)∧w.cell? ⟨g,2,none⟩=some (.int .u64 x.t)∧w.cell? ⟨g,3,none⟩=some (.int .u64 x.v)∧w.cell? ⟨g,4,none⟩=some (.int .i64 x.x) :=
 ⟨(cell_of_row w g 0 _ _ _ h).trans rfl,(cell_of_row w g 1 _ _ _ h).trans rfl,(cell_of_row w g 2 _ _ _ h).trans rfl,(cell_of_row w g 3 _ _ _ h).trans rfl,(cell_of_row w g 4 _ _ _ h).trans rfl⟩
theorem put_res {w:World} {g:Nat} {a0 a1 a2 a3 a4:Value} {t:TypeId} (x:It) (h:w.heap[g]? = some (.cells #[a0,a1,a2,a3,a4] t (0,0))) :
   (((((w.setCell ⟨g,0,none⟩ (.int .i64 x.s)).setCell ⟨g,1,none⟩ (.int .i64 x.k)).setCell ⟨g,2,none⟩ (.int .u64 x.t)).setCell ⟨g,3,none⟩ (.int .u64 x.v)).setCell ⟨g,4,none⟩ (.int .i64 x.x)).heap[g]? = some (.cells x.cells.toArray t (0,0)):=by
 simp [World.setCell,Array.getElem?_modify,h,It.cells]
end Go.Proofs.YtgmkckjedngkdaaGreatDoor
