/- A part of the proof that TopMajorityLaw holds: XIns, XDel. Conditions: as typed. -/
import Derived.Test.YtgmkckjedngkdaaGreatDoorTm08
import Derived.Test.YtgmkckjedngkdaaGreatDoorTm09
import Derived.Lib.Overlaps
import Derived.Lib.AppendZerosOnto
import Derived.ArgAppend
import Derived.Deep.RegionLaw
import Derived.Laws.Externs
import Derived.IntWalk
set_option linter.unusedVariables false
set_option linter.unusedSimpArgs false
namespace Go.Proofs.YtgmkckjedngkdaaGreatDoor
open Go.ChangeShapes Go.WideShapes Go.ChangeAt Go.RowKit
section
variable {P:Program}
theorem wpList_copy_rowN (w:World) {ops:Array Oper} {rest:List Oper} {o:Oper} {a:Act} {Q:Exit→Act→World→Prop} (hgd:o.guard=none) (d s:Operand) (dT sT:TypeId)
 (ho:o.op=.call { callee:=.builtin .copy,args:=#[d,s],argTypes:=#[dT,sT] }) (elem:TypeId) (i:TypeInfo) (hu:P.underlying dT=some (.slice elem)) (hi:P.info? elem=some i)
 (g off dLen dCap:Nat) (ad:Addr) (sLen sCap:Nat) (hd:a.eval d=.slice (some ⟨g,off,none⟩) dLen dCap) (hs:a.eval s=.slice (some ad) sLen sCap)
 (cur:List Value) (t:TypeId) (hg:w.heap[g]? = some (.cells cur.toArray t (0,0))) (cs:List Value) (hn:cs.length=Nat.min sLen dLen * i.size)
 (hsrc:∀ j v,cs[j]? = some v→w.cell? (ad.add j)=some v) (hfit:off+cs.length≤cur.length) (h1:∀ v ∈ cs,v.oneCell'=true)
 (h:∀ w',Hid (w'.heap[g]? = some (.cells (cur.take off ++ cs ++ cur.drop (off+cs.length)).toArray t (0,0)))→w.grownBy w' (some g)→wpList P ops Q rest (a.put o.dst (goInt (Nat.min sLen dLen))) w'):wpList P ops Q (o :: rest) a w:=by
 refine wpList_plain hgd fun K hK=>?_
 have hrun:=run_copy_rowN (P:=P) w dT sT o.type elem i g off dLen dCap ad sLen sCap cur t cs hu hi hg hn hsrc hfit h1
 unfold Oper.wp
 simp only [execOp,ho,resolve,invoke,builtin,Sem.run_bind,Sem.run_pure,Result.andThen_ok,List.map_toArray,List.map_cons,List.map_nil,hd,hs,hrun]
 exact hK _ _ (h _ (show _=_ from setRow_heap w g _ _ t _ hg) (grownBy_setRow w g _))
theorem step_copy_rowN (w:World) {ops:Array Oper} {o:Oper} {a:Act} {K:Act→World→Prop} {Q:Exit→Act→World→Prop} {E:Prop} (hgd:o.guard=none) (d s:Operand) (dT sT:TypeId)
 (ho:o.op=.call { callee:=.builtin .copy,args:=#[d,s],argTypes:=#[dT,sT] }) (elem:TypeId) (i:TypeInfo) (hu:P.underlying dT=some (.slice elem)) (hi:P.info? elem=some i)
 (g off dLen dCap:Nat) (ad:Addr) (sLen sCap:Nat) (hd:a.eval d=.slice (some ⟨g,off,none⟩) dLen dCap) (hs:a.eval s=.slice (some ad) sLen sCap)
 (cur:List Value) (t:TypeId) (hg:w.heap[g]? = some (.cells cur.toArray t (0,0))) (cs:List Value) (hn:cs.length=Nat.min sLen dLen * i.size)
 (hsrc:∀ j v,cs[j]? = some v→w.cell? (ad.add j)=some v) (hfit:off+cs.length≤cur.length) (h1:∀ v ∈ cs,v.oneCell'=true)
 (h:∀ w',Hid (w'.heap[g]? = some (.cells (cur.take off ++ cs ++ cur.drop (off+cs.length)).toArray t (0,0)))→w.grownBy w' (some g)→K (a.put o.dst (goInt (Nat.min sLen dLen))) w') :
 if Region.wanted o (yielded ops a.tmps)=true then Oper.wp P o a w K Q else E:=by
 have hw:Region.wanted o (yielded ops a.tmps)=true:=by simp [Region.wanted,hgd]
 rw [if_pos hw]
 have hrun:=run_copy_rowN (P:=P) w dT sT o.type elem i g off dLen dCap ad sLen sCap cur t cs hu hi hg hn hsrc hfit h1
 unfold Oper.wp
 simp only [execOp,ho,resolve,invoke,builtin,Sem.run_bind,Sem.run_pure,Result.andThen_ok,List.map_toArray,List.map_cons,List.map_nil,hd,hs,hrun]
 exact h _ (show _=_ from setRow_heap w g _ _ t _ hg) (grownBy_setRow w g _)
end
def RetOg (base:Nat) (L:List It) (v:Value) (w:World) (e:Ending) (w':World):Prop:=∃ v',e=.returned v'∧Og base w' v' L∧Wrote w w' v v'
theorem row_cell {w:World} {g:Nat} {l:List Value} {t:TypeId} (h:w.heap[g]? = some (.cells l.toArray t (0,0))) (k j:Nat) (v:Value) (hj:l[k+j]? = some v):w.cell? ((⟨g,k,none⟩:Addr).add j)=some v:=by
 rw [Addr.add_lit,cell_of_row w g (k+j) _ _ _ h]
 simpa using hj
theorem flat_split (L:List It) (i:Nat) (hi:i≤L.length):flat L=flat (L.take i) ++ flat (L.drop i):=by rw [← flat_app,List.take_append_drop]
theorem flat_take_len (L:List It) (i:Nat) (hi:i≤L.length):(flat (L.take i)).length=i * 5:=by rw [flat_length,List.length_take];omega
theorem flat_drop_len (L:List It) (i:Nat):(flat (L.drop i)).length=(L.length - i) * 5:=by rw [flat_length,List.length_drop]
theorem splice_in {X Y R c:List Value} {p:Nat} (hX:X.length=p) (hR:5≤R.length) (hc:c.length=5) :
 let M:=(X ++ Y ++ R).take (p+5) ++ Y ++ (X ++ Y ++ R).drop (p+5+Y.length)
 M.take p ++ c ++ M.drop (p+5)=X ++ c ++ Y ++ R.drop 5:=by
 subst hX
 intro M
 have e1:(X ++ Y ++ R).take (X.length+5)=X ++ (Y ++ R).take 5:=by rw [List.append_assoc,List.take_append,List.take_of_length_le (by omega)];simp
 have e2:(X ++ Y ++ R).drop (X.length+5+Y.length)=R.drop 5:=by
  rw [List.drop_append,List.drop_eq_nil_of_le (by (try simp);(try omega))]
  simp only [List.length_append,List.nil_append]
  rw [show X.length+5+Y.length - (X.length+Y.length)=5 from by omega]
 have hM:M=X ++ ((Y ++ R).take 5 ++ (Y ++ R.drop 5)):=by
  show (X ++ Y ++ R).take (X.length+5) ++ Y ++ (X ++ Y ++ R).drop (X.length+5+Y.length)=_
  rw [e1,e2];simp
 have hl:((Y ++ R).take 5).length=5:=by rw [List.length_take];simp;omega
 rw [hM,List.take_left,List.drop_append,List.drop_eq_nil_of_le (by omega),List.nil_append,show X.length+5 - X.length=5 by omega,List.drop_append,List.drop_eq_nil_of_le (by omega),hl]
 simp
theorem min_a {n i:Nat} (h:i < n):Nat.min (n+1 - i) (n+1 - (i+1))=n - i:=by simp only [Nat.min_def];split <;> omega
theorem min_b {n i:Nat} (h:i < n):Nat.min 1 (n+1 - i)=1:=by simp only [Nat.min_def];split <;> omega
theorem splice_len {l cs:List Value} {o:Nat} (h:o+cs.length≤l.length):(l.take o ++ cs ++ l.drop (o+cs.length)).length=l.length:=by simp;omega
theorem ins_len (L:List It) (i:Nat) (x:It) (hi:i≤L.length):(L.take i ++ x :: L.drop i).length=L.length+1:=by simp;omega
theorem ins_flat {L:List It} {i:Nat} {x:It} {R:List Value} (hi:i < L.length) (hR:5≤R.length) :
 ((((flat L ++ R).take ((i+1) * 5) ++ flat (L.drop i) ++ (flat L ++ R).drop ((i+1) * 5+(flat (L.drop i)).length)).take (i * 5) ++ x.cells) ++ ((flat L ++ R).take ((i+1) * 5) ++ flat (L.drop i) ++ (flat L ++ R).drop ((i+1) * 5+(flat (L.drop i)).length)).drop (i * 5+x.cells.length))=flat (L.take i ++ x :: L.drop i) ++ R.drop 5:=by
 have h:=splice_in (X:=flat (L.take i)) (Y:=flat (L.drop i)) (R:=R) (c:=x.cells) (p:=i * 5) (flat_take_len L i (by omega)) hR rfl
 rw [← flat_split L i (by omega)] at h
 rw [show (i+1) * 5=i * 5+5 by omega,show x.cells.length=5 from rfl]
 rw [h,flat_app,flat_cons]
 simp
set_option maxHeartbeats 4000000 in
set_option maxRecDepth 100000 in
theorem ins_in (g cap gv base:Nat) (R:List Value) (L:List It) (x:It) (i:Nat) (w:World) (hb:base≤g) (hg:w.heap[g]? = some (.cells (flat L ++ R).toArray 54 (0,0))) (hgv:w.heap[gv]? = some (.cells x.cells.toArray 54 (0,0)))
 (hne:gv ≠ g) (hi:i < L.length) (hroom:L.length+1≤cap) (hcm:cap≤maxLen) (hfit:cap * 5≤L.length * 5+R.length) :
 Calls Tryz.prog 213 #[.slice (some ⟨g,0,none⟩) L.length cap,.int .i64 i,.slice (some ⟨gv,0,none⟩) 1 1] w (RetOg base (L.take i ++ x :: L.drop i) (.slice (some ⟨g,0,none⟩) L.length cap) w):=by
 obtain ⟨i0,hi0,hz0,hz1,hz2⟩:=info_parts Tryz.infoItem
 unfold maxLen at hcm
 have hov:∀ off lb cb,(callFunc 278 #[.slice (some ⟨gv,0,none⟩) 1 1,.slice (some ⟨g,off,none⟩) lb cb]).run Tryz.prog w=.ok (.value (.bool false)) w:=fun off lb cb=>by
  rw [run_callFunc_extern Tryz.func278 (by kernel_rfl) (by kernel_rfl) (by kernel_rfl) (e:=Extern.SlicesOverlaps.overlaps #[31,31] #[4]) (by kernel_rfl),
   Lib.run_overlaps_apart w 31 4 54 Tryz.underlying31 5 Tryz.sizeOf54 ⟨gv,0,none⟩ ⟨g,off,none⟩ 1 1 lb cb hne 54 54 5 (flat L ++ R).length (by simp [World.shape?,hgv,It.cells]) (by simp [World.shape?,hg]) (by simp [flat_length];omega) (by simp [World.frozen?,hgv]) (by simp [World.frozen?,hgv])]
  rfl
 have HD:=hide (fun (j:Nat) (v:Value) (hj:(flat (L.drop i))[j]? = some v)=>show (flat L ++ R)[i * 5+j]? = some v by
  rw [flat_split L i (by omega),List.append_assoc,List.getElem?_append_right (by rw [flat_take_len L i (by omega)];omega),flat_take_len L i (by omega),Nat.add_sub_cancel_left]
  rw [List.getElem?_append_left (List.getElem?_eq_some_iff.1 hj).1];exact hj)
 have HN1:=hide (show (flat (L.drop i)).length=Nat.min (L.length+1 - i) (L.length+1 - (i+1)) * i0.size by rw [hz1,flat_drop_len,min_a hi])
 have HN2:=hide (show (i+1) * 5+(flat (L.drop i)).length≤(flat L ++ R).length by simp only [List.length_append,flat_length,List.length_drop];omega)
 have HN3:=hide (show x.cells.length=Nat.min 1 (L.length+1 - i) * i0.size by rw [hz1,min_b hi];rfl)
 have HN4:=hide (show i * 5+x.cells.length≤((flat L ++ R).take ((i+1) * 5) ++ flat (L.drop i) ++ (flat L ++ R).drop ((i+1) * 5+(flat (L.drop i)).length)).length by rw [splice_len HN2.out];simp only [List.length_append,flat_length];show i * 5+5≤_;omega)
 have HF:=hide (ins_flat (x:=x) (R:=R) hi (by omega))
 have HG:=hide hg
 have HV:=hide hgv
 clear hg hgv
 have b0:((i:Int) == (L.length:Int))=false:=beq_eq_false_iff_ne.2 (by omega)
 have b1:decide ((cap:Int) < (L.length:Int)+1)=false:=decide_eq_false (by omega)
 have c1:¬ (cap=i+1):=by omega
 have c2:¬ (cap=i):=by omega
 have c3:(i:Int)≤(L.length:Int):=by omega
 have c4:(L.length:Int)+1≤(cap:Int):=by omega
 have c5:(i:Int)≤(L.length:Int)+1:=by omega
 have c6:IntKind.i64.wrap ((i:Int)+1)=(i:Int)+1:=IntWalk.i64_in _ (by omega)
 have c7:(0:Int)≤(i:Int)+1:=by omega
 have c8:((i:Int)+1).toNat=i+1:=by omega
 go_enter Tryz.func213,Tryz.ntmps213
 go_wp2_with (simp only [hov])
 go_region_law (refine step_copy_rowN _ rfl (.tmp 73) (.tmp 76) 31 31 rfl 54 i0 Tryz.underlying31 hi0 g ((i+1) * 5) (L.length+1 - (i+1)) (cap - (i+1)) ⟨g,i * 5,none⟩ (L.length+1 - i) (cap - i) (by simp [Act.eval,Act.put]) (by simp [Act.eval,Act.put]) (flat L ++ R) 54 HG.out (flat (L.drop i)) HN1.out (fun j v hj=>row_cell HG.out (i * 5) j v (HD.out j v hj)) HN2.out (flat_one _) ?_;intro w1 hg1 hw1)
 have HV1:Hid (w1.heap[gv]? = some (.cells x.cells.toArray 54 (0,0))):=hide ((hw1.block gv (Array.getElem?_eq_some_iff.1 HV.out).1 (fun e=>hne (by injection e))).trans HV.out)
 go_wp2_with (refine wpList_copy_rowN _ rfl (.tmp 80) (.tmp 81) 31 31 rfl 54 i0 Tryz.underlying31 hi0 g (i * 5) (L.length+1 - i) (cap - i) ⟨gv,0,none⟩ 1 1 rfl rfl _ 54 hg1.out x.cells HN3.out (fun j v hj=>row_cell HV1.out 0 j v (by rw [Nat.zero_add];exact hj)) HN4.out (It.cells_one x) ?_;intro w2 hg2 hw2)
 go_ret
 have hg3:=hg2.out
 rw [HF.out] at hg3
 refine ⟨_,rfl,.inr ⟨g,cap,R.drop 5,by rw [ins_len L i x (by omega)];rfl,hb,hg3,by rw [ins_len L i x (by omega)];omega,by unfold maxLen;omega,by rw [ins_len L i x (by omega),List.length_drop];omega⟩,⟨?_,.inl rfl⟩⟩
 exact grownBy_trans (a:=w) (b:=w1) ⟨hw1.os,hw1.tape,hw1.output,hw1.size,hw1.block⟩ hw2
theorem append_flat (L:List It) (R:List Value) (y:It) (hR:5≤R.length):((flat L ++ R).toArray.toList.take (L.length * 5) ++ y.cells ++ (flat L ++ R).toArray.toList.drop (L.length * 5+y.cells.length))=flat (L ++ [y]) ++ R.drop 5:=by
 have hl:=flat_length L
 rw [List.toList_toArray,← hl,List.take_left,List.drop_append,List.drop_eq_nil_of_le (by omega),flat_app]
 rw [show (flat L).length+y.cells.length - (flat L).length=5 from by have:y.cells.length=5:=rfl;omega]
 simp [flat]
theorem wpList_append_og {ops:Array Oper} {rest:List Oper} {o:Oper} {a:Act} {Q:Exit→Act→World→Prop} (hgd:o.guard=none) (s x:Operand)
 (ho:o.op=.call { callee:=.builtin .append,args:=#[s,x],argTypes:=#[31,31] })
 (base g cap gv:Nat) (R:List Value) (L:List It) (y:It) (w:World) (hs:a.eval s=.slice (some ⟨g,0,none⟩) L.length cap) (hx:a.eval x=.slice (some ⟨gv,0,none⟩) 1 1)
 (hb:base≤g) (hg:w.heap[g]? = some (.cells (flat L ++ R).toArray 54 (0,0))) (hgv:w.heap[gv]? = some (.cells y.cells.toArray 54 (0,0))) (hnc:L.length≤cap) (hcm:cap≤maxLen) (hfit:cap * 5≤L.length * 5+R.length)
 (hbase:base≤w.heap.size) (hn:L.length≤2199023255552)
 (h:∀ v' w',Og base w' v' (L ++ [y])→Wrote w w' (.slice (some ⟨g,0,none⟩) L.length cap) v'→wpList Tryz.prog ops Q rest (a.put o.dst v') w'):wpList Tryz.prog ops Q (o :: rest) a w:=by
 obtain ⟨i0,hi0,hz0,hz1,hz2⟩:=info_parts Tryz.infoItem
 refine wpList_plain hgd fun K hK=>?_
 have hnews:∀ j u,y.cells[j]? = some u→w.cell? ((⟨gv,0,none⟩:Addr).add j)=some u:=fun j u hj=>row_cell hgv 0 j u (by rw [Nat.zero_add];exact hj)
 by_cases hr:L.length+1≤cap
 ·have hrun:=run_append_room (P:=Tryz.prog) w 31 o.type 54 i0 Tryz.underlying31 hi0 g L.length cap (flat L ++ R).toArray hg ⟨gv,0,none⟩ 1 1 y.cells (by rw [hz1];rfl) hnews (It.cells_one y) hr (by rw [hz1];simp [flat_length,It.cells];omega)
  rw [hz1] at hrun
  unfold Oper.wp execOp
  simp only [ho,resolve,invoke,builtin,Sem.run_bind,Sem.run_pure,Result.andThen_ok,List.map_toArray,List.map_cons,List.map_nil,hs,hx,hrun]
  refine hK _ _ (h _ _ (.inr ⟨g,cap,R.drop 5,by simp,hb,?_,by simp;omega,hcm,by rw [List.length_append,List.length_drop];simp only [List.length_singleton];omega⟩) ⟨grownBy_setRow w g _,.inl rfl⟩)
  rw [append_flat L R y (by omega)]
  exact setRow_heap w g _ _ _ _ hg
 ·obtain ⟨v',w',hrun,h1,h2⟩:=run_append_arg_grows (P:=Tryz.prog) w 31 o.type 54 i0 _ 5 40 Tryz.underlying31 hi0 hz0 hz1 hz2 rfl (by omega) ⟨g,0,none⟩ L.length cap (flat L) (flat_length L) (fun j u hj=>row_cell hg 0 j u (by rw [Nat.zero_add,List.getElem?_append_left (List.getElem?_eq_some_iff.1 hj).1];exact hj)) ⟨gv,0,none⟩ 1 1 y.cells rfl hnews (by omega) (by unfold maxLen;omega) (by omega)
  unfold Oper.wp execOp
  simp only [ho,resolve,invoke,builtin,Sem.run_bind,Sem.run_pure,Result.andThen_ok,List.map_toArray,List.map_cons,List.map_nil,hs,hx,hrun]
  have ho':Ow w.heap.size w' v' (L ++ [y]):=by
   unfold Ow OwnL
   rw [List.length_append,List.flatMap_append]
   simpa [flat] using h1
  refine hK _ _ (h _ _ ((ho'.og).base_ hbase) ⟨⟨h2.os,h2.tape,h2.output,h2.size,fun k hk _=>h2.block k hk (by simp)⟩,.inr ?_⟩)
  rcases h1.2 with ⟨_,h0⟩ | ⟨g',c',cur,rfl,hb',_⟩
  ·omega
  ·exact ⟨g',rfl,hb'⟩
theorem wpList_append_zeros {ops:Array Oper} {rest:List Oper} {o:Oper} {a:Act} {Q:Exit→Act→World→Prop} (hgd:o.guard=none) (s x:Operand)
 (ho:o.op=.call { callee:=.builtin .append,args:=#[s,x],argTypes:=#[31,3] })
 (g cap i:Nat) (R:List Value) (L:List It) (w:World) (k:Int) (hk:k=((L.length+1 - i:Nat):Int)) (hs:a.eval s=.slice (some ⟨g,0,none⟩) i cap) (hx:a.eval x=.int .i64 k)
 (hg:w.heap[g]? = some (.cells (flat L ++ R).toArray 54 (0,0))) (hi:i < L.length) (hc:cap < L.length+1) (hn:L.length≤2199023255552)
 (h:∀ G ZZ w',L.length+1≤G→G≤maxLen→ZZ.length=(G - i) * 5→Hid (w'.heap[w.heap.size]? = some (.cells (flat (L.take i) ++ ZZ).toArray 54 (0,0)))→Below w.heap.size w w' →
  wpList Tryz.prog ops Q rest (a.put o.dst (.slice (some ⟨w.heap.size,0,none⟩) (L.length+1) G)) w'):wpList Tryz.prog ops Q (o :: rest) a w:=by
 obtain ⟨i0,hi0,hz0,hz1,hz2⟩:=info_parts Tryz.infoItem
 subst hk
 refine wpList_plain hgd fun K hK=>?_
 have hik:i+(L.length+1 - i)=L.length+1:=by omega
 have hold:(Builtin.firstCells i0.size i (.slice (some ⟨g,0,none⟩) i cap)).run Tryz.prog w.drew=.ok (flat (L.take i)).toArray w.drew:=by
  rw [hz1]
  exact run_firstCells_some w.drew 5 i ⟨g,0,none⟩ i cap (flat (L.take i)) (flat_take_len L i (by omega)) (fun j v hj=>row_cell (w:=w.drew) hg 0 j v (by
   rw [Nat.zero_add,flat_split L i (by omega),List.append_assoc,List.getElem?_append_left (List.getElem?_eq_some_iff.1 hj).1];exact hj))
 have hrun:=Lib.run_append_grow_zeros w 31 3 o.type 54 i0 _ .i64 .i64 Tryz.underlying31 Tryz.underlying3 hi0 hz0 (some ⟨g,0,none⟩) i cap (flat (L.take i)) hold (L.length+1 - i) (by omega) (by omega) (by omega) (by omega) (by rw [hz2];omega) (by rw [hz2,hik];exact growslice_fits hc (by omega))
 rw [hik] at hrun
 have hG:=grownCap_ge w (L.length+1) cap 54
 have hG2:=grownCap_le_maxLen w (L.length+1) cap 54 (by unfold maxLen;omega)
 generalize grownCap w (L.length+1) cap 54=G at *
 unfold Oper.wp execOp
 simp only [ho,resolve,invoke,builtin,Sem.run_bind,Sem.run_pure,Result.andThen_ok,List.map_toArray,List.map_cons,List.map_nil,hs,hx,hrun]
 refine hK _ _ (h G ((Builtin.zeroCells (Value.agg #[.int .i64 0,.int .i64 0,.int .u64 0,.int .u64 0,.int .i64 0]).cells (L.length+1 - i)).toList ++ (Builtin.zeroCells (Value.agg #[.int .i64 0,.int .i64 0,.int .u64 0,.int .u64 0,.int .i64 0]).cells (G - (L.length+1))).toList) _ hG hG2 ?_ ?_ ?_)
 ·simp only [List.length_append,Array.length_toList,size_zeroCells]
  show (L.length+1 - i) * 5+(G - (L.length+1)) * 5=_
  omega
 ·show _=_
  have:=heap_alloc_new w.drew (.cells ((flat (L.take i)).toArray ++ Builtin.zeroCells (Value.agg #[.int .i64 0,.int .i64 0,.int .u64 0,.int .u64 0,.int .i64 0]).cells (L.length+1 - i) ++ Builtin.zeroCells (Value.agg #[.int .i64 0,.int .i64 0,.int .u64 0,.int .u64 0,.int .i64 0]).cells (G - (L.length+1))) 54)
  rw [show (flat (L.take i) ++ ((Builtin.zeroCells (Value.agg #[.int .i64 0,.int .i64 0,.int .u64 0,.int .u64 0,.int .i64 0]).cells (L.length+1 - i)).toList ++ (Builtin.zeroCells (Value.agg #[.int .i64 0,.int .i64 0,.int .u64 0,.int .u64 0,.int .i64 0]).cells (G - (L.length+1))).toList)).toArray=(flat (L.take i)).toArray ++ Builtin.zeroCells (Value.agg #[.int .i64 0,.int .i64 0,.int .u64 0,.int .u64 0,.int .i64 0]).cells (L.length+1 - i) ++ Builtin.zeroCells (Value.agg #[.int .i64 0,.int .i64 0,.int .u64 0,.int .u64 0,.int .i64 0]).cells (G - (L.length+1)) from by apply Array.ext';simp]
  exact this
 ·exact ((Below.refl _ _).drew).alloc (Nat.le_refl _) _
theorem min_c {n i:Nat}:Nat.min (n - i) (n+1 - (i+1))=n - i:=by simp only [Nat.min_def];split <;> omega
theorem fit1 {L:List It} {i:Nat} {ZZ:List Value} {G:Nat} (x:It) (hi:i < L.length) (hZ:ZZ.length=(G - i) * 5) (hG:L.length+1≤G):i * 5+x.cells.length≤(flat (L.take i) ++ ZZ).length:=by
 rw [List.length_append,flat_take_len L i (by omega)]
 show i * 5+5≤_
 omega
theorem fit2 {L:List It} {i:Nat} {ZZ:List Value} {G:Nat} (x:It) (hi:i < L.length) (hZ:ZZ.length=(G - i) * 5) (hG:L.length+1≤G):(i+1) * 5+(flat (L.drop i)).length≤(flat (L.take i) ++ x.cells ++ ZZ.drop 5).length:=by
 rw [List.length_append,List.length_append,flat_take_len L i (by omega),List.length_drop,flat_drop_len]
 show _≤i * 5+5+_
 omega
theorem grow_flat1 {L:List It} {i:Nat} {x:It} {ZZ:List Value} (hi:i < L.length):((flat (L.take i) ++ ZZ).take (i * 5) ++ x.cells ++ (flat (L.take i) ++ ZZ).drop (i * 5+x.cells.length))=flat (L.take i) ++ x.cells ++ ZZ.drop 5:=by
 have hl:=flat_take_len L i (by omega)
 rw [← hl,List.take_left,List.drop_append,List.drop_eq_nil_of_le (by omega)]
 rw [show (flat (L.take i)).length+x.cells.length - (flat (L.take i)).length=5 from by have:x.cells.length=5:=rfl;omega]
 simp
theorem splice_end {X Y Z:List Value} {p:Nat} (hX:X.length=p):(X ++ Z).take p ++ Y ++ (X ++ Z).drop (p+Y.length)=X ++ Y ++ Z.drop Y.length:=by
 subst hX
 rw [List.take_left,List.drop_append,List.drop_eq_nil_of_le (by omega),List.nil_append,Nat.add_sub_cancel_left]
theorem grow_flat2 {L:List It} {i:Nat} {x:It} {ZZ:List Value} (hi:i < L.length):((flat (L.take i) ++ x.cells ++ ZZ.drop 5).take ((i+1) * 5) ++ flat (L.drop i) ++ (flat (L.take i) ++ x.cells ++ ZZ.drop 5).drop ((i+1) * 5+(flat (L.drop i)).length))=flat (L.take i ++ x :: L.drop i) ++ ZZ.drop (5+(flat (L.drop i)).length):=by
 have hl:=flat_take_len L i (by omega)
 have h5:x.cells.length=5:=rfl
 have h:=splice_end (X:=flat (L.take i) ++ x.cells) (Y:=flat (L.drop i)) (Z:=ZZ.drop 5) (p:=(i+1) * 5) (by rw [List.length_append,hl,h5];omega)
 rw [h,flat_app,flat_cons,List.drop_drop]
 simp
set_option maxHeartbeats 4000000 in
set_option maxRecDepth 100000 in
theorem ins_grow (g cap gv base:Nat) (R:List Value) (L:List It) (x:It) (i:Nat) (w:World) (hb:base≤g) (hbase:base≤w.heap.size) (hg:w.heap[g]? = some (.cells (flat L ++ R).toArray 54 (0,0))) (hgv:w.heap[gv]? = some (.cells x.cells.toArray 54 (0,0)))
 (hi:i < L.length) (hnc:L.length≤cap) (hroom:cap < L.length+1) (hn:L.length≤2199023255552) :
 Calls Tryz.prog 213 #[.slice (some ⟨g,0,none⟩) L.length cap,.int .i64 i,.slice (some ⟨gv,0,none⟩) 1 1] w (RetOg base (L.take i ++ x :: L.drop i) (.slice (some ⟨g,0,none⟩) L.length cap) w):=by
 obtain ⟨i0,hi0,hz0,hz1,hz2⟩:=info_parts Tryz.infoItem
 have hgl:g < w.heap.size:=(Array.getElem?_eq_some_iff.1 hg).1
 have hgvl:gv < w.heap.size:=(Array.getElem?_eq_some_iff.1 hgv).1
 have HD:=hide (fun (j:Nat) (v:Value) (hj:(flat (L.drop i))[j]? = some v)=>show (flat L ++ R)[i * 5+j]? = some v by
  rw [flat_split L i (by omega),List.append_assoc,List.getElem?_append_right (by rw [flat_take_len L i (by omega)];omega),flat_take_len L i (by omega),Nat.add_sub_cancel_left]
  rw [List.getElem?_append_left (List.getElem?_eq_some_iff.1 hj).1];exact hj)
 have HN1:=hide (show (flat (L.drop i)).length=Nat.min (L.length - i) (L.length+1 - (i+1)) * i0.size by rw [hz1,flat_drop_len,min_c])
 have HN3:=hide (show x.cells.length=Nat.min 1 (L.length+1 - i) * i0.size by rw [hz1,min_b hi];rfl)
 have HG:=hide hg
 have HV:=hide hgv
 have HK:=hide (show ((L.length:Int)+1 - (i:Int))=((L.length+1 - i:Nat):Int) by omega)
 clear hg hgv
 have b0:((i:Int) == (L.length:Int))=false:=beq_eq_false_iff_ne.2 (by omega)
 have b1:decide ((cap:Int) < (L.length:Int)+1)=true:=decide_eq_true (by omega)
 have c2:¬ (cap=i):=by omega
 have c3:(i:Int)≤(L.length:Int):=by omega
 have c9:(i:Int)≤(cap:Int):=by omega
 have c5:(i:Int)≤(L.length:Int)+1:=by omega
 have c6:IntKind.i64.wrap ((i:Int)+1)=(i:Int)+1:=IntWalk.i64_in _ (by omega)
 have c7:(0:Int)≤(i:Int)+1:=by omega
 have c8:((i:Int)+1).toNat=i+1:=by omega
 go_enter Tryz.func213,Tryz.ntmps213
 go_wp2_with (first
  | (at_builtin;refine wpList_append_zeros rfl (.tmp 34) (.tmp 39) rfl g cap i R L _ _ HK.out rfl rfl HG.out hi hroom hn ?_;intro G ZZ w1 hG1 hG2 hZ h1 hb1;have d1:¬ (G=i):=(by omega);have d2:¬ (G=i+1):=(by omega);have d3:G≤9223372036854775807:=(by unfold maxLen at hG2;omega);have HZ:=hide hZ;clear hZ;have HV1:=hide ((hb1.block gv hgvl).trans HV.out);have HS1:=hide ((hb1.block g hgl).trans HG.out);have HW1:=hide hb1;have hl1:=hb1.size)
  | (refine wpList_copy_rowN _ rfl (.tmp 43) (.tmp 44) 31 31 rfl 54 i0 Tryz.underlying31 hi0 w.heap.size (i * 5) (L.length+1 - i) (G - i) ⟨gv,0,none⟩ 1 1 rfl rfl _ 54 h1.out x.cells HN3.out (fun j v hj=>row_cell HV1.out 0 j v (by rw [Nat.zero_add];exact hj)) (fit1 x hi HZ.out hG1) (It.cells_one x) ?_;intro w2 hg2 hw2))
 have hg2':=hg2.out
 rw [grow_flat1 hi] at hg2'
 have HG2:=hide hg2'
 have HS2:=hide ((hw2.block g (Nat.lt_of_lt_of_le hgl HW1.out.size) (fun e=>by injection e with e;omega)).trans HS1.out)
 clear hg2 hg2' h1
 go_region_law (refine step_copy_rowN _ rfl (.tmp 50) (.tmp 53) 31 31 rfl 54 i0 Tryz.underlying31 hi0 w.heap.size ((i+1) * 5) (L.length+1 - (i+1)) (G - (i+1)) ⟨g,i * 5,none⟩ (L.length - i) (cap - i) (by simp [Act.eval,Act.put]) (by simp [Act.eval,Act.put]) _ 54 HG2.out (flat (L.drop i)) HN1.out (fun j v hj=>row_cell HS2.out (i * 5) j v (HD.out j v hj)) (fit2 x hi HZ.out hG1) (flat_one _) ?_;intro w3 hg3 hw3)
 have hg4:=hg3.out
 rw [grow_flat2 hi] at hg4
 have HG4:=hide hg4
 clear hg3 hg4
 go_wp2_with fail
 go_ret
 refine ⟨_,rfl,.inr ⟨w.heap.size,G,ZZ.drop (5+(flat (L.drop i)).length),by rw [ins_len L i x (by omega)];rfl,hbase,HG4.out,by rw [ins_len L i x (by omega)];exact hG1,hG2,?_⟩,⟨?_,.inr ⟨w.heap.size,rfl,Nat.le_refl _⟩⟩⟩
 ·rw [ins_len L i x (by omega),List.length_drop,flat_drop_len,HZ.out];omega
 ·have hbb:Below w.heap.size w w3:=(HW1.out.grown hw2 HW1.out.size (fun k hk=>by injection hk with hk;omega)).grown (row:=some w.heap.size) ⟨hw3.os,hw3.tape,hw3.output,hw3.size,hw3.block⟩ (Nat.le_trans HW1.out.size hw2.size) (fun k hk=>by injection hk with hk;omega)
  exact grownBy_below hbb
theorem wrote_nil {w w':World} {v':Value} {base:Nat} {L:List It} (hg:w.grownBy w' none) (ho:Og base w' v' L) (hb:∀ k,v'.ownBlock=some k→w.heap.size≤k):Wrote w w' (.slice none 0 0) v':=by
 refine ⟨hg,?_⟩
 cases e:v'.ownBlock with
 | none=>exact .inl rfl
 | some k=>exact .inr ⟨k,rfl,hb k e⟩
set_option maxHeartbeats 400000 in
theorem ins_end (g cap gv base:Nat) (R:List Value) (L:List It) (x:It) (w:World) (hb:base≤g) (hbase:base≤w.heap.size) (hg:w.heap[g]? = some (.cells (flat L ++ R).toArray 54 (0,0))) (hgv:w.heap[gv]? = some (.cells x.cells.toArray 54 (0,0)))
 (hnc:L.length≤cap) (hcm:cap≤maxLen) (hfit:cap * 5≤L.length * 5+R.length) (hn:L.length≤2199023255552) :
 Calls Tryz.prog 213 #[.slice (some ⟨g,0,none⟩) L.length cap,.int .i64 L.length,.slice (some ⟨gv,0,none⟩) 1 1] w (RetOg base (L ++ [x]) (.slice (some ⟨g,0,none⟩) L.length cap) w):=by
 have HG:=hide hg
 have HV:=hide hgv
 clear hg hgv
 have hle:(L.length:Int)≤(cap:Int):=by omega
 go_enter Tryz.func213,Tryz.ntmps213
 go_wp2_with (at_builtin;refine wpList_append_og rfl (.tmp 23) (.tmp 24) rfl base g cap gv R L x _ rfl rfl hb HG.out HV.out hnc hcm hfit hbase hn ?_;intro v1 w1 ho1 hw1)
 all_goals
  go_ret
  exact ⟨_,rfl,ho1,⟨hw1.grown,hw1.lies⟩⟩
set_option maxHeartbeats 400000 in
theorem ins_nil (gv base:Nat) (x:It) (w:World) (hbase:base≤w.heap.size) (hgv:w.heap[gv]? = some (.cells x.cells.toArray 54 (0,0))) :
 Calls Tryz.prog 213 #[.slice none 0 0,.int .i64 0,.slice (some ⟨gv,0,none⟩) 1 1] w (RetOg base [x] (.slice none 0 0) w):=by
 have HV:=hide hgv
 clear hgv
 obtain ⟨i0,hi,hz0,hz1,hz2⟩:=info_parts Tryz.infoItem
 go_enter Tryz.func213,Tryz.ntmps213
 go_wp2_with (at_builtin;refine wpList_append_row _ rfl (.tmp 23) (.tmp 24) 31 rfl w.heap.size 54 i0 _ 5 40 Tryz.underlying31 hi hz0 hz1 hz2 rfl (by omega) It.cells_len (.slice none 0 0) [] rfl (OwnL.nil_ _ _ _ _ _) (some ⟨gv,0,none⟩) 1 [x] rfl (RowAt.new_one (t:=54) (fr:=(0,0)) HV.out) (by simp) (fun m _=>It.cells_one m) (by simp [maxLen]) (by simp) (Nat.le_refl _) ?_;intro v1 w1 hown1 hg1 _)
 all_goals
  go_ret
  have ho:Ow w.heap.size w1 v1 [x]:=hown1
  exact ⟨_,rfl,(ho.og).base_ hbase,wrote_nil hg1 ho.og (fun k hk=>(OwnL.lt ho k hk).1)⟩
theorem ins_any (gv base:Nat) (v:Value) (L:List It) (x:It) (i:Nat) (w:World) (h:Og base w v L) (hbase:base≤w.heap.size) (hgv:w.heap[gv]? = some (.cells x.cells.toArray 54 (0,0))) (hne:v.ownBlock ≠ some gv) (hi:i≤L.length) (hn:L.length≤2199023255552) :
 Calls Tryz.prog 213 #[v,.int .i64 i,.slice (some ⟨gv,0,none⟩) 1 1] w (RetOg base (L.take i ++ x :: L.drop i) v w):=by
 rcases h with ⟨rfl,rfl⟩ | ⟨g,cap,R,rfl,hb,hg,hnc,hcm,hfit⟩
 ·obtain rfl:i=0:=by simpa using hi
  exact ins_nil gv base x w hbase hgv
 ·have hne':gv ≠ g:=fun e=>hne (by rw [e];rfl)
  by_cases he:i=L.length
  ·subst he
   rw [List.take_length,List.drop_length]
   exact ins_end g cap gv base R L x w hb hbase hg hgv hnc hcm hfit hn
  ·by_cases hr:L.length+1≤cap
   ·exact ins_in g cap gv base R L x i w hb hg hgv hne' (by omega) hr hcm hfit
   ·exact ins_grow g cap gv base R L x i w hb hbase hg hgv (by omega) hnc (by omega) hn
end Go.Proofs.YtgmkckjedngkdaaGreatDoor
namespace Go.Proofs.YtgmkckjedngkdaaGreatDoor
open Go.ChangeShapes Go.WideShapes Go.ChangeAt Go.RowKit
def TellsG (F:FuncId) (caps:Array Value) (p:It→Bool) (L:List It) (row:Option Nat) (w:World):Prop :=
 ∀ x ∈ L,∀ w1,w.grownBy w1 row→Calls Tryz.prog F (#[x.val] ++ caps) w1 fun e w2=>e=.returned (.bool (p x))∧Below w1.heap.size w1 w2
theorem row_item5 {w:World} {g:Nat} {M:List It} {R:List Value} {t:TypeId} (h:w.heap[g]? = some (.cells (flat M ++ R).toArray t (0,0))) {k:Nat} (hk:k < M.length) :
 w.cell? ⟨g,k * 5,none⟩=some (.int .i64 M[k].s)∧w.cell? ⟨g,k * 5+1,none⟩=some (.int .i64 M[k].k)∧w.cell? ⟨g,k * 5+2,none⟩=some (.int .u64 M[k].t)∧w.cell? ⟨g,k * 5+3,none⟩=some (.int .u64 M[k].v)∧w.cell? ⟨g,k * 5+4,none⟩=some (.int .i64 M[k].x):=by
 have f:∀ j u,(It.cells M[k])[j]? = some u→w.cell? ⟨g,k * 5+j,none⟩=some u:=fun j u hu=>by
  rw [cell_of_row w g (k * 5+j) _ _ _ h]
  have:=flat_at M R k hk j u hu
  simpa using this
 exact ⟨f 0 _ rfl,f 1 _ rfl,f 2 _ rfl,f 3 _ rfl,f 4 _ rfl⟩
theorem row_free {w:World} {g:Nat} {l:Array Value} {t:TypeId} (h:w.heap[g]? = some (.cells l t (0,0))):∀ o,w.frozen? ⟨g,o,none⟩=false:=fun o=>by simp [World.frozen?,h]
section
variable {P:Program}
theorem wpList_clear_rowN (w:World) {ops:Array Oper} {rest:List Oper} {o:Oper} {a:Act} {Q:Exit→Act→World→Prop} (hgd:o.guard=none) (s:Operand) (dT:TypeId)
 (ho:o.op=.call { callee:=.builtin .clear,args:=#[s],argTypes:=#[dT] }) (elem:TypeId) (i:TypeInfo) (z:Value) (hu:P.underlying dT=some (.slice elem)) (hi:P.info? elem=some i) (hz:i.zero=some z)
 (g off n c:Nat) (hs:a.eval s=.slice (some ⟨g,off,none⟩) n c) (hn:0 < n)
 (cur:List Value) (t:TypeId) (hg:w.heap[g]? = some (.cells cur.toArray t (0,0))) (hfit:off+n * z.cells.size≤cur.length) (h1:∀ v ∈ (Builtin.zeroCells z.cells n).toList,v.oneCell'=true)
 (h:∀ w',Hid (w'.heap[g]? = some (.cells (cur.take off ++ (Builtin.zeroCells z.cells n).toList ++ cur.drop (off+(Builtin.zeroCells z.cells n).toList.length)).toArray t (0,0)))→w.grownBy w' (some g)→wpList P ops Q rest (a.put o.dst (.tuple #[])) w'):wpList P ops Q (o :: rest) a w:=by
 refine wpList_plain hgd fun K hK=>?_
 obtain ⟨m,rfl⟩:∃ m,n=m+1:=⟨n - 1,by omega⟩
 have hst:=run_storeCells_at P g off t (Builtin.zeroCells z.cells (m+1)).toList 0 cur.toArray w hg (by rw [Array.length_toList,size_zeroCells];simpa using hfit) h1
 have hrun:(Builtin.clear_ #[dT] o.type #[.slice (some ⟨g,off,none⟩) (m+1) c]).run P w=.ok (.tuple #[]) (w.setRow g (cur.take off ++ (Builtin.zeroCells z.cells (m+1)).toList ++ cur.drop (off+(Builtin.zeroCells z.cells (m+1)).toList.length)).toArray):=by
  simp only [Nat.add_zero,List.toList_toArray] at hst
  simp [Builtin.clear_,run_underlying hu,zeroValue,typeInfo,hi,hz,hst]
 unfold Oper.wp
 simp only [execOp,ho,resolve,invoke,builtin,Sem.run_bind,Sem.run_pure,Result.andThen_ok,List.map_toArray,List.map_cons,List.map_nil,hs,hrun]
 exact hK _ _ (h _ (show _=_ from setRow_heap w g _ _ t _ hg) (grownBy_setRow w g _))
end
def keepL (p:It→Bool) (L:List It):List It:=L.filter fun y=>!p y
theorem keep_snoc {p:It→Bool} {L:List It} {j:Nat} (hj:j < L.length):keepL p (L.take (j+1))=keepL p (L.take j) ++ (if p L[j] then [] else [L[j]]):=by
 unfold keepL
 rw [List.take_succ_eq_append_getElem hj,List.filter_append]
 cases h:p L[j] <;> simp [h]
theorem keep_all {p:It→Bool} {L:List It} (h:findI p L=-1):keepL p L=L:=by
 unfold keepL
 refine List.filter_eq_self.2 fun x hx=>?_
 unfold findI at h
 cases e:L.findIdx? p with
 | some i=>rw [e] at h;simp at h;try omega
 | none=>rw [List.findIdx?_eq_none_iff] at e;simp [e x hx]
theorem find_some {p:It→Bool} {L:List It} (h:¬ findI p L=-1):∃ i:Nat,findI p L=i∧i < L.length∧keepL p (L.take (i+1))=L.take i:=by
 unfold findI at *
 cases e:L.findIdx? p with
 | none=>rw [e] at h;exact absurd rfl h
 | some i =>
  rw [List.findIdx?_eq_some_iff_getElem] at e
  obtain ⟨hi,hp,hno⟩:=e
  refine ⟨i,rfl,hi,?_⟩
  rw [keep_snoc hi,hp]
  simp only [if_true,List.append_nil]
  unfold keepL
  refine List.filter_eq_self.2 fun x hx=>?_
  obtain ⟨j,hj,rfl⟩:=List.getElem_of_mem hx
  have hj':j < i:=by simp at hj;omega
  rw [List.getElem_take]
  have:=hno j hj'
  simpa using this
def Swept (p:It→Bool) (L:List It) (j i:Nat) (M:List It):Prop:=∃ J,J ≠ []∧M=keepL p (L.take j) ++ J ++ L.drop j∧(keepL p (L.take j)).length=i∧i+J.length=j
theorem Swept.len {p:It→Bool} {L:List It} {j i:Nat} {M:List It} (h:Swept p L j i M) (hj:j≤L.length):M.length=L.length∧i < j:=by
 obtain ⟨J,h0,rfl,h1,h2⟩:=h
 have:0 < J.length:=List.length_pos_iff.2 h0
 simp only [List.length_append,List.length_drop]
 omega
theorem Swept.at_ {p:It→Bool} {L:List It} {j i:Nat} {M:List It} (h:Swept p L j i M) (hj:j < L.length) (hM:j < M.length):M[j]=L[j]:=by
 obtain ⟨J,h0,rfl,h1,h2⟩:=h
 rw [List.getElem_append_right (by simp only [List.length_append];omega)]
 simp only [List.length_append,List.getElem_drop]
 congr 1;omega
theorem Swept.drop_ {p:It→Bool} {L:List It} {j i:Nat} {M:List It} (h:Swept p L j i M) (hj:j < L.length) (hp:p L[j]=true):Swept p L (j+1) i M:=by
 obtain ⟨J,h0,rfl,h1,h2⟩:=h
 refine ⟨J ++ [L[j]],by simp,?_,?_,by simp;omega⟩
 ·rw [keep_snoc hj,hp,List.drop_eq_getElem_cons hj];simp
 ·rw [keep_snoc hj,hp];simpa using h1
theorem Swept.keep_ {p:It→Bool} {L:List It} {j i:Nat} {M:List It} (h:Swept p L j i M) (hj:j < L.length) (hp:p L[j]=false):Swept p L (j+1) (i+1) (M.set i L[j]):=by
 obtain ⟨J,h0,rfl,h1,h2⟩:=h
 cases J with
 | nil=>exact absurd rfl h0
 | cons a J1 =>
  refine ⟨J1 ++ [L[j]],by simp,?_,?_,by simp at *;omega⟩
  ·rw [keep_snoc hj,hp,List.drop_eq_getElem_cons hj,List.append_assoc,List.set_append_right _ _ (by omega),h1,Nat.sub_self]
   simp
  ·rw [keep_snoc hj,hp];simp [h1]
theorem swept_start {p:It→Bool} {L:List It} {i:Nat} (hi:i < L.length) (h:keepL p (L.take (i+1))=L.take i):Swept p L (i+1) i L:=by
 refine ⟨[L[i]],by simp,?_,?_,by simp⟩
 ·rw [h]
  rw [List.append_assoc,List.singleton_append,← List.drop_eq_getElem_cons hi,List.take_append_drop]
 ·rw [h,List.length_take];omega
theorem zero_cells (n:Nat):(Builtin.zeroCells (Value.agg #[.int .i64 0,.int .i64 0,.int .u64 0,.int .u64 0,.int .i64 0]).cells n).toList.length=n * 5:=by
 rw [Array.length_toList,size_zeroCells];rfl
theorem zero_one (n:Nat):∀ v ∈ (Builtin.zeroCells (Value.agg #[.int .i64 0,.int .i64 0,.int .u64 0,.int .u64 0,.int .i64 0]).cells n).toList,v.oneCell'=true:=by
 intro v hv
 simp only [Builtin.zeroCells,Array.toList_flatten,Array.toList_replicate,Array.toList_map,List.mem_flatten,List.mem_map] at hv
 obtain ⟨a,_,rfl⟩:=hv
 have h:a % 5 < 5:=Nat.mod_lt _ (by omega)
 show ((#[.int .i64 0,.int .i64 0,.int .u64 0,.int .u64 0,.int .i64 0]:Array Value)[a % 5]!).oneCell'=true
 generalize a % 5=k at h ⊢
 match k,h with
 | 0,_=>rfl
 | 1,_=>rfl
 | 2,_=>rfl
 | 3,_=>rfl
 | 4,_=>rfl
theorem swept_end {p:It→Bool} {L:List It} {i:Nat} {M:List It} {R Z:List Value} (h:Swept p L L.length i M) (hZ:Z.length=(L.length - i) * 5) :
 (flat M ++ R).take (i * 5) ++ Z ++ (flat M ++ R).drop (i * 5+Z.length)=flat (keepL p L) ++ (Z ++ R)∧(keepL p L).length=i:=by
 obtain ⟨J,h0,rfl,h1,h2⟩:=h
 rw [List.take_length] at *
 have hk:(flat (keepL p L)).length=i * 5:=by rw [flat_length,h1]
 have hJ:(flat J).length=Z.length:=by rw [flat_length,hZ];congr 1;omega
 refine ⟨?_,h1⟩
 rw [List.drop_length,List.append_nil,flat_app,← hk,List.append_assoc (flat (keepL p L)),List.take_left,List.drop_append,List.drop_eq_nil_of_le (by omega),List.nil_append,Nat.add_sub_cancel_left,← hJ,List.drop_left,List.append_assoc]
set_option maxHeartbeats 4000000 in
set_option maxRecDepth 100000 in
theorem del_row (F:FuncId) (caps:Array Value) (hcf:Enters Tryz.prog F) (p:It→Bool) (g cap base:Nat) (R:List Value) (L:List It) (w:World) (hb:base≤g) (hg:w.heap[g]? = some (.cells (flat L ++ R).toArray 54 (0,0)))
 (hnc:L.length≤cap) (hcm:cap≤maxLen) (hfit:cap * 5≤L.length * 5+R.length) (hF:TellsG F caps p L (some g) w) :
 Calls Tryz.prog 214 #[.slice (some ⟨g,0,none⟩) L.length cap,.func (.func F) #[] caps] w (RetOg base (keepL p L) (.slice (some ⟨g,0,none⟩) L.length cap) w):=by
 have hgl:g < w.heap.size:=(Array.getElem?_eq_some_iff.1 hg).1
 have HI:=hide (fun W hW=>index_any F caps hcf p (some ⟨g,0,none⟩) cap L W (by unfold maxLen at hcm;omega) (RowAt.below (row_items hg) hW) (fun x hx w1 h1=>hF x hx w1 (grownBy_below (below_step hW h1))))
 have HF:=hide hF
 have HCF:=hide hcf
 have HG:=hide hg
 clear hg hF hcf
 by_cases hf:findI p L=-1
 ·have HK:=hide (keep_all hf)
  rw [hf] at HI
  go_enter Tryz.func214,Tryz.ntmps214
  go_wp2_with fail
  refine (Calls.mono (HI.out _ (Below.refl _ _)) ?_);rintro e w1 ⟨rfl,hg1⟩
  go_wp2_with fail
  go_ret
  refine ⟨_,rfl,?_,⟨grownBy_below hg1,.inl rfl⟩⟩
  rw [HK.out]
  exact .inr ⟨g,cap,R,rfl,hb,(hg1.block g hgl).trans HG.out,hnc,hcm,hfit⟩
 ·obtain ⟨i0,hf2,hi0,hk0⟩:=find_some hf
  rw [hf2] at HI
  have HS:=hide (swept_start hi0 hk0)
  clear hf hf2 hk0
  have hc63:cap≤9223372036854775807:=by unfold maxLen at hcm;omega
  have bi:((i0:Int) == -1)=false:=beq_eq_false_iff_ne.2 (by omega)
  go_enter Tryz.func214,Tryz.ntmps214
  go_wp2_with fail
  refine (Calls.mono (HI.out _ (Below.refl _ _)) ?_);rintro e w1 ⟨rfl,hg1⟩
  have HG1:=hide ((hg1.block g hgl).trans HG.out)
  have HB1:=hide (grownBy_below (row:=some g) hg1)
  clear hg1 HI
  go_wp2_with fail
  go_loopw [5,6] (fun a b wr=>∃ (i j:Nat) (M:List It),a=.int .i64 i∧b=.int .i64 j∧j≤L.length∧Swept p L j i M∧wr.heap[g]? = some (.cells (flat M ++ R).toArray 54 (0,0))∧w.grownBy wr (some g)) (fun _ b _=>L.length - (intOf b).toNat)
  case atStart=>exact ⟨i0,i0+1,L,rfl,by go_num,by omega,HS.out,HG1.out,HB1.out⟩
  case round =>
   obtain ⟨i,j,M,rfl,rfl,hj,hsw,hgr,hgb⟩:=hrel
   obtain ⟨hMl,hij⟩:=hsw.len hj
   have hml:M.length≤L.length:=by omega
   have hml2:L.length≤M.length:=by omega
   have HMl:=hide hMl
   clear hMl
   have hgl':g < wr.heap.size:=(Array.getElem?_eq_some_iff.1 hgr).1
   have HGR:=hide hgr
   have HGB:=hide hgb
   clear hgr hgb
   by_cases hlt:j < L.length
   ·obtain ⟨y0,y1,y2,y3,y4⟩:=row_item5 HGR.out (k:=j) (by omega)
    have hat:=hsw.at_ hlt (by omega)
    have H1:=hide (fun h=>hsw.drop_ hlt h)
    have H2:=hide (fun h=>hsw.keep_ hlt h)
    have hcall:=HF.out L[j] (List.getElem_mem _)
    rw [hat] at y0 y1 y2 y3 y4
    clear hsw hat
    generalize L[j]=y at *
    have HC:=hide (fun W hW=>hcall W hW)
    clear hcall
    have hcf:=HCF.out
    unfold Enters at hcf
    have hjc:(j:Int) < (L.length:Int):=by omega
    cases hp:p y
    all_goals
     go_wp2_with fail
     refine (Calls.mono (HC.out _ (grownBy_trans HGB.out (World.grownBy_alloc _ _ _))) ?_);rintro e w2 ⟨rfl,hg2⟩
     rw [hp]
     have HG2:=hide ((hg2.block g (by simp;omega)).trans ((Below.heap_alloc wr _ g hgl').trans HGR.out))
     have HB2:=hide (grownBy_trans HGB.out (grownBy_trans (World.grownBy_alloc _ _ _) (grownBy_below (row:=some g) hg2)))
     obtain ⟨x0,x1,x2,x3,x4⟩:=box_item (x:=y) ((hg2.block wr.heap.size (by simp)).trans (heap_alloc_new wr _))
     clear hg2
    ·obtain ⟨z0,z1,z2,z3,z4⟩:=row_item5 HG2.out (k:=i) (by omega)
     have hfz:=row_free HG2.out
     have hne:¬ (wr.heap.size=g):=by omega
     have hne2:¬ (g=wr.heap.size):=by omega
     have hic:(i:Int) < (L.length:Int):=by omega
     have hil:i < M.length:=by omega
     go_wp2_with fail
     go_roundw
     case rel=>exact ⟨i+1,j+1,M.set i y,by go_num,by go_num,by omega,H2.out hp,put5_row HG2.out hil,grownBy_trans HB2.out (put5_grown _ g (i * 5) y)⟩
     case measure=>simp [intOf];omega
    ·go_wp2_with fail
     go_roundw
     case rel=>exact ⟨i,j+1,M,rfl,by go_num,by omega,H1.out hp,HG2.out,HB2.out⟩
     case measure=>simp [intOf];omega
   ·obtain rfl:j=L.length:=by omega
    have hc1:¬ (cap=i):=by omega
    have hil:(i:Int)≤(L.length:Int):=by omega
    have hil2:(i:Int)≤(cap:Int):=by omega
    obtain ⟨i0',hi0',hz0,hz1,hz2⟩:=info_parts Tryz.infoItem
    have HE:=hide (swept_end (R:=R) hsw (zero_cells _))
    have HZ1:=hide (show i * 5+(L.length - i) * (Value.agg #[.int .i64 0,.int .i64 0,.int .u64 0,.int .u64 0,.int .i64 0]).cells.size≤(flat M ++ R).length by
     rw [List.length_append,flat_length];show i * 5+(L.length - i) * 5≤_;omega)
    go_wp2_with (refine wpList_clear_rowN _ rfl (.tmp 38) 31 rfl 54 i0' _ Tryz.underlying31 hi0' hz0 g (i * 5) (L.length - i) (cap - i) rfl (by omega) _ 54 HGR.out HZ1.out (zero_one _) ?_;intro w2 hg2 hw2)
    have hg3:=hg2.out
    rw [HE.out.1] at hg3
    have HG3:=hide hg3
    clear hg2 hg3
    go_wp2_with fail
    go_ret
    refine ⟨_,rfl,.inr ⟨g,cap,_,by rw [HE.out.2];rfl,hb,HG3.out,by rw [HE.out.2];omega,hcm,?_⟩,⟨grownBy_trans HGB.out hw2,.inl rfl⟩⟩
    rw [HE.out.2,List.length_append,zero_cells];omega
theorem del_any (F:FuncId) (caps:Array Value) (hcf:Enters Tryz.prog F) (p:It→Bool) (base:Nat) (v:Value) (L:List It) (w:World) (h:Og base w v L) (hF:TellsG F caps p L v.ownBlock w) :
 Calls Tryz.prog 214 #[v,.func (.func F) #[] caps] w (RetOg base (keepL p L) v w):=by
 rcases h with ⟨rfl,rfl⟩ | ⟨g,cap,R,rfl,hb,hg,hnc,hcm,hfit⟩
 ·have HI:=hide (index_any F caps hcf p none 0 [] w (by simp) RowAt.nil_ (fun x hx=>by simp at hx))
  clear hF hcf
  go_enter Tryz.func214,Tryz.ntmps214
  go_wp2_with fail
  refine (Calls.mono HI.out ?_);rintro e w1 ⟨rfl,hg1⟩
  rw [show findI p []=-1 from rfl]
  go_wp2_with fail
  go_ret
  exact ⟨_,rfl,.inl ⟨rfl,rfl⟩,⟨grownBy_below hg1,.inl rfl⟩⟩
 ·exact del_row F caps hcf p g cap base R L w hb hg hnc hcm hfit hF
end Go.Proofs.YtgmkckjedngkdaaGreatDoor
