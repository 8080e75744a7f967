/- A part of the proof that TopMajorityLaw holds: XMDel, XNet, XNetT, XNetS, XNetD, XNetO, XMgB, XRnd, XRndS, XCo, XCoS. Conditions: as typed. -/
import Derived.Test.YtgmkckjedngkdaaGreatDoorTm03
import Derived.Test.YtgmkckjedngkdaaGreatDoorTm08
import Derived.Test.YtgmkckjedngkdaaGreatDoorTm09
import Derived.Test.YtgmkckjedngkdaaGreatDoorTm12
import Derived.Test.YtgmkckjedngkdaaGreatDoorTm13
import Derived.Test.YtgmkckjedngkdaaGreatDoorTm14
import Derived.Deep.RegionLaw
import Derived.BigQuiet
import Derived.StillTailTactics
import Derived.BigRegion
import Derived.Deep.DeepCutAuto
import Derived.Deep.CutBlock
set_option linter.unusedVariables false
set_option linter.unusedSimpArgs false
namespace Go.Proofs.YtgmkckjedngkdaaGreatDoor
open Go.ChangeShapes Go.WideShapes Go.ChangeAt Go.RowKit
def fl (M:List Mg):List Value:=M.flatMap Mg.cells
theorem fl_length (M:List Mg):(fl M).length=M.length * 6:=flat_len Mg.cells_len M
theorem fl_one (M:List Mg):∀ u ∈ fl M,u.oneCell'=true:=by
 intro u hu
 obtain ⟨a,_,ha⟩:=List.mem_flatMap.1 hu
 exact Mg.cells_one a u ha
theorem fl_app (L M:List Mg):fl (L ++ M)=fl L ++ fl M:=List.flatMap_append
theorem fl_split (M:List Mg) (i:Nat):fl M=fl (M.take i) ++ fl (M.drop i):=by rw [← fl_app,List.take_append_drop]
theorem heap_cells {g:Nat} {t:TypeId}:∀ (news:List Value) (off:Nat) (cur:List Value) (w:World),w.heap[g]? = some (.cells cur.toArray t (0,0))→off+news.length≤cur.length →
 (w.setCells g off news).heap[g]? = some (.cells (cur.take off ++ news ++ cur.drop (off+news.length)).toArray t (0,0))
 | [],off,cur,w,h,_=>by simpa [World.setCells] using h
 | v :: r,off,cur,w,h,hl=>by
  simp only [List.length_cons] at hl
  have h1:=heap_cells r (off+1) (cur.set off v) (w.setCell ⟨g,off,none⟩ v) (heap_setE h) (by rw [List.length_set];omega)
  rw [World.setCells,h1]
  congr 3
  have e1:(cur.set off v).take (off+1)=cur.take off ++ [v]:=by
   rw [List.take_succ_eq_append_getElem (by rw [List.length_set];omega),List.take_set_of_le (Nat.le_refl _),List.getElem_set_self]
  rw [e1,List.drop_set_of_lt (by omega)]
  simp only [List.length_cons,List.append_assoc,List.singleton_append]
  congr 3
  omega
theorem setCells_grownM (w:World) (b:Nat) (vs:List Value) (o:Nat):w.grownBy (w.setCells b o vs) (some b):=by
 induction vs generalizing o w with
 | nil=>exact World.grownBy.refl w _
 | cons v r ih =>
  have h2:=ih (w.setCell ⟨b,o,none⟩ v) (o+1)
  rw [World.setCells]
  refine ⟨h2.os,h2.tape,h2.output,Nat.le_trans (by simp) h2.size,fun k hk hne=>?_⟩
  exact (h2.block k (by simpa using hk) hne).trans (Below.heap_setCell w ⟨b,o,none⟩ v k (fun e=>hne (by rw [e])))
theorem _root_.Go.World.grownBy.trans_ {a b c:World} {row:Option Nat} (h:a.grownBy b row) (k:b.grownBy c row):a.grownBy c row :=
 ⟨k.os.trans h.os,k.tape.trans h.tape,k.output.trans h.output,Nat.le_trans h.size k.size,fun i hi hne=>(k.block i (Nat.lt_of_lt_of_le hi h.size) hne).trans (h.block i hi hne)⟩
abbrev zM:Value:=.agg #[.int .i64 0,.int .i64 0,.int .i64 0,.int .u64 0,.int .u64 0,.slice none 0 0]
theorem zeroM_one:∀ v ∈ (Builtin.zeroCells zM.cells 1).toList,v.oneCell'=true:=by
 intro v hv
 simp only [Builtin.zeroCells,Array.toList_flatten,Array.toList_replicate,Array.toList_map,List.mem_flatten,List.mem_map] at hv
 obtain ⟨a,_,rfl⟩:=hv
 have h:a % 6 < 6:=Nat.mod_lt _ (by omega)
 show ((#[.int .i64 0,.int .i64 0,.int .i64 0,.int .u64 0,.int .u64 0,.slice none 0 0]:Array Value)[a % 6]!).oneCell'=true
 generalize a % 6=k at h ⊢
 match k,h with
 | 0,_=>rfl
 | 1,_=>rfl
 | 2,_=>rfl
 | 3,_=>rfl
 | 4,_=>rfl
 | 5,_=>rfl
theorem zeroM_len:(Builtin.zeroCells zM.cells 1).toList.length=6:=by
 rw [Array.length_toList,size_zeroCells];rfl
set_option maxRecDepth 100000 in
set_option maxHeartbeats 1600000 in
theorem delm_any {base:Nat} {v:Value} {M:List Mg} {w:World} (h:OwnL Mg.cells 6 33 base w v M) (i:Nat) (hi:i < M.length) :
 Calls Tryz.prog 176 #[v,.int .i64 i,.int .i64 ((i:Int)+1)] w fun e w'=>∃ v',e=.returned v'∧OwnL Mg.cells 6 33 base w' v' (M.eraseIdx i)∧w.grownBy w' v.ownBlock∧v'.ownBlock=v.ownBlock:=by
 obtain ⟨hlen,hh⟩:=h
 rcases hh with ⟨_,h0⟩ | ⟨g,cap,cur,rfl,hb,hg,hnc,hcm,hcs,htk⟩
 ·omega
 obtain ⟨i0,hi0,hz0,hz1,hz2⟩:=info_parts Tryz.infoMsg
 obtain ⟨l,rfl⟩:∃ l:List Value,cur=l.toArray:=⟨cur.toList,by simp⟩
 have hl:l.length=cap * 6:=by simpa using hcs
 rw [List.toList_toArray] at htk
 have hgl:g < w.heap.size:=(Array.getElem?_eq_some_iff.1 hg).1
 have hgd:w.drew.heap[g]? = some (.cells l.toArray 33 (0,0)):=hg
 have hdl:(fl (M.drop (i+1))).length=(M.length - (i+1)) * 6:=by rw [fl_length,List.length_drop]
 have hcell:∀ (j:Nat) (u:Value),(fl (M.drop (i+1)))[j]? = some u→w.drew.cell? ⟨g,(i+1) * 6+j,none⟩=some u:=fun j u hu=>by
  rw [cell_of_row w.drew g _ _ _ _ hgd,List.getElem?_toArray]
  have h1:j < (M.length - (i+1)) * 6:=by rw [← hdl];exact (List.getElem?_eq_some_iff.1 hu).1
  have h2:(l.take (M.length * 6))[(i+1) * 6+j]? = some u:=by
   rw [htk]
   show (fl M)[(i+1) * 6+j]? = some u
   have h3:(fl (M.take (i+1))).length=(i+1) * 6:=by rw [fl_length,List.length_take];congr 1;omega
   rw [fl_split M (i+1),List.getElem?_append_right (by omega),h3,Nat.add_sub_cancel_left]
   exact hu
  rw [List.getElem?_take] at h2
  split at h2
  ·exact h2
  ·cases h2
 have hsp:∀ j,j < (fl (M.drop (i+1))).length→(w.drew.cell? ⟨g,0+i * 6+j,none⟩).isSome=true∧w.drew.frozen? ⟨g,0+i * 6+j,none⟩=false:=fun j hj=>by
  constructor
  ·rw [cell_of_row w.drew g _ _ _ _ hgd,List.getElem?_toArray,List.getElem?_eq_getElem (by rw [hl];omega)]
   rfl
  ·simp [World.frozen?,hgd]
 obtain ⟨n,hn⟩:∃ n,M.length=n:=⟨_,rfl⟩
 rw [hn] at hdl hnc hi htk
 have hlE:(M.eraseIdx i).length=n - 1:=by rw [List.length_eraseIdx_of_lt (by omega),hn]
 have hpre:l.take (i * 6)=fl (M.take i):=by
  have h1:l.take (i * 6)=(l.take (n * 6)).take (i * 6):=by rw [List.take_take];congr 1;omega
  rw [h1,htk]
  show (fl M).take (i * 6)=_
  have h3:(fl (M.take i)).length=i * 6:=by rw [fl_length,List.length_take];congr 1;omega
  rw [fl_split M i,← h3,List.take_left]
 have hEL:fl (M.eraseIdx i)=fl (M.take i) ++ fl (M.drop (i+1)):=by rw [List.eraseIdx_eq_take_drop_succ,fl_app]
 have hELl:(fl (M.eraseIdx i)).length=(n - 1) * 6:=by rw [fl_length,hlE]
 have hftl:(l.take (i * 6) ++ fl (M.drop (i+1)) ++ l.drop (i * 6+(fl (M.drop (i+1))).length)).length=cap * 6:=by
  simp only [List.length_append,List.length_take,List.length_drop,hl,hdl];omega
 have hfin:(l.take (i * 6) ++ fl (M.drop (i+1)) ++ l.drop (i * 6+(fl (M.drop (i+1))).length)).take ((n - 1) * 6) ++ (Builtin.zeroCells zM.cells 1).toList ++ (l.take (i * 6) ++ fl (M.drop (i+1)) ++ l.drop (i * 6+(fl (M.drop (i+1))).length)).drop ((n - 1) * 6+(Builtin.zeroCells zM.cells 1).toList.length)=fl (M.eraseIdx i) ++ ((Builtin.zeroCells zM.cells 1).toList ++ l.drop (n * 6)):=by
  rw [zeroM_len,hpre,← hEL]
  rw [← hELl,List.take_left,List.append_assoc]
  congr 2
  rw [List.drop_append,List.drop_eq_nil_of_le (by omega),List.nil_append,List.drop_drop,hdl]
  congr 1
  omega
 have hsz:(fl (M.eraseIdx i) ++ ((Builtin.zeroCells zM.cells 1).toList ++ l.drop (n * 6))).toArray.size=cap * 6:=by
  simp only [List.size_toArray,List.length_append,List.length_drop,hELl,zeroM_len,hl];omega
 have htk2:(fl (M.eraseIdx i) ++ ((Builtin.zeroCells zM.cells 1).toList ++ l.drop (n * 6))).toArray.toList.take ((M.eraseIdx i).length * 6)=(M.eraseIdx i).flatMap Mg.cells:=by
  rw [List.toList_toArray,hlE,← hELl,List.take_left]
  rfl
 have HG:=hide hgd
 have HB:=hide hb
 have HN:Hid ((fl (M.drop (i+1))).length=(n - (i+1)) * 6):=hide hdl
 have HSP:=hide hsp
 have HF:Hid (i * 6+(fl (M.drop (i+1))).length≤l.length):=hide (by rw [hdl,hl];omega)
 have HFT:Hid ((n - 1) * 6+1 * zM.cells.size≤(l.take (i * 6) ++ fl (M.drop (i+1)) ++ l.drop (i * 6+(fl (M.drop (i+1))).length)).length):=hide (by rw [hftl];show (n - 1) * 6+1 * 6≤_;omega)
 have HFIN:=hide hfin
 have HSZ:=hide hsz
 have HTK:=hide htk2
 have HLE:=hide hlE
 have hroom:i+(n - (i+1))≤cap:=by omega
 unfold maxLen at hcm
 have hneq:((i:Int) == (i:Int)+1)=false:=beq_eq_false_iff_ne.2 (by omega)
 have hle1:(i:Int)≤(cap:Int):=by omega
 have hle2:(i:Int)+1≤(n:Int):=by omega
 have hle0:(0:Int)≤(i:Int)+1:=by omega
 have hle4:(i:Int)≤(i:Int)+1:=by omega
 have hle3:(n:Int)≤(cap:Int):=by omega
 have hcn:¬ cap=n - 1:=by omega
 have hn1:((n - 1:Nat):Int)≤(n:Int):=by omega
 have hn2:n - (n - 1)=1:=by omega
 show Calls Tryz.prog 176 #[.slice (some ⟨g,0,none⟩) M.length cap,.int .i64 i,.int .i64 ((i:Int)+1)] w _
 rw [hn]
 clear hlen hg hcs htk hgl hgd hdl hsp hlE hpre hEL hELl hftl hfin hsz htk2 hb hl hz2
 have hle2N:i+1≤n:=by omega
 obtain ⟨D,hD⟩:∃ D,M.drop (i+1)=D:=⟨_,rfl⟩
 rw [hD] at HN HSP HF HFT HFIN hcell
 clear hD
 by_cases hce:cap=i+1
 ·have HC:Hid (∀ (j:Nat) (u:Value),(fl (D))[j]? = some u→w.drew.cell? ((⟨g,0,none⟩:Addr).add j)=some u):=hide (fun j u hu=>by
   have h1:=(List.getElem?_eq_some_iff.1 hu).1
   rw [HN.out] at h1
   omega)
  have HN:Hid ((fl (D)).length=0 * 6):=hide (by rw [HN.out];omega)
  have hroom:i+0≤cap:=by omega
  obtain rfl:n=cap:=by omega
  have hce2:i+1=n:=hce.symm
  clear hcell hce
  go_enter Tryz.func176,Tryz.ntmps176
  go_upto_region 5 with fail
  refine j_start [6,7] (by kernel_rfl) ?_
  refine' j_t 0 [2,6,7] rfl (by kernel_rfl) rfl ?y0b ?r0b
  case y0b=>(intro w' hw';go_simp;try with_reducible rfl)
  try go_frame
  refine' j_t 1 [2,6,7] rfl (by kernel_rfl) rfl ?y1b ?r1b
  case y1b=>(intro w' hw';go_simp;try with_reducible rfl)
  try go_frame
  refine' j_t 2 [6,7] rfl (by kernel_rfl) rfl ?y2b ?r2b
  case y2b=>(intro w' hw';go_simp;try with_reducible rfl)
  try go_frame
  refine' j_t 3 [5,6,7] rfl (by kernel_rfl) rfl ?y3b ?r3b
  case y3b=>(intro w' hw';go_simp;try with_reducible rfl)
  try go_frame
  refine' j_t 4 [5,6,7] rfl (by kernel_rfl) rfl ?y4b ?r4b
  case y4b=>(intro w' hw';go_simp;try with_reducible rfl)
  try go_frame
  refine' j_t 5 [6,7] rfl (by kernel_rfl) rfl ?y5b ?r5b
  case y5b=>(intro w' hw';go_simp;try with_reducible rfl)
  try go_frame
  refine' j_l 6 (by kernel_rfl) rfl (by kernel_rfl) (fun K hK=>?s6b)
  refine step_append_room rfl (.tmp 22) (.tmp 25) 35 rfl 33 i0 6 Tryz.underlying35 hi0 hz1 g 0 i n rfl ⟨g,0,none⟩ 0 0 (fl D) rfl HN.out HC.out (fl_one _) hroom HSP.out ?_
  rw [show 0+i * 6=i * 6 by omega]
  refine hK.out _ _ ?_
  clear hK K
  try go_frame
  refine' j_l 7 (by kernel_rfl) rfl (by kernel_rfl) (fun K hK=>?s7b)
  go_simp
  refine hK.out _ _ ?_
  clear hK K
  try go_frame
  refine wpAnyJ_done (by kernel_rfl) ?_ _
  refine NoPanic.normal ?_
  have hw1:((w.drew.setCells g (i * 6) (fl D)).heap[g]? = some (.cells (l.take (i * 6) ++ fl D ++ l.drop (i * 6+(fl D).length)).toArray 33 (0,0))):=heap_cells _ _ _ _ HG.out HF.out
  have hgr:=setCells_grownM w.drew g (fl D) (i * 6)
  obtain ⟨w1,hw1e⟩:∃ w1,w.drew.setCells g (i * 6) (fl D)=w1:=⟨_,rfl⟩
  rw [hw1e] at hw1 hgr
  have HW1:=hide hw1
  have HGR:=hide hgr
  have hin:n - 1=i:=by omega
  rw [hin] at HFT HFIN
  have hni:n - i=1:=by omega
  have HFT:Hid (i * 6+(n - i) * zM.cells.size≤(l.take (i * 6) ++ fl D ++ l.drop (i * 6+(fl D).length)).length):=hide (by rw [hni];exact HFT.out)
  have HZ1:Hid (∀ v ∈ (Builtin.zeroCells zM.cells (n - i)).toList,v.oneCell'=true):=hide (by rw [hni];exact zeroM_one)
  have HNI:=hide hni
  clear hni
  try rw [hw1e]
  clear hw1 hgr hw1e
  go_wp2_with (refine wpList_clear_rowN _ rfl (.tmp 31) 35 rfl 33 i0 _ Tryz.underlying35 hi0 hz0 g (i * 6) (n - i) (n - i) rfl (by omega) _ 33 HW1.out HFT.out HZ1.out ?_;intro w2 hg2 hw2)
  go_ret
  have hg3:=hg2.out
  rw [HNI.out,HFIN.out] at hg3
  refine ⟨.slice (some ⟨g,0,none⟩) i n,rfl,?_,?_,rfl⟩
  ·exact ⟨fl_length _,.inr ⟨g,n,_,by rw [HLE.out,hin],HB.out,hg3,by rw [HLE.out];omega,by unfold maxLen;omega,HSZ.out,HTK.out⟩⟩
  ·exact (show w.grownBy w1 (some g) from ⟨HGR.out.os,HGR.out.tape,HGR.out.output,HGR.out.size,HGR.out.block⟩).trans_ hw2
 ·have HC:Hid (∀ (j:Nat) (u:Value),(fl (D))[j]? = some u→w.drew.cell? ((⟨g,(i+1) * 6,none⟩:Addr).add j)=some u):=hide (fun j u hu=>by
   have h1:=hcell j u hu
   unfold Addr.add
   by_cases hj:j=0
   ·simpa [hj] using h1
   ·simpa [hj] using h1)
  clear hcell
  go_enter Tryz.func176,Tryz.ntmps176
  go_upto_region 5 with fail
  refine j_start [6,7] (by kernel_rfl) ?_
  refine' j_t 0 [2,6,7] rfl (by kernel_rfl) rfl ?y0a ?r0a
  case y0a=>(intro w' hw';go_simp;try with_reducible rfl)
  try go_frame
  refine' j_t 1 [2,6,7] rfl (by kernel_rfl) rfl ?y1a ?r1a
  case y1a=>(intro w' hw';go_simp;try with_reducible rfl)
  try go_frame
  refine' j_t 2 [6,7] rfl (by kernel_rfl) rfl ?y2a ?r2a
  case y2a=>(intro w' hw';go_simp;try with_reducible rfl)
  try go_frame
  refine' j_t 3 [5,6,7] rfl (by kernel_rfl) rfl ?y3a ?r3a
  case y3a=>(intro w' hw';go_simp;try with_reducible rfl)
  try go_frame
  refine' j_t 4 [5,6,7] rfl (by kernel_rfl) rfl ?y4a ?r4a
  case y4a=>(intro w' hw';go_simp;try with_reducible rfl)
  try go_frame
  refine' j_t 5 [6,7] rfl (by kernel_rfl) rfl ?y5a ?r5a
  case y5a=>(intro w' hw';go_simp;try with_reducible rfl)
  try go_frame
  refine' j_l 6 (by kernel_rfl) rfl (by kernel_rfl) (fun K hK=>?s6a)
  refine step_append_room rfl (.tmp 22) (.tmp 25) 35 rfl 33 i0 6 Tryz.underlying35 hi0 hz1 g 0 i cap rfl ⟨g,(i+1) * 6,none⟩ (n - (i+1)) (cap - (i+1)) (fl D) rfl HN.out HC.out (fl_one _) hroom HSP.out ?_
  rw [show 0+i * 6=i * 6 by omega]
  refine hK.out _ _ ?_
  clear hK K
  try go_frame
  refine' j_l 7 (by kernel_rfl) rfl (by kernel_rfl) (fun K hK=>?s7a)
  go_simp
  refine hK.out _ _ ?_
  clear hK K
  try go_frame
  refine wpAnyJ_done (by kernel_rfl) ?_ _
  refine NoPanic.normal ?_
  have hw1:((w.drew.setCells g (i * 6) (fl D)).heap[g]? = some (.cells (l.take (i * 6) ++ fl D ++ l.drop (i * 6+(fl D).length)).toArray 33 (0,0))):=heap_cells _ _ _ _ HG.out HF.out
  have hgr:=setCells_grownM w.drew g (fl D) (i * 6)
  obtain ⟨w1,hw1e⟩:∃ w1,w.drew.setCells g (i * 6) (fl D)=w1:=⟨_,rfl⟩
  rw [hw1e] at hw1 hgr
  have HW1:=hide hw1
  have HGR:=hide hgr
  rw [show i+(n - (i+1))=n - 1 by omega]
  try rw [hw1e]
  clear hw1 hgr hw1e
  go_wp2_with (refine wpList_clear_rowN _ rfl (.tmp 31) 35 rfl 33 i0 _ Tryz.underlying35 hi0 hz0 g ((n - 1) * 6) 1 (cap - (n - 1)) rfl (by omega) _ 33 HW1.out HFT.out zeroM_one ?_;intro w2 hg2 hw2)
  go_ret
  have hg3:=hg2.out
  rw [HFIN.out] at hg3
  refine ⟨.slice (some ⟨g,0,none⟩) (n - 1) cap,rfl,?_,?_,rfl⟩
  ·exact ⟨fl_length _,.inr ⟨g,cap,_,by rw [HLE.out],HB.out,hg3,by rw [HLE.out];omega,by unfold maxLen;omega,HSZ.out,HTK.out⟩⟩
  ·exact (show w.grownBy w1 (some g) from ⟨HGR.out.os,HGR.out.tape,HGR.out.output,HGR.out.size,HGR.out.block⟩).trans_ hw2
end Go.Proofs.YtgmkckjedngkdaaGreatDoor
namespace Go.Proofs.YtgmkckjedngkdaaGreatDoor
open Go.ChangeShapes Go.WideShapes Go.ChangeAt Go.RowKit
theorem iadd_any (b o:Nat) (n y:Int) (w:World) (h:w.cell? ⟨b,o,none⟩=some (.int .i64 n)) (hz:w.frozen? ⟨b,o,none⟩=false) (hs:IntKind.i64.wrap (n+y)=n+y) :
 Calls Tryz.prog 229 #[.pointer (some ⟨b,o,none⟩),.int .i64 y] w fun e w'=>e=.returned (.int .i64 (n+y))∧w'=w.setCell ⟨b,o,none⟩ (.int .i64 (n+y)):=by
 have hadd:=run_call_add (P:=Tryz.prog) Tryz.func284 (by kernel_rfl) (by kernel_rfl) (by kernel_rfl) .i64 (by kernel_rfl) (y:=y) (s:=n+y) h hz (by simp [go_sem,hs])
 go_enter Tryz.func229,Tryz.ntmps229
 go_wp2
 go_ret
 exact ⟨rfl,rfl⟩
def Mg.bare (m:Mg):Mg:={ m with A:=none,c:=0 }
theorem bare_same (m:Mg):Mg.same m m.bare:=⟨rfl,rfl,rfl,rfl,rfl,rfl⟩
def nwC (m:Int) (v:Value) (a b:Int):Array Value:=#[.int .i64 m,v,.int .i64 a,.int .i64 b]
theorem nw_box {w:World} {b:Nat} {v:Value} {m l s:Int} {t:TypeId} (h:w.heap[b]? = some (.cells (nwC m v l s) t (0,0))):b < w.heap.size ∧
 (w.cell? ⟨b,0,none⟩=some (.int .i64 m)∧w.cell? ⟨b,1,none⟩=some v∧w.cell? ⟨b,2,none⟩=some (.int .i64 l)∧w.cell? ⟨b,3,none⟩=some (.int .i64 s))∧∀ o,w.frozen? ⟨b,o,none⟩=false :=
 ⟨(Array.getElem?_eq_some_iff.1 h).1,⟨(cell_of_row w b 0 _ _ _ h).trans rfl,(cell_of_row w b 1 _ _ _ h).trans rfl,(cell_of_row w b 2 _ _ _ h).trans rfl,(cell_of_row w b 3 _ _ _ h).trans rfl⟩,fun o=>by simp [World.frozen?,h]⟩
theorem nw_put1 {w:World} {b:Nat} {v:Value} {m l s:Int} {t:TypeId} (u:Value) (h:w.heap[b]? = some (.cells (nwC m v l s) t (0,0))):(w.setCell ⟨b,1,none⟩ u).heap[b]? = some (.cells (nwC m u l s) t (0,0)):=by
 simp [World.setCell,Array.getElem?_modify,h,nwC]
theorem nw_put3 {w:World} {b:Nat} {v:Value} {m l s:Int} {t:TypeId} (x:Int) (h:w.heap[b]? = some (.cells (nwC m v l s) t (0,0))):(w.setCell ⟨b,3,none⟩ (.int .i64 x)).heap[b]? = some (.cells (nwC m v l x) t (0,0)):=by
 simp [World.setCell,Array.getElem?_modify,h,nwC]
structure NetV (w:World) (b:Nat) (v:Value) (m:Nat) (M:List Mg) (l s:Int):Prop where
 box:w.heap[b]? = some (.cells (nwC m v l s) 168 (0,0))
 own:OwnL Mg.cells 6 33 (b+1) w v M
 rd:∀ x ∈ M,x.rd w∧∀ a,x.A=some a→x.L ≠ []→b < a.block∧v.ownBlock ≠ some a.block
structure NetW (w:World) (b:Nat) (rb:Option Nat) (m:Nat) (C:List Mg) (l s:Int):Prop where
 at_:∃ v M,NetV w b v m M l s∧v.ownBlock=rb∧M.map Mg.bare=C
 ok:∀ c ∈ C,mokB c=true
def NBlk (b:Nat) (rb:Option Nat) (c:Nat):Prop:=c=b ∨ rb=some c
def MovedB (w:World) (rb rb':Option Nat):Prop:=rb'=rb ∨ ∃ g,w.heap.size≤g∧rb'=some g
theorem NetV.below {w w':World} {b:Nat} {v:Value} {m:Nat} {M:List Mg} {l s:Int} (h:NetV w b v m M l s) (hb:Below w.heap.size w w'):NetV w' b v m M l s :=
 ⟨(hb.block b (Array.getElem?_eq_some_iff.1 h.box).1).trans h.box,OwnL.below h.own hb,fun x hx=>⟨(h.rd x hx).1.below hb,(h.rd x hx).2⟩⟩
theorem NetW.below {w w':World} {b:Nat} {rb:Option Nat} {m:Nat} {C:List Mg} {l s:Int} (h:NetW w b rb m C l s) (hb:Below w.heap.size w w'):NetW w' b rb m C l s:=by
 obtain ⟨v,M,h1,h2,h3⟩:=h.at_
 exact ⟨⟨v,M,h1.below hb,h2,h3⟩,h.ok⟩
theorem NetW.lt {w:World} {b:Nat} {rb:Option Nat} {m:Nat} {C:List Mg} {l s:Int} (h:NetW w b rb m C l s):b < w.heap.size:=by
 obtain ⟨v,M,h1,h2,h3⟩:=h.at_
 exact (Array.getElem?_eq_some_iff.1 h1.box).1
theorem NetW.row_lt {w:World} {b:Nat} {rb:Option Nat} {m:Nat} {C:List Mg} {l s:Int} (h:NetW w b rb m C l s):∀ g,rb=some g→b < g∧g < w.heap.size:=by
 obtain ⟨v,M,h1,rfl,h3⟩:=h.at_
 intro g hg
 have:=OwnL.lt h1.own g hg
 exact ⟨by omega,this.2⟩
theorem NetW.blk_lt {w:World} {b:Nat} {rb:Option Nat} {m:Nat} {C:List Mg} {l s:Int} (h:NetW w b rb m C l s) {c:Nat} (hc:NBlk b rb c):b≤c∧c < w.heap.size:=by
 rcases hc with rfl | hc
 ·exact ⟨Nat.le_refl _,h.lt⟩
 ·have:=h.row_lt c hc;exact ⟨by omega,this.2⟩
theorem NetV.slice {w:World} {b:Nat} {v:Value} {m:Nat} {M:List Mg} {l s:Int} (h:NetV w b v m M l s):∃ A c,v=.slice A M.length c∧RowAt Mg.cells 6 w A M∧M.length≤c∧c≤maxLen:=by
 obtain ⟨A,c,e,hr,_,h1,h2⟩:=OwnL.row Mg.cells_len h.own
 exact ⟨A,c,e,hr,h1,h2⟩
def capN (n:Int):Nat:=(min (max n 1) 1000).toNat
set_option maxRecDepth 100000 in
set_option maxHeartbeats 1000000 in
theorem nnew_any (n:Int) (w:World):Calls Tryz.prog 40 #[.int .i64 n] w fun e w'=>∃ b,e=.returned (.pointer (some ⟨b,0,none⟩))∧NetW w' b none (capN n) [] 0 0∧w.heap.size≤b∧Below w.heap.size w w':=by
 have hb:=below_alloc (Below.refl w.heap.size w) (.cells (nwC (capN n) (.slice none 0 0) 0 0) 168)
 have HB:=hide hb
 have HN:Hid (NetW (w.alloc (.cells (nwC (capN n) (.slice none 0 0) 0 0) 168)) w.heap.size none (capN n) [] 0 0):=hide ⟨⟨.slice none 0 0,[],⟨heap_alloc_new w _,OwnL.nil_ _ _ _ _ _,fun x hx=>by cases hx⟩,rfl,rfl⟩,fun x hx=>by cases hx⟩
 unfold nwC at HB HN
 have HC:Hid (((capN n:Nat):Int)=min (max n 1) 1000):=hide (by unfold capN;omega)
 rw [HC.out] at HB HN
 clear hb
 by_cases h1:1 < n
 ·have hm:max n 1=n:=by omega
  rw [hm] at HB HN
  have d1:¬ n < 1:=by omega
  have d1':1≤n:=by omega
  by_cases h2:n < 1000
  ·have hm2:min n 1000=n:=by omega
   rw [hm2] at HB HN
   have d2:n≤1000:=by omega
   have d3:¬ 1000 < n:=by omega
   go_enter Tryz.func40,Tryz.ntmps40
   go_wp2_with fail
   go_ret
   exact ⟨_,rfl,HN.out,Nat.le_refl _,HB.out⟩
  ·have hm2:min n 1000=1000:=by omega
   rw [hm2] at HB HN
   by_cases h3:n=1000
   ·subst h3
    go_enter Tryz.func40,Tryz.ntmps40
    go_wp2_with fail
    go_ret
    exact ⟨_,rfl,HN.out,Nat.le_refl _,HB.out⟩
   have d3:1000≤n:=by omega
   have d4:¬ n≤1000:=by omega
   have d5:1000 < n:=by omega
   go_enter Tryz.func40,Tryz.ntmps40
   go_wp2_with fail
   go_ret
   exact ⟨_,rfl,HN.out,Nat.le_refl _,HB.out⟩
 ·have hm:max n 1=1:=by omega
  rw [hm] at HB HN
  have hm2:min (1:Int) 1000=1:=by omega
  rw [hm2] at HB HN
  by_cases h3:n=1
  ·subst h3
   go_enter Tryz.func40,Tryz.ntmps40
   go_wp2_with fail
   go_ret
   exact ⟨_,rfl,HN.out,Nat.le_refl _,HB.out⟩
  have d1:n≤1:=by omega
  have d4:¬ 1≤n:=by omega
  have d5:n < 1:=by omega
  go_enter Tryz.func40,Tryz.ntmps40
  go_wp2_with fail
  go_ret
  exact ⟨_,rfl,HN.out,Nat.le_refl _,HB.out⟩
theorem nlen_any {w:World} {b:Nat} {rb:Option Nat} {m:Nat} {C:List Mg} {l s:Int} (h:NetW w b rb m C l s):Calls Tryz.prog 51 #[.pointer (some ⟨b,0,none⟩)] w fun e w'=>e=.returned (.int .i64 C.length)∧w'=w:=by
 obtain ⟨v,M,h1,_,rfl⟩:=h.at_
 obtain ⟨A,c,rfl,_⟩:=h1.slice
 obtain ⟨_,⟨q0,q1,q2,q3⟩,_⟩:=nw_box h1.box
 rw [List.length_map]
 clear h h1
 go_enter Tryz.func51,Tryz.ntmps51
 go_wp2_with fail
 go_ret
 exact ⟨rfl,rfl⟩
def hasB (n:Nat) (i:Int):Bool:=decide (0≤i) && decide (i < (n:Int))
theorem has_any {w:World} {b:Nat} {A:Option Addr} {n c:Nat} (i:Int) (h:w.cell? ⟨b,1,none⟩=some (.slice A n c)):Calls Tryz.prog 175 #[.pointer (some ⟨b,0,none⟩),.int .i64 i] w fun e w'=>e=.returned (.bool (hasB n i))∧w'=w:=by
 by_cases h0:0≤i
 ·by_cases h1:i < (n:Int)
  ·have HV:Hid (hasB n i=true):=hide (by simp [hasB,h0,h1])
   rw [HV.out]
   go_enter Tryz.func175,Tryz.ntmps175
   go_wp2_with fail
   go_ret
   exact ⟨rfl,rfl⟩
  ·have HV:Hid (hasB n i=false):=hide (by simp [hasB,h1])
   rw [HV.out]
   go_enter Tryz.func175,Tryz.ntmps175
   go_wp2_with fail
   go_ret
   exact ⟨rfl,rfl⟩
 ·have HV:Hid (hasB n i=false):=hide (by simp [hasB];omega)
  rw [HV.out]
  go_enter Tryz.func175,Tryz.ntmps175
  go_wp2_with fail
  go_ret
  exact ⟨rfl,rfl⟩
end Go.Proofs.YtgmkckjedngkdaaGreatDoor
namespace Go.Proofs.YtgmkckjedngkdaaGreatDoor
open Go.ChangeShapes Go.WideShapes Go.ChangeAt Go.RowKit
theorem Sets.set6 {S:Nat→Prop} {w w':World} (h:Sets S w w') {g:Nat} (hg:g < w.heap.size→S g) (v0 v1 v2 v3 v4 v5:Value):Sets S w ((((((w'.setCell ⟨g,0,none⟩ v0).setCell ⟨g,1,none⟩ v1).setCell ⟨g,2,none⟩ v2).setCell ⟨g,3,none⟩ v3).setCell ⟨g,4,none⟩ v4).setCell ⟨g,5,none⟩ v5) :=
 (((((h.set hg 0 v0).set hg 1 v1).set hg 2 v2).set hg 3 v3).set hg 4 v4).set hg 5 v5
theorem Sets.grown {w w':World} {row:Option Nat} (h:w.grownBy w' row):Sets (fun c=>row=some c) w w':=⟨h.os,h.tape,h.output,h.size,fun i hi hs=>h.block i hi (fun e=>hs e.symm)⟩
theorem Mg.rd.sets {S:Nat→Prop} {w w':World} {x:Mg} (h:x.rd w) (k:Sets S w w') (hS:∀ a,x.A=some a→x.L ≠ []→¬ S a.block):x.rd w':=⟨h.1.sets k hS,h.2⟩
theorem Mg.rd.lt {w:World} {x:Mg} (h:x.rd w):∀ a,x.A=some a→x.L ≠ []→a.block < w.heap.size:=fun a ha hn=>by
 obtain ⟨b',off,e,hlt,_⟩:=h.1 hn
 rw [ha] at e
 obtain rfl:=Option.some.inj e
 exact hlt
theorem map_erase (f:Mg→Mg):∀ (M:List Mg) (i:Nat),(M.map f).eraseIdx i=(M.eraseIdx i).map f
 | [],_=>rfl
 | _ :: _,0=>rfl
 | a :: M,i+1=>by simp only [List.map_cons,List.eraseIdx_cons_succ,map_erase f M i]
theorem NetV.sets {S:Nat→Prop} {w w':World} {b:Nat} {v:Value} {m:Nat} {M:List Mg} {l s:Int} (h:NetV w b v m M l s) (k:Sets S w w') (hb:¬ S b) (hv:∀ g,v.ownBlock=some g→¬ S g) (hx:∀ x ∈ M,∀ a,x.A=some a→x.L ≠ []→¬ S a.block):NetV w' b v m M l s :=
 ⟨(k.block b (Array.getElem?_eq_some_iff.1 h.box).1 hb).trans h.box,OwnL.sets h.own k hv,fun x hx'=>⟨(h.rd x hx').1.sets k (hx x hx'),(h.rd x hx').2⟩⟩
theorem NetW.sets {S:Nat→Prop} {w w':World} {b:Nat} {rb:Option Nat} {m:Nat} {C:List Mg} {l s:Int} (h:NetW w b rb m C l s) (k:Sets S w w') (hS:∀ c,c < w.heap.size→b≤c→¬ S c):NetW w' b rb m C l s:=by
 obtain ⟨v,M,h1,rfl,h3⟩:=h.at_
 exact ⟨⟨v,M,h1.sets k (hS b h.lt (Nat.le_refl _)) (fun g hg=>hS g (h.row_lt g hg).2 (Nat.le_of_lt (h.row_lt g hg).1)) (fun x hx a ha hn=>by
  have:=(h1.rd x hx).2 a ha hn
  exact hS a.block ((h1.rd x hx).1.lt a ha hn) (by omega)),rfl,h3⟩,h.ok⟩
end Go.Proofs.YtgmkckjedngkdaaGreatDoor
namespace Go.Proofs.YtgmkckjedngkdaaGreatDoor
open Go.ChangeShapes Go.WideShapes Go.ChangeAt Go.RowKit
theorem ckd {w:World} {g o:Nat} {v:Value} {w':World} (hg:g < w.heap.size) (h:w.cell? ⟨g,o,none⟩=some v) (hb:Below w.heap.size w.drew w'):w'.cell? ⟨g,o,none⟩=some v:=(hb.cell (p:=⟨g,o,none⟩) hg).trans h
theorem NetW.sent {w:World} {b:Nat} {rb:Option Nat} {m:Nat} {C:List Mg} {l s:Int} (h:NetW w b rb m C l s) (s':Int):NetW (w.setCell ⟨b,3,none⟩ (.int .i64 s')) b rb m C l s':=by
 obtain ⟨v,M,h1,rfl,h3⟩:=h.at_
 have hst:Sets (fun c=>c=b) w (w.setCell ⟨b,3,none⟩ (.int .i64 s')):=(Sets.refl (S:=fun c=>c=b) w).set (g:=b) (fun _=>rfl) 3 _
 refine ⟨⟨v,M,⟨nw_put3 _ h1.box,OwnL.sets h1.own hst (fun g hg e=>by have:=OwnL.lt h1.own g hg;omega),fun x hx=>⟨(h1.rd x hx).1.sets hst (fun a ha hn e=>by have:=(h1.rd x hx).2 a ha hn;omega),(h1.rd x hx).2⟩⟩,rfl,h3⟩,h.ok⟩
theorem app_msg (u:World) (base:Nat) (v:Value) (L:List Mg) (hown:OwnL Mg.cells 6 33 base u v L) (A:Option Addr) (c:Nat) (M:List Mg) (hr:RowAt Mg.cells 6 u A M) (hA:A=none→M=[]) (hn:L.length+M.length≤1000000) (hbase:base≤u.heap.size) :
 ∃ v' w',(Builtin.append_ #[35,35] 35 #[v,.slice A M.length c]).run Tryz.prog u=.ok v' w'∧OwnL Mg.cells 6 33 base w' v' (L ++ M)∧u.grownBy w' v.ownBlock∧(v'.ownBlock=v.ownBlock ∨ v'.ownBlock=some u.heap.size):=by
 obtain ⟨i0,hi,hz0,hz1,hz2⟩:=info_parts Tryz.infoMsg
 exact run_append_row (P:=Tryz.prog) u base 35 35 33 i0 _ 6 64 Tryz.underlying35 hi hz0 hz1 hz2 rfl (by omega) Mg.cells_len v L hown A c M hr hA (fun m _=>Mg.cells_one m) (by simp only [maxLen];omega) (by omega) hbase
theorem step_app_msg {ops:Array Oper} {o:Oper} {a:Act} {u:World} {K:Act→World→Prop} {Q:Exit→Act→World→Prop} {E:Prop} (hgd:o.guard=none) (s x:Operand)
 (ho:o.op=.call { callee:=.builtin .append,args:=#[s,x],argTypes:=#[35,35] }) (hty:o.type=35)
 (base:Nat) (v:Value) (L:List Mg) (hs:a.eval s=v) (hown:OwnL Mg.cells 6 33 base u v L) (A:Option Addr) (c n:Nat) (M:List Mg) (hM:M.length=n) (hx:a.eval x=.slice A n c) (hr:RowAt Mg.cells 6 u A M) (hn:L.length+n≤1000000) (hbase:base≤u.heap.size)
 (h:∀ v' w',OwnL Mg.cells 6 33 base w' v' (L ++ M)→u.grownBy w' v.ownBlock→(v'.ownBlock=v.ownBlock ∨ v'.ownBlock=some u.heap.size)→K (a.put o.dst v') w'):if Region.wanted o (yielded ops a.tmps)=true then Oper.wp Tryz.prog o a u K Q else E:=by
 subst hM
 have hw:Region.wanted o (yielded ops a.tmps)=true:=by simp [Region.wanted,hgd]
 rw [if_pos hw]
 obtain ⟨v',w',hrun,h2,h3,h4⟩:=app_msg u base v L hown A c M hr (fun e=>by
  subst e
  cases M with
  | nil=>rfl
  | cons a M=>obtain ⟨b,off,e,_⟩:=hr (by simp);cases e) hn hbase
 unfold Oper.wp execOp
 simp only [ho,hty,resolve,invoke,builtin,Sem.run_bind,Sem.run_pure,Result.andThen_ok,List.map_toArray,List.map_cons,List.map_nil,hs,hx,hrun]
 exact h v' w' h2 h3 h4
end Go.Proofs.YtgmkckjedngkdaaGreatDoor
namespace Go.Proofs.YtgmkckjedngkdaaGreatDoor
open Go.ChangeShapes Go.WideShapes Go.ChangeAt Go.RowKit
end Go.Proofs.YtgmkckjedngkdaaGreatDoor
namespace Go.Proofs.YtgmkckjedngkdaaGreatDoor
open Go.ChangeShapes Go.WideShapes Go.ChangeAt Go.RowKit
structure NetO (w0 w:World) (b:Nat) (rb:Option Nat) (m:Nat) (C:List Mg) (l s:Int):Prop where
 at_:NetW w b rb m C l s
 old:w0.heap.size≤b
 low:Below w0.heap.size w0 w
theorem NetO.below {w0 w w':World} {b:Nat} {rb:Option Nat} {m:Nat} {C:List Mg} {l s:Int} (h:NetO w0 w b rb m C l s) (hb:Below w.heap.size w w'):NetO w0 w' b rb m C l s:=⟨h.at_.below hb,h.old,below_step h.low hb⟩
theorem NetO.next {w0 w w':World} {b:Nat} {rb rb':Option Nat} {m m':Nat} {C C':List Mg} {l s l' s':Int} (h:NetO w0 w b rb m C l s) (hN:NetW w' b rb' m' C' l' s') (hS:Sets (NBlk b rb) w w'):NetO w0 w' b rb' m' C' l' s' :=
 ⟨hN,h.old,Sets.below h.low hS (fun c hc=>Nat.le_trans h.old (h.at_.blk_lt hc).1) h.low.size⟩
theorem mg0_rd (w:World) (x:Mg) (h:x.A=none) (hL:x.L=[]) (hc:x.c=0):x.rd w:=by
 refine ⟨?_,by rw [hL,hc];simp,by rw [hc];simp⟩
 rw [hL];exact RowAt.nil_
section
variable {w0 w:World} {b:Nat} {rb:Option Nat} {m:Nat} {C:List Mg} {l s:Int}
end
end Go.Proofs.YtgmkckjedngkdaaGreatDoor
namespace Go.Proofs.YtgmkckjedngkdaaGreatDoor
open Go.ChangeShapes Go.WideShapes Go.ChangeAt Go.RowKit
end Go.Proofs.YtgmkckjedngkdaaGreatDoor
namespace Go.Proofs.YtgmkckjedngkdaaGreatDoor
open Go.ChangeShapes Go.WideShapes Go.ChangeAt Go.RowKit
def nodesB (n at_ id:Int):Bool:=decide (1≤n∧n≤7∧0≤at_∧at_ < n∧1≤id∧id≤1099511627776)
set_option maxHeartbeats 1600000 in
theorem nodes_any (n at_ id:Int) (w:World):Calls Tryz.prog 107 #[.int .i64 n,.int .i64 at_,.int .u64 id] w fun e w'=>e=.returned (.bool (nodesB n at_ id))∧Below w.heap.size w w':=by
 by_cases h0:1≤n
 case neg =>
  first | rw [show nodesB n at_ id=true from decide_eq_true (by omega)] | rw [show nodesB n at_ id=false from decide_eq_false (by omega)]
  go_enter Tryz.func107,Tryz.ntmps107
  go_wp2
  go_ret
  exact ⟨by simp;try omega,Below.refl _ _⟩
 by_cases h1:n≤7
 case neg =>
  first | rw [show nodesB n at_ id=true from decide_eq_true (by omega)] | rw [show nodesB n at_ id=false from decide_eq_false (by omega)]
  go_enter Tryz.func107,Tryz.ntmps107
  go_wp2
  go_ret
  exact ⟨by simp;try omega,Below.refl _ _⟩
 by_cases h2:0≤at_
 case neg =>
  first | rw [show nodesB n at_ id=true from decide_eq_true (by omega)] | rw [show nodesB n at_ id=false from decide_eq_false (by omega)]
  go_enter Tryz.func107,Tryz.ntmps107
  go_wp2
  go_ret
  exact ⟨by simp;try omega,Below.refl _ _⟩
 by_cases h3:at_ < n
 case neg =>
  first | rw [show nodesB n at_ id=true from decide_eq_true (by omega)] | rw [show nodesB n at_ id=false from decide_eq_false (by omega)]
  go_enter Tryz.func107,Tryz.ntmps107
  go_wp2
  go_ret
  exact ⟨by simp;try omega,Below.refl _ _⟩
 by_cases h4:1≤id
 case neg =>
  first | rw [show nodesB n at_ id=true from decide_eq_true (by omega)] | rw [show nodesB n at_ id=false from decide_eq_false (by omega)]
  go_enter Tryz.func107,Tryz.ntmps107
  go_wp2
  go_ret
  exact ⟨by simp;try omega,Below.refl _ _⟩
 by_cases h5:id≤1099511627776
 case neg =>
  first | rw [show nodesB n at_ id=true from decide_eq_true (by omega)] | rw [show nodesB n at_ id=false from decide_eq_false (by omega)]
  go_enter Tryz.func107,Tryz.ntmps107
  go_wp2
  go_ret
  exact ⟨by simp;try omega,Below.refl _ _⟩
 first | rw [show nodesB n at_ id=true from decide_eq_true (by omega)] | rw [show nodesB n at_ id=false from decide_eq_false (by omega)]
 go_enter Tryz.func107,Tryz.ntmps107
 go_wp2
 go_ret
 exact ⟨by simp;try omega,Below.refl _ _⟩
theorem j_startD {P:Program} {ops:Array Oper} {Q:Exit→Act→World→Prop} (F:List Nat) {id:Nat} {a:Act} {w u:World} (hu:w.drew=u) (hm:P.follows .mixedOrders=true) (h:wpAnyJ P .any ops (NoPanic Q) F (Bel u) ops.size (Array.replicate ops.size false) a u):(Code.region id ops true).wp P Q a w:=by
 subst hu
 exact wp_region_noPanic (wp_region_any hm (wpAny_of_J _ _ _ _ h))
theorem cell_of_list {w:World} {b o:Nat} {l:List Value} {t:TypeId} {fr:Nat × Nat} (h:w.heap[b]? = some (.cells l.toArray t fr)):w.cell? ⟨b,o,none⟩=l[o]?:=(cell_of_row w b o _ _ _ h).trans (by simp)
theorem set_of_list {w:World} {b o:Nat} {l:List Value} {t:TypeId} {fr:Nat × Nat} (h:w.heap[b]? = some (.cells l.toArray t fr)) (v:Value):(w.setCell ⟨b,o,none⟩ v).heap[b]? = some (.cells (l.set o v).toArray t fr):=by
 simp [World.setCell,Array.getElem?_modify,h]
end Go.Proofs.YtgmkckjedngkdaaGreatDoor
namespace Go.Proofs.YtgmkckjedngkdaaGreatDoor
open Go.ChangeShapes Go.WideShapes Go.ChangeAt Go.RowKit
theorem wpList_app_msg {ops:Array Oper} {rest:List Oper} {o:Oper} {a:Act} {u:World} {Q:Exit→Act→World→Prop} (hgd:o.guard=none) (s x:Operand)
 (ho:o.op=.call { callee:=.builtin .append,args:=#[s,x],argTypes:=#[35,35] }) (hty:o.type=35)
 (base:Nat) (v:Value) (L:List Mg) (hs:a.eval s=v) (hown:OwnL Mg.cells 6 33 base u v L) (A:Option Addr) (c n:Nat) (M:List Mg) (hM:M.length=n) (hx:a.eval x=.slice A n c) (hr:RowAt Mg.cells 6 u A M) (hn:L.length+n≤1000000) (hbase:base≤u.heap.size)
 (h:∀ v' w',OwnL Mg.cells 6 33 base w' v' (L ++ M)→u.grownBy w' v.ownBlock→(v'.ownBlock=v.ownBlock ∨ v'.ownBlock=some u.heap.size)→wpList Tryz.prog ops Q rest (a.put o.dst v') w'):wpList Tryz.prog ops Q (o :: rest) a u:=by
 subst hM
 refine wpList_plain hgd fun K hK=>?_
 obtain ⟨v',w',hrun,h2,h3,h4⟩:=app_msg u base v L hown A c M hr (fun e=>by
  subst e
  cases M with
  | nil=>rfl
  | cons a M=>obtain ⟨b,off,e,_⟩:=hr (by simp);cases e) hn hbase
 unfold Oper.wp execOp
 simp only [ho,hty,resolve,invoke,builtin,Sem.run_bind,Sem.run_pure,Result.andThen_ok,List.map_toArray,List.map_cons,List.map_nil,hs,hx,hrun]
 exact hK _ _ (h v' w' h2 h3 h4)
structure MsO (base:Nat) (w:World) (v:Value) (N:List Mg):Prop where
 own:OwnL Mg.cells 6 33 base w v N
 rd:∀ x ∈ N,x.rd w
 far:∀ x ∈ N,∀ a,x.A=some a→x.L ≠ []→a.block < w.heap.size∧v.ownBlock ≠ some a.block
theorem MsO.below {base:Nat} {w w':World} {v:Value} {N:List Mg} (h:MsO base w v N) (hb:Below w.heap.size w w'):MsO base w' v N :=
 ⟨OwnL.below h.own hb,fun x hx=>(h.rd x hx).below hb,fun x hx a ha hn=>⟨Nat.lt_of_lt_of_le (h.far x hx a ha hn).1 hb.size,(h.far x hx a ha hn).2⟩⟩
theorem MsO.snoc {base:Nat} {w u w':World} {v v':Value} {N:List Mg} {x:Mg} (h:MsO base w v N) (hb:Below w.heap.size w u) (hx:x.rd u) (hf:∀ a,x.A=some a→x.L ≠ []→w.heap.size≤a.block) (ho:OwnL Mg.cells 6 33 base w' v' (N ++ [x])) (hg:u.grownBy w' v.ownBlock) (hm:v'.ownBlock=v.ownBlock ∨ v'.ownBlock=some u.heap.size):MsO base w' v' (N ++ [x]):=by
 have hvb:∀ g,v.ownBlock=some g→g < w.heap.size:=fun g hg=>(OwnL.lt h.own g hg).2
 have key:∀ y ∈ N ++ [x],y.rd u∧∀ a,y.A=some a→y.L ≠ []→a.block < u.heap.size∧v.ownBlock ≠ some a.block:=fun y hy=>by
  rcases List.mem_append.1 hy with h1 | h1
  ·exact ⟨(h.rd y h1).below hb,fun a ha hn=>⟨Nat.lt_of_lt_of_le (h.far y h1 a ha hn).1 hb.size,(h.far y h1 a ha hn).2⟩⟩
  ·rw [List.mem_singleton] at h1
   subst h1
   refine ⟨hx,fun a ha hn=>⟨?_,fun e=>by have:=hvb _ e;have:=hf a ha hn;omega⟩⟩
   obtain ⟨b,off,e,hlt,_⟩:=hx.1 hn
   rw [ha] at e
   obtain rfl:=Option.some.inj e
   exact hlt
 refine ⟨ho,fun y hy=>⟨(key y hy).1.1.sets (S:=fun c=>v.ownBlock=some c) ⟨hg.os,hg.tape,hg.output,hg.size,fun i hi hs=>hg.block i hi (fun e=>hs e.symm)⟩ (fun a ha hn=>((key y hy).2 a ha hn).2),(key y hy).1.2⟩,fun y hy a ha hn=>⟨Nat.lt_of_lt_of_le ((key y hy).2 a ha hn).1 hg.size,fun e=>?_⟩⟩
 rcases hm with e1 | e1
 ·exact ((key y hy).2 a ha hn).2 (by rw [← e1];exact e)
 ·rw [e1] at e
  have:=Option.some.inj e
  have:=((key y hy).2 a ha hn).1
  omega
end Go.Proofs.YtgmkckjedngkdaaGreatDoor
namespace Go.Proofs.YtgmkckjedngkdaaGreatDoor
open Go.ChangeShapes Go.WideShapes Go.ChangeAt Go.RowKit
def clientB (k s t x:Int):Bool:=decide (0≤s∧s≤255∧t≤1099511627776∧(k=1 ∨ ((k=2 ∨ k=3)∧t=0∧x=0)))
abbrev client4 (k s t x:Int):Value:=.agg #[.int .i64 k,.int .i64 s,.int .u64 t,.int .i64 x]
set_option maxHeartbeats 3200000 in
theorem cok_any (k s t x:Int) (w:World):Calls Tryz.prog 44 #[client4 k s t x] w fun e w'=>e=.returned (.bool (clientB k s t x))∧Below w.heap.size w w':=by
 by_cases h0:0≤s
 case neg =>
  first | rw [show clientB _ _ _ _=true from decide_eq_true (by omega)] | rw [show clientB _ _ _ _=false from decide_eq_false (by omega)]
  go_enter Tryz.func44,Tryz.ntmps44
  go_wp2
  go_returns
  exact ⟨by simp;try omega,by go_grown⟩
 by_cases h1:s≤255
 case neg =>
  first | rw [show clientB _ _ _ _=true from decide_eq_true (by omega)] | rw [show clientB _ _ _ _=false from decide_eq_false (by omega)]
  go_enter Tryz.func44,Tryz.ntmps44
  go_wp2
  go_returns
  exact ⟨by simp;try omega,by go_grown⟩
 by_cases h2:t≤1099511627776
 case neg =>
  first | rw [show clientB _ _ _ _=true from decide_eq_true (by omega)] | rw [show clientB _ _ _ _=false from decide_eq_false (by omega)]
  go_enter Tryz.func44,Tryz.ntmps44
  go_wp2
  go_returns
  exact ⟨by simp;try omega,by go_grown⟩
 by_cases k2:k=2
 case pos =>
  subst k2
  by_cases g0:t=0
  case neg =>
   first | rw [show clientB _ _ _ _=true from decide_eq_true (by omega)] | rw [show clientB _ _ _ _=false from decide_eq_false (by omega)]
   go_enter Tryz.func44,Tryz.ntmps44
   go_wp2
   go_returns
   exact ⟨by simp;try omega,by go_grown⟩
  by_cases g1:x=0
  case neg =>
   first | rw [show clientB _ _ _ _=true from decide_eq_true (by omega)] | rw [show clientB _ _ _ _=false from decide_eq_false (by omega)]
   go_enter Tryz.func44,Tryz.ntmps44
   go_wp2
   go_returns
   exact ⟨by simp;try omega,by go_grown⟩
  subst g0
  subst g1
  first | rw [show clientB _ _ _ _=true from decide_eq_true (by omega)] | rw [show clientB _ _ _ _=false from decide_eq_false (by omega)]
  go_enter Tryz.func44,Tryz.ntmps44
  go_wp2
  go_returns
  exact ⟨by simp;try omega,by go_grown⟩
 by_cases k3:k=3
 case pos =>
  subst k3
  by_cases g0:t=0
  case neg =>
   first | rw [show clientB _ _ _ _=true from decide_eq_true (by omega)] | rw [show clientB _ _ _ _=false from decide_eq_false (by omega)]
   go_enter Tryz.func44,Tryz.ntmps44
   go_wp2
   go_returns
   exact ⟨by simp;try omega,by go_grown⟩
  by_cases g1:x=0
  case neg =>
   first | rw [show clientB _ _ _ _=true from decide_eq_true (by omega)] | rw [show clientB _ _ _ _=false from decide_eq_false (by omega)]
   go_enter Tryz.func44,Tryz.ntmps44
   go_wp2
   go_returns
   exact ⟨by simp;try omega,by go_grown⟩
  subst g0
  subst g1
  first | rw [show clientB _ _ _ _=true from decide_eq_true (by omega)] | rw [show clientB _ _ _ _=false from decide_eq_false (by omega)]
  go_enter Tryz.func44,Tryz.ntmps44
  go_wp2
  go_returns
  exact ⟨by simp;try omega,by go_grown⟩
 by_cases k1:k=1
 case pos =>
  subst k1
  first | rw [show clientB _ _ _ _=true from decide_eq_true (by omega)] | rw [show clientB _ _ _ _=false from decide_eq_false (by omega)]
  go_enter Tryz.func44,Tryz.ntmps44
  go_wp2
  go_returns
  exact ⟨by simp;try omega,by go_grown⟩
 first | rw [show clientB _ _ _ _=true from decide_eq_true (by omega)] | rw [show clientB _ _ _ _=false from decide_eq_false (by omega)]
 go_enter Tryz.func44,Tryz.ntmps44
 go_wp2
 go_returns
 exact ⟨by simp;try omega,by go_grown⟩
def newB (n at_ id k s t x v:Int):Bool:=nodesB n at_ id && clientB k s t x && decide (v≤281474976710656) && (v == 0) == (k == 3)
def callNew (n at_ id k s t x v:Int):Array Value :=
 #[.int .i64 n,.int .i64 at_,.int .u64 id,.int .i64 k,.int .i64 s,.int .u64 t,.int .i64 x,.int .u64 v,.bool false,.bool false,.bool false,.bool false,.bool false,.bool false,.bool false,.int .i64 0,.slice none 0 0,.int .i64 0,
  .int .u32 0,.int .i32 0,.int .u32 0,.int .u64 0,.int .i64 0,.int .i64 0,.int .u64 0,.int .i64 0,.int .i64 0,.int .u64 0,.slice none 0 0,.bool false]
set_option maxHeartbeats 1600000 in
theorem cnew_yes (n at_ id k s t x v:Int) (w:World) (h:newB n at_ id k s t x v=true) :
 Calls Tryz.prog 48 #[.int .i64 n,.int .i64 at_,.int .u64 id,client4 k s t x,.int .u64 v] w fun e w'=>(∃ b,e=.returned (.tuple #[.pointer (some ⟨b,0,none⟩),.int .i64 0])∧w.heap.size≤b∧w'.heap[b]? = some (.cells (callNew n at_ id k s t x v) 190 (0,0)))∧Below w.heap.size w w':=by
 have hn:=fun W=>nodes_any n at_ id W
 have ho:=fun W=>cok_any k s t x W
 unfold newB at h
 simp only [Bool.and_eq_true,decide_eq_true_eq] at h
 obtain ⟨⟨⟨h1,h2⟩,h3⟩,h6⟩:=h
 rw [h1] at hn
 rw [h2] at ho
 have HN:=hide hn
 have HO:=hide ho
 have d:decide (281474976710656 < v)=false:=decide_eq_false (by omega)
 clear hn ho h1 h2
 cases h4:(v == 0) <;> cases h5:(k == 3)
 all_goals simp [h4,h5] at h6
 all_goals
  go_enter Tryz.func48,Tryz.ntmps48
  go_wp2_with (first
   | ((with_reducible refine (HN.out _).mono ?_);rintro e w1 ⟨rfl,hg1⟩;obtain ⟨hc1,hf1⟩:=bcell hg1)
   | ((with_reducible refine (HO.out _).mono ?_);rintro e w2 ⟨rfl,hg2⟩;obtain ⟨hc2,hf2⟩:=bcell hg2;have z2:w.heap.size < w1.heap.size:=(by have hh:=hg1.size;(try simp at hh);omega);have z3:w.heap.size < w2.heap.size:=(by have hh:=hg2.size;omega)))
  go_returns
  refine ⟨⟨w2.heap.size,rfl,by omega,heap_alloc_new w2 _⟩,by repeat' (first | exact Below.refl _ _ | refine below_alloc ?_ _ | refine below_step ?_ (by assumption))⟩
theorem cneed_any (n:Int) (w:World) (h0:0≤n) (h1:n≤1000):Calls Tryz.prog 422 #[.int .i64 n] w fun e w'=>e=.returned (.int .i64 (n / 2+1))∧Below w.heap.size w w':=by
 go_enter Tryz.func422,Tryz.ntmps422
 go_wp2
 go_ret
 exact ⟨rfl,Below.refl _ _⟩
structure Gt where
 n:Int
 A:Option Addr
 c:Nat
 L:List It
def Gt.cells (x:Gt):List Value:=[.int .u64 x.n,.slice x.A x.L.length x.c]
theorem Gt.cells_len (x:Gt):(Gt.cells x).length=2:=rfl
theorem Gt.cells_one (x:Gt):∀ u ∈ Gt.cells x,u.oneCell'=true:=by
 intro u hu
 simp only [Gt.cells,List.mem_cons,List.not_mem_nil,or_false] at hu
 rcases hu with rfl | rfl <;> rfl
theorem Tryz.infoGot:(Tryz.prog.info? 486).map (fun i=>(i.zero,i.size,i.bytes))=some (some (.agg #[.int .u64 0,.slice none 0 0]),2,32):=by kernel_rfl
def Gt.rd (w:World) (x:Gt):Prop:=ItemsAt w x.A x.L∧x.L.length≤x.c∧x.c≤maxLen
theorem Gt.rd.below {w w':World} {x:Gt} (h:x.rd w) (hb:Below w.heap.size w w'):x.rd w':=⟨h.1.below hb,h.2⟩
def Gt.bare (x:Gt):Gt:={ x with A:=none,c:=0 }
structure Co where
 n:Int
 at_:Int
 id:Int
 ck:Int
 cs:Int
 ct:Int
 cv:Int
 ver:Int
 C:Nat→Bool
 cnt:Int
 G:List Gt
 tk:Int
 d:Int
 aid:Int
 ack:Int
 acs:Int
 act:Int
 acv:Int
 ae:Int
 av:Int
 AL:List It
 dn:Bool
def coL (R:Co) (m:Int) (vg va:Value):List Value:=[.int .i64 R.n,.int .i64 R.at_,.int .u64 R.id,.int .i64 R.ck,.int .i64 R.cs,.int .u64 R.ct,.int .i64 R.cv,.int .u64 R.ver] ++ (List.range 7).map (fun k=>.bool (R.C k)) ++ [.int .i64 R.cnt,vg,.int .i64 R.tk,.int .u32 R.d,.int .i32 m,.int .u32 0,.int .u64 R.aid,.int .i64 R.ack,.int .i64 R.acs,.int .u64 R.act,.int .i64 R.acv,.int .i64 R.ae,.int .u64 R.av,va,.bool R.dn]
theorem coL_C (R:Co) (m:Int) (vg va:Value) {k:Nat} (hk:k < 7):(coL R m vg va)[8+k]? = some (.bool (R.C k)):=by
 match k,hk with
 | 0,_=>rfl
 | 1,_=>rfl
 | 2,_=>rfl
 | 3,_=>rfl
 | 4,_=>rfl
 | 5,_=>rfl
 | 6,_=>rfl
structure CoG (w:World) (b:Nat) (X:Nat→Prop) (vg:Value) (G:List Gt):Prop where
 row:∃ N:List Gt,N.map Gt.bare=G∧OwnL Gt.cells 2 486 (b+1) w vg N∧(∀ y ∈ N,y.rd w)∧∀ y ∈ N,∀ a,y.A=some a→y.L ≠ []→X a.block∧a.block ≠ b∧vg.ownBlock ≠ some a.block
 x:∀ g,vg.ownBlock=some g→X g
def CoA (w:World) (b:Nat) (X:Nat→Prop) (vg va:Value) (L:List It):Prop:=Sl w va L∧∀ g,va.ownBlock=some g→X g∧g ≠ b∧vg.ownBlock ≠ some g
structure CoO (w0 w:World) (b:Nat) (X:Nat→Prop) (R:Co):Prop where
 row:∃ vg va,w.heap[b]? = some (.cells (coL R 0 vg va).toArray 190 (0,0))∧CoG w b X vg R.G∧CoA w b X vg va R.AL
 low:Below w0.heap.size w0 w
 xb:X b
 xs:∀ g,X g→w0.heap.size≤g∧g < w.heap.size
def Xn (X:Nat→Prop) (w w':World) (g:Nat):Prop:=X g ∨ (w.heap.size≤g∧g < w'.heap.size)
theorem sl_sets_ {S:Nat→Prop} {w w':World} {v:Value} {L:List It} (h:Sl w v L) (k:Sets S w w') (hS:∀ g,v.ownBlock=some g→¬ S g):Sl w' v L:=by
 obtain ⟨A,c,rfl,hr,h1,h2⟩:=h
 refine ⟨A,c,rfl,fun hne=>?_,h1,h2⟩
 obtain ⟨b,off,rfl,hlt,hc⟩:=hr hne
 exact ⟨b,off,rfl,Nat.lt_of_lt_of_le hlt k.size,fun j hj i u hu=>(World.cell?_of_block (k.block b hlt (hS b rfl))).trans (hc j hj i u hu)⟩
section
variable {w0 w w':World} {b:Nat} {X Y S:Nat→Prop} {R:Co} {vg va:Value} {G:List Gt} {L:List It}
theorem CoG.lt (h:CoG w b X vg G):∀ g,vg.ownBlock=some g→b+1≤g∧g < w.heap.size:=by
 obtain ⟨N,_,h1,_⟩:=h.row
 exact OwnL.lt h1
theorem CoG.sets (h:CoG w b X vg G) (k:Sets S w w') (hS:∀ g,X g→g ≠ b→¬ S g):CoG w' b X vg G:=by
 obtain ⟨N,h1,h2,h3,h4⟩:=h.row
 exact ⟨⟨N,h1,OwnL.sets h2 k (fun g hg=>hS g (h.x g hg) (by have:=(OwnL.lt h2 g hg).1;omega)),
  fun y hy=>⟨(h3 y hy).1.sets k (fun a ha hn=>hS _ (h4 y hy a ha hn).1 (h4 y hy a ha hn).2.1),(h3 y hy).2⟩,h4⟩,h.x⟩
theorem CoG.up (h:CoG w b X vg G) (hX:∀ g,X g→Y g):CoG w b Y vg G:=by
 obtain ⟨N,h1,h2,h3,h4⟩:=h.row
 exact ⟨⟨N,h1,h2,h3,fun y hy a ha hn=>⟨hX _ (h4 y hy a ha hn).1,(h4 y hy a ha hn).2⟩⟩,fun g hg=>hX g (h.x g hg)⟩
theorem CoA.sets (h:CoA w b X vg va L) (k:Sets S w w') (hS:∀ g,X g→g ≠ b→¬ S g):CoA w' b X vg va L:=⟨sl_sets_ h.1 k (fun g hg=>hS g (h.2 g hg).1 (h.2 g hg).2.1),h.2⟩
theorem CoA.up (h:CoA w b X vg va L) (hX:∀ g,X g→Y g):CoA w b Y vg va L:=⟨h.1,fun g hg=>⟨hX g (h.2 g hg).1,(h.2 g hg).2⟩⟩
theorem CoA.nil_ (w:World) (b:Nat) (X:Nat→Prop) (vg:Value):CoA w b X vg (.slice none 0 0) []:=⟨Sl.nil_ _,fun g hg=>by cases hg⟩
theorem CoG.nil_ (w:World) (b:Nat) (X:Nat→Prop):CoG w b X (.slice none 0 0) []:=⟨⟨[],rfl,OwnL.nil_ _ _ _ _ _,fun y hy=>(by cases hy),fun y hy=>(by cases hy)⟩,fun g hg=>(by cases hg)⟩
theorem CoO.lt (h:CoO w0 w b X R):b < w.heap.size:=(h.xs b h.xb).2
theorem CoO.old (h:CoO w0 w b X R):w0.heap.size≤b:=(h.xs b h.xb).1
theorem CoO.sets (h:CoO w0 w b X R) (k:Sets S w w') (hS:∀ g,X g→¬ S g) (hl:Below w0.heap.size w0 w'):CoO w0 w' b X R:=by
 obtain ⟨vg,va,hb,h1,h2⟩:=h.row
 exact ⟨⟨vg,va,(k.block b h.lt (hS b h.xb)).trans hb,h1.sets k (fun g hg _=>hS g hg),h2.sets k (fun g hg _=>hS g hg)⟩,hl,h.xb,fun g hg=>⟨(h.xs g hg).1,Nat.lt_of_lt_of_le (h.xs g hg).2 k.size⟩⟩
theorem CoO.below (h:CoO w0 w b X R) (hb:Below w.heap.size w w'):CoO w0 w' b X R:=h.sets (Sets.of (S:=fun _=>False) hb) (fun _ _ h=>h) (below_step h.low hb)
theorem CoO.put {R':Co} (h:CoO w0 w b X R) (hg:CoG w b X vg R.G) (ha:CoA w b X vg va R.AL) (hb':w'.heap[b]? = some (.cells (coL R' 0 vg va).toArray 190 (0,0))) (hG:R'.G=R.G) (hA:R'.AL=R.AL) (hS:Sets (fun g=>g=b) w w'):CoO w0 w' b X R' :=
 ⟨⟨vg,va,hb',by rw [hG];exact hg.sets hS (fun g _ hn=>hn),by rw [hA];exact ha.sets hS (fun g _ hn=>hn)⟩,Sets.below h.low hS (fun g e=>by rw [e];exact h.old) h.low.size,h.xb,fun g hg=>⟨(h.xs g hg).1,Nat.lt_of_lt_of_le (h.xs g hg).2 hS.size⟩⟩
theorem CoO.more (h:CoO w0 w b X R) (hX:∀ g,X g→Y g) (hY:∀ g,Y g→w0.heap.size≤g∧g < w.heap.size):CoO w0 w b Y R:=by
 obtain ⟨vg,va,hb,h1,h2⟩:=h.row
 exact ⟨⟨vg,va,hb,h1.up hX,h2.up hX⟩,h.low,hX b h.xb,hY⟩
end
def co0 (n a id k s t x v:Int):Co:=⟨n,a,id,k,s,t,x,v,fun _=>false,0,[],0,0,0,0,0,0,0,0,0,[],false⟩
theorem cnew_co (n a id k s t x v:Int) (w:World) (h:newB n a id k s t x v=true) :
 Calls Tryz.prog 48 #[.int .i64 n,.int .i64 a,.int .u64 id,client4 k s t x,.int .u64 v] w fun e w'=>∃ b,e=.returned (.tuple #[.pointer (some ⟨b,0,none⟩),.int .i64 0])∧CoO w w' b (fun g=>g=b) (co0 n a id k s t x v):=by
 refine Calls.mono (cnew_yes n a id k s t x v w h) ?_
 rintro e w' ⟨⟨b,rfl,h1,h2⟩,h3⟩
 have hlt:=(Array.getElem?_eq_some_iff.1 h2).1
 exact ⟨b,rfl,⟨_,_,h2,CoG.nil_ _ _ _,CoA.nil_ _ _ _ _⟩,h3,rfl,fun g e=>by subst e;exact ⟨h1,hlt⟩⟩
end Go.Proofs.YtgmkckjedngkdaaGreatDoor
namespace Go.Proofs.YtgmkckjedngkdaaGreatDoor
open Go.ChangeShapes Go.WideShapes Go.ChangeAt Go.RowKit
def itC (k s t x v:Int):It:=if k=2 then ⟨s,1,0,v,0⟩ else ⟨s,2,t,v,x⟩
set_option maxHeartbeats 1600000 in
theorem citem_any (k s t x v:Int) (w:World):Calls Tryz.prog 174 #[client4 k s t x,.int .u64 v] w fun e w'=>e=.returned (itC k s t x v).val∧Below w.heap.size w w':=by
 by_cases hk:k=2
 ·have hx:Hid (itC k s t x v=⟨s,1,0,v,0⟩):=hide (if_pos hk)
  have bk:(k == 2)=true:=by simp [hk]
  clear hk
  go_enter Tryz.func174,Tryz.ntmps174
  go_wp2_with fail
  refine bodyPost_ret (v:=It.val ⟨s,1,0,v,0⟩) (by simp [results,Tryz.results174,go_sem,It.val]) rfl ?_
  exact ⟨by rw [hx.out],below_alloc (below_alloc (Below.refl _ _) _) _⟩
 ·have hx:Hid (itC k s t x v=⟨s,2,t,v,x⟩):=hide (if_neg hk)
  have bk:(k == 2)=false:=by simp [hk]
  go_enter Tryz.func174,Tryz.ntmps174
  go_wp2_with fail
  refine bodyPost_ret (v:=It.val ⟨s,2,t,v,x⟩) (by simp [results,Tryz.results174,go_sem,It.val]) rfl ?_
  exact ⟨by rw [hx.out],below_alloc (below_alloc (Below.refl _ _) _) _⟩
def toC (R:Co) (j:Int):Mg:=if R.ck=3 then ⟨4,R.at_,j,R.id,R.cs,none,0,[]⟩ else ⟨1,R.at_,j,R.id,0,none,0,[itC R.ck R.cs R.ct R.cv R.ver]⟩
def csendTo (R:Co) (k:Nat):List Mg:=((List.range k).filter fun j=>!R.C j).map fun (j:Nat)=>toC R (j:Int)
theorem csendTo_yes {R:Co} {k:Nat} (h:R.C k=false):csendTo R (k+1)=csendTo R k ++ [toC R (k:Int)]:=by
 unfold csendTo
 rw [List.range_succ,List.filter_append,List.map_append,List.filter_cons,h]
 rfl
theorem csendTo_no {R:Co} {k:Nat} (h:R.C k=true):csendTo R (k+1)=csendTo R k:=by
 unfold csendTo
 rw [List.range_succ,List.filter_append,List.map_append,List.filter_cons,h]
 simp
theorem csendTo_len (R:Co) (k:Nat):(csendTo R k).length≤k:=by
 unfold csendTo
 rw [List.length_map]
 exact Nat.le_trans (List.length_filter_le _ _) (by simp)
theorem MsO.nil_ (base:Nat) (w:World):MsO base w (.slice none 0 0) []:=⟨OwnL.nil_ _ _ _ _ _,fun x hx=>(by cases hx),fun x hx=>(by cases hx)⟩
def MsN (base:Nat) (w:World) (v:Value) (N:List Mg):Prop:=MsO base w v N∧∀ x ∈ N,∀ a,x.A=some a→x.L ≠ []→base≤a.block
theorem MsN.nil_ (base:Nat) (w:World):MsN base w (.slice none 0 0) []:=⟨MsO.nil_ _ _,fun x hx=>(by cases hx)⟩
theorem MsN.own {base:Nat} {w:World} {v:Value} {N:List Mg} (h:MsN base w v N):OwnL Mg.cells 6 33 base w v N:=h.1.own
theorem MsN.rd {base:Nat} {w:World} {v:Value} {N:List Mg} (h:MsN base w v N):∀ x ∈ N,x.rd w:=h.1.rd
theorem MsN.far {base:Nat} {w:World} {v:Value} {N:List Mg} (h:MsN base w v N):∀ x ∈ N,∀ a,x.A=some a→x.L ≠ []→a.block < w.heap.size∧v.ownBlock ≠ some a.block:=h.1.far
theorem MsN.below {base:Nat} {w w':World} {v:Value} {N:List Mg} (h:MsN base w v N) (hb:Below w.heap.size w w'):MsN base w' v N:=⟨h.1.below hb,h.2⟩
theorem MsN.snoc {base:Nat} {w u w':World} {v v':Value} {N:List Mg} {x:Mg} (h:MsN base w v N) (hb:Below w.heap.size w u) (hx:x.rd u) (hf:∀ a,x.A=some a→x.L ≠ []→w.heap.size≤a.block) (ho:OwnL Mg.cells 6 33 base w' v' (N ++ [x])) (hg:u.grownBy w' v.ownBlock) (hm:v'.ownBlock=v.ownBlock ∨ v'.ownBlock=some u.heap.size) (hbs:base≤w.heap.size):MsN base w' v' (N ++ [x]) :=
 ⟨h.1.snoc hb hx hf ho hg hm,fun y hy a ha hn=>by
  rcases List.mem_append.1 hy with h1 | h1
  ·exact h.2 y h1 a ha hn
  ·rw [List.mem_singleton] at h1
   subst h1
   exact Nat.le_trans hbs (hf a ha hn)⟩
set_option maxRecDepth 100000 in
set_option maxHeartbeats 3200000 in
theorem csend_get {w0 w:World} {b:Nat} {X:Nat→Prop} {R:Co} (h:CoO w0 w b X R) (hn:1≤R.n∧R.n≤7) (hs:0≤R.cs∧R.cs≤255) (hk3:R.ck=3) :
 Calls Tryz.prog 109 #[.pointer (some ⟨b,0,none⟩)] w fun e w'=>∃ v N,e=.returned v∧MsN w.heap.size w' v N∧N.map Mg.bare=csendTo R R.n.toNat∧Below w.heap.size w w':=by
 obtain ⟨n,hn1⟩:∃ n:Nat,R.n=(n:Int):=⟨R.n.toNat,by omega⟩
 have hn7:n≤7:=by omega
 have HNT:Hid (R.n.toNat=n):=hide (by omega)
 obtain ⟨vg,va,hb,_⟩:=h.row
 have c0:w.cell? ⟨b,0,none⟩=some (.int .i64 (n:Int)):=by rw [← hn1];exact (cell_of_list (o:=0) hb).trans rfl
 have HC:Hid (∀ (W:World) (k:Nat),k < 7→Below w.heap.size w W→b < W.heap.size∧W.cell? ⟨b,0,none⟩=some (.int .i64 (n:Int))∧W.cell? ⟨b,1,none⟩=some (.int .i64 R.at_)∧W.cell? ⟨b,2,none⟩=some (.int .u64 R.id)∧W.cell? ⟨b,3,none⟩=some (.int .i64 3)∧W.cell? ⟨b,4,none⟩=some (.int .i64 R.cs)∧W.cell? ⟨b,8+k,none⟩=some (.bool (R.C k))):=hide (fun W k hk hW=>by
  have hbk:=(hW.block b h.lt).trans hb
  exact ⟨Nat.lt_of_lt_of_le h.lt hW.size,by rw [← hn1];exact (cell_of_list (o:=0) hbk).trans rfl,(cell_of_list (o:=1) hbk).trans rfl,(cell_of_list (o:=2) hbk).trans rfl,by rw [← hk3];exact (cell_of_list (o:=3) hbk).trans rfl,(cell_of_list (o:=4) hbk).trans rfl,(cell_of_list hbk).trans (coL_C R 0 vg va hk)⟩)
 have HTO:Hid (∀ k:Nat,toC R (k:Int)=⟨4,R.at_,k,R.id,R.cs,none,0,[]⟩):=hide (fun k=>by unfold toC;rw [if_pos hk3])
 have hcw:IntKind.u64.wrap R.cs=R.cs:=by rw [IntKind.wrap_u64];omega
 obtain ⟨hs0,hs1⟩:=hs
 clear h hb hn1 hn hk3
 go_enter Tryz.func109,Tryz.ntmps109
 go_wp2_with fail
 go_loopw [3,10] (fun v i wr=>∃ (k:Nat) (N:List Mg),k≤n∧i=.int .i64 k∧MsN w.heap.size wr v N∧N.map Mg.bare=csendTo R k∧Below w.heap.size w wr) (fun _ i _=>n - (intOf i).toNat)
 case atStart=>exact ⟨0,[],by omega,rfl,MsN.nil_ _ _,rfl,Below.refl _ _⟩
 case round =>
  obtain ⟨k,N,hk,rfl,hO,hN,hb⟩:=hrel
  have HO:=hide hO
  have HN:=hide hN
  have HB:=hide hb
  clear hO hb
  by_cases hlt:k < n
  ·have hkI:(k:Int) < (n:Int):=by omega
   have hk7:(k:Int) < 7:=by omega
   have hk0:(0:Int)≤(k:Int):=by omega
   obtain ⟨hltr,d0,d1,d2,d3,d4,d5⟩:=HC.out wr k (by omega) HB.out
   have hNl:N.length≤7:=by
    have h1:=congrArg List.length hN
    rw [List.length_map] at h1
    have:=csendTo_len R k
    omega
   clear hN c0
   go_upto_region 5 with fail
   go_region
   have HBm:Hid (Below wr.heap.size wr (wr.alloc (.cells #[.int .i64 1,.int .i64 R.at_,.int .i64 (k:Int),.int .u64 R.id,.int .u64 0,.slice none 0 0] 33)).drew):=hide (below_alloc (Below.refl _ _) _).drew
   have HZm:Hid ((wr.alloc (.cells #[.int .i64 1,.int .i64 R.at_,.int .i64 (k:Int),.int .u64 R.id,.int .u64 0,.slice none 0 0] 33)).drew.heap[wr.heap.size]? = some (.cells #[.int .i64 1,.int .i64 R.at_,.int .i64 (k:Int),.int .u64 R.id,.int .u64 0,.slice none 0 0] 33 (0,0))):=hide (heap_alloc_new wr _)
   obtain ⟨wm,hwm⟩:∃ wm,(wr.alloc (.cells #[.int .i64 1,.int .i64 R.at_,.int .i64 (k:Int),.int .u64 R.id,.int .u64 0,.slice none 0 0] 33)).drew=wm:=⟨_,rfl⟩
   rw [hwm] at HBm HZm
   try rw [hwm]
   clear hwm d0 d1 d2 d3 d4 d5
   obtain ⟨g,hg⟩:∃ g,wr.heap.size=g:=⟨_,rfl⟩
   have HG:=hide hg
   rw [hg] at HZm
   try rw [hg]
   clear hg
   obtain ⟨hltm,e0,e1,e2,e3,e4,e5⟩:=HC.out wm k (by omega) (below_step HB.out HBm.out)
   obtain ⟨t0,t1,t2,t3,t4,t5⟩:=six_cells HZm.out
   have lg:=(Array.getElem?_eq_some_iff.1 HZm.out).1
   have tf:∀ o,wm.frozen? ⟨g,o,none⟩=false:=fun o=>by simp [World.frozen?,HZm.out]
   have hne:¬ g=b:=by have h1:=(HC.out wr 0 (by omega) HB.out).1;have:=HG.out;omega
   have hne2:¬ b=g:=fun e=>hne e.symm
   clear hltr
   go_upto_region 7 with fail
   go_region
   have HB5:=hide ((Sets.below HBm.out (((Sets.refl (S:=fun c=>c=g) wm).set (g:=g) (fun _=>rfl) 0 (.int .i64 4)).set (g:=g) (fun _=>rfl) 4 (.int .u64 R.cs)) (fun c e=>by rw [e,← HG.out];exact Nat.le_refl _) HBm.out.size).drew)
   have HZ5:Hid ((((wm.setCell ⟨g,0,none⟩ (.int .i64 4)).setCell ⟨g,4,none⟩ (.int .u64 R.cs)).drew).heap[g]? = some (.cells #[.int .i64 4,.int .i64 R.at_,.int .i64 (k:Int),.int .u64 R.id,.int .u64 R.cs,.slice none 0 0] 33 (0,0))):=hide (set_of_list (o:=4) (set_of_list (o:=0) HZm.out (.int .i64 4)) (.int .u64 R.cs))
   obtain ⟨w5,hw5⟩:∃ w5,((wm.setCell ⟨g,0,none⟩ (.int .i64 4)).setCell ⟨g,4,none⟩ (.int .u64 R.cs)).drew=w5:=⟨_,rfl⟩
   rw [hw5] at HB5 HZ5
   try rw [hw5]
   clear hw5 e0 e1 e2 e3 e4 e5 t0 t1 t2 t3 t4 t5 tf lg
   obtain ⟨hlt5,e0,e1,e2,e3,e4,e5⟩:=HC.out w5 k (by omega) (below_step HB.out HB5.out)
   obtain ⟨t0,t1,t2,t3,t4,t5⟩:=six_cells HZ5.out
   have lg:=(Array.getElem?_eq_some_iff.1 HZ5.out).1
   clear hltm
   cases hc:R.C k with
   | true =>
    rw [hc] at e5
    have HS:Hid (N.map Mg.bare=csendTo R (k+1)):=hide (by rw [csendTo_no hc];exact HN.out)
    clear hc
    go_wp2_with fail
    go_roundw
    case rel=>exact ⟨k+1,N,by omega,by go_num,HO.out.below HB5.out,HS.out,below_step HB.out HB5.out⟩
    case measure=>simp only [intOf];omega
   | false =>
    rw [hc] at e5
    have HSY:=hide (csendTo_yes (R:=R) (k:=k) hc)
    clear hc
    obtain ⟨x,hx⟩:∃ x:Mg,(⟨4,R.at_,(k:Int),R.id,R.cs,none,0,[]⟩:Mg)=x:=⟨_,rfl⟩
    have HXB:Hid (x.bare=⟨4,R.at_,(k:Int),R.id,R.cs,none,0,[]⟩):=hide (by rw [← hx];rfl)
    have HXR5:Hid (x.rd w5):=hide (by rw [← hx];exact mg0_rd _ _ rfl rfl rfl)
    have HXF:Hid (∀ a,x.A=some a→x.L ≠ []→wr.heap.size≤a.block):=hide (fun a ha=>by rw [← hx] at ha;cases ha)
    rw [show (Value.int .i64 4)=.int .i64 x.k by rw [← hx]] at t0
    rw [show (Value.int .i64 R.at_)=.int .i64 x.f by rw [← hx]] at t1
    rw [show (Value.int .i64 (k:Int))=.int .i64 x.t by rw [← hx]] at t2
    rw [show (Value.int .u64 R.id)=.int .u64 x.id by rw [← hx]] at t3
    rw [show (Value.int .u64 R.cs)=.int .u64 x.n by rw [← hx]] at t4
    rw [show (Value.slice none 0 0)=.slice x.A x.L.length x.c by rw [← hx];rfl] at t5
    clear hx
    have hal:=below_alloc (Below.refl w5.heap.size w5) (.cells #[.int .i64 x.k,.int .i64 x.f,.int .i64 x.t,.int .u64 x.id,.int .u64 x.n,.slice x.A x.L.length x.c] 33)
    have HXX:Hid (RowAt Mg.cells 6 (w5.alloc (.cells #[.int .i64 x.k,.int .i64 x.f,.int .i64 x.t,.int .u64 x.id,.int .u64 x.n,.slice x.A x.L.length x.c] 33)) (some ⟨w5.heap.size,0,none⟩) [x]):=hide (RowAt.new_one (cells:=Mg.cells) (sz:=6) (y:=x) (heap_alloc_new w5 (.cells #[.int .i64 x.k,.int .i64 x.f,.int .i64 x.t,.int .u64 x.id,.int .u64 x.n,.slice x.A x.L.length x.c] 33)))
    have HXR:=hide (HXR5.out.below hal)
    have HBU:=hide (below_step HB5.out hal)
    have HOU:=hide (HO.out.below HBU.out)
    have HBW:=hide (below_step HB.out HBU.out)
    clear hal HXR5 HB5
    go_wp2_with (at_builtin;refine wpList_app_msg rfl (.tmp 55) (.tmp 57) rfl rfl w.heap.size _ N rfl HOU.out.own (some ⟨w5.heap.size,0,none⟩) 1 1 [x] rfl rfl HXX.out (by omega) HBW.out.size ?_;intro v6 w6 ho6 hg6 hm6;have HO6:=hide (HO.out.snoc HBU.out HXR.out HXF.out ho6 hg6 hm6 HB.out.size);have HB6:=hide (HBW.out.grown hg6 HBW.out.size (fun q hq=>(OwnL.lt HOU.out.own q hq).1));clear ho6 hg6 hm6)
    have HS6:Hid ((N ++ [x]).map Mg.bare=csendTo R (k+1)):=hide (by rw [HSY.out,List.map_append,HN.out,List.map_cons,HXB.out,HTO.out];rfl)
    go_wp2_with fail
    go_roundw
    case rel=>exact ⟨k+1,N ++ [x],by omega,by go_num,HO6.out,HS6.out,HB6.out⟩
    case measure=>simp only [intOf];omega
  ·obtain rfl:k=n:=by omega
   have hkI:¬ (k:Int) < (k:Int):=by omega
   clear hN
   go_wp2_with fail
   go_ret
   exact ⟨_,rfl,N,HO.out,by rw [HNT.out];exact HN.out,HB.out⟩
set_option maxRecDepth 100000 in
set_option maxHeartbeats 3200000 in
theorem csend_put {w0 w:World} {b:Nat} {X:Nat→Prop} {R:Co} (h:CoO w0 w b X R) (hn:1≤R.n∧R.n≤7) (hk3:R.ck ≠ 3) :
 Calls Tryz.prog 109 #[.pointer (some ⟨b,0,none⟩)] w fun e w'=>∃ v N,e=.returned v∧MsN w.heap.size w' v N∧N.map Mg.bare=csendTo R R.n.toNat∧Below w.heap.size w w':=by
 obtain ⟨n,hn1⟩:∃ n:Nat,R.n=(n:Int):=⟨R.n.toNat,by omega⟩
 have hn7:n≤7:=by omega
 have HNT:Hid (R.n.toNat=n):=hide (by omega)
 obtain ⟨vg,va,hb,_⟩:=h.row
 have c0:w.cell? ⟨b,0,none⟩=some (.int .i64 (n:Int)):=by rw [← hn1];exact (cell_of_list (o:=0) hb).trans rfl
 have HC:Hid (∀ (W:World) (k:Nat),k < 7→Below w.heap.size w W→b < W.heap.size∧W.cell? ⟨b,0,none⟩=some (.int .i64 (n:Int))∧W.cell? ⟨b,1,none⟩=some (.int .i64 R.at_)∧W.cell? ⟨b,2,none⟩=some (.int .u64 R.id)∧W.cell? ⟨b,3,none⟩=some (.int .i64 R.ck)∧W.cell? ⟨b,4,none⟩=some (.int .i64 R.cs)∧W.cell? ⟨b,5,none⟩=some (.int .u64 R.ct)∧W.cell? ⟨b,6,none⟩=some (.int .i64 R.cv)∧W.cell? ⟨b,7,none⟩=some (.int .u64 R.ver)∧W.cell? ⟨b,8+k,none⟩=some (.bool (R.C k))):=hide (fun W k hk hW=>by
  have hbk:=(hW.block b h.lt).trans hb
  exact ⟨Nat.lt_of_lt_of_le h.lt hW.size,by rw [← hn1];exact (cell_of_list (o:=0) hbk).trans rfl,(cell_of_list (o:=1) hbk).trans rfl,(cell_of_list (o:=2) hbk).trans rfl,(cell_of_list (o:=3) hbk).trans rfl,(cell_of_list (o:=4) hbk).trans rfl,(cell_of_list (o:=5) hbk).trans rfl,(cell_of_list (o:=6) hbk).trans rfl,(cell_of_list (o:=7) hbk).trans rfl,(cell_of_list hbk).trans (coL_C R 0 vg va hk)⟩)
 obtain ⟨y,hy⟩:∃ y,itC R.ck R.cs R.ct R.cv R.ver=y:=⟨_,rfl⟩
 have HTO:Hid (∀ k:Nat,toC R (k:Int)=⟨1,R.at_,k,R.id,0,none,0,[y]⟩):=hide (fun k=>by unfold toC;rw [if_neg hk3,hy])
 have HIT:=hide (fun (W:World)=>citem_any R.ck R.cs R.ct R.cv R.ver W)
 have hk3I:(R.ck == 3)=false:=beq_eq_false_iff_ne.2 hk3
 rw [hy] at HIT
 clear h hb hn1 hn hk3 hy
 go_enter Tryz.func109,Tryz.ntmps109
 go_wp2_with fail
 go_loopw [3,10] (fun v i wr=>∃ (k:Nat) (N:List Mg),k≤n∧i=.int .i64 k∧MsN w.heap.size wr v N∧N.map Mg.bare=csendTo R k∧Below w.heap.size w wr) (fun _ i _=>n - (intOf i).toNat)
 case atStart=>exact ⟨0,[],by omega,rfl,MsN.nil_ _ _,rfl,Below.refl _ _⟩
 case round =>
  obtain ⟨k,N,hk,rfl,hO,hN,hb⟩:=hrel
  have HO:=hide hO
  have HN:=hide hN
  have HB:=hide hb
  clear hO hb
  by_cases hlt:k < n
  ·have hkI:(k:Int) < (n:Int):=by omega
   have hk7:(k:Int) < 7:=by omega
   have hk0:(0:Int)≤(k:Int):=by omega
   obtain ⟨hltr,d0,d1,d2,d3,d4,d41,d42,d43,d5⟩:=HC.out wr k (by omega) HB.out
   have hNl:N.length≤7:=by
    have h1:=congrArg List.length hN
    rw [List.length_map] at h1
    have:=csendTo_len R k
    omega
   clear hN c0
   go_upto_region 5 with fail
   go_region
   have HBm:Hid (Below wr.heap.size wr (wr.alloc (.cells #[.int .i64 1,.int .i64 R.at_,.int .i64 (k:Int),.int .u64 R.id,.int .u64 0,.slice none 0 0] 33)).drew):=hide (below_alloc (Below.refl _ _) _).drew
   have HZm:Hid ((wr.alloc (.cells #[.int .i64 1,.int .i64 R.at_,.int .i64 (k:Int),.int .u64 R.id,.int .u64 0,.slice none 0 0] 33)).drew.heap[wr.heap.size]? = some (.cells #[.int .i64 1,.int .i64 R.at_,.int .i64 (k:Int),.int .u64 R.id,.int .u64 0,.slice none 0 0] 33 (0,0))):=hide (heap_alloc_new wr _)
   obtain ⟨wm,hwm⟩:∃ wm,(wr.alloc (.cells #[.int .i64 1,.int .i64 R.at_,.int .i64 (k:Int),.int .u64 R.id,.int .u64 0,.slice none 0 0] 33)).drew=wm:=⟨_,rfl⟩
   rw [hwm] at HBm HZm
   try rw [hwm]
   clear hwm d0 d1 d2 d3 d4 d41 d42 d43 d5
   obtain ⟨g,hg⟩:∃ g,wr.heap.size=g:=⟨_,rfl⟩
   have HG:=hide hg
   rw [hg] at HZm
   try rw [hg]
   clear hg
   obtain ⟨hltm,e0,e1,e2,e3,e4,e41,e42,e43,e5⟩:=HC.out wm k (by omega) (below_step HB.out HBm.out)
   obtain ⟨t0,t1,t2,t3,t4,t5⟩:=six_cells HZm.out
   have lg:=(Array.getElem?_eq_some_iff.1 HZm.out).1
   have tf:∀ o,wm.frozen? ⟨g,o,none⟩=false:=fun o=>by simp [World.frozen?,HZm.out]
   have hne:¬ g=b:=by have h1:=(HC.out wr 0 (by omega) HB.out).1;have:=HG.out;omega
   have hne2:¬ b=g:=fun e=>hne e.symm
   clear hltr
   go_upto_region 8 with fail
   clear hltm e0 e1 e2 e3 e4 e41 e42 e43 e5 t0 t1 t2 t3 t4 t5 tf lg
   obtain ⟨ud,hud⟩:∃ ud,wm.drew=ud:=⟨_,rfl⟩
   have HUD:Hid (Below wm.heap.size wm ud):=hide (by rw [← hud];exact (Below.refl _ _).drew)
   have HCU:=hide (fun (W:World) (hW:Below ud.heap.size ud W)=>HC.out W k (by omega) (below_step HB.out (below_step HBm.out (below_step HUD.out hW))))
   refine j_startD [11] hud (by kernel_rfl) ?_
   clear hud
   refine' j_t 0 [1,2,3,8,9,10,11] rfl (by kernel_rfl) rfl ?y0 ?r0
   case y0=>(intro w' hw';go_simp;try with_reducible rfl)
   try go_frame
   refine' j_t 1 [2,3,8,9,10,11] rfl (by kernel_rfl) rfl ?y1 ?r1
   case y1=>(intro w' hw';go_simp;try with_reducible rfl)
   try go_frame
   refine' j_t 2 [3,8,9,10,11] rfl (by kernel_rfl) rfl ?y2 ?r2
   case y2=>(intro w' hw';go_simp;try with_reducible rfl)
   try go_frame
   refine' j_t 3 [8,9,10,11] rfl (by kernel_rfl) rfl ?y3 ?r3
   case y3=>(intro w' hw';obtain ⟨hltm,e0,e1,e2,e3,e4,e41,e42,e43,e5⟩:=HCU.out _ hw';go_simp;try with_reducible rfl)
   try go_frame
   refine' j_t 4 [5,6,7,8,9,10,11] rfl (by kernel_rfl) rfl ?y4 ?r4
   case y4=>(intro w' hw';go_simp;try with_reducible rfl)
   try go_frame
   refine' j_t 5 [6,7,8,9,10,11] rfl (by kernel_rfl) rfl ?y5 ?r5
   case y5=>(intro w' hw';go_simp;try with_reducible rfl)
   try go_frame
   refine' j_t 6 [7,8,9,10,11] rfl (by kernel_rfl) rfl ?y6 ?r6
   case y6=>(intro w' hw';go_simp;try with_reducible rfl)
   try go_frame
   refine' j_t 7 [8,9,10,11] rfl (by kernel_rfl) rfl ?y7 ?r7
   case y7=>(intro w' hw';obtain ⟨hltm,e0,e1,e2,e3,e4,e41,e42,e43,e5⟩:=HCU.out _ hw';go_simp;try with_reducible rfl)
   try go_frame
   refine' j_s 8 (by kernel_rfl) rfl (fun K hK=>?s8)
   go_simp
   refine (Calls.mono (HIT.out _) ?_);rintro e u1 ⟨rfl,gg⟩
   have HG1:=hide gg
   refine hK.out _ _ gg (j_switch gg ?_)
   clear hK K gg
   try go_frame
   refine' j_s 9 (by kernel_rfl) rfl (fun K hK=>?s9)
   go_simp
   have ha:=below_alloc (Below.refl u1.heap.size u1) (.cells #[.int .i64 y.s,.int .i64 y.k,.int .u64 y.t,.int .u64 y.v,.int .i64 y.x] 54)
   have hz:=heap_alloc_new u1 (.cells #[.int .i64 y.s,.int .i64 y.k,.int .u64 y.t,.int .u64 y.v,.int .i64 y.x] 54)
   obtain ⟨u2,hu2⟩:∃ u2,u1.alloc (.cells #[.int .i64 y.s,.int .i64 y.k,.int .u64 y.t,.int .u64 y.v,.int .i64 y.x] 54)=u2:=⟨_,rfl⟩
   obtain ⟨g8,hg8⟩:∃ g8,u1.heap.size=g8:=⟨_,rfl⟩
   refine hK.out _ _ ha (j_switch ha ?_)
   clear hK K
   rw [hu2] at ha hz
   rw [hg8] at hz
   try rw [hu2]
   try rw [hg8]
   have HU2:=hide ha
   have HZ2:=hide hz
   have HG8:=hide hg8
   clear ha hz hu2 hg8
   try go_frame
   refine' j_t 10 [11] rfl (by kernel_rfl) rfl ?y10 ?r10
   case y10=>(intro w' hw';go_simp;try with_reducible rfl)
   try go_frame
   refine' j_l 11 (by kernel_rfl) rfl (by kernel_rfl) (fun K hK=>?s11)
   have hz5:=((below_step (below_step HUD.out HG1.out) HU2.out).block g (Array.getElem?_eq_some_iff.1 HZm.out).1).trans HZm.out
   obtain ⟨s0,s1,s2,s3,s4,s5⟩:=six_cells hz5
   have sf:∀ o,u2.frozen? ⟨g,o,none⟩=false:=(fun o=>by simp [World.frozen?,hz5])
   have HZ5:=hide hz5
   clear hz5
   go_simp
   refine hK.out _ _ ?_
   clear hK K s0 s1 s2 s3 s4 s5 sf
   try go_frame
   refine wpAnyJ_done (by kernel_rfl) ?_ _
   refine NoPanic.normal ?_
   have hbu:=below_step (below_step (below_step HBm.out HUD.out) HG1.out) HU2.out
   have HB5:=hide (Sets.below hbu ((Sets.refl (S:=fun c=>c=g) u2).set (g:=g) (fun _=>rfl) 5 (.slice (some ⟨g8,0,none⟩) 1 1)) (fun c e=>by rw [e,← HG.out];exact Nat.le_refl _) hbu.size)
   have HT5:=hide (set_of_list (o:=5) HZ5.out (.slice (some ⟨g8,0,none⟩) 1 1))
   have hg8g:g8 ≠ g:=fun e=>by
    have h1:=HG8.out
    have h2:=(Array.getElem?_eq_some_iff.1 HZm.out).1
    have h3:=(below_step HUD.out HG1.out).size
    omega
   have HI8:Hid ((u2.setCell ⟨g,5,none⟩ (.slice (some ⟨g8,0,none⟩) 1 1)).heap[g8]? = some (.cells (flat [y]).toArray 54 (0,0))):=hide ((Below.heap_setCell u2 ⟨g,5,none⟩ _ g8 (fun e=>hg8g (by simpa using e))).trans HZ2.out)
   have HGW:Hid (wr.heap.size≤g8):=hide (by
    have h1:=HG8.out
    have h3:=(below_step (below_step HBm.out HUD.out) HG1.out).size
    omega)
   obtain ⟨w5,hw5⟩:∃ w5,(u2.setCell ⟨g,5,none⟩ (.slice (some ⟨g8,0,none⟩) 1 1))=w5:=⟨_,rfl⟩
   rw [hw5] at HB5 HT5 HI8
   try rw [hw5]
   clear hw5 hbu hg8g HZ5 HZ2 HU2 HG1 HG8
   obtain ⟨hlt5,e0,e1,e2,e3,e4,e41,e42,e43,e5⟩:=HC.out w5 k (by omega) (below_step HB.out HB5.out)
   obtain ⟨t0,t1,t2,t3,t4,t5⟩:=six_cells HT5.out
   have lg:=(Array.getElem?_eq_some_iff.1 HT5.out).1
   cases hc:R.C k with
   | true =>
    rw [hc] at e5
    have HS:Hid (N.map Mg.bare=csendTo R (k+1)):=hide (by rw [csendTo_no hc];exact HN.out)
    clear hc
    go_wp2_with fail
    go_roundw
    case rel=>exact ⟨k+1,N,by omega,by go_num,HO.out.below HB5.out,HS.out,below_step HB.out HB5.out⟩
    case measure=>simp only [intOf];omega
   | false =>
    rw [hc] at e5
    have HSY:=hide (csendTo_yes (R:=R) (k:=k) hc)
    clear hc
    obtain ⟨x,hx⟩:∃ x:Mg,(⟨1,R.at_,(k:Int),R.id,0,some ⟨g8,0,none⟩,1,[y]⟩:Mg)=x:=⟨_,rfl⟩
    have HXB:Hid (x.bare=⟨1,R.at_,(k:Int),R.id,0,none,0,[y]⟩):=hide (by rw [← hx];rfl)
    have HXR5:Hid (x.rd w5):=hide (by rw [← hx];exact ⟨new_row (g:=g8) (L:=[y]) HI8.out rfl,Nat.le_refl _,by simp [maxLen]⟩)
    have HXF:Hid (∀ a,x.A=some a→x.L ≠ []→wr.heap.size≤a.block):=hide (fun a ha _=>by rw [← hx] at ha;cases ha;exact HGW.out)
    rw [show (Value.int .i64 1)=.int .i64 x.k by rw [← hx]] at t0
    rw [show (Value.int .i64 R.at_)=.int .i64 x.f by rw [← hx]] at t1
    rw [show (Value.int .i64 (k:Int))=.int .i64 x.t by rw [← hx]] at t2
    rw [show (Value.int .u64 R.id)=.int .u64 x.id by rw [← hx]] at t3
    rw [show (Value.int .u64 0)=.int .u64 x.n by rw [← hx]] at t4
    rw [show (Value.slice (some ⟨g8,0,none⟩) 1 1)=.slice x.A x.L.length x.c by rw [← hx];rfl] at t5
    clear hx
    have hal:=below_alloc (Below.refl w5.heap.size w5) (.cells #[.int .i64 x.k,.int .i64 x.f,.int .i64 x.t,.int .u64 x.id,.int .u64 x.n,.slice x.A x.L.length x.c] 33)
    have HXX:Hid (RowAt Mg.cells 6 (w5.alloc (.cells #[.int .i64 x.k,.int .i64 x.f,.int .i64 x.t,.int .u64 x.id,.int .u64 x.n,.slice x.A x.L.length x.c] 33)) (some ⟨w5.heap.size,0,none⟩) [x]):=hide (RowAt.new_one (cells:=Mg.cells) (sz:=6) (y:=x) (heap_alloc_new w5 (.cells #[.int .i64 x.k,.int .i64 x.f,.int .i64 x.t,.int .u64 x.id,.int .u64 x.n,.slice x.A x.L.length x.c] 33)))
    have HXR:=hide (HXR5.out.below hal)
    have HBU:=hide (below_step HB5.out hal)
    have HOU:=hide (HO.out.below HBU.out)
    have HBW:=hide (below_step HB.out HBU.out)
    clear hal HXR5 HB5
    go_wp2_with (at_builtin;refine wpList_app_msg rfl (.tmp 55) (.tmp 57) rfl rfl w.heap.size _ N rfl HOU.out.own (some ⟨w5.heap.size,0,none⟩) 1 1 [x] rfl rfl HXX.out (by omega) HBW.out.size ?_;intro v6 w6 ho6 hg6 hm6;have HO6:=hide (HO.out.snoc HBU.out HXR.out HXF.out ho6 hg6 hm6 HB.out.size);have HB6:=hide (HBW.out.grown hg6 HBW.out.size (fun q hq=>(OwnL.lt HOU.out.own q hq).1));clear ho6 hg6 hm6)
    have HS6:Hid ((N ++ [x]).map Mg.bare=csendTo R (k+1)):=hide (by rw [HSY.out,List.map_append,HN.out,List.map_cons,HXB.out,HTO.out];rfl)
    go_wp2_with fail
    go_roundw
    case rel=>exact ⟨k+1,N ++ [x],by omega,by go_num,HO6.out,HS6.out,HB6.out⟩
    case measure=>simp only [intOf];omega
  ·obtain rfl:k=n:=by omega
   have hkI:¬ (k:Int) < (k:Int):=by omega
   clear hN
   go_wp2_with fail
   go_ret
   exact ⟨_,rfl,N,HO.out,by rw [HNT.out];exact HN.out,HB.out⟩
theorem csend_new {w0 w:World} {b:Nat} {X:Nat→Prop} {R:Co} (h:CoO w0 w b X R) (hn:1≤R.n∧R.n≤7) (hs:0≤R.cs∧R.cs≤255) :
 Calls Tryz.prog 109 #[.pointer (some ⟨b,0,none⟩)] w fun e w'=>∃ v N,e=.returned v∧MsN w.heap.size w' v N∧N.map Mg.bare=csendTo R R.n.toNat∧Below w.heap.size w w':=by
 by_cases hk:R.ck=3
 ·exact csend_get h hn hs hk
 ·exact csend_put h hn hk
def allR (R:Co):Co:=co0 R.n R.at_ R.id R.ck R.cs R.ct R.cv R.ver
set_option maxRecDepth 100000 in
set_option maxHeartbeats 1600000 in
theorem csends_new {w0 w:World} {b:Nat} {X:Nat→Prop} {R:Co} (h:CoO w0 w b X R) (hn:1≤R.n∧R.n≤7) (hs:0≤R.cs∧R.cs≤255) :
 Calls Tryz.prog 50 #[.pointer (some ⟨b,0,none⟩)] w fun e w'=>∃ v N,e=.returned v∧MsN w.heap.size w' v N∧N.map Mg.bare=csendTo (allR R) R.n.toNat∧Below w.heap.size w w':=by
 obtain ⟨vg,va,hb,_⟩:=h.row
 have c0:w.cell? ⟨b,0,none⟩=some (.int .i64 R.n):=(cell_of_list (o:=0) hb).trans rfl
 have c1:w.cell? ⟨b,1,none⟩=some (.int .i64 R.at_):=(cell_of_list (o:=1) hb).trans rfl
 have c2:w.cell? ⟨b,2,none⟩=some (.int .u64 R.id):=(cell_of_list (o:=2) hb).trans rfl
 have c3:w.cell? ⟨b,3,none⟩=some (.int .i64 R.ck):=(cell_of_list (o:=3) hb).trans rfl
 have c4:w.cell? ⟨b,4,none⟩=some (.int .i64 R.cs):=(cell_of_list (o:=4) hb).trans rfl
 have c5:w.cell? ⟨b,5,none⟩=some (.int .u64 R.ct):=(cell_of_list (o:=5) hb).trans rfl
 have c6:w.cell? ⟨b,6,none⟩=some (.int .i64 R.cv):=(cell_of_list (o:=6) hb).trans rfl
 have c7:w.cell? ⟨b,7,none⟩=some (.int .u64 R.ver):=(cell_of_list (o:=7) hb).trans rfl
 have lb:=h.lt
 have ha:=below_alloc (Below.refl w.heap.size w) (.cells (coL (allR R) 0 (.slice none 0 0) (.slice none 0 0)).toArray 190)
 have hz:=heap_alloc_new w (.cells (coL (allR R) 0 (.slice none 0 0) (.slice none 0 0)).toArray 190)
 have HSN:Hid (∀ u:World,u=(w.alloc (.cells (coL (allR R) 0 (.slice none 0 0) (.slice none 0 0)).toArray 190)).drew→Calls Tryz.prog 109 #[.pointer (some ⟨w.heap.size,0,none⟩)] u fun e w'=>∃ v N,e=.returned v∧MsN w.heap.size w' v N∧N.map Mg.bare=csendTo (allR R) R.n.toNat∧Below w.heap.size w w'):=hide (by
  rintro u rfl
  refine Calls.mono (csend_new (w0:=w) (X:=fun g=>g=w.heap.size) (R:=allR R) ⟨⟨_,_,hz,CoG.nil_ _ _ _,CoA.nil_ _ _ _ _⟩,ha.drew,rfl,fun g e=>by subst e;exact ⟨Nat.le_refl _,(Array.getElem?_eq_some_iff.1 hz).1⟩⟩ hn hs) ?_
  rintro e w' ⟨v,N,rfl,h1,h2,h3⟩
  exact ⟨v,N,rfl,⟨⟨OwnL.base_ h1.own ha.drew.size,h1.rd,h1.far⟩,fun x hx a ha' hn=>Nat.le_trans ha.drew.size (h1.2 x hx a ha' hn)⟩,h2,below_step ha.drew h3⟩)
 clear h hb ha hz hn hs
 go_enter Tryz.func50,Tryz.ntmps50
 go_upto_region 1 with fail
 go_region
 go_upto_region 2 with fail
 go_wp2_with fail
 refine (Calls.mono (HSN.out _ rfl) ?_);rintro e w1 ⟨v,N,rfl,h1,h2,h3⟩
 obtain ⟨A,c,rfl,_,_⟩:=OwnL.row Mg.cells_len h1.own
 have H1:=hide h1
 have H2:=hide h2
 have H3:=hide h3
 clear h1 h2 h3 HSN
 go_wp2_with fail
 go_ret
 exact ⟨_,N,rfl,H1.out,H2.out,H3.out⟩
theorem csend_any {w0 w:World} {b:Nat} {X:Nat→Prop} {R:Co} (h:CoO w0 w b X R) (hn:1≤R.n∧R.n≤7) (hs:0≤R.cs∧R.cs≤255) :
 Calls Tryz.prog 109 #[.pointer (some ⟨b,0,none⟩)] w fun e w'=>∃ v N,e=.returned v∧MsO w.heap.size w' v N∧N.map Mg.bare=csendTo R R.n.toNat∧Below w.heap.size w w' :=
 (csend_new h hn hs).mono (by rintro e w' ⟨v,N,h1,h2,h3⟩;exact ⟨v,N,h1,h2.1,h3⟩)
end Go.Proofs.YtgmkckjedngkdaaGreatDoor
