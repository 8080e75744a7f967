/- A part of the proof that TopMajorityLaw holds: XSkPl, XSk, XSkM, XSkB, XSkR, XSkI, XSkF, XSkG, XSkP. Conditions: as typed. -/
import Derived.Test.YtgmkckjedngkdaaGreatDoorTm03
import Derived.Test.YtgmkckjedngkdaaGreatDoorTm04
import Derived.Test.YtgmkckjedngkdaaGreatDoorTm05
import Derived.Test.YtgmkckjedngkdaaGreatDoorTm06
import Derived.Test.YtgmkckjedngkdaaGreatDoorTm09
import Derived.Laws.LoneSync
import Derived.BigQuiet
import Derived.Deep.LoopGhost
import Derived.Deep.RegionHeld3
set_option linter.unusedVariables false
set_option linter.unusedSimpArgs false
namespace Go.Proofs.YtgmkckjedngkdaaGreatDoor
open Go.ChangeShapes Go.WideShapes Go.ChangeAt Go.RowKit
structure Nd where
 b:Nat
 t:Nat
 h:Nat
 x:It
def nxtP (k:Nat) (R:List Nd):Option Nat:=(R.find? fun n=>decide (k < n.h)).map (·.b)
def ptrO (o:Option Nat):Value:=.pointer (o.map fun b=>⟨b,0,none⟩)
theorem nx_cases (F:List Nd) (k i:Nat):(nxtP k (F.drop (i+1))=none∧∀ j (hj:j < F.length),i < j→¬ k < F[j].h) ∨
 (∃ (j:Nat) (hj:j < F.length),i < j∧k < F[j].h∧nxtP k (F.drop (i+1))=some F[j].b∧∀ j' (h':j' < F.length),i < j'→j' < j→¬ k < F[j'].h):=by
 unfold nxtP
 cases h:(F.drop (i+1)).find? fun n=>decide (k < n.h) with
 | none =>
  left
  refine ⟨rfl,fun j hj hij hk=>?_⟩
  rw [List.find?_eq_none] at h
  have hm:F[j] ∈ F.drop (i+1):=by
   rw [List.mem_iff_getElem]
   exact ⟨j - (i+1),by simp;omega,by simp;congr 1;omega⟩
  have:=h _ hm
  simp at this
  omega
 | some n =>
  right
  rw [List.find?_eq_some_iff_getElem] at h
  obtain ⟨hp,m,hm,he,hall⟩:=h
  have hml:m < F.length - (i+1):=by simpa using hm
  have e:F[i+1+m]=n:=by rw [← he];simp
  refine ⟨i+1+m,by omega,by omega,?_,?_,fun j' h' h1 h2 hk=>?_⟩
  ·rw [e];simpa using hp
  ·rw [e];rfl
  ·have:=hall (j' - (i+1)) (by omega)
   have e2:(F.drop (i+1))[j' - (i+1)]'(by simp;omega)=F[j']:=by simp;congr 1;omega
   rw [e2] at this
   simp at this
   omega
def IsPrv (F:List Nd) (k p i:Nat):Prop:=i≤p∧(∃ h:i < F.length,k < (F[i]'h).h)∧∀ j (hj:j < F.length),i < j→j≤p→¬ k < F[j].h
theorem prv_uniq {F:List Nd} {k p i j:Nat} (h:IsPrv F k p i) (g:IsPrv F k p j):i=j:=by
 obtain ⟨h1,⟨h2,h3⟩,h4⟩:=h
 obtain ⟨g1,⟨g2,g3⟩,g4⟩:=g
 rcases Nat.lt_trichotomy i j with e | e | e
 ·exact absurd g3 (h4 j g2 e g1)
 ·exact e
 ·exact absurd h3 (g4 i h2 e h1)
end Go.Proofs.YtgmkckjedngkdaaGreatDoor
namespace Go.Proofs.YtgmkckjedngkdaaGreatDoor
open Go.ChangeShapes Go.WideShapes Go.ChangeAt Go.RowKit
section
variable {P:Program} {f:FuncId} {fn:Func}
theorem run_call_loadP (hf : P.funcs[f]? = some fn) (hname : (fn.name == "runtime.NumGoroutine") = false) (hb : fn.body.isNone = true) (hn : Extern.findNext fn = none)
 (he:Extern.find fn=some (Extern.Atomic.loadT .ptr)) {a:Addr} {x:Option Addr} {w:World} (hc:w.cell? a=some (.pointer x)) :
 (callFunc f #[.pointer (some a)]).run P w=.ok (.value (.pointer x)) w:=by
 rw [run_callFunc_extern hf hname hb hn he]
 change (Sem.run P (do Extern.Atomic.read .ptr (← asAddr (.pointer (some a)))) w).andThen _=_
 simp [Extern.Atomic.read,asAddr,hc,Result.andThen]
theorem run_call_storeP (hf : P.funcs[f]? = some fn) (hname : (fn.name == "runtime.NumGoroutine") = false) (hb : fn.body.isNone = true) (hn : Extern.findNext fn = none)
 (he:Extern.find fn=some Extern.Atomic.storeT) {a:Addr} {y:Option Addr} {u:Value} {w:World} (hc:w.cell? a=some u) (hz:w.frozen? a=false) :
 (callFunc f #[.pointer (some a),.pointer y]).run P w=.ok (.value (.tuple #[])) (w.setCell a (.pointer y)):=by
 rw [run_callFunc_extern hf hname hb hn he]
 change (Sem.run P (do
  store (← asAddr (.pointer (some a))) (.pointer y) .atomic
  pure Extern.Atomic.none_) w).andThen _=_
 simp [asAddr,hc,hz,run_store P w a (.pointer y) .atomic rfl,Result.andThen,Extern.Atomic.none_]
theorem run_from_unsafe {src dst u:TypeId} (hs:P.underlying src=some .unsafePointer) (hd:P.underlying dst=some (.pointer u)) (hu:(P.info? u).map (fun i=>decide (i.size=0))=some false) {b n:Nat} {w:World} (hsh:w.shape? b=some (u,n))
 (hl:liesAt P P.depth u (n / P.cellsOf u) 0 u 1=true):(convert src dst (.pointer (some ⟨b,0,none⟩))).run P w=.ok (.pointer (some ⟨b,0,none⟩)) w:=by
 obtain ⟨i,hi,hz0⟩:=Option.map_eq_some_iff.1 hu
 have hz:i.size ≠ 0:=by simpa using hz0
 simp [convert,run_underlying hs,run_underlying hd,Conv.unsafePointer,Conv.seenAt,viewAt,hsh,variablesAt,hl,sizeOf,typeInfo,hi,hz]
theorem run_from_unsafe_nil {src dst u:TypeId} (hs:P.underlying src=some .unsafePointer) (hd:P.underlying dst=some (.pointer u)) {w:World}:(convert src dst (.pointer none)).run P w=.ok (.pointer none) w:=by
 simp [convert,run_underlying hs,run_underlying hd,Conv.unsafePointer]
theorem run_to_unsafe_nil {src dst u:TypeId} (hs:P.underlying dst=some .unsafePointer) (hd:P.underlying src=some (.pointer u)) {w:World}:(convert src dst (.pointer none)).run P w=.ok (.pointer none) w:=by
 simp [convert,run_underlying hs,run_underlying hd,Conv.unsafePointer]
end
theorem node_lies:liesAt Tryz.prog Tryz.prog.depth 307 (6 / Tryz.prog.cellsOf 307) 0 307 1=true:=by kernel_rfl
theorem node_size:(Tryz.prog.info? 307).map (fun i=>decide (i.size=0))=some false:=by kernel_rfl
def PtrOk (w:World):Option Addr→Prop
 | none=>True
 | some a=>∃ b,a=⟨b,0,none⟩∧w.shape? b=some (307,6)∧∃ v,w.cell? ⟨b,0,none⟩=some v
set_option maxRecDepth 100000 in
set_option maxHeartbeats 400000 in
theorem load_any (g k:Nat) (a:Option Addr) (w:World) (h:w.cell? ⟨g,k,none⟩=some (.pointer a)) (hp:PtrOk w a):Calls Tryz.prog 207 #[.pointer (some ⟨g,k,none⟩)] w fun e w'=>e=.returned (.pointer a)∧w'=w:=by
 have hl:=run_call_loadP (P:=Tryz.prog) Tryz.func272 (by kernel_rfl) (by kernel_rfl) (by kernel_rfl) (by kernel_rfl) (w:=w) h
 have hc:(convert 302 283 (.pointer a)).run Tryz.prog w=.ok (.pointer a) w:=by
  cases a with
  | none=>exact run_from_unsafe_nil Tryz.underlying302 Tryz.underlying283
  | some ad =>
   obtain ⟨b,rfl,hs,_⟩:=hp
   exact run_from_unsafe Tryz.underlying302 Tryz.underlying283 node_size hs node_lies
 clear hp
 go_enter Tryz.func207,Tryz.ntmps207
 go_wp2_with fail
 go_ret
 exact ⟨rfl,rfl⟩
set_option maxRecDepth 100000 in
set_option maxHeartbeats 400000 in
theorem store_any (g k:Nat) (a v:Option Addr) (w:World) (h:w.cell? ⟨g,k,none⟩=some (.pointer v)) (hf:w.frozen? ⟨g,k,none⟩=false) (hp:PtrOk w a):Calls Tryz.prog 208 #[.pointer (some ⟨g,k,none⟩),.pointer a] w fun e w'=>e=.returned (.tuple #[])∧w'=w.setCell ⟨g,k,none⟩ (.pointer a):=by
 have hl:=run_call_storeP (P:=Tryz.prog) Tryz.func273 (by kernel_rfl) (by kernel_rfl) (by kernel_rfl) (by kernel_rfl) (w:=w) (y:=a) h hf
 have hc:(convert 283 302 (.pointer a)).run Tryz.prog w=.ok (.pointer a) w:=by
  cases a with
  | none=>exact run_to_unsafe_nil Tryz.underlying302 Tryz.underlying283
  | some ad =>
   obtain ⟨b,rfl,hs,u,hu⟩:=hp
   exact run_convert_to_unsafe Tryz.underlying283 Tryz.underlying302 node_size hu
 clear hp
 go_enter Tryz.func208,Tryz.ntmps208
 go_wp2_with fail
 go_end0
 exact ⟨rfl,rfl⟩
end Go.Proofs.YtgmkckjedngkdaaGreatDoor
namespace Go.Proofs.YtgmkckjedngkdaaGreatDoor
open Go.ChangeShapes Go.WideShapes Go.ChangeAt Go.RowKit
structure NdAt (w:World) (n:Nd):Prop where
 lb:n.b < w.heap.size
 lt:n.t < w.heap.size
 sh:w.shape? n.b=some (307,6)
 c0:w.cell? ⟨n.b,0,none⟩=some (.int .i64 n.x.s)
 c1:w.cell? ⟨n.b,1,none⟩=some (.int .i64 n.x.k)
 c2:w.cell? ⟨n.b,2,none⟩=some (.int .u64 n.x.t)
 c3:w.cell? ⟨n.b,3,none⟩=some (.int .u64 n.x.v)
 c4:w.cell? ⟨n.b,4,none⟩=some (.int .i64 n.x.x)
 c5:w.cell? ⟨n.b,5,none⟩=some (.slice (some ⟨n.t,0,none⟩) n.h n.h)
 fb:∀ o,w.frozen? ⟨n.b,o,none⟩=false
 ft:∀ o,w.frozen? ⟨n.t,o,none⟩=false
theorem shape_of {w w':World} {b:Nat} (h:w'.heap[b]? = w.heap[b]?):w'.shape? b=w.shape? b:=by unfold World.shape?;rw [h]
theorem NdAt.kept {w w':World} {n:Nd} (h:NdAt w n) (hz:w.heap.size≤w'.heap.size) (hb:w'.heap[n.b]? = w.heap[n.b]?) (ht:w'.heap[n.t]? = w.heap[n.t]?):NdAt w' n :=
 ⟨Nat.lt_of_lt_of_le h.lb hz,Nat.lt_of_lt_of_le h.lt hz,(shape_of hb).trans h.sh,(World.cell?_of_block hb).trans h.c0,(World.cell?_of_block hb).trans h.c1,(World.cell?_of_block hb).trans h.c2,(World.cell?_of_block hb).trans h.c3,(World.cell?_of_block hb).trans h.c4,(World.cell?_of_block hb).trans h.c5,
  fun o=>(World.frozen?_of_block hb).trans (h.fb o),fun o=>(World.frozen?_of_block ht).trans (h.ft o)⟩
theorem NdAt.below {w w':World} {n:Nd} (h:NdAt w n) (hb:Below w.heap.size w w'):NdAt w' n:=h.kept hb.size (hb.block _ h.lb) (hb.block _ h.lt)
theorem NdAt.ptr {w:World} {n:Nd} (h:NdAt w n):PtrOk w (some ⟨n.b,0,none⟩):=⟨n.b,rfl,h.sh,_,h.c0⟩
structure Nodes (w:World) (F:List Nd):Prop where
 at_:∀ n ∈ F,NdAt w n
 lev:∀ (i:Nat) (hi:i < F.length) (k:Nat),k < F[i].h→w.cell? ⟨F[i].t,k,none⟩=some (ptrO (nxtP k (F.drop (i+1))))
theorem Nodes.below {w w':World} {F:List Nd} (h:Nodes w F) (hb:Below w.heap.size w w'):Nodes w' F :=
 ⟨fun n hn=>(h.at_ n hn).below hb,fun i hi k hk=>(hb.cell (p:=⟨F[i].t,_,none⟩) (h.at_ _ (List.getElem_mem hi)).lt).trans (h.lev i hi k hk)⟩
structure SkAt (w:World) (p:Nat) (F:List Nd):Prop where
 lp:p < w.heap.size
 pos:∃ h:0 < F.length,(F[0]'h).h=6∧w.cell? ⟨p,0,none⟩=some (.pointer (some ⟨(F[0]'h).b,0,none⟩))
 cnt:w.cell? ⟨p,1,none⟩=some (.int .i64 ((F.length:Int) - 1))
 fp:∀ o,w.frozen? ⟨p,o,none⟩=false
 nds:Nodes w F
 dis:(p :: F.flatMap fun n=>[n.b,n.t]).Nodup
theorem SkAt.below {w w':World} {p:Nat} {F:List Nd} (h:SkAt w p F) (hb:Below w.heap.size w w'):SkAt w' p F :=
 ⟨Nat.lt_of_lt_of_le h.lp hb.size,by obtain ⟨a,b,c⟩:=h.pos;exact ⟨a,b,(hb.cell (p:=⟨p,_,none⟩) h.lp).trans c⟩,(hb.cell (p:=⟨p,_,none⟩) h.lp).trans h.cnt,fun o=>(World.frozen?_of_block (hb.block p h.lp)).trans (h.fp o),h.nds.below hb,h.dis⟩
theorem infoAp:(Tryz.prog.info? 304).map (fun i=>(i.zero,i.size,i.bytes))=some (some (.agg #[.pointer none]),1,8):=by kernel_rfl
theorem run_make_ap (S:Nat) (hS:S≤1000) (w:World):(Instr.makeSlice 305 (.int .i64 S) (.int .i64 S)).run Tryz.prog w=.ok (.slice (some ⟨w.heap.size,0,none⟩) S S) (w.alloc (.cells (List.replicate S (Value.pointer none)).toArray 304)):=by
 obtain ⟨i0,hi,hz0,hz1,hz2⟩:=info_parts infoAp
 rw [run_make (P:=Tryz.prog) w 305 304 i0 _ Tryz.underlying305 hi hz0 .i64 .i64 S S (by omega) (by omega) (by rw [hz2];omega) (by omega),hz1]
 have h:=toList_madeCells_one (.pointer none) S
 have e:madeCells (Value.agg #[.pointer none]).cells ((S:Int).toNat * 1)=(List.replicate S (Value.pointer none)).toArray:=by
  apply Array.toList_inj.1
  simp only [Int.toNat_natCast,Nat.mul_one]
  exact h
 rw [e]
 simp
theorem al3s (w:World) (o1 o2 o3:Obj):(((w.alloc o1).alloc o2).alloc o3).heap[w.heap.size+1]? = some o2∧(((w.alloc o1).alloc o2).alloc o3).heap[w.heap.size+1+1]? = some o3∧Below w.heap.size w (((w.alloc o1).alloc o2).alloc o3) :=
 ⟨(Below.heap_alloc _ _ _ (by simp)).trans (heap_at (by simp)),heap_at (by simp),below_alloc (below_alloc (below_alloc (Below.refl _ _) _) _) _⟩
theorem tower_in {W:World} {b t h:Nat} {x:It} (hb:W.heap[b]? = some (.cells #[.int .i64 x.s,.int .i64 x.k,.int .u64 x.t,.int .u64 x.v,.int .i64 x.x,.slice (some ⟨t,0,none⟩) h h] 307 (0,0))) (ht:W.heap[t]? = some (.cells (List.replicate h (Value.pointer none)).toArray 304 (0,0))) :
 NdAt W ⟨b,t,h,x⟩∧∀ k,k < h→W.cell? ⟨t,k,none⟩=some (.pointer none) :=
 ⟨⟨(Array.getElem?_eq_some_iff.1 hb).1,(Array.getElem?_eq_some_iff.1 ht).1,by unfold World.shape?;rw [hb];rfl,(cell_of_row W b 0 _ _ _ hb).trans rfl,(cell_of_row W b 1 _ _ _ hb).trans rfl,(cell_of_row W b 2 _ _ _ hb).trans rfl,(cell_of_row W b 3 _ _ _ hb).trans rfl,(cell_of_row W b 4 _ _ _ hb).trans rfl,(cell_of_row W b 5 _ _ _ hb).trans rfl,
  fun o=>by simp [World.frozen?,hb],fun o=>by simp [World.frozen?,ht]⟩,fun k hk=>by rw [cell_of_row W t k _ _ _ ht];simp [hk]⟩
set_option maxHeartbeats 1000000 in
theorem tower_any (x:It) (h:Nat) (w:World) (hh:h≤6):Calls Tryz.prog 199 #[x.val,.int .i64 h] w fun e w'=>∃ b t,e=.returned (.pointer (some ⟨b,0,none⟩))∧w.heap.size≤b∧w.heap.size≤t∧b ≠ t∧NdAt w' ⟨b,t,h,x⟩∧(∀ k,k < h→w'.cell? ⟨t,k,none⟩=some (.pointer none))∧Below w.heap.size w w':=by
 have hm:=fun W=>run_make_ap h (by omega) W
 go_enter Tryz.func199,Tryz.ntmps199
 go_upto_region 1 with fail
 go_region
 go_wp2_with fail
 go_ret
 obtain ⟨g2,g3,g4⟩:=al3s w (.cells x.cells.toArray 54) (.cells (List.replicate h (Value.pointer none)).toArray 304) (.cells #[.int .i64 x.s,.int .i64 x.k,.int .u64 x.t,.int .u64 x.v,.int .i64 x.x,.slice (some ⟨w.heap.size+1,0,none⟩) h h] 307)
 obtain ⟨h1,h2⟩:=tower_in g3 g2
 exact ⟨_,_,rfl,by omega,by omega,by omega,h1.below (Below.refl _ _).drew,h2,g4.drew⟩
theorem free_at {w:World} {g:Nat} {l:Array Value} {t:TypeId} (h:w.heap[g]? = some (.cells l t (0,0))):∀ o,w.frozen? ⟨g,o,none⟩=false:=fun o=>by simp [World.frozen?,h]
def SBlk (p:Nat) (F:List Nd) (b:Nat):Prop:=b=p ∨ ∃ n ∈ F,b=n.b ∨ b=n.t
abbrev It.zero:It:=⟨0,0,0,0,0⟩
set_option maxHeartbeats 1000000 in
theorem new_any (w:World):Calls Tryz.prog 130 #[] w fun e w'=>∃ p H,e=.returned (.pointer (some ⟨p,0,none⟩))∧SkAt w' p [H]∧(∀ b,SBlk p [H] b→w.heap.size≤b)∧Below w.heap.size w w':=by
 have HT:=hide (fun W=>tower_any It.zero 6 W (by omega))
 go_enter Tryz.func130,Tryz.ntmps130
 go_wp2_with fail
 refine (Calls.mono (HT.out _) ?_);rintro e w1 ⟨b,t,rfl,hb,ht,hbt,hnd,hcl,hg1⟩
 have HN:=hide hnd
 have HC:=hide hcl
 have HB:=hide hg1
 have hlb:=hnd.lb
 have hlt:=hnd.lt
 clear hnd hcl hg1
 go_wp2_with fail
 go_ret
 have hba:=below_alloc (Below.refl w1.heap.size w1) (.cells #[.pointer (some ⟨b,0,none⟩),.int .i64 0] 286)
 have hp:=heap_alloc_new w1 (.cells #[.pointer (some ⟨b,0,none⟩),.int .i64 0] 286)
 have hz:=HB.out.size
 refine ⟨w1.heap.size,⟨b,t,6,It.zero⟩,rfl,⟨(Array.getElem?_eq_some_iff.1 hp).1,⟨by simp,rfl,(cell_of_row _ _ 0 _ _ _ hp).trans rfl⟩,(cell_of_row _ _ 1 _ _ _ hp).trans rfl,free_at hp,⟨?_,?_⟩,?_⟩,?_,below_step HB.out hba⟩
 ·intro n hn
  simp at hn
  subst hn
  exact HN.out.below hba
 ·intro i hi k hk
  have hi0:i=0:=by simpa using hi
  subst hi0
  exact (hba.cell (p:=⟨t,_,none⟩) hlt).trans (HC.out k hk)
 ·simp
  exact ⟨⟨by omega,by omega⟩,hbt⟩
 ·rintro c (rfl | ⟨n,hn,h⟩)
  ·exact hz
  ·simp at hn
   subst hn
   rcases h with rfl | rfl
   ·exact hb
   ·exact ht
end Go.Proofs.YtgmkckjedngkdaaGreatDoor
namespace Go.Proofs.YtgmkckjedngkdaaGreatDoor
open Go.ChangeShapes Go.WideShapes Go.ChangeAt Go.RowKit
structure BxAt (w:World) (g:Nat) (x:It):Prop where
 lt:g < w.heap.size
 c0:w.cell? ⟨g,0,none⟩=some (.int .i64 x.s)
 c1:w.cell? ⟨g,1,none⟩=some (.int .i64 x.k)
 c2:w.cell? ⟨g,2,none⟩=some (.int .u64 x.t)
 c3:w.cell? ⟨g,3,none⟩=some (.int .u64 x.v)
 c4:w.cell? ⟨g,4,none⟩=some (.int .i64 x.x)
theorem BxAt.kept {w w':World} {g:Nat} {x:It} (h:BxAt w g x) (hz:w.heap.size≤w'.heap.size) (hb:w'.heap[g]? = w.heap[g]?):BxAt w' g x :=
 ⟨Nat.lt_of_lt_of_le h.lt hz,(World.cell?_of_block hb).trans h.c0,(World.cell?_of_block hb).trans h.c1,(World.cell?_of_block hb).trans h.c2,(World.cell?_of_block hb).trans h.c3,(World.cell?_of_block hb).trans h.c4⟩
theorem BxAt.box {w:World} {g:Nat} {x:It} {t:TypeId} {fr:Nat × Nat} (h:w.heap[g]? = some (.cells #[.int .i64 x.s,.int .i64 x.k,.int .u64 x.t,.int .u64 x.v,.int .i64 x.x] t fr)):BxAt w g x :=
 ⟨(Array.getElem?_eq_some_iff.1 h).1,(cell_of_row w g 0 _ _ _ h).trans rfl,(cell_of_row w g 1 _ _ _ h).trans rfl,(cell_of_row w g 2 _ _ _ h).trans rfl,(cell_of_row w g 3 _ _ _ h).trans rfl,(cell_of_row w g 4 _ _ _ h).trans rfl⟩
def itsF (F:List Nd):List It:=(F.drop 1).map (·.x)
theorem itsF_get {F:List Nd} {j:Nat} (h0:0 < j) (hj:j < F.length) (h:j - 1 < (itsF F).length):(itsF F)[j - 1]=F[j].x:=by
 unfold itsF
 simp
 congr 2
 omega
theorem less_in {F:List Nd} {x:It} {j:Nat} (h0:0 < j) (hj:j < F.length) (h:j≤lowI x (itsF F)):ltB F[j].x x=true:=by
 have hl:j - 1 < (itsF F).length:=by unfold itsF;simp;omega
 rw [← itsF_get h0 hj hl]
 exact low_lt x _ _ hl (by omega)
theorem less_out {F:List Nd} {x:It} (hr:Rising (itsF F)) {j:Nat} (h0:0 < j) (hj:j < F.length) (h:lowI x (itsF F) < j):ltB F[j].x x=false:=by
 have hl:j - 1 < (itsF F).length:=by unfold itsF;simp;omega
 rw [← itsF_get h0 hj hl]
 exact low_ge hr hl (by omega)
theorem low_len (F:List Nd) (x:It):lowI x (itsF F)≤F.length - 1:=by
 have:=low_le x (itsF F)
 unfold itsF at *
 simpa using this
def bpV (F:List Nd) (i:Nat):Value:=.pointer (F[i]?.map fun n=>⟨n.b,0,none⟩)
theorem bpV_at {F:List Nd} {i:Nat} (h:i < F.length):bpV F i=.pointer (some ⟨F[i].b,0,none⟩):=by unfold bpV;simp [h]
def OutAt (F:List Nd) (q k:Nat) (vs:List Value):Prop:=vs.length=6∧(∀ m,k≤m→m < 6→∃ i,IsPrv F m q i∧vs[m]? = some (bpV F i))∧∀ m,m < k→m < 6→vs[m]? = some (.pointer none)
theorem out_first (F:List Nd) (q:Nat):OutAt F q 6 (List.replicate 6 (Value.pointer none)):=⟨by simp,fun m h1 h2=>by omega,fun m _ h2=>by rw [List.getElem?_replicate,if_pos h2]⟩
theorem out_next {F:List Nd} {q k i:Nat} {vs:List Value} (h:OutAt F q (k+1) vs) (hk:k < 6) (hi:IsPrv F k q i):OutAt F q k (vs.set k (bpV F i)):=by
 obtain ⟨h1,h2,h3⟩:=h
 refine ⟨by simpa using h1,fun m a b=>?_,fun m a b=>?_⟩
 ·by_cases e:m=k
  ·subst e;exact ⟨i,hi,by rw [List.getElem?_set_self (by omega)]⟩
  ·obtain ⟨j,hj,hv⟩:=h2 m (by omega) b
   exact ⟨j,hj,by rw [List.getElem?_set_ne (by omega)];exact hv⟩
 ·rw [List.getElem?_set_ne (by omega)]
  exact h3 m (by omega) b
theorem out_all {F:List Nd} {q:Nat} {vs:List Value} (h:OutAt F q 0 vs):∃ o0 o1 o2 o3 o4 o5:Option Addr,vs=[.pointer o0,.pointer o1,.pointer o2,.pointer o3,.pointer o4,.pointer o5]:=by
 obtain ⟨h1,h2,_⟩:=h
 have hx:∀ m,m < 6→∃ o:Option Addr,vs[m]? = some (.pointer o):=fun m hm=>by
  obtain ⟨i,_,e⟩:=h2 m (by omega) hm
  exact ⟨_,e⟩
 obtain ⟨o0,e0⟩:=hx 0 (by omega)
 obtain ⟨o1,e1⟩:=hx 1 (by omega)
 obtain ⟨o2,e2⟩:=hx 2 (by omega)
 obtain ⟨o3,e3⟩:=hx 3 (by omega)
 obtain ⟨o4,e4⟩:=hx 4 (by omega)
 obtain ⟨o5,e5⟩:=hx 5 (by omega)
 match vs,h1,e0,e1,e2,e3,e4,e5 with
 | [a,b,c,d,e,f],_,e0,e1,e2,e3,e4,e5 =>
  have f0:a=.pointer o0:=Option.some.inj e0
  have f1:b=.pointer o1:=Option.some.inj e1
  have f2:c=.pointer o2:=Option.some.inj e2
  have f3:d=.pointer o3:=Option.some.inj e3
  have f4:e=.pointer o4:=Option.some.inj e4
  have f5:f=.pointer o5:=Option.some.inj e5
  subst f0 f1 f2 f3 f4 f5
  exact ⟨o0,o1,o2,o3,o4,o5,rfl⟩
theorem put6 {w:World} {g:Nat} {a0 a1 a2 a3 a4 a5:Value} {t:TypeId} (v0 v1 v2 v3 v4 v5:Value) (h:w.heap[g]? = some (.cells #[a0,a1,a2,a3,a4,a5] t (0,0))) :
 ((((((w.setCell ⟨g,0,none⟩ v0).setCell ⟨g,1,none⟩ v1).setCell ⟨g,2,none⟩ v2).setCell ⟨g,3,none⟩ v3).setCell ⟨g,4,none⟩ v4).setCell ⟨g,5,none⟩ v5).heap[g]? = some (.cells #[v0,v1,v2,v3,v4,v5] t (0,0)):=by
 simp [World.setCell,Array.getElem?_modify,h]
theorem lev_load {w:World} {p:Nat} {F:List Nd} (hS:SkAt w p F) {i k:Nat} (hi:i < F.length) (hk:k < (F[i]'hi).h):Calls Tryz.prog 207 #[.pointer (some ⟨(F[i]'hi).t,k,none⟩)] w fun e w'=>e=.returned (ptrO (nxtP k (F.drop (i+1))))∧w'=w:=by
 have hc:=hS.nds.lev i hi k hk
 rcases nx_cases F k i with ⟨e,_⟩ | ⟨j,hj,_,_,e,_⟩
 ·rw [e] at hc ⊢
  exact load_any _ _ _ _ hc trivial
 ·rw [e] at hc ⊢
  exact load_any _ _ _ _ hc (hS.nds.at_ _ (List.getElem_mem hj)).ptr
set_option maxHeartbeats 6400000 in
set_option maxRecDepth 100000 in
theorem before_any (p:Nat) (F:List Nd) (x:It) (w:World) (hS:SkAt w p F) (hr:Rising (itsF F)) (hh:∀ n ∈ F,n.h≤6) :
 Calls Tryz.prog 206 #[.pointer (some ⟨p,0,none⟩),x.val] w fun e w'=>∃ vs,OutAt F (lowI x (itsF F)) 0 vs∧e=.returned (.agg vs.toArray)∧Below w.heap.size w w':=by
 obtain ⟨hF0,hF6,hFp⟩:=hS.pos
 have hlp:=hS.lp
 have HS:=hide hS
 have HUP:=hide hr
 have HH:=hide hh
 have hql:=low_len F x
 have HLI:=hide (fun (j:Nat) (hj:j < F.length) (h0:0 < j) h=>less_in (x:=x) h0 hj h)
 have HLO:=hide (fun (j:Nat) (hj:j < F.length) (h0:0 < j) h=>less_out (x:=x) hr h0 hj h)
 generalize lowI x (itsF F)=q at *
 have hH0:Hid (∀ k,k < 6→k < (F[0]'hF0).h):=hide (fun k hk=>by omega)
 have HP0:Hid (bpV F 0=.pointer (some ⟨(F[0]'hF0).b,0,none⟩)):=hide (bpV_at hF0)
 rw [← HP0.out] at hFp
 clear hS hr hh hF6 HP0
 have hpz:0 < F.length:=hF0
 obtain ⟨hv,hhv⟩:∃ hv:Option Addr,bpV F 0=.pointer hv:=⟨_,rfl⟩
 have HHV:=hide hhv
 rw [hhv] at hFp
 clear hhv
 have hlp1:p < w.heap.size+1:=by omega
 have hlp2:p < w.heap.size+1+1:=by omega
 have g:=al3s w (.cells x.cells.toArray 54) (.cells #[.pointer none,.pointer none,.pointer none,.pointer none,.pointer none,.pointer none] 299) (.cells #[.pointer none,.pointer none,.pointer none,.pointer none,.pointer none,.pointer none] 299)
 have g0:(((w.alloc (.cells x.cells.toArray 54)).alloc (.cells #[.pointer none,.pointer none,.pointer none,.pointer none,.pointer none,.pointer none] 299)).alloc (.cells #[.pointer none,.pointer none,.pointer none,.pointer none,.pointer none,.pointer none] 299)).heap[w.heap.size]? = some (.cells x.cells.toArray 54):=(Below.heap_alloc _ _ _ (by simp;omega)).trans ((Below.heap_alloc _ _ _ (by simp)).trans (heap_alloc_new w _))
 obtain ⟨W,hW⟩:∃ W,((w.alloc (.cells x.cells.toArray 54)).alloc (.cells #[.pointer none,.pointer none,.pointer none,.pointer none,.pointer none,.pointer none] 299)).alloc (.cells #[.pointer none,.pointer none,.pointer none,.pointer none,.pointer none,.pointer none] 299)=W:=⟨_,rfl⟩
 have hFp3:(((w.alloc (.cells #[.int .i64 x.s,.int .i64 x.k,.int .u64 x.t,.int .u64 x.v,.int .i64 x.x] 54)).alloc (.cells #[.pointer none,.pointer none,.pointer none,.pointer none,.pointer none,.pointer none] 299)).alloc (.cells #[.pointer none,.pointer none,.pointer none,.pointer none,.pointer none,.pointer none] 299)).cell? ⟨p,0,none⟩=some (.pointer hv):=(g.2.2.cell (p:=⟨p,0,none⟩) hlp).trans hFp
 rw [hW] at g g0
 obtain ⟨g1,g2,g3⟩:=g
 have HG0:=hide (BxAt.box (x:=x) g0)
 have HG1:=hide g1
 have HG2:=hide g2
 have HG3:=hide g3
 have HWW:=hide hW
 clear g0 g1 g2 g3 hW
 go_enter Tryz.func206,Tryz.ntmps206
 go_wp2_with fail
 rw [show ((w.alloc (.cells #[.int .i64 x.s,.int .i64 x.k,.int .u64 x.t,.int .u64 x.v,.int .i64 x.x] 54)).alloc (.cells #[.pointer none,.pointer none,.pointer none,.pointer none,.pointer none,.pointer none] 299)).alloc (.cells #[.pointer none,.pointer none,.pointer none,.pointer none,.pointer none,.pointer none] 299)=W from HWW.out]
 clear hFp3 hlp1 hlp2 HWW hFp
 have hgA:w.heap.size≤w.heap.size+1+1:=by omega
 have hgB:w.heap.size≤w.heap.size+1:=by omega
 have hne1:w.heap.size+1 ≠ w.heap.size+1+1:=by omega
 have hne2:w.heap.size ≠ w.heap.size+1+1:=by omega
 have hne3:w.heap.size ≠ w.heap.size+1:=by omega
 obtain ⟨gx,hgx⟩:∃ gx,w.heap.size=gx:=⟨_,rfl⟩
 have HGX:=hide hgx
 rw [hgx] at hgA hgB hne1 hne2 hne3 HG0 HG1 HG2 ⊢
 clear hgx
 generalize gx+1+1=go at *
 generalize gx+1=g4 at *
 go_loopw [6,7] (fun at_ hv wr=>∃ k a:Nat,k≤6∧hv=.int .i64 ((k:Int) - 1)∧a≤q∧(∃ ha:a < F.length,at_=bpV F a∧k≤(F[a]'ha).h)∧BxAt wr gx x∧(∃ vs,OutAt F q k vs∧wr.heap[go]? = some (.cells vs.toArray 299 (0,0)))∧wr.heap[g4]? = some (.cells #[.pointer none,.pointer none,.pointer none,.pointer none,.pointer none,.pointer none] 299 (0,0))∧Below w.heap.size w wr) (fun _ hv _=>(intOf hv+1).toNat)
 case atStart=>exact ⟨6,0,by omega,rfl,by omega,⟨hpz,HHV.out.symm,by have:=hH0.out 5 (by omega);omega⟩,HG0.out,⟨_,out_first F q,HG2.out⟩,HG1.out,HG3.out⟩
 case round =>
  obtain ⟨k,a,hk,rfl,haq,⟨ha,rfl,hka⟩,hbx,⟨vs,hov,hgo⟩,hg4,hb⟩:=hrel
  have HBX:=hide hbx
  have HOV:=hide hov
  have HGO:=hide hgo
  have HG4:=hide hg4
  have HB:=hide hb
  have hgoz:go < wr.heap.size:=(Array.getElem?_eq_some_iff.1 hgo).1
  have hgxz:gx < wr.heap.size:=hbx.lt
  clear hbx hov hgo hg4 hb HG0 HG1 HG2 HG3
  by_cases hk0:k=0
  ·subst hk0
   have hov:=HOV.out
   obtain ⟨o0,o1,o2,o3,o4,o5,rfl⟩:=out_all hov
   clear hov
   obtain ⟨c0,c1,c2,c3,c4,c5⟩:=six_cells HGO.out
   obtain ⟨d0,d1,d2,d3,d4,d5⟩:=six_cells HG4.out
   have hfz:=free_at HG4.out
   have hg4z:g4 < wr.heap.size:=(Array.getElem?_eq_some_iff.1 HG4.out).1
   have hb0:=HB.out
   have HGA:Hid (w.heap.size≤g4):=hide (by rw [HGX.out];exact hgB)
   clear hb0
   go_wp2_with fail
   obtain ⟨r0,r1,r2,r3,r4,r5⟩:=six_cells (put6 (.pointer o0) (.pointer o1) (.pointer o2) (.pointer o3) (.pointer o4) (.pointer o5) HG4.out)
   refine bodyPost_ret (v:=.agg #[.pointer o0,.pointer o1,.pointer o2,.pointer o3,.pointer o4,.pointer o5]) (by simp [results,Tryz.results206,go_sem,r0,r1,r2,r3,r4,r5]) rfl ?_
   exact ⟨_,HOV.out,rfl,(((((HB.out.setCell HGA.out _).setCell HGA.out _).setCell HGA.out _).setCell HGA.out _).setCell HGA.out _).setCell HGA.out _⟩
  ·obtain ⟨n,rfl⟩:∃ n,k=n+1:=⟨k - 1,by omega⟩
   have hnv:(((n+1:Nat):Int) - 1)=(n:Int):=by omega
   rw [hnv]
   have hn6:(n:Int) < 6:=by omega
   have hn0:¬ (n:Int) < 0:=by omega
   have hn0':(0:Int)≤(n:Int):=by omega
   have HSW:=hide (HS.out.below HB.out)
   have hld:=lev_load HSW.out ha (k:=n) (by omega)
   have hnd:=HSW.out.nds.at_ _ (List.getElem_mem ha)
   have hbp:=bpV_at ha
   have hnh:((n:Int)) < (((F[a]'ha).h:Nat):Int):=by omega
   rw [hbp]
   have HLD:=hide hld
   obtain ⟨lb,lt,sh,q0,q1,q2,q3,q4,q5,fb,ft⟩:=hnd
   clear hld sh fb ft q0 q1 q2 q3 q4 hnv
   have HBP:=hide hbp
   clear hbp
   generalize hgn:F[a]'ha=nd at *
   have HGN:=hide hgn
   clear hgn
   go_wp2_with fail
   refine (Calls.mono HLD.out ?_);rintro e w1 ⟨rfl,rfl⟩
   have hg4z:g4 < w1.heap.size:=(Array.getElem?_eq_some_iff.1 HG4.out).1
   clear q5 lb lt
   go_wp2_with fail
   go_loopg [6,8] (F.length - a) (fun g at_ nv wr=>∃ i,i≤q∧g=F.length - i∧(∃ hi:i < F.length,n < (F[i]'hi).h∧at_=.pointer (some ⟨(F[i]'hi).b,0,none⟩))∧nv=ptrO (nxtP n (F.drop (i+1)))∧Below w1.heap.size w1 wr)
   case atStart=>exact ⟨a,haq,rfl,⟨ha,by rw [HGN.out];omega,by rw [HGN.out]⟩,rfl,Below.refl _ _⟩
   case round =>
    obtain ⟨i,hiq,rfl,⟨hi,hni,rfl⟩,rfl,hb⟩:=hrel
    have HBR:=hide hb
    have HSR:=hide (HSW.out.below hb)
    have HBXR:=hide (BxAt.kept HBX.out hb.size (hb.block gx hgxz))
    have hnc:=near_cells wr
    obtain ⟨xl,x0,x1,x2,x3,x4⟩:=HBXR.out
    clear hb
    rcases nx_cases F n i with ⟨hnone,hall⟩ | ⟨j,hj,hij,hnj,hsome,hbet⟩
    ·rw [hnone]
     have hpn:ptrO none=.pointer none:=rfl
     rw [hpn]
     have hprv:IsPrv F n q i:=⟨hiq,⟨hi,hni⟩,fun j' hj' h1 h2=>hall j' hj' h1⟩
     have HPV:=hide (out_next HOV.out (by omega) hprv)
     clear hprv
     clear hnone hall hpn
     go_wp2_with fail
     refine wp_region_near (by kernel_rfl) (by kernel_rfl) ?_
     repeat (go_big_quiet_step (fail))
     refine wpQuiet_nil ?_
     intro _ hw'
     obtain ⟨s1,rfl⟩:=hw'
     have hgs:s1.at_.heap[go]? = some (.cells vs.toArray 299 (0,0)):=(s1.is.block go (by have:=HBR.out.size;omega)).trans ((HBR.out.block go hgoz).trans HGO.out)
     have hgs4:s1.at_.heap[g4]? = some (.cells #[.pointer none,.pointer none,.pointer none,.pointer none,.pointer none,.pointer none] 299 (0,0)):=(s1.is.block g4 (by have:=HBR.out.size;omega)).trans ((HBR.out.block g4 hg4z).trans HG4.out)
     have hvn:vs[n]? = some (.pointer none):=HOV.out.2.2 n (by omega) (by omega)
     have hcn:s1.at_.cell? ⟨go,n,none⟩=some (.pointer none):=(cell_of_row _ go n _ _ _ hgs).trans (by rw [List.getElem?_toArray];exact hvn)
     have hfz:=free_at hgs
     have HST:=hide (heap_set (o:=n) (u:=bpV F i) hgs)
     have HS4:=hide ((Below.heap_setCell s1.at_ ⟨go,n,none⟩ (bpV F i) g4 (fun e=>hne1 (by simpa using e))).trans hgs4)
     have HBB:Hid (BxAt (s1.at_.setCell ⟨go,n,none⟩ (bpV F i)) gx x):=hide (BxAt.kept (BxAt.kept (BxAt.kept HBX.out HBR.out.size (HBR.out.block gx hgxz)) s1.is.size (s1.is.block gx (by have:=HBR.out.size;omega))) (by simp) (Below.heap_setCell _ _ _ _ (fun e=>hne2 (by simpa using e))))
     have HBF:Hid (Below w.heap.size w (s1.at_.setCell ⟨go,n,none⟩ (bpV F i))):=hide ((below_step (below_step HB.out HBR.out) s1.is).setCell (by rw [HGX.out];exact hgA) _)
     rw [bpV_at hi] at HST HS4 HBB HBF
     clear hgs hgs4 hvn
     go_wp2_with fail
     go_roundw
     case rel=>exact ⟨n,i,by omega,by go_num,hiq,⟨hi,(bpV_at hi).symm,by omega⟩,HBB.out,⟨_,HPV.out,by rw [bpV_at hi];exact HST.out⟩,HS4.out,HBF.out⟩
     case measure=>(simp [intOf] <;> omega)
    ·rw [hsome]
     have hps:ptrO (some (F[j]'hj).b)=.pointer (some ⟨(F[j]'hj).b,0,none⟩):=rfl
     rw [hps]
     have hnd:=HSR.out.nds.at_ _ (List.getElem_mem hj)
     have hlj:=hnd.lb
     obtain ⟨_,ltj,_,z0,z1,z2,z3,z4,z5,_,_⟩:=hnd
     have hcl:=fun W=>pless_any (F[j]'hj).x x W
     by_cases hjq:j≤q
     ·rw [HLI.out j hj (by omega) hjq] at hcl
      have HC:=hide hcl
      have HLJ:=hide (fun W (hW:Below wr.heap.size wr W)=>lev_load (HSR.out.below hW) hj hnj)
      have HZ5:Hid (∀ W,Below wr.heap.size wr W→NdAt W (F[j]'hj)):=hide (fun W hW=>(HSR.out.below hW).nds.at_ _ (List.getElem_mem hj))
      have hnjI:((n:Int)) < (((F[j]'hj).h:Nat):Int):=by omega
      have HJ2:Hid (∃ hj':j < F.length,n < (F[j]'hj').h∧Value.pointer (some ⟨(F[j]'hj).b,0,none⟩)=Value.pointer (some ⟨(F[j]'hj').b,0,none⟩)):=hide ⟨hj,hnj,rfl⟩
      clear hsome hbet hps hcl
      generalize (F[j]'hj)=nj at *
      go_wp2_with fail
      refine wp_region_near (by kernel_rfl) (by kernel_rfl) ?_
      repeat (go_big_quiet_step ((first | (go_at_call 137;exact near_of (HC.out _)))))
      refine wpQuiet_nil ?_
      intro _ hw'
      obtain ⟨s1,rfl⟩:=hw'
      obtain ⟨_,lts,_,r0,r1,r2,r3,r4,r5,_,_⟩:=HZ5.out _ s1.is
      go_wp2_with fail
      refine (Calls.mono (HLJ.out _ s1.is) ?_);rintro e w5 ⟨rfl,rfl⟩
      go_wp2_with fail
      go_roundg (F.length - j)
      case measure=>omega
      case rel=>exact ⟨j,hjq,rfl,HJ2.out,rfl,below_step HBR.out s1.is⟩
     ·rw [HLO.out j hj (by omega) (by omega)] at hcl
      have HC:=hide hcl
      have hprv:IsPrv F n q i:=⟨hiq,⟨hi,hni⟩,fun j' hj' h1 h2=>hbet j' hj' h1 (by omega)⟩
      have HPV:=hide (out_next HOV.out (by omega) hprv)
      clear hprv
      clear hsome hbet hps hcl
      generalize (F[j]'hj)=nj at *
      go_wp2_with fail
      refine wp_region_near (by kernel_rfl) (by kernel_rfl) ?_
      repeat (go_big_quiet_step ((first | (go_at_call 137;exact near_of (HC.out _)))))
      refine wpQuiet_nil ?_
      intro _ hw'
      obtain ⟨s1,rfl⟩:=hw'
      have hgs:s1.at_.heap[go]? = some (.cells vs.toArray 299 (0,0)):=(s1.is.block go (by have:=HBR.out.size;omega)).trans ((HBR.out.block go hgoz).trans HGO.out)
      have hgs4:s1.at_.heap[g4]? = some (.cells #[.pointer none,.pointer none,.pointer none,.pointer none,.pointer none,.pointer none] 299 (0,0)):=(s1.is.block g4 (by have:=HBR.out.size;omega)).trans ((HBR.out.block g4 hg4z).trans HG4.out)
      have hvn:vs[n]? = some (.pointer none):=HOV.out.2.2 n (by omega) (by omega)
      have hcn:s1.at_.cell? ⟨go,n,none⟩=some (.pointer none):=(cell_of_row _ go n _ _ _ hgs).trans (by rw [List.getElem?_toArray];exact hvn)
      have hfz:=free_at hgs
      have HST:=hide (heap_set (o:=n) (u:=bpV F i) hgs)
      have HS4:=hide ((Below.heap_setCell s1.at_ ⟨go,n,none⟩ (bpV F i) g4 (fun e=>hne1 (by simpa using e))).trans hgs4)
      have HBB:Hid (BxAt (s1.at_.setCell ⟨go,n,none⟩ (bpV F i)) gx x):=hide (BxAt.kept (BxAt.kept (BxAt.kept HBX.out HBR.out.size (HBR.out.block gx hgxz)) s1.is.size (s1.is.block gx (by have:=HBR.out.size;omega))) (by simp) (Below.heap_setCell _ _ _ _ (fun e=>hne2 (by simpa using e))))
      have HBF:Hid (Below w.heap.size w (s1.at_.setCell ⟨go,n,none⟩ (bpV F i))):=hide ((below_step (below_step HB.out HBR.out) s1.is).setCell (by rw [HGX.out];exact hgA) _)
      rw [bpV_at hi] at HST HS4 HBB HBF
      clear hgs hgs4 hvn
      go_wp2_with fail
      go_roundw
      case rel=>exact ⟨n,i,by omega,by go_num,hiq,⟨hi,(bpV_at hi).symm,by omega⟩,HBB.out,⟨_,HPV.out,by rw [bpV_at hi];exact HST.out⟩,HS4.out,HBF.out⟩
      case measure=>(simp [intOf] <;> omega)
end Go.Proofs.YtgmkckjedngkdaaGreatDoor
namespace Go.Proofs.YtgmkckjedngkdaaGreatDoor
open Go.ChangeShapes Go.WideShapes Go.ChangeAt Go.RowKit
set_option maxHeartbeats 400000 in
theorem len_any (p:Nat) (F:List Nd) (w:World) (hS:SkAt w p F):Calls Tryz.prog 146 #[.pointer (some ⟨p,0,none⟩)] w fun e w'=>e=.returned (.int .i64 ((F.length:Int) - 1))∧w'=w:=by
 have hc:=hS.cnt
 clear hS
 go_enter Tryz.func146,Tryz.ntmps146
 go_wp2_with fail
 go_ret
 exact ⟨rfl,rfl⟩
end Go.Proofs.YtgmkckjedngkdaaGreatDoor
namespace Go.Proofs.YtgmkckjedngkdaaGreatDoor
open Go.ChangeShapes Go.WideShapes Go.ChangeAt Go.RowKit
structure SkOk (F:List Nd):Prop where
 up:Rising (itsF F)
 hts:∀ n ∈ F,1≤n.h∧n.h≤6
theorem prv_zero {F:List Nd} (hF:SkOk F) {q:Nat} (hq:q < F.length):IsPrv F 0 q q:=⟨Nat.le_refl _,⟨hq,(hF.hts _ (List.getElem_mem hq)).1⟩,fun j _ h1 h2=>by omega⟩
theorem nx_zero {F:List Nd} (hF:SkOk F) (i:Nat):nxtP 0 (F.drop (i+1))=F[i+1]?.map (·.b):=by
 unfold nxtP
 congr 1
 by_cases h:i+1 < F.length
 ·rw [List.drop_eq_getElem_cons h,List.find?_cons_of_pos,List.getElem?_eq_getElem h]
  have:=(hF.hts _ (List.getElem_mem h)).1
  simp
  omega
 ·rw [List.drop_eq_nil_of_le (by omega),List.getElem?_eq_none (by omega)]
  rfl
def insF (F:List Nd) (q:Nat) (n:Nd):List Nd:=F.take (q+1) ++ n :: F.drop (q+1)
theorem nxtP_append (k:Nat) (A B:List Nd):nxtP k (A ++ B)=(nxtP k A).or (nxtP k B):=by
 unfold nxtP
 rw [List.find?_append,Option.map_or]
def segF (F:List Nd) (q j:Nat):List Nd:=(F.drop (j+1)).take (q - j)
theorem drop_seg (F:List Nd) {q j:Nat} (h:j≤q):F.drop (j+1)=segF F q j ++ F.drop (q+1):=by
 unfold segF
 have:=(List.take_append_drop (q - j) (F.drop (j+1))).symm
 rw [List.drop_drop,show j+1+(q - j)=q+1 by omega] at this
 exact this
theorem ins_seg {F:List Nd} {q j:Nat} (n:Nd) (h:j≤q) (hq:q < F.length):(insF F q n).drop (j+1)=segF F q j ++ n :: F.drop (q+1):=by
 unfold insF segF
 rw [List.drop_append_of_le_length (by simp;omega),List.drop_take,show q+1 - (j+1)=q - j by omega]
theorem ski_len {F:List Nd} {q:Nat} (n:Nd):(insF F q n).length=F.length+1:=by unfold insF;simp;omega
theorem seg_mem {F:List Nd} {q j:Nat} (hq:q < F.length) {n:Nd}:n ∈ segF F q j ↔ ∃ (i:Nat) (hi:i < F.length),j < i∧i≤q∧F[i]=n:=by
 unfold segF
 rw [List.mem_iff_getElem]
 constructor
 ·rintro ⟨m,hm,e⟩
  have hm2:m < q - j∧m < F.length - (j+1):=by simp at hm;omega
  refine ⟨j+1+m,by omega,by omega,by omega,?_⟩
  rw [← e]
  simp
 ·rintro ⟨i,hi,h1,h2,e⟩
  refine ⟨i - (j+1),by simp;omega,?_⟩
  rw [← e]
  simp
  congr 1
  omega
theorem seg_none {F:List Nd} {k q i:Nat} (hq:q < F.length) (h:IsPrv F k q i):nxtP k (segF F q i)=none:=by
 unfold nxtP
 rw [Option.map_eq_none_iff,List.find?_eq_none]
 intro n hn
 obtain ⟨j,hj,h1,h2,rfl⟩:=(seg_mem hq).1 hn
 have:=h.2.2 j hj h1 h2
 simpa using this
theorem seg_some {F:List Nd} {k q i j:Nat} (hq:q < F.length) (hi:i < F.length) (hji:j < i) (hiq:i≤q) (hk:k < F[i].h):∃ b,nxtP k (segF F q j)=some b:=by
 unfold nxtP
 cases h:(segF F q j).find? fun n=>decide (k < n.h) with
 | some n=>exact ⟨n.b,rfl⟩
 | none =>
  rw [List.find?_eq_none] at h
  have:=h _ ((seg_mem hq).2 ⟨i,hi,hji,hiq,rfl⟩)
  simp at this
  omega
theorem nx_link {F:List Nd} {k q i:Nat} {n:Nd} (hq:q < F.length) (h:IsPrv F k q i) (hk:k < n.h):nxtP k ((insF F q n).drop (i+1))=some n.b:=by
 rw [ins_seg n h.1 hq,nxtP_append,seg_none hq h]
 unfold nxtP
 rw [List.find?_cons_of_pos (by simpa using hk)]
 rfl
theorem nx_old {F:List Nd} {k q i:Nat} (hq:q < F.length) (h:IsPrv F k q i):nxtP k (F.drop (i+1))=nxtP k (F.drop (q+1)):=by
 rw [drop_seg F h.1,nxtP_append,seg_none hq h]
 rfl
theorem nx_ahead {F:List Nd} {k q i j:Nat} {n:Nd} (hq:q < F.length) (h:IsPrv F k q i) (hji:j < i):nxtP k ((insF F q n).drop (j+1))=nxtP k (F.drop (j+1)):=by
 obtain ⟨hiq,⟨hi,hk⟩,_⟩:=h
 obtain ⟨b,hb⟩:=seg_some hq hi hji hiq hk
 rw [ins_seg n (by omega) hq,drop_seg F (by omega:j≤q),nxtP_append,nxtP_append,hb]
 rfl
theorem nx_above {F:List Nd} {k q j:Nat} {n:Nd} (hq:q < F.length) (hj:j≤q) (hk:¬ k < n.h):nxtP k ((insF F q n).drop (j+1))=nxtP k (F.drop (j+1)):=by
 rw [ins_seg n hj hq,drop_seg F hj,nxtP_append,nxtP_append]
 congr 1
 unfold nxtP
 rw [List.find?_cons_of_neg (by simpa using hk)]
theorem ins_lo {F:List Nd} {q i:Nat} {n:Nd} (hq:q < F.length) (hi:i≤q) (h:i < (insF F q n).length):(insF F q n)[i]=F[i]'(by omega):=by
 apply Option.some.inj
 rw [← List.getElem?_eq_getElem,← List.getElem?_eq_getElem]
 unfold insF
 rw [List.getElem?_append_left (by simp;omega),List.getElem?_take,if_pos (by omega)]
theorem ins_at {F:List Nd} {q:Nat} {n:Nd} (hq:q < F.length) (h:q+1 < (insF F q n).length):(insF F q n)[q+1]=n:=by
 apply Option.some.inj
 rw [← List.getElem?_eq_getElem]
 unfold insF
 rw [List.getElem?_append_right (by simp;omega),show q+1 - (F.take (q+1)).length=0 by simp;omega,List.getElem?_cons_zero]
theorem ins_hi {F:List Nd} {q i:Nat} {n:Nd} (hq:q < F.length) (hi:q+1 < i) (h:i < (insF F q n).length):(insF F q n)[i]=F[i - 1]'(by rw [ski_len] at h;omega):=by
 have hl:=ski_len (F:=F) (q:=q) n
 apply Option.some.inj
 rw [← List.getElem?_eq_getElem,← List.getElem?_eq_getElem]
 unfold insF
 rw [List.getElem?_append_right (by simp;omega),show i - (F.take (q+1)).length=(i - q - 2)+1 by simp;omega,List.getElem?_cons_succ,List.getElem?_drop]
 congr 1
 omega
theorem ins_drop {F:List Nd} {q i:Nat} {n:Nd} (hq:q < F.length) (hi:q+1≤i):(insF F q n).drop (i+1)=F.drop i:=by
 unfold insF
 rw [List.drop_append,List.drop_eq_nil_of_le (by simp;omega),show i+1 - (F.take (q+1)).length=(i - (q+1))+1 by simp;omega,List.drop_succ_cons,List.drop_drop,List.nil_append]
 congr 1
 omega
theorem ins_mem {F:List Nd} {q:Nat} {n m:Nd}:m ∈ insF F q n ↔ m=n ∨ m ∈ F:=by
 unfold insF
 rw [List.mem_append,List.mem_cons]
 have h:m ∈ F ↔ m ∈ F.take (q+1) ∨ m ∈ F.drop (q+1):=by
  conv=>lhs;rw [← List.take_append_drop (q+1) F,List.mem_append]
 rw [h]
 constructor
 ·rintro (h | h | h) <;> simp [h]
 ·rintro (h | h | h) <;> simp [h]
def htsF (F:List Nd):List Nat:=(F.drop 1).map (·.h)
theorem its_ins {F:List Nd} {q:Nat} {n:Nd} (hF:0 < F.length):itsF (insF F q n)=(itsF F).take q ++ n.x :: (itsF F).drop q:=by
 unfold itsF insF
 cases F with
 | nil=>simp at hF
 | cons a N=>simp
theorem hts_ins {F:List Nd} {q:Nat} {n:Nd} (hF:0 < F.length):htsF (insF F q n)=(htsF F).take q ++ n.h :: (htsF F).drop q:=by
 unfold htsF insF
 cases F with
 | nil=>simp at hF
 | cons a N=>simp
theorem dis_parts {p:Nat} {F:List Nd} (h:(p :: F.flatMap fun n=>[n.b,n.t]).Nodup):(∀ (i j:Nat) (hi:i < F.length) (hj:j < F.length),i ≠ j→F[i].b ≠ F[j].b∧F[i].t ≠ F[j].t)∧(∀ (i j:Nat) (hi:i < F.length) (hj:j < F.length),F[i].b ≠ F[j].t)∧∀ n ∈ F,p ≠ n.b∧p ≠ n.t:=by
 rw [List.nodup_cons] at h
 obtain ⟨hp,hn⟩:=h
 unfold List.Nodup at hn
 rw [List.pairwise_flatMap] at hn
 obtain ⟨h1,h2⟩:=hn
 rw [List.pairwise_iff_getElem] at h2
 have hx:∀ (i j:Nat) (hi:i < F.length) (hj:j < F.length),i ≠ j→F[i].b ≠ F[j].b∧F[i].t ≠ F[j].t∧F[i].b ≠ F[j].t:=fun i j hi hj hne=>by
  rcases Nat.lt_or_gt_of_ne hne with e | e
  ·have:=h2 i j hi hj e
   exact ⟨this _ (by simp) _ (by simp),this _ (by simp) _ (by simp),this _ (by simp) _ (by simp)⟩
  ·have:=h2 j i hj hi e
   exact ⟨(this _ (by simp) _ (by simp)).symm,(this _ (by simp) _ (by simp)).symm,(this _ (by simp) _ (by simp)).symm⟩
 refine ⟨fun i j hi hj hne=>⟨(hx i j hi hj hne).1,(hx i j hi hj hne).2.1⟩,fun i j hi hj=>?_,fun n hn=>?_⟩
 ·by_cases e:i=j
  ·subst e
   have:=h1 _ (List.getElem_mem hi)
   simp at this
   exact this
  ·exact (hx i j hi hj e).2.2
 ·simp at hp
  exact hp n hn
theorem dis_ins {p:Nat} {F:List Nd} {q:Nat} {n:Nd} (h:(p :: F.flatMap fun n=>[n.b,n.t]).Nodup) {z:Nat} (hp:p < z) (hF:∀ m ∈ F,m.b < z∧m.t < z) (hb:z≤n.b) (ht:z≤n.t) (hne:n.b ≠ n.t):(p :: (insF F q n).flatMap fun n=>[n.b,n.t]).Nodup:=by
 have hperm:(insF F q n).Perm (n :: F):=by
  unfold insF
  refine List.perm_middle.trans ?_
  rw [List.take_append_drop]
 have hp2:(p :: (insF F q n).flatMap fun n=>[n.b,n.t]).Perm (p :: (n :: F).flatMap fun n=>[n.b,n.t]):=(hperm.flatMap_right _).cons _
 rw [hp2.nodup_iff]
 rw [List.nodup_cons] at h
 rw [List.flatMap_cons,List.nodup_cons]
 refine ⟨?_,?_⟩
 ·simp only [List.mem_append,List.mem_cons,List.not_mem_nil,or_false]
  rintro ((h0 | h0) | h0)
  ·omega
  ·omega
  ·exact h.1 h0
 ·rw [List.nodup_append]
  refine ⟨by simp [hne],h.2,?_⟩
  intro a ha c hc e
  subst e
  rw [List.mem_flatMap] at hc
  obtain ⟨m,hm,hc⟩:=hc
  have:=hF m hm
  simp at ha hc
  omega
structure Mix (w:World) (F:List Nd) (q:Nat) (n:Nd) (m:Nat):Prop where
 at_:∀ c ∈ F,NdAt w c
 new:NdAt w n
 lev:∀ (j:Nat) (hj:j < F.length) (k:Nat),k < F[j].h→w.cell? ⟨F[j].t,k,none⟩=some (ptrO (if k < m∧j≤q then nxtP k ((insF F q n).drop (j+1)) else nxtP k (F.drop (j+1))))
 own:∀ k,k < n.h→w.cell? ⟨n.t,k,none⟩=some (ptrO (if k < m then nxtP k (F.drop (q+1)) else none))
theorem Mix.zero {w:World} {F:List Nd} {q:Nat} {n:Nd} (h:Nodes w F) (hn:NdAt w n) (ho:∀ k,k < n.h→w.cell? ⟨n.t,k,none⟩=some (.pointer none)):Mix w F q n 0 :=
 ⟨h.at_,hn,fun j hj k hk=>by rw [if_neg (by omega)];exact h.lev j hj k hk,fun k hk=>by rw [if_neg (by omega)];exact ho k hk⟩
theorem NdAt.set {w:World} {n:Nd} (h:NdAt w n) {g o:Nat} (hne:n.b ≠ g) (u:Value):NdAt (w.setCell ⟨g,o,none⟩ u) n :=
 ⟨by simpa using h.lb,by simpa using h.lt,(shape_of (Below.heap_setCell _ _ _ _ (fun e=>hne (by simpa using e)))).trans h.sh,set_blk hne.symm h.c0,set_blk hne.symm h.c1,set_blk hne.symm h.c2,set_blk hne.symm h.c3,set_blk hne.symm h.c4,set_blk hne.symm h.c5,
  fun o'=>by rw [World.frozen?_setCell];exact h.fb o',fun o'=>by rw [World.frozen?_setCell];exact h.ft o'⟩
theorem Mix.step {w:World} {F:List Nd} {q:Nat} {n:Nd} {m i:Nat} (h:Mix w F q n m) (hq:q < F.length) (hm:m < n.h) (hi:IsPrv F m q i) (hil:i < F.length)
 (h1:∀ (i j:Nat) (hi:i < F.length) (hj:j < F.length),i ≠ j→F[i].t ≠ F[j].t) (h2:∀ c ∈ F,∀ d ∈ F,c.b ≠ d.t) (h3:∀ c ∈ F,c.b ≠ n.t∧c.t ≠ n.t∧n.b ≠ c.t) (h4:n.b ≠ n.t) :
 Mix ((w.setCell ⟨n.t,m,none⟩ (ptrO (nxtP m (F.drop (i+1))))).setCell ⟨(F[i]'hil).t,m,none⟩ (.pointer (some ⟨n.b,0,none⟩))) F q n (m+1):=by
 have hmi:(F[i]'hil) ∈ F:=List.getElem_mem hil
 refine ⟨fun c hc=>((h.at_ c hc).set (h3 c hc).1 _).set (h2 c hc _ hmi) _,(h.new.set h4 _).set (h3 _ hmi).2.2 _,fun j hj k hk=>?_,fun k hk=>?_⟩
 ·have hc:=set_blk (u:=ptrO (if k < m∧j≤q then nxtP k ((insF F q n).drop (j+1)) else nxtP k (F.drop (j+1)))) (v:=ptrO (nxtP m (F.drop (i+1)))) (o:=m) (h3 _ (List.getElem_mem hj)).2.1.symm (h.lev j hj k hk)
  by_cases e:i=j
  ·subst e
   by_cases ek:m=k
   ·subst ek
    rw [if_pos ⟨by omega,hi.1⟩,nx_link hq hi hm]
    exact set_same hc
   ·rw [set_off ek hc]
    congr 3
    simp only [eq_iff_iff]
    omega
  ·rw [set_blk (h1 i j hil hj e) hc]
   by_cases ek:m=k
   ·subst ek
    by_cases hjq:j≤q
    ·rw [if_neg (by omega),if_pos ⟨by omega,hjq⟩]
     have hji:j < i:=by
      rcases Nat.lt_or_gt_of_ne e with g | g
      ·exact absurd hk (hi.2.2 j hj g hjq)
      ·exact g
     rw [nx_ahead hq hi hji]
    ·rw [if_neg (by omega),if_neg (by omega)]
   ·congr 3
    simp only [eq_iff_iff]
    omega
 ·have ho:=h.own k hk
  by_cases ek:m=k
  ·subst ek
   rw [if_pos (by omega),← nx_old hq hi]
   exact set_blk (h3 _ hmi).2.1 (set_same ho)
  ·rw [set_blk (h3 _ hmi).2.1 (set_off ek ho)]
   congr 3
   simp only [eq_iff_iff]
   omega
theorem Mix.done {w:World} {F:List Nd} {q:Nat} {n:Nd} (h:Mix w F q n n.h) (hq:q < F.length):Nodes w (insF F q n):=by
 refine ⟨fun c hc=>?_,fun i hi k hk=>?_⟩
 ·rcases ins_mem.1 hc with rfl | hc
  ·exact h.new
  ·exact h.at_ c hc
 ·have hil:=hi
  rw [ski_len] at hil
  rcases Nat.lt_trichotomy i (q+1) with e | e | e
  ·have eg:=ins_lo (n:=n) hq (by omega:i≤q) hi
   rw [eg] at hk ⊢
   have:=h.lev i (by omega) k hk
   by_cases ek:k < n.h
   ·rw [if_pos ⟨ek,by omega⟩] at this
    exact this
   ·rw [if_neg (by omega)] at this
    rw [nx_above hq (by omega) ek]
    exact this
  ·subst e
   have eg:=ins_at (n:=n) hq hi
   rw [eg] at hk ⊢
   have:=h.own k hk
   rw [if_pos hk] at this
   rw [ins_drop hq (by omega)]
   exact this
  ·have eg:=ins_hi (n:=n) hq e hi
   rw [eg] at hk ⊢
   have:=h.lev (i - 1) (by omega) k hk
   rw [if_neg (by omega),show i - 1+1=i by omega] at this
   rw [ins_drop hq (by omega)]
   exact this
theorem SkAt.sets {S:Nat→Prop} {w w':World} {p:Nat} {F:List Nd} (h:SkAt w p F) (k:Sets S w w') (hS:∀ b,SBlk p F b→¬ S b):SkAt w' p F:=by
 have hp:=k.block p h.lp (hS p (.inl rfl))
 have hb:∀ n ∈ F,w'.heap[n.b]? = w.heap[n.b]?∧w'.heap[n.t]? = w.heap[n.t]?:=fun n hn=>⟨k.block _ (h.nds.at_ n hn).lb (hS _ (.inr ⟨n,hn,.inl rfl⟩)),k.block _ (h.nds.at_ n hn).lt (hS _ (.inr ⟨n,hn,.inr rfl⟩))⟩
 refine ⟨Nat.lt_of_lt_of_le h.lp k.size,?_,(World.cell?_of_block hp).trans h.cnt,fun o=>(World.frozen?_of_block hp).trans (h.fp o),⟨fun n hn=>(h.nds.at_ n hn).kept k.size (hb n hn).1 (hb n hn).2,fun i hi c hc=>?_⟩,h.dis⟩
 ·obtain ⟨a,b,c⟩:=h.pos
  exact ⟨a,b,(World.cell?_of_block hp).trans c⟩
 ·exact (World.cell?_of_block (hb _ (List.getElem_mem hi)).2).trans (h.nds.lev i hi c hc)
end Go.Proofs.YtgmkckjedngkdaaGreatDoor
namespace Go.Proofs.YtgmkckjedngkdaaGreatDoor
open Go.ChangeShapes Go.WideShapes Go.ChangeAt Go.RowKit
end Go.Proofs.YtgmkckjedngkdaaGreatDoor
namespace Go.Proofs.YtgmkckjedngkdaaGreatDoor
open Go.ChangeShapes Go.WideShapes Go.ChangeAt Go.RowKit
theorem its_len (F:List Nd):(itsF F).length=F.length - 1:=by unfold itsF;simp
end Go.Proofs.YtgmkckjedngkdaaGreatDoor
namespace Go.Proofs.YtgmkckjedngkdaaGreatDoor
open Go.ChangeShapes Go.WideShapes Go.ChangeAt Go.RowKit
theorem set5_cells {w:World} {g:Nat} {u0 u1 u2 u3 u4 u5:Value} (v0 v1 v2 v3 v4:Value) (h0:w.cell? ⟨g,0,none⟩=some u0) (h1:w.cell? ⟨g,1,none⟩=some u1) (h2:w.cell? ⟨g,2,none⟩=some u2) (h3:w.cell? ⟨g,3,none⟩=some u3) (h4:w.cell? ⟨g,4,none⟩=some u4) (h5:w.cell? ⟨g,5,none⟩=some u5) :
 let w':=((((w.setCell ⟨g,0,none⟩ v0).setCell ⟨g,1,none⟩ v1).setCell ⟨g,2,none⟩ v2).setCell ⟨g,3,none⟩ v3).setCell ⟨g,4,none⟩ v4
 w'.cell? ⟨g,0,none⟩=some v0∧w'.cell? ⟨g,1,none⟩=some v1∧w'.cell? ⟨g,2,none⟩=some v2∧w'.cell? ⟨g,3,none⟩=some v3∧w'.cell? ⟨g,4,none⟩=some v4∧w'.cell? ⟨g,5,none⟩=some u5 :=
 ⟨set_off (by omega) (set_off (by omega) (set_off (by omega) (set_off (by omega) (set_same h0)))),set_off (by omega) (set_off (by omega) (set_off (by omega) (set_same (set_off (by omega) h1)))),set_off (by omega) (set_off (by omega) (set_same (set_off (by omega) (set_off (by omega) h2)))),
  set_off (by omega) (set_same (set_off (by omega) (set_off (by omega) (set_off (by omega) h3)))),set_same (set_off (by omega) (set_off (by omega) (set_off (by omega) (set_off (by omega) h4)))),set_off (by omega) (set_off (by omega) (set_off (by omega) (set_off (by omega) (set_off (by omega) h5))))⟩
theorem set_block {w:World} {g c:Nat} (hne:c ≠ g) (o:Nat) (u:Value):(w.setCell ⟨g,o,none⟩ u).heap[c]? = w.heap[c]?:=Below.heap_setCell _ _ _ _ (fun e=>hne (by simpa using e))
theorem set5_block {w:World} {g c:Nat} (hne:c ≠ g) (v0 v1 v2 v3 v4:Value):(((((w.setCell ⟨g,0,none⟩ v0).setCell ⟨g,1,none⟩ v1).setCell ⟨g,2,none⟩ v2).setCell ⟨g,3,none⟩ v3).setCell ⟨g,4,none⟩ v4).heap[c]? = w.heap[c]? :=
 (set_block hne _ _).trans ((set_block hne _ _).trans ((set_block hne _ _).trans ((set_block hne _ _).trans (set_block hne _ _))))
theorem nxtP_pairs (k:Nat) (R:List Nd):nxtP k R=((R.map fun n=>(n.b,n.h)).find? fun y=>decide (k < y.2)).map (·.1):=by
 unfold nxtP
 rw [List.find?_map,Option.map_map]
 rfl
theorem nx_set {F:List Nd} {j:Nat} (hj:j < F.length) {n:Nd} (hb:n.b=F[j].b) (hh:n.h=F[j].h) (k i:Nat):nxtP k ((F.set j n).drop i)=nxtP k (F.drop i):=by
 rw [nxtP_pairs,nxtP_pairs,List.map_drop,List.map_drop,List.map_set,hb,hh]
 congr 3
 apply List.ext_getElem?
 intro m
 by_cases e:j=m
 ·subst e
  rw [List.getElem?_set_self (by simpa using hj),List.getElem?_map,List.getElem?_eq_getElem hj]
  rfl
 ·rw [List.getElem?_set_ne e]
theorem dis_set {p:Nat} {F:List Nd} {j:Nat} (hj:j < F.length) {n:Nd} (hb:n.b=F[j].b) (ht:n.t=F[j].t) (h:(p :: F.flatMap fun n=>[n.b,n.t]).Nodup):(p :: (F.set j n).flatMap fun n=>[n.b,n.t]).Nodup:=by
 have e:((F.set j n).flatMap fun n=>[n.b,n.t])=F.flatMap fun n=>[n.b,n.t]:=by
  rw [List.flatMap_def,List.flatMap_def,List.map_set,hb,ht]
  congr 1
  apply List.ext_getElem?
  intro m
  by_cases e:j=m
  ·subst e
   rw [List.getElem?_set_self (by simpa using hj),List.getElem?_map,List.getElem?_eq_getElem hj]
   rfl
  ·rw [List.getElem?_set_ne e]
 rw [e]
 exact h
theorem shape_set (w:World) (g o:Nat) (u:Value) (b:Nat):(w.setCell ⟨g,o,none⟩ u).shape? b=w.shape? b:=by
 by_cases e:b=g
 ·subst e
  unfold World.shape? World.setCell
  simp only [Array.getElem?_modify,if_true]
  cases w.heap[b]? with
  | none=>rfl
  | some o=>cases o <;> simp
 ·exact shape_of (set_block e _ _)
theorem SkAt.setw {w w':World} {p:Nat} {F:List Nd} (h:SkAt w p F) {j:Nat} (h0:0 < j) (hj:j < F.length) {n:Nd} (hb:n.b=(F[j]'hj).b) (ht:n.t=(F[j]'hj).t) (hh:n.h=(F[j]'hj).h) (hz:w.heap.size≤w'.heap.size)
 (hk:∀ c,c ≠ (F[j]'hj).b→w'.heap[c]? = w.heap[c]?) (hn:NdAt w' n):SkAt w' p (F.set j n):=by
 obtain ⟨d1,d2,d3⟩:=dis_parts h.dis
 have hp:=hk p (d3 _ (List.getElem_mem hj)).1
 refine ⟨Nat.lt_of_lt_of_le h.lp hz,?_,(World.cell?_of_block hp).trans (by rw [h.cnt,List.length_set]),fun o=>(World.frozen?_of_block hp).trans (h.fp o),⟨?_,?_⟩,dis_set hj hb ht h.dis⟩
 ·obtain ⟨a,b,c⟩:=h.pos
  have e:(F.set j n)[0]'(by simpa using a)=F[0]'a:=List.getElem_set_ne (by omega) _
  exact ⟨by simpa using a,by rw [e];exact b,(World.cell?_of_block hp).trans (by rw [e];exact c)⟩
 ·intro c hc
  obtain ⟨i,hi,rfl⟩:=List.mem_iff_getElem.1 hc
  have hi2:i < F.length:=by simpa using hi
  by_cases e:j=i
  ·subst e
   rw [List.getElem_set_self]
   exact hn
  ·rw [List.getElem_set_ne e]
   exact (h.nds.at_ _ (List.getElem_mem hi2)).kept hz (hk _ (d1 i j hi2 hj (Ne.symm e)).1) (hk _ (d2 j i hj hi2).symm)
 ·intro i hi k hkk
  have hi2:i < F.length:=by simpa using hi
  rw [nx_set hj hb hh]
  have et:((F.set j n)[i]'hi).t=F[i].t∧((F.set j n)[i]'hi).h=F[i].h:=by
   by_cases e:j=i
   ·subst e
    rw [List.getElem_set_self]
    exact ⟨ht,hh⟩
   ·rw [List.getElem_set_ne e]
    exact ⟨rfl,rfl⟩
  rw [et.2] at hkk
  rw [et.1]
  exact (World.cell?_of_block (hk _ (d2 j i hj hi2).symm)).trans (h.nds.lev i hi2 k hkk)
theorem NdAt.setx {w:World} {n:Nd} (h:NdAt w n) (x:It):NdAt (((((w.setCell ⟨n.b,0,none⟩ (.int .i64 x.s)).setCell ⟨n.b,1,none⟩ (.int .i64 x.k)).setCell ⟨n.b,2,none⟩ (.int .u64 x.t)).setCell ⟨n.b,3,none⟩ (.int .u64 x.v)).setCell ⟨n.b,4,none⟩ (.int .i64 x.x)) ⟨n.b,n.t,n.h,x⟩:=by
 obtain ⟨lb,lt,sh,c0,c1,c2,c3,c4,c5,fb,ft⟩:=h
 obtain ⟨e0,e1,e2,e3,e4,e5⟩:=set5_cells (.int .i64 x.s) (.int .i64 x.k) (.int .u64 x.t) (.int .u64 x.v) (.int .i64 x.x) c0 c1 c2 c3 c4 c5
 refine ⟨by simpa using lb,by simpa using lt,?_,e0,e1,e2,e3,e4,e5,fun o=>?_,fun o=>?_⟩
 ·rw [shape_set,shape_set,shape_set,shape_set,shape_set]
  exact sh
 ·simp only [World.frozen?_setCell]
  exact fb o
 ·simp only [World.frozen?_setCell]
  exact ft o
def SameSet (w':World) (p:Nat) (F:List Nd) (j:Nat) (n:Nd) (x:It):Prop:=(winsB x n.x=true→SkAt w' p (F.set j ⟨n.b,n.t,n.h,x⟩))∧(winsB x n.x=false→SkAt w' p F)
theorem Sets.set5 {S:Nat→Prop} {w w':World} (h:Sets S w w') {g:Nat} (hg:g < w.heap.size→S g) (v0 v1 v2 v3 v4:Value):Sets S w (((((w'.setCell ⟨g,0,none⟩ v0).setCell ⟨g,1,none⟩ v1).setCell ⟨g,2,none⟩ v2).setCell ⟨g,3,none⟩ v3).setCell ⟨g,4,none⟩ v4) :=
 ((((h.set hg _ _).set hg _ _).set hg _ _).set hg _ _).set hg _ _
theorem Mix.heap {w w':World} {F:List Nd} {q:Nat} {n:Nd} {m:Nat} (h:Mix w F q n m) (e:∀ b:Nat,w'.heap[b]? = w.heap[b]?) (hz:w.heap.size≤w'.heap.size):Mix w' F q n m :=
 ⟨fun c hc=>(h.at_ c hc).kept hz (e _) (e _),h.new.kept hz (e _) (e _),fun j hj k hk=>(World.cell?_of_block (e _)).trans (h.lev j hj k hk),fun k hk=>(World.cell?_of_block (e _)).trans (h.own k hk)⟩
theorem Mix.load {w:World} {F:List Nd} {q:Nat} {n:Nd} {m i:Nat} (h:Mix w F q n m) (hi:i < F.length) (hk:m < (F[i]'hi).h):Calls Tryz.prog 207 #[.pointer (some ⟨(F[i]'hi).t,m,none⟩)] w fun e w'=>e=.returned (ptrO (nxtP m (F.drop (i+1))))∧w'=w:=by
 have hc:=h.lev i hi m hk
 rw [if_neg (by omega)] at hc
 rcases nx_cases F m i with ⟨e,_⟩ | ⟨j,hj,_,_,e,_⟩
 ·rw [e] at hc ⊢
  exact load_any _ _ _ _ hc trivial
 ·rw [e] at hc ⊢
  exact load_any _ _ _ _ hc (h.at_ _ (List.getElem_mem hj)).ptr
theorem Mix.store {w:World} {F:List Nd} {q:Nat} {n:Nd} {m:Nat} (h:Mix w F q n m) (hm:m < n.h) (i:Nat):Calls Tryz.prog 208 #[.pointer (some ⟨n.t,m,none⟩),ptrO (nxtP m (F.drop (i+1)))] w fun e w'=>e=.returned (.tuple #[])∧w'=w.setCell ⟨n.t,m,none⟩ (ptrO (nxtP m (F.drop (i+1)))):=by
 have hc:=h.own m hm
 rw [if_neg (by omega)] at hc
 rcases nx_cases F m i with ⟨e,_⟩ | ⟨j,hj,_,_,e,_⟩
 ·rw [e]
  exact store_any _ _ _ _ _ hc (h.new.ft m) trivial
 ·rw [e]
  exact store_any _ _ _ _ _ hc (h.new.ft m) (h.at_ _ (List.getElem_mem hj)).ptr
theorem Mix.store2 {w:World} {F:List Nd} {q:Nat} {n:Nd} {m i:Nat} (h:Mix w F q n m) (hi:i < F.length) (hk:m < (F[i]'hi).h) (hne:(F[i]'hi).t ≠ n.t) (hnb:n.b ≠ n.t) (u:Value):Calls Tryz.prog 208 #[.pointer (some ⟨(F[i]'hi).t,m,none⟩),.pointer (some ⟨n.b,0,none⟩)] (w.setCell ⟨n.t,m,none⟩ u) fun e w'=>e=.returned (.tuple #[])∧w'=(w.setCell ⟨n.t,m,none⟩ u).setCell ⟨(F[i]'hi).t,m,none⟩ (.pointer (some ⟨n.b,0,none⟩)):=by
 have hc:=h.lev i hi m hk
 exact store_any _ _ _ _ _ (set_blk hne.symm hc) (by rw [World.frozen?_setCell];exact (h.at_ _ (List.getElem_mem hi)).ft m) (h.new.set hnb u).ptr
theorem SkAt.put {w w':World} {p:Nat} {F:List Nd} {q:Nat} {n:Nd} {T:Nat→Prop} (h:SkAt w p F) (hq:q < F.length) (hs:Sets T w w') (hT:¬ T p) (hm:Mix w' F q n n.h) {z:Nat} (hz:p < z∧∀ c ∈ F,c.b < z∧c.t < z) (hb:z≤n.b) (ht:z≤n.t) (hne:n.b ≠ n.t) :
 SkAt (w'.setCell ⟨p,1,none⟩ (.int .i64 F.length)) p (insF F q n):=by
 obtain ⟨d1,d2,d3⟩:=dis_parts h.dis
 have hp:=hs.block p h.lp hT
 have hN:=hm.done hq
 have hpn:∀ c ∈ insF F q n,c.b ≠ p∧c.t ≠ p:=fun c hc=>by
  rcases ins_mem.1 hc with rfl | hc
  ·omega
  ·exact ⟨(d3 c hc).1.symm,(d3 c hc).2.symm⟩
 have hc1:w'.cell? ⟨p,1,none⟩=_:=(World.cell?_of_block hp).trans h.cnt
 refine ⟨by simpa using Nat.lt_of_lt_of_le h.lp hs.size,?_,?_,fun o=>by rw [World.frozen?_setCell];exact (World.frozen?_of_block hp).trans (h.fp o),⟨fun c hc=>(hN.at_ c hc).set (hpn c hc).1 _,fun i hi k hk=>set_blk (hpn _ (List.getElem_mem hi)).2.symm (hN.lev i hi k hk)⟩,dis_ins h.dis hz.1 hz.2 hb ht hne⟩
 ·obtain ⟨a,b,c⟩:=h.pos
  have hl:0 < (insF F q n).length:=by rw [ski_len];omega
  have e:=ins_lo (n:=n) hq (Nat.zero_le q) hl
  exact ⟨hl,by rw [e];exact b,by rw [e];exact set_off (by omega) ((World.cell?_of_block hp).trans c)⟩
 ·rw [set_same hc1,ski_len]
  congr 2
  omega
set_option maxHeartbeats 1600000 in
theorem put_bad (p:Nat) (x:It) (h:Int) (w:World) (hb:¬ (goodB x=true∧1≤h∧h≤6)) :
 Calls Tryz.prog 144 #[.pointer (some ⟨p,0,none⟩),x.val,.int .i64 h] w fun e w'=>e=.returned (.tuple #[.bool false,.int .i64 1])∧Below w.heap.size w w':=by
 have HG:=hide (fun W=>pgood_any x W)
 have HA:=hide (below_alloc (Below.refl w.heap.size w) (.cells x.cells.toArray 54))
 cases hg:goodB x with
 | false =>
  rw [hg] at HG
  clear hg hb
  go_enter Tryz.func144,Tryz.ntmps144
  go_wp2_with fail
  refine (Calls.mono (HG.out _) ?_);rintro e w1 ⟨rfl,hg1⟩
  have HB:=hide (below_step HA.out hg1)
  clear hg1
  go_wp2_with fail
  refine bodyPost_ret (v:=.tuple #[.bool false,.int .i64 1]) (by simp [results,Tryz.results144,go_sem]) rfl ?_
  exact ⟨rfl,HB.out⟩
 | true =>
  rw [hg] at HG hb
  clear hg
  by_cases h1:h < 1
  ·have d1:decide (h < 1)=true:=decide_eq_true h1
   clear hb
   go_enter Tryz.func144,Tryz.ntmps144
   go_wp2_with fail
   refine (Calls.mono (HG.out _) ?_);rintro e w1 ⟨rfl,hg1⟩
   have HB:=hide (below_step HA.out hg1)
   clear hg1
   go_wp2_with fail
   refine bodyPost_ret (v:=.tuple #[.bool false,.int .i64 1]) (by simp [results,Tryz.results144,go_sem]) rfl ?_
   exact ⟨rfl,HB.out⟩
  ·have h6:6 < h:=by
    have:¬ (1≤h∧h≤6):=fun e=>hb ⟨rfl,e⟩
    omega
   have d1:decide (h < 1)=false:=decide_eq_false h1
   have d6:decide (6 < h)=true:=decide_eq_true h6
   clear hb
   go_enter Tryz.func144,Tryz.ntmps144
   go_wp2_with fail
   refine (Calls.mono (HG.out _) ?_);rintro e w1 ⟨rfl,hg1⟩
   have HB:=hide (below_step HA.out hg1)
   clear hg1
   go_wp2_with fail
   refine bodyPost_ret (v:=.tuple #[.bool false,.int .i64 1]) (by simp [results,Tryz.results144,go_sem]) rfl ?_
   exact ⟨rfl,HB.out⟩
set_option maxHeartbeats 3200000 in
set_option maxRecDepth 100000 in
theorem put_same (p:Nat) (F:List Nd) (x:It) (h:Nat) (w:World) (hS:SkAt w p F) (hF:SkOk F) (hg:goodB x=true) (hh1:1≤h) (hh6:h≤6) (hj:lowI x (itsF F)+1 < F.length) (hsb:sameB (F[lowI x (itsF F)+1]'hj).x x=true) :
 Calls Tryz.prog 144 #[.pointer (some ⟨p,0,none⟩),x.val,.int .i64 h] w fun e w'=>e=.returned (.tuple #[.bool (winsB x (F[lowI x (itsF F)+1]'hj).x),.int .i64 0]) ∧
  SameSet w' p F (lowI x (itsF F)+1) (F[lowI x (itsF F)+1]'hj) x∧Sets (SBlk p F) w w':=by
 obtain ⟨hF0,hF6,hFp⟩:=hS.pos
 have hql:=low_len F x
 have hqF:lowI x (itsF F) < F.length:=by omega
 have hb1:=below_alloc (Below.refl w.heap.size w) (.cells x.cells.toArray 54)
 have hbx:=BxAt.box (x:=x) (heap_alloc_new w (.cells x.cells.toArray 54))
 have HGD:=hide (fun W=>pgood_any x W)
 rw [hg] at HGD
 have HBF:=hide (fun W hW=>before_any p F x W (hS.below (w':=W) hW) hF.up (fun n hn=>(hF.hts n hn).2))
 have HB1:=hide hb1
 have HBX:=hide hbx
 have HS1:=hide hS
 have HOK:=hide hF
 have HZ:=hide (prv_zero hF hqF)
 have HNX:=hide (nx_zero hF (lowI x (itsF F)))
 have hk0:=(hF.hts _ (List.getElem_mem hqF)).1
 have hd1:decide ((h:Int) < 1)=false:=decide_eq_false (by omega)
 have hd6:decide (6 < (h:Int))=false:=decide_eq_false (by omega)
 have HC:=hide (fun W=>psame_any (F[lowI x (itsF F)+1]'hj).x x W)
 rw [hsb] at HC
 have HWN:=hide (fun W=>pwins_any x (F[lowI x (itsF F)+1]'hj).x W)
 rw [List.getElem?_eq_getElem hj] at HNX
 clear hsb
 generalize lowI x (itsF F)=q at *
 clear hS hb1 hF0 hF6 hFp hF hbx hg hql
 go_enter Tryz.func144,Tryz.ntmps144
 go_wp2_with fail
 refine (Calls.mono (HGD.out _) ?_);rintro e w1 ⟨rfl,hg1⟩
 have HB2:=hide (below_step HB1.out hg1)
 have HBX1:=hide (BxAt.kept HBX.out hg1.size (hg1.block _ HBX.out.lt))
 obtain ⟨lx,x0,x1,x2,x3,x4⟩:=HBX1.out
 clear hg1 HBX HB1
 go_wp2_with fail
 refine (Calls.mono (HBF.out _ HB2.out) ?_);rintro e w2 ⟨vs,hov,rfl,hg2⟩
 have HOV:=hide hov
 have hv0:vs[0]? = some (.pointer (some ⟨(F[q]'hqF).b,0,none⟩)):=by
  obtain ⟨i,hi,e⟩:=hov.2.1 0 (by omega) (by omega)
  rw [e,prv_uniq hi HZ.out,bpV_at hqF]
 have HSW:=hide (HS1.out.below (below_step HB2.out hg2))
 have HBX2:=hide (BxAt.kept HBX1.out hg2.size (hg2.block _ HBX1.out.lt))
 have HB3:=hide (below_step HB2.out hg2)
 clear lx x0 x1 x2 x3 x4 hg2 HBX1 HB2 HBF
 have hba:=below_alloc (Below.refl w2.heap.size w2) (.cells vs.toArray 299)
 have hgo:=heap_alloc_new w2 (.cells vs.toArray 299)
 have HGO:=hide hgo
 have HS3:=hide (HSW.out.below hba)
 have HBX3:=hide (BxAt.kept HBX2.out hba.size (hba.block _ HBX2.out.lt))
 have HB4:=hide (below_step HB3.out hba)
 have HGZ:Hid (w.heap.size≤w2.heap.size):=hide HB3.out.size
 have hgoz:w2.heap.size < (w2.alloc (.cells vs.toArray 299)).heap.size:=by simp
 have HNEX:Hid (w.heap.size ≠ w2.heap.size):=hide (fun e=>by have:=HBX2.out.lt;omega)
 have hc0:(w2.alloc (.cells vs.toArray 299)).cell? ⟨w2.heap.size,0,none⟩=some (.pointer (some ⟨(F[q]'hqF).b,0,none⟩)):=(cell_of_row _ _ 0 _ _ _ hgo).trans (by rw [List.getElem?_toArray];exact hv0)
 have HNQ:=hide (HS3.out.nds.at_ _ (List.getElem_mem hqF))
 have HLD:=hide (lev_load HS3.out hqF (k:=0) (by omega))
 rw [HNX.out] at HLD
 have hhI:(0:Int) < (((F[q]'hqF).h:Nat):Int):=by omega
 have hhN:0 < (F[q]'hqF).h:=by omega
 have HC0:=hide hc0
 have HOA:=hide (fun m (hm:m < 6)=>hov.2.1 m (by omega) hm)
 obtain ⟨lb,lt,_,_,_,_,_,_,q5,_,_⟩:=HNQ.out
 obtain ⟨lx,x0,x1,x2,x3,x4⟩:=HBX3.out
 clear hov hv0 hba hgo HSW HBX2 HB3 HNQ HNX hc0
 obtain ⟨o0,o1,o2,o3,o4,o5,hvs⟩:=out_all HOV.out
 generalize (F[q]'hqF)=nq at *
 obtain rfl:o0=some ⟨nq.b,0,none⟩:=by
  have h1:=cell_of_row _ _ 0 _ _ _ HGO.out
  rw [HC0.out,hvs] at h1
  have:=Option.some.inj h1
  injection this with this
  exact this.symm
 subst hvs
 have hc0:=HC0.out
 clear HC0
 obtain ⟨w3,hw3⟩:∃ w3,w2.alloc (.cells #[.pointer (some ⟨nq.b,0,none⟩),.pointer o1,.pointer o2,.pointer o3,.pointer o4,.pointer o5] 299)=w3:=⟨_,rfl⟩
 have hw3':w2.alloc (.cells [Value.pointer (some ⟨nq.b,0,none⟩),.pointer o1,.pointer o2,.pointer o3,.pointer o4,.pointer o5].toArray 299)=w3:=hw3
 rw [hw3'] at HS3 HBX3 HB4 hgoz HLD hc0 lb lt q5 lx x0 x1 x2 x3 x4 HGO
 have HW3:=hide hw3
 clear hw3 hw3'
 go_upto_region 4 with fail
 rw [show w2.alloc (.cells #[.pointer (some ⟨nq.b,0,none⟩),.pointer o1,.pointer o2,.pointer o3,.pointer o4,.pointer o5] 299)=w3 from HW3.out]
 clear HW3
 generalize w2.heap.size=go at *
 have HNJ:=hide (fun W hW=>(HS3.out.below (w':=W) hW).nds.at_ _ (List.getElem_mem hj))
 have hps:ptrO (Option.map (fun x=>x.b) (some (F[q+1]'hj)))=.pointer (some ⟨(F[q+1]'hj).b,0,none⟩):=rfl
 rw [hps] at HLD
 clear hps
 go_wp2_with fail
 refine (Calls.mono HLD.out ?_);rintro e w4 ⟨rfl,rfl⟩
 clear HLD q5 hhI hhN lb lt hc0
 obtain ⟨jl,jt,_,j0,j1,j2,j3,j4,j5,_,_⟩:=HNJ.out w4 (Below.refl _ _)
 obtain ⟨nj,hnj⟩:∃ nj,F[q+1]'hj=nj:=⟨_,rfl⟩
 have HNE:=hide hnj
 rw [hnj] at HC HWN HNJ jl jt j0 j1 j2 j3 j4 j5 ⊢
 clear hnj
 have hnc:=near_cells w4
 go_wp2_with fail
 refine wp_region_near (by kernel_rfl) (by kernel_rfl) ?_
 repeat (go_big_quiet_step ((first | (go_at_call 139;exact near_of (HC.out _)))))
 refine wpQuiet_nil ?_
 intro _ hw'
 obtain ⟨s1,rfl⟩:=hw'
 clear jl jt j0 j1 j2 j3 j4 j5 lx x0 x1 x2 x3 x4 HC hnc
 have HSX:=hide (s1.is)
 have HBX5:=hide (BxAt.kept HBX3.out HSX.out.size (HSX.out.block _ HBX3.out.lt))
 have HB5:=hide (below_step HB4.out HSX.out)
 obtain ⟨lx,x0,x1,x2,x3,x4⟩:=HBX5.out
 obtain ⟨jl,jt,jsh,j0,j1,j2,j3,j4,j5,jf1,jf2⟩:=HNJ.out _ HSX.out
 clear jsh jf1 jf2
 obtain ⟨w5,hw5⟩:∃ w5,s1.at_=w5:=⟨_,rfl⟩
 have HS5:=hide (HS3.out.below HSX.out)
 have hnj5:Hid (∀ W,Below w5.heap.size w5 W→NdAt W nj):=hide (fun W hW=>HNJ.out W (below_step HSX.out (by rw [hw5];exact hW)))
 rw [hw5] at HBX5 HB5 HSX HS5 lx x0 x1 x2 x3 x4 jl jt j0 j1 j2 j3 j4 j5 ⊢
 clear hw5 HNJ HBX3 HB4 HS3 HSX HOV HOA
 go_upto_region 5 with fail
 have hnc:=near_cells w5
 refine wp_region_near (by kernel_rfl) (by kernel_rfl) ?_
 repeat (go_big_quiet_step ((first | (go_at_call 140;exact near_of (HWN.out _)))))
 refine wpQuiet_nil ?_
 intro _ hw'
 obtain ⟨s2,rfl⟩:=hw'
 clear jl jt j0 j1 j2 j3 j4 j5 lx x0 x1 x2 x3 x4 HWN hnc
 have hbx6:=BxAt.kept HBX5.out s2.is.size (s2.is.block _ HBX5.out.lt)
 have hb6:=below_step HB5.out s2.is
 have hs6:=HS5.out.below s2.is
 obtain ⟨lx,x0,x1,x2,x3,x4⟩:=hbx6
 obtain ⟨jl,jt,jsh,j0,j1,j2,j3,j4,j5,jfz,jf2⟩:=hnj5.out _ s2.is
 clear jsh jf2
 obtain ⟨w6,hw6⟩:∃ w6,s2.at_=w6:=⟨_,rfl⟩
 rw [hw6] at hb6 hs6 lx x0 x1 x2 x3 x4 jl jt j0 j1 j2 j3 j4 j5 jfz ⊢
 have HB6:=hide hb6
 have HS6:=hide hs6
 clear hw6 hb6 hs6 HBX5 HB5 HS5 hnj5
 have HSK:Hid (SkAt (((((w6.setCell ⟨nj.b,0,none⟩ (.int .i64 x.s)).setCell ⟨nj.b,1,none⟩ (.int .i64 x.k)).setCell ⟨nj.b,2,none⟩ (.int .u64 x.t)).setCell ⟨nj.b,3,none⟩ (.int .u64 x.v)).setCell ⟨nj.b,4,none⟩ (.int .i64 x.x)) p (F.set (q+1) ⟨nj.b,nj.t,nj.h,x⟩)):=hide (by
  refine SkAt.setw HS6.out (by omega:0 < q+1) hj (by rw [HNE.out]) (by rw [HNE.out]) (by rw [HNE.out]) (by simp) (fun c hc=>set5_block (by rw [HNE.out] at hc;exact hc) _ _ _ _ _) (NdAt.setx ?_ x)
  have:=HS6.out.nds.at_ _ (List.getElem_mem hj)
  rw [HNE.out] at this
  exact this)
 have HSB:Hid (nj.b < w.heap.size→SBlk p F nj.b):=hide (fun _=>.inr ⟨nj,by rw [← HNE.out];exact List.getElem_mem hj,.inl rfl⟩)
 cases hw:winsB x nj.x with
 | false =>
  go_wp2_with fail
  refine bodyPost_ret (v:=.tuple #[.bool false,.int .i64 0]) (by simp [results,Tryz.results144,go_sem]) rfl ?_
  rw [HNE.out]
  exact ⟨by rw [hw],⟨fun e=>absurd (hw.symm.trans e) (by simp),fun _=>HS6.out⟩,Sets.of HB6.out⟩
 | true =>
  go_wp2_with fail
  refine bodyPost_ret (v:=.tuple #[.bool true,.int .i64 0]) (by simp [results,Tryz.results144,go_sem]) rfl ?_
  rw [HNE.out]
  exact ⟨by rw [hw],⟨fun _=>HSK.out,fun e=>absurd (hw.symm.trans e) (by simp)⟩,(Sets.of HB6.out).set5 HSB.out _ _ _ _ _⟩
set_option maxHeartbeats 6400000 in
set_option maxRecDepth 100000 in
theorem put_none (p:Nat) (F:List Nd) (x:It) (h:Nat) (w:World) (hS:SkAt w p F) (hF:SkOk F) (hlen:F.length≤1099511627776) (hg:goodB x=true) (hh1:1≤h) (hh6:h≤6) (hj:¬ lowI x (itsF F)+1 < F.length) :
 Calls Tryz.prog 144 #[.pointer (some ⟨p,0,none⟩),x.val,.int .i64 h] w fun e w'=>∃ b t,e=.returned (.tuple #[.bool true,.int .i64 0])∧w.heap.size≤b∧w.heap.size≤t∧SkAt w' p (insF F (lowI x (itsF F)) ⟨b,t,h,x⟩)∧Sets (SBlk p F) w w':=by
 obtain ⟨hF0,hF6,hFp⟩:=hS.pos
 have hql:=low_len F x
 have hqF:lowI x (itsF F) < F.length:=by omega
 have hb1:=below_alloc (Below.refl w.heap.size w) (.cells x.cells.toArray 54)
 have hbx:=BxAt.box (x:=x) (heap_alloc_new w (.cells x.cells.toArray 54))
 have HGD:=hide (fun W=>pgood_any x W)
 rw [hg] at HGD
 have HBF:=hide (fun W hW=>before_any p F x W (hS.below (w':=W) hW) hF.up (fun n hn=>(hF.hts n hn).2))
 have HB1:=hide hb1
 have HBX:=hide hbx
 have HS1:=hide hS
 have HOK:=hide hF
 have HZ:=hide (prv_zero hF hqF)
 have HNX:=hide (nx_zero hF (lowI x (itsF F)))
 have hk0:=(hF.hts _ (List.getElem_mem hqF)).1
 have hd1:decide ((h:Int) < 1)=false:=decide_eq_false (by omega)
 have hd6:decide (6 < (h:Int))=false:=decide_eq_false (by omega)
 rw [List.getElem?_eq_none (by omega)] at HNX
 generalize lowI x (itsF F)=q at *
 clear hS hb1 hF0 hF6 hFp hF hbx hg hql
 go_enter Tryz.func144,Tryz.ntmps144
 go_wp2_with fail
 refine (Calls.mono (HGD.out _) ?_);rintro e w1 ⟨rfl,hg1⟩
 have HB2:=hide (below_step HB1.out hg1)
 have HBX1:=hide (BxAt.kept HBX.out hg1.size (hg1.block _ HBX.out.lt))
 obtain ⟨lx,x0,x1,x2,x3,x4⟩:=HBX1.out
 clear hg1 HBX HB1
 go_wp2_with fail
 refine (Calls.mono (HBF.out _ HB2.out) ?_);rintro e w2 ⟨vs,hov,rfl,hg2⟩
 have HOV:=hide hov
 have hv0:vs[0]? = some (.pointer (some ⟨(F[q]'hqF).b,0,none⟩)):=by
  obtain ⟨i,hi,e⟩:=hov.2.1 0 (by omega) (by omega)
  rw [e,prv_uniq hi HZ.out,bpV_at hqF]
 have HSW:=hide (HS1.out.below (below_step HB2.out hg2))
 have HBX2:=hide (BxAt.kept HBX1.out hg2.size (hg2.block _ HBX1.out.lt))
 have HB3:=hide (below_step HB2.out hg2)
 clear lx x0 x1 x2 x3 x4 hg2 HBX1 HB2 HBF
 have hba:=below_alloc (Below.refl w2.heap.size w2) (.cells vs.toArray 299)
 have hgo:=heap_alloc_new w2 (.cells vs.toArray 299)
 have HGO:=hide hgo
 have HS3:=hide (HSW.out.below hba)
 have HBX3:=hide (BxAt.kept HBX2.out hba.size (hba.block _ HBX2.out.lt))
 have HB4:=hide (below_step HB3.out hba)
 have HGZ:Hid (w.heap.size≤w2.heap.size):=hide HB3.out.size
 have hgoz:w2.heap.size < (w2.alloc (.cells vs.toArray 299)).heap.size:=by simp
 have HNEX:Hid (w.heap.size ≠ w2.heap.size):=hide (fun e=>by have:=HBX2.out.lt;omega)
 have hc0:(w2.alloc (.cells vs.toArray 299)).cell? ⟨w2.heap.size,0,none⟩=some (.pointer (some ⟨(F[q]'hqF).b,0,none⟩)):=(cell_of_row _ _ 0 _ _ _ hgo).trans (by rw [List.getElem?_toArray];exact hv0)
 have HNQ:=hide (HS3.out.nds.at_ _ (List.getElem_mem hqF))
 have HLD:=hide (lev_load HS3.out hqF (k:=0) (by omega))
 rw [HNX.out] at HLD
 have hhI:(0:Int) < (((F[q]'hqF).h:Nat):Int):=by omega
 have hhN:0 < (F[q]'hqF).h:=by omega
 have HC0:=hide hc0
 have HOA:=hide (fun m (hm:m < 6)=>hov.2.1 m (by omega) hm)
 obtain ⟨lb,lt,_,_,_,_,_,_,q5,_,_⟩:=HNQ.out
 obtain ⟨lx,x0,x1,x2,x3,x4⟩:=HBX3.out
 clear hov hv0 hba hgo HSW HBX2 HB3 HNQ HNX hc0
 obtain ⟨o0,o1,o2,o3,o4,o5,hvs⟩:=out_all HOV.out
 generalize (F[q]'hqF)=nq at *
 obtain rfl:o0=some ⟨nq.b,0,none⟩:=by
  have h1:=cell_of_row _ _ 0 _ _ _ HGO.out
  rw [HC0.out,hvs] at h1
  have:=Option.some.inj h1
  injection this with this
  exact this.symm
 subst hvs
 have hc0:=HC0.out
 clear HC0
 obtain ⟨w3,hw3⟩:∃ w3,w2.alloc (.cells #[.pointer (some ⟨nq.b,0,none⟩),.pointer o1,.pointer o2,.pointer o3,.pointer o4,.pointer o5] 299)=w3:=⟨_,rfl⟩
 have hw3':w2.alloc (.cells [Value.pointer (some ⟨nq.b,0,none⟩),.pointer o1,.pointer o2,.pointer o3,.pointer o4,.pointer o5].toArray 299)=w3:=hw3
 rw [hw3'] at HS3 HBX3 HB4 hgoz HLD hc0 lb lt q5 lx x0 x1 x2 x3 x4 HGO
 have HW3:=hide hw3
 clear hw3 hw3'
 go_upto_region 4 with fail
 rw [show w2.alloc (.cells #[.pointer (some ⟨nq.b,0,none⟩),.pointer o1,.pointer o2,.pointer o3,.pointer o4,.pointer o5] 299)=w3 from HW3.out]
 clear HW3
 generalize w2.heap.size=go at *
 have hps:ptrO (Option.map (fun x:Nd=>x.b) none)=.pointer none:=rfl
 rw [hps] at HLD
 clear hps
 go_wp2_with fail
 refine (Calls.mono HLD.out ?_);rintro e w4 ⟨rfl,rfl⟩
 clear HLD q5 hhI hhN lb lt hc0
 have hnc:=near_cells w4
 go_wp2_with fail
 refine wp_region_near (by kernel_rfl) (by kernel_rfl) ?_
 repeat (go_big_quiet_step (fail))
 refine wpQuiet_nil ?_
 intro _ hw'
 obtain ⟨s1,rfl⟩:=hw'
 clear lx x0 x1 x2 x3 x4 hnc
 have hb5:=s1.is
 obtain ⟨w5,hw5⟩:∃ w5,s1.at_=w5:=⟨_,rfl⟩
 rw [hw5] at hb5 ⊢
 clear hw5
 have HS5:=hide (HS3.out.below hb5)
 have HB5:=hide (below_step HB4.out hb5)
 have HBX5:=hide (BxAt.kept HBX3.out hb5.size (hb5.block _ HBX3.out.lt))
 have HGO5:=hide ((hb5.block go hgoz).trans HGO.out)
 have HGZ5:=hide (Nat.lt_of_lt_of_le hgoz hb5.size)
 obtain ⟨lx,x0,x1,x2,x3,x4⟩:=HBX5.out
 clear HS3 HB4 HBX3 HGO hgoz hb5
 have HTW:=hide (fun W=>tower_any x h W hh6)
 go_wp2_with fail
 refine (Calls.mono (HTW.out _) ?_);rintro e w6 ⟨b,t,rfl,hbz,htz,hbt,hnd,hcl,hg6⟩
 have HMX:=hide (Mix.zero (q:=q) (HS5.out.below hg6).nds hnd hcl)
 have HBZ:=hide hbz
 have HTZ:=hide htz
 have HBT:=hide hbt
 have HB6:=hide hg6
 have HS6:=hide (HS5.out.below hg6)
 have HGO6:=hide ((hg6.block go HGZ5.out).trans HGO5.out)
 have HGZ6:=hide (Nat.lt_of_lt_of_le HGZ5.out hg6.size)
 have HGT:Hid (∀ c ∈ F,go ≠ c.t):=hide (fun c hc e=>by have:=(HS1.out.nds.at_ c hc).lt;have:=HGZ.out;omega)
 have HGT2:Hid (go ≠ t):=hide (fun e=>by have:=HGZ5.out;omega)
 have HD:=hide (dis_parts HS6.out.dis)
 have HF5:Hid (∀ c ∈ F,c.b ≠ t∧c.t ≠ t∧b ≠ c.t):=hide (fun c hc=>by have h1:=(HS5.out.nds.at_ c hc).lt;have h2:=(HS5.out.nds.at_ c hc).lb;omega)
 clear lx x0 x1 x2 x3 x4 hbz htz hbt hnd hcl hg6 HBX5 HGO5 HTW
 have hh6I:(h:Int)≤6:=by omega
 go_wp2_with fail
 go_loopw [12,60] (fun tv hv wr=>∃ m:Nat,m≤h∧hv=.int .i64 (m:Int)∧Mix wr F q ⟨b,t,h,x⟩ m∧wr.heap[go]? = some (.cells #[.pointer (some ⟨nq.b,0,none⟩),.pointer o1,.pointer o2,.pointer o3,.pointer o4,.pointer o5] 299 (0,0))∧Sets (fun c=>c=t ∨ ∃ n ∈ F,c=n.t) w6 wr) (fun _ hv _=>h - (intOf hv).toNat)
 case atStart=>exact ⟨0,by omega,rfl,HMX.out,HGO6.out,Sets.refl _⟩
 case round =>
  obtain ⟨m,hm,rfl,hmx,hgo,hst⟩:=hrel
  have HM:=hide hmx
  have HG:=hide hgo
  have HST:=hide hst
  clear hmx hgo hst
  by_cases hmh:m < h
  ·obtain ⟨i,hprv,hvm⟩:=HOV.out.2.1 m (by omega) (by omega)
   have HPV:=hide hprv
   obtain ⟨hiq,⟨hil,hmi⟩,_⟩:=hprv
   have hgm:wr.cell? ⟨go,m,none⟩=some (.pointer (some ⟨(F[i]'hil).b,0,none⟩)):=(cell_of_row _ go m _ _ _ HG.out).trans (by rw [List.getElem?_toArray,hvm,bpV_at hil])
   have hmem:(F[i]'hil) ∈ F:=List.getElem_mem hil
   have HMD:=hide (HM.out.heap (w':=wr.drew) (fun _=>rfl) (Nat.le_refl _))
   have HL:=hide (HMD.out.load hil hmi)
   have HSA:=hide (HMD.out.store hmh i)
   have HSB2:=hide (fun u=>HMD.out.store2 hil hmi (HF5.out _ hmem).2.1 HBT.out u)
   have HMS:=hide (HMD.out.step hqF hmh HPV.out hil (fun i j hi hj e=>(HD.out.1 i j hi hj e).2) (fun c hc d hd=>by obtain ⟨i,hi,rfl⟩:=List.mem_iff_getElem.1 hc;obtain ⟨j,hj,rfl⟩:=List.mem_iff_getElem.1 hd;exact HD.out.2.1 i j hi hj) HF5.out HBT.out)
   have HTI:Hid (w6.heap.size≤w6.heap.size∧∃ n ∈ F,(F[i]'hil).t=n.t):=hide ⟨Nat.le_refl _,_,hmem,rfl⟩
   have HNT:=hide (HGT.out _ hmem)
   have HN2:=hide (HF5.out _ hmem)
   obtain ⟨nl,nt,nsh,n0,n1,n2,n3,n4,n5,nf1,nf2⟩:=HM.out.at_ _ hmem
   obtain ⟨bl,tl,bsh,b0,b1,b2,b3,b4,b5,bf1,bf2⟩:=HM.out.new
   have hgl:go < wr.heap.size:=(Array.getElem?_eq_some_iff.1 HG.out).1
   have hmI:(m:Int) < (h:Int):=by omega
   have hmhI:(m:Int) < (((F[i]'hil).h:Nat):Int):=by omega
   have hm6:(m:Int) < 6:=by omega
   clear nsh n0 n1 n2 n3 n4 nf1 nf2 bsh b0 b1 b2 b3 b4 bf1 bf2 hmem hvm
   obtain ⟨ni,hni⟩:∃ ni,F[i]'hil=ni:=⟨_,rfl⟩
   rw [hni] at hgm HL HSB2 HMS HTI HNT HN2 nl nt n5 hmhI hmi
   clear hni HMD
   have hK:Hid (∀ W:World,(∀ c:Nat,c ≠ t→W.heap[c]? = wr.heap[c]?)→W.cell? ⟨b,5,none⟩=some (.slice (some ⟨t,0,none⟩) h h)∧W.cell? ⟨go,m,none⟩=some (.pointer (some ⟨ni.b,0,none⟩))∧W.cell? ⟨ni.b,5,none⟩=some (.slice (some ⟨ni.t,0,none⟩) ni.h ni.h)):=hide (fun W hW=>⟨(World.cell?_of_block (hW b HBT.out)).trans b5,(World.cell?_of_block (hW go HGT2.out)).trans hgm,(World.cell?_of_block (hW ni.b HN2.out.1)).trans n5⟩)
   have HK0:=hide (hK.out wr.drew (fun _ _=>rfl))
   have HK1:=hide (hK.out (wr.drew.setCell ⟨t,m,none⟩ (ptrO (nxtP m (F.drop (i+1))))) (fun c hc=>set_block hc _ _))
   have tk1:True:=trivial
   clear hK
   go_upto_region 14 with fail
   go_region_held3 (fun w'=>w'.cell? ⟨b,5,none⟩=some (.slice (some ⟨t,0,none⟩) h h)∧w'.cell? ⟨go,m,none⟩=some (.pointer (some ⟨ni.b,0,none⟩))∧w'.cell? ⟨ni.b,5,none⟩=some (.slice (some ⟨ni.t,0,none⟩) ni.h ni.h)) (first | exact HK0.out | exact HK1.out) (first
    | (go_at_call 207;refine (Calls.mono HL.out ?_);rintro e v1 ⟨rfl,rfl⟩)
    | (go_at_call 208;refine (Calls.mono HSA.out ?_);rintro e v1 ⟨rfl,rfl⟩))
   obtain ⟨g0,g1,g2⟩:=HK1.out
   have HS7:Hid (Sets (fun c=>c=t ∨ ∃ n ∈ F,c=n.t) w6 (wr.drew.setCell ⟨t,m,none⟩ (ptrO (nxtP m (F.drop (i+1)))))):=hide (HST.out.drew.set (fun _=>.inl rfl) _ _)
   have HG7:Hid ((wr.drew.setCell ⟨t,m,none⟩ (ptrO (nxtP m (F.drop (i+1))))).heap[go]? = _):=hide ((set_block HGT2.out _ _).trans HG.out)
   have hst2:=HSB2.out (ptrO (nxtP m (F.drop (i+1))))
   have hz7:(wr.drew.setCell ⟨t,m,none⟩ (ptrO (nxtP m (F.drop (i+1))))).heap.size=wr.heap.size:=by simp
   have e7:(wr.setCell ⟨t,m,none⟩ (ptrO (nxtP m (F.drop (i+1))))).drew=wr.drew.setCell ⟨t,m,none⟩ (ptrO (nxtP m (F.drop (i+1)))):=rfl
   obtain ⟨u1,hu1⟩:∃ u1,wr.drew.setCell ⟨t,m,none⟩ (ptrO (nxtP m (F.drop (i+1))))=u1:=⟨_,rfl⟩
   rw [hu1] at e7 g0 g1 g2 HMS HS7 HG7 hst2 hz7
   rw [e7]
   have HT2:=hide hst2
   rw [← hz7] at nl nt bl tl hgl
   clear e7 hu1 hst2 HK0 HK1 HL HSA HSB2 hz7 hgm n5 b5 HM HG HST
   go_wp2_with fail
   refine (Calls.mono HT2.out ?_);rintro e v1 ⟨rfl,rfl⟩
   clear g0 g1 g2 nl nt bl tl
   go_wp2_with fail
   go_roundw
   case rel=>exact ⟨m+1,by omega,by go_num,HMS.out,(set_block HNT.out _ _).trans HG7.out,HS7.out.set (fun _=>.inr HTI.out.2) _ _⟩
   case measure=>(simp [intOf] <;> omega)
  ·obtain rfl:m=h:=by omega
   have hTp:¬ (p=t ∨ ∃ n ∈ F,p=n.t):=by
    rintro (e | ⟨c,hc,e⟩)
    ·have:=HS5.out.lp
     have:=HTZ.out
     omega
    ·exact (HD.out.2.2 c hc).2 e
   have hpb:=HST.out.block p HS6.out.lp hTp
   have hpc:=(World.cell?_of_block hpb).trans HS6.out.cnt
   have hpf:∀ o,wr.frozen? ⟨p,o,none⟩=false:=fun o=>(World.frozen?_of_block hpb).trans (HS6.out.fp o)
   have hpl:p < wr.heap.size:=Nat.lt_of_lt_of_le HS6.out.lp HST.out.size
   have hmI:¬ (m:Int) < (m:Int):=by omega
   have HSK:=hide (HS6.out.put hqF HST.out hTp HM.out (z:=w5.heap.size) ⟨HS5.out.lp,fun c hc=>⟨(HS5.out.nds.at_ c hc).lb,(HS5.out.nds.at_ c hc).lt⟩⟩ HBZ.out HTZ.out HBT.out)
   have HFR:=hide (((Sets.of (S:=SBlk p F) (below_step HB5.out HB6.out)).trans HST.out (fun c hc hcT=>by
    rcases hcT with rfl | ⟨d,hd,rfl⟩
    ·have:=HTZ.out
     have:=HB5.out.size
     omega
    ·exact .inr ⟨d,hd,.inr rfl⟩)).set (g:=p) (fun _=>.inl rfl) 1 (.int .i64 F.length))
   have HFL:Hid ((F.length:Int) - 1+1=F.length):=hide (by omega)
   have hcz:(0:Int)≤(F.length:Int) - 1∧(F.length:Int) - 1≤1099511627776:=by omega
   obtain ⟨cn,hcn⟩:∃ cn,(F.length:Int) - 1=cn:=⟨_,rfl⟩
   rw [hcn] at hpc hcz HFL
   have HBF:Hid (w.heap.size≤b∧w.heap.size≤t):=hide (by have:=HB5.out.size;have h1:=HBZ.out;have h2:=HTZ.out;omega)
   obtain ⟨hcz1,hcz2⟩:=hcz
   clear hcn hpb hTp HST HM HG
   go_wp2_with fail
   refine bodyPost_ret (v:=.tuple #[.bool true,.int .i64 0]) (by simp [results,Tryz.results144,go_sem]) rfl ?_
   rw [HFL.out]
   exact ⟨rfl,b,HBF.out.1,t,HBF.out.2,HSK.out,HFR.out⟩
set_option maxHeartbeats 6400000 in
set_option maxRecDepth 100000 in
theorem put_next (p:Nat) (F:List Nd) (x:It) (h:Nat) (w:World) (hS:SkAt w p F) (hF:SkOk F) (hlen:F.length≤1099511627776) (hg:goodB x=true) (hh1:1≤h) (hh6:h≤6) (hj:lowI x (itsF F)+1 < F.length) (hsb:sameB (F[lowI x (itsF F)+1]'hj).x x=false) :
 Calls Tryz.prog 144 #[.pointer (some ⟨p,0,none⟩),x.val,.int .i64 h] w fun e w'=>∃ b t,e=.returned (.tuple #[.bool true,.int .i64 0])∧w.heap.size≤b∧w.heap.size≤t∧SkAt w' p (insF F (lowI x (itsF F)) ⟨b,t,h,x⟩)∧Sets (SBlk p F) w w':=by
 obtain ⟨hF0,hF6,hFp⟩:=hS.pos
 have hql:=low_len F x
 have hqF:lowI x (itsF F) < F.length:=by omega
 have hb1:=below_alloc (Below.refl w.heap.size w) (.cells x.cells.toArray 54)
 have hbx:=BxAt.box (x:=x) (heap_alloc_new w (.cells x.cells.toArray 54))
 have HGD:=hide (fun W=>pgood_any x W)
 rw [hg] at HGD
 have HBF:=hide (fun W hW=>before_any p F x W (hS.below (w':=W) hW) hF.up (fun n hn=>(hF.hts n hn).2))
 have HB1:=hide hb1
 have HBX:=hide hbx
 have HS1:=hide hS
 have HOK:=hide hF
 have HZ:=hide (prv_zero hF hqF)
 have HNX:=hide (nx_zero hF (lowI x (itsF F)))
 have hk0:=(hF.hts _ (List.getElem_mem hqF)).1
 have hd1:decide ((h:Int) < 1)=false:=decide_eq_false (by omega)
 have hd6:decide (6 < (h:Int))=false:=decide_eq_false (by omega)
 have HC:=hide (fun W=>psame_any (F[lowI x (itsF F)+1]'hj).x x W)
 rw [hsb] at HC
 rw [List.getElem?_eq_getElem hj] at HNX
 clear hsb
 generalize lowI x (itsF F)=q at *
 clear hS hb1 hF0 hF6 hFp hF hbx hg hql
 go_enter Tryz.func144,Tryz.ntmps144
 go_wp2_with fail
 refine (Calls.mono (HGD.out _) ?_);rintro e w1 ⟨rfl,hg1⟩
 have HB2:=hide (below_step HB1.out hg1)
 have HBX1:=hide (BxAt.kept HBX.out hg1.size (hg1.block _ HBX.out.lt))
 obtain ⟨lx,x0,x1,x2,x3,x4⟩:=HBX1.out
 clear hg1 HBX HB1
 go_wp2_with fail
 refine (Calls.mono (HBF.out _ HB2.out) ?_);rintro e w2 ⟨vs,hov,rfl,hg2⟩
 have HOV:=hide hov
 have hv0:vs[0]? = some (.pointer (some ⟨(F[q]'hqF).b,0,none⟩)):=by
  obtain ⟨i,hi,e⟩:=hov.2.1 0 (by omega) (by omega)
  rw [e,prv_uniq hi HZ.out,bpV_at hqF]
 have HSW:=hide (HS1.out.below (below_step HB2.out hg2))
 have HBX2:=hide (BxAt.kept HBX1.out hg2.size (hg2.block _ HBX1.out.lt))
 have HB3:=hide (below_step HB2.out hg2)
 clear lx x0 x1 x2 x3 x4 hg2 HBX1 HB2 HBF
 have hba:=below_alloc (Below.refl w2.heap.size w2) (.cells vs.toArray 299)
 have hgo:=heap_alloc_new w2 (.cells vs.toArray 299)
 have HGO:=hide hgo
 have HS3:=hide (HSW.out.below hba)
 have HBX3:=hide (BxAt.kept HBX2.out hba.size (hba.block _ HBX2.out.lt))
 have HB4:=hide (below_step HB3.out hba)
 have HGZ:Hid (w.heap.size≤w2.heap.size):=hide HB3.out.size
 have hgoz:w2.heap.size < (w2.alloc (.cells vs.toArray 299)).heap.size:=by simp
 have HNEX:Hid (w.heap.size ≠ w2.heap.size):=hide (fun e=>by have:=HBX2.out.lt;omega)
 have hc0:(w2.alloc (.cells vs.toArray 299)).cell? ⟨w2.heap.size,0,none⟩=some (.pointer (some ⟨(F[q]'hqF).b,0,none⟩)):=(cell_of_row _ _ 0 _ _ _ hgo).trans (by rw [List.getElem?_toArray];exact hv0)
 have HNQ:=hide (HS3.out.nds.at_ _ (List.getElem_mem hqF))
 have HLD:=hide (lev_load HS3.out hqF (k:=0) (by omega))
 rw [HNX.out] at HLD
 have hhI:(0:Int) < (((F[q]'hqF).h:Nat):Int):=by omega
 have hhN:0 < (F[q]'hqF).h:=by omega
 have HC0:=hide hc0
 have HOA:=hide (fun m (hm:m < 6)=>hov.2.1 m (by omega) hm)
 obtain ⟨lb,lt,_,_,_,_,_,_,q5,_,_⟩:=HNQ.out
 obtain ⟨lx,x0,x1,x2,x3,x4⟩:=HBX3.out
 clear hov hv0 hba hgo HSW HBX2 HB3 HNQ HNX hc0
 obtain ⟨o0,o1,o2,o3,o4,o5,hvs⟩:=out_all HOV.out
 generalize (F[q]'hqF)=nq at *
 obtain rfl:o0=some ⟨nq.b,0,none⟩:=by
  have h1:=cell_of_row _ _ 0 _ _ _ HGO.out
  rw [HC0.out,hvs] at h1
  have:=Option.some.inj h1
  injection this with this
  exact this.symm
 subst hvs
 have hc0:=HC0.out
 clear HC0
 obtain ⟨w3,hw3⟩:∃ w3,w2.alloc (.cells #[.pointer (some ⟨nq.b,0,none⟩),.pointer o1,.pointer o2,.pointer o3,.pointer o4,.pointer o5] 299)=w3:=⟨_,rfl⟩
 have hw3':w2.alloc (.cells [Value.pointer (some ⟨nq.b,0,none⟩),.pointer o1,.pointer o2,.pointer o3,.pointer o4,.pointer o5].toArray 299)=w3:=hw3
 rw [hw3'] at HS3 HBX3 HB4 hgoz HLD hc0 lb lt q5 lx x0 x1 x2 x3 x4 HGO
 have HW3:=hide hw3
 clear hw3 hw3'
 go_upto_region 4 with fail
 rw [show w2.alloc (.cells #[.pointer (some ⟨nq.b,0,none⟩),.pointer o1,.pointer o2,.pointer o3,.pointer o4,.pointer o5] 299)=w3 from HW3.out]
 clear HW3
 generalize w2.heap.size=go at *
 have hps:ptrO (Option.map (fun x=>x.b) (some (F[q+1]'hj)))=.pointer (some ⟨(F[q+1]'hj).b,0,none⟩):=rfl
 rw [hps] at HLD
 clear hps
 go_wp2_with fail
 refine (Calls.mono HLD.out ?_);rintro e w4 ⟨rfl,rfl⟩
 clear HLD q5 hhI hhN lb lt hc0
 obtain ⟨jl,jt,jsh,j0,j1,j2,j3,j4,j5,jf1,jf2⟩:=HS3.out.nds.at_ _ (List.getElem_mem hj)
 clear jsh jf1 jf2
 obtain ⟨nj,hnj⟩:∃ nj,F[q+1]'hj=nj:=⟨_,rfl⟩
 rw [hnj] at HC jl jt j0 j1 j2 j3 j4 j5 ⊢
 clear hnj
 have hnc:=near_cells w4
 go_wp2_with fail
 refine wp_region_near (by kernel_rfl) (by kernel_rfl) ?_
 repeat (go_big_quiet_step ((first | (go_at_call 139;exact near_of (HC.out _)))))
 refine wpQuiet_nil ?_
 intro _ hw'
 obtain ⟨s1,rfl⟩:=hw'
 clear jl jt j0 j1 j2 j3 j4 j5 lx x0 x1 x2 x3 x4 HC hnc
 have hb5:=s1.is
 obtain ⟨w5,hw5⟩:∃ w5,s1.at_=w5:=⟨_,rfl⟩
 rw [hw5] at hb5 ⊢
 clear hw5
 have HS5:=hide (HS3.out.below hb5)
 have HB5:=hide (below_step HB4.out hb5)
 have HBX5:=hide (BxAt.kept HBX3.out hb5.size (hb5.block _ HBX3.out.lt))
 have HGO5:=hide ((hb5.block go hgoz).trans HGO.out)
 have HGZ5:=hide (Nat.lt_of_lt_of_le hgoz hb5.size)
 obtain ⟨lx,x0,x1,x2,x3,x4⟩:=HBX5.out
 clear HS3 HB4 HBX3 HGO hgoz hb5
 have HTW:=hide (fun W=>tower_any x h W hh6)
 go_wp2_with fail
 refine (Calls.mono (HTW.out _) ?_);rintro e w6 ⟨b,t,rfl,hbz,htz,hbt,hnd,hcl,hg6⟩
 have HMX:=hide (Mix.zero (q:=q) (HS5.out.below hg6).nds hnd hcl)
 have HBZ:=hide hbz
 have HTZ:=hide htz
 have HBT:=hide hbt
 have HB6:=hide hg6
 have HS6:=hide (HS5.out.below hg6)
 have HGO6:=hide ((hg6.block go HGZ5.out).trans HGO5.out)
 have HGZ6:=hide (Nat.lt_of_lt_of_le HGZ5.out hg6.size)
 have HGT:Hid (∀ c ∈ F,go ≠ c.t):=hide (fun c hc e=>by have:=(HS1.out.nds.at_ c hc).lt;have:=HGZ.out;omega)
 have HGT2:Hid (go ≠ t):=hide (fun e=>by have:=HGZ5.out;omega)
 have HD:=hide (dis_parts HS6.out.dis)
 have HF5:Hid (∀ c ∈ F,c.b ≠ t∧c.t ≠ t∧b ≠ c.t):=hide (fun c hc=>by have h1:=(HS5.out.nds.at_ c hc).lt;have h2:=(HS5.out.nds.at_ c hc).lb;omega)
 clear lx x0 x1 x2 x3 x4 hbz htz hbt hnd hcl hg6 HBX5 HGO5 HTW
 have hh6I:(h:Int)≤6:=by omega
 go_wp2_with fail
 go_loopw [12,60] (fun tv hv wr=>∃ m:Nat,m≤h∧hv=.int .i64 (m:Int)∧Mix wr F q ⟨b,t,h,x⟩ m∧wr.heap[go]? = some (.cells #[.pointer (some ⟨nq.b,0,none⟩),.pointer o1,.pointer o2,.pointer o3,.pointer o4,.pointer o5] 299 (0,0))∧Sets (fun c=>c=t ∨ ∃ n ∈ F,c=n.t) w6 wr) (fun _ hv _=>h - (intOf hv).toNat)
 case atStart=>exact ⟨0,by omega,rfl,HMX.out,HGO6.out,Sets.refl _⟩
 case round =>
  obtain ⟨m,hm,rfl,hmx,hgo,hst⟩:=hrel
  have HM:=hide hmx
  have HG:=hide hgo
  have HST:=hide hst
  clear hmx hgo hst
  by_cases hmh:m < h
  ·obtain ⟨i,hprv,hvm⟩:=HOV.out.2.1 m (by omega) (by omega)
   have HPV:=hide hprv
   obtain ⟨hiq,⟨hil,hmi⟩,_⟩:=hprv
   have hgm:wr.cell? ⟨go,m,none⟩=some (.pointer (some ⟨(F[i]'hil).b,0,none⟩)):=(cell_of_row _ go m _ _ _ HG.out).trans (by rw [List.getElem?_toArray,hvm,bpV_at hil])
   have hmem:(F[i]'hil) ∈ F:=List.getElem_mem hil
   have HMD:=hide (HM.out.heap (w':=wr.drew) (fun _=>rfl) (Nat.le_refl _))
   have HL:=hide (HMD.out.load hil hmi)
   have HSA:=hide (HMD.out.store hmh i)
   have HSB2:=hide (fun u=>HMD.out.store2 hil hmi (HF5.out _ hmem).2.1 HBT.out u)
   have HMS:=hide (HMD.out.step hqF hmh HPV.out hil (fun i j hi hj e=>(HD.out.1 i j hi hj e).2) (fun c hc d hd=>by obtain ⟨i,hi,rfl⟩:=List.mem_iff_getElem.1 hc;obtain ⟨j,hj,rfl⟩:=List.mem_iff_getElem.1 hd;exact HD.out.2.1 i j hi hj) HF5.out HBT.out)
   have HTI:Hid (w6.heap.size≤w6.heap.size∧∃ n ∈ F,(F[i]'hil).t=n.t):=hide ⟨Nat.le_refl _,_,hmem,rfl⟩
   have HNT:=hide (HGT.out _ hmem)
   have HN2:=hide (HF5.out _ hmem)
   obtain ⟨nl,nt,nsh,n0,n1,n2,n3,n4,n5,nf1,nf2⟩:=HM.out.at_ _ hmem
   obtain ⟨bl,tl,bsh,b0,b1,b2,b3,b4,b5,bf1,bf2⟩:=HM.out.new
   have hgl:go < wr.heap.size:=(Array.getElem?_eq_some_iff.1 HG.out).1
   have hmI:(m:Int) < (h:Int):=by omega
   have hmhI:(m:Int) < (((F[i]'hil).h:Nat):Int):=by omega
   have hm6:(m:Int) < 6:=by omega
   clear nsh n0 n1 n2 n3 n4 nf1 nf2 bsh b0 b1 b2 b3 b4 bf1 bf2 hmem hvm
   obtain ⟨ni,hni⟩:∃ ni,F[i]'hil=ni:=⟨_,rfl⟩
   rw [hni] at hgm HL HSB2 HMS HTI HNT HN2 nl nt n5 hmhI hmi
   clear hni HMD
   have hK:Hid (∀ W:World,(∀ c:Nat,c ≠ t→W.heap[c]? = wr.heap[c]?)→W.cell? ⟨b,5,none⟩=some (.slice (some ⟨t,0,none⟩) h h)∧W.cell? ⟨go,m,none⟩=some (.pointer (some ⟨ni.b,0,none⟩))∧W.cell? ⟨ni.b,5,none⟩=some (.slice (some ⟨ni.t,0,none⟩) ni.h ni.h)):=hide (fun W hW=>⟨(World.cell?_of_block (hW b HBT.out)).trans b5,(World.cell?_of_block (hW go HGT2.out)).trans hgm,(World.cell?_of_block (hW ni.b HN2.out.1)).trans n5⟩)
   have HK0:=hide (hK.out wr.drew (fun _ _=>rfl))
   have HK1:=hide (hK.out (wr.drew.setCell ⟨t,m,none⟩ (ptrO (nxtP m (F.drop (i+1))))) (fun c hc=>set_block hc _ _))
   have tk1:True:=trivial
   clear hK
   go_upto_region 14 with fail
   go_region_held3 (fun w'=>w'.cell? ⟨b,5,none⟩=some (.slice (some ⟨t,0,none⟩) h h)∧w'.cell? ⟨go,m,none⟩=some (.pointer (some ⟨ni.b,0,none⟩))∧w'.cell? ⟨ni.b,5,none⟩=some (.slice (some ⟨ni.t,0,none⟩) ni.h ni.h)) (first | exact HK0.out | exact HK1.out) (first
    | (go_at_call 207;refine (Calls.mono HL.out ?_);rintro e v1 ⟨rfl,rfl⟩)
    | (go_at_call 208;refine (Calls.mono HSA.out ?_);rintro e v1 ⟨rfl,rfl⟩))
   obtain ⟨g0,g1,g2⟩:=HK1.out
   have HS7:Hid (Sets (fun c=>c=t ∨ ∃ n ∈ F,c=n.t) w6 (wr.drew.setCell ⟨t,m,none⟩ (ptrO (nxtP m (F.drop (i+1)))))):=hide (HST.out.drew.set (fun _=>.inl rfl) _ _)
   have HG7:Hid ((wr.drew.setCell ⟨t,m,none⟩ (ptrO (nxtP m (F.drop (i+1))))).heap[go]? = _):=hide ((set_block HGT2.out _ _).trans HG.out)
   have hst2:=HSB2.out (ptrO (nxtP m (F.drop (i+1))))
   have hz7:(wr.drew.setCell ⟨t,m,none⟩ (ptrO (nxtP m (F.drop (i+1))))).heap.size=wr.heap.size:=by simp
   have e7:(wr.setCell ⟨t,m,none⟩ (ptrO (nxtP m (F.drop (i+1))))).drew=wr.drew.setCell ⟨t,m,none⟩ (ptrO (nxtP m (F.drop (i+1)))):=rfl
   obtain ⟨u1,hu1⟩:∃ u1,wr.drew.setCell ⟨t,m,none⟩ (ptrO (nxtP m (F.drop (i+1))))=u1:=⟨_,rfl⟩
   rw [hu1] at e7 g0 g1 g2 HMS HS7 HG7 hst2 hz7
   rw [e7]
   have HT2:=hide hst2
   rw [← hz7] at nl nt bl tl hgl
   clear e7 hu1 hst2 HK0 HK1 HL HSA HSB2 hz7 hgm n5 b5 HM HG HST
   go_wp2_with fail
   refine (Calls.mono HT2.out ?_);rintro e v1 ⟨rfl,rfl⟩
   clear g0 g1 g2 nl nt bl tl
   go_wp2_with fail
   go_roundw
   case rel=>exact ⟨m+1,by omega,by go_num,HMS.out,(set_block HNT.out _ _).trans HG7.out,HS7.out.set (fun _=>.inr HTI.out.2) _ _⟩
   case measure=>(simp [intOf] <;> omega)
  ·obtain rfl:m=h:=by omega
   have hTp:¬ (p=t ∨ ∃ n ∈ F,p=n.t):=by
    rintro (e | ⟨c,hc,e⟩)
    ·have:=HS5.out.lp
     have:=HTZ.out
     omega
    ·exact (HD.out.2.2 c hc).2 e
   have hpb:=HST.out.block p HS6.out.lp hTp
   have hpc:=(World.cell?_of_block hpb).trans HS6.out.cnt
   have hpf:∀ o,wr.frozen? ⟨p,o,none⟩=false:=fun o=>(World.frozen?_of_block hpb).trans (HS6.out.fp o)
   have hpl:p < wr.heap.size:=Nat.lt_of_lt_of_le HS6.out.lp HST.out.size
   have hmI:¬ (m:Int) < (m:Int):=by omega
   have HSK:=hide (HS6.out.put hqF HST.out hTp HM.out (z:=w5.heap.size) ⟨HS5.out.lp,fun c hc=>⟨(HS5.out.nds.at_ c hc).lb,(HS5.out.nds.at_ c hc).lt⟩⟩ HBZ.out HTZ.out HBT.out)
   have HFR:=hide (((Sets.of (S:=SBlk p F) (below_step HB5.out HB6.out)).trans HST.out (fun c hc hcT=>by
    rcases hcT with rfl | ⟨d,hd,rfl⟩
    ·have:=HTZ.out
     have:=HB5.out.size
     omega
    ·exact .inr ⟨d,hd,.inr rfl⟩)).set (g:=p) (fun _=>.inl rfl) 1 (.int .i64 F.length))
   have HFL:Hid ((F.length:Int) - 1+1=F.length):=hide (by omega)
   have hcz:(0:Int)≤(F.length:Int) - 1∧(F.length:Int) - 1≤1099511627776:=by omega
   obtain ⟨cn,hcn⟩:∃ cn,(F.length:Int) - 1=cn:=⟨_,rfl⟩
   rw [hcn] at hpc hcz HFL
   have HBF:Hid (w.heap.size≤b∧w.heap.size≤t):=hide (by have:=HB5.out.size;have h1:=HBZ.out;have h2:=HTZ.out;omega)
   obtain ⟨hcz1,hcz2⟩:=hcz
   clear hcn hpb hTp HST HM HG
   go_wp2_with fail
   refine bodyPost_ret (v:=.tuple #[.bool true,.int .i64 0]) (by simp [results,Tryz.results144,go_sem]) rfl ?_
   rw [HFL.out]
   exact ⟨rfl,b,HBF.out.1,t,HBF.out.2,HSK.out,HFR.out⟩
end Go.Proofs.YtgmkckjedngkdaaGreatDoor
