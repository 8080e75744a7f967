/- A part of the proof that TopMajorityLaw holds: XLib. Conditions: as typed. -/
import Derived.Test.YtgmkckjedngkdaaGreatDoorRows
import Derived.Handy
import Derived.Outline
import Derived.Deep.Slices
import Derived.Deep.QuietTactic
import Derived.BigQuiet
import Derived.WalkLawsBesides
import Derived.Deep.Fields
import Derived.Lib.SmallJoins
set_option linter.unusedVariables false
set_option linter.unusedSimpArgs false
namespace Go.Proofs.YtgmkckjedngkdaaGreatDoor
open Go.ChangeShapes Go.WideShapes Go.ChangeAt Go.RowKit
theorem hide {p:Prop} (h:p):Hid p:=h
def Enters (P:Program) (F:FuncId):Prop:=∀ args W,(callFunc F args).run P W=.ok (.enter F args) W
theorem bcell {W w1:World} (hb:Below W.heap.size W w1):(∀ b o,b < W.heap.size→w1.cell? ⟨b,o,none⟩=W.cell? ⟨b,o,none⟩)∧(∀ b o,b < W.heap.size→w1.frozen? ⟨b,o,none⟩=W.frozen? ⟨b,o,none⟩) :=
 ⟨fun b o h=>hb.cell (p:=⟨b,o,none⟩) h,fun b o h=>hb.frozen (p:=⟨b,o,none⟩) h⟩
theorem below_step {w a b:World} (h:Below w.heap.size w a) (k:Below a.heap.size a b):Below w.heap.size w b:=h.trans (k.mono h.size)
theorem below_alloc {w a:World} (h:Below w.heap.size w a) (o:Obj):Below w.heap.size w (a.alloc o):=h.alloc h.size o
theorem below_drewN {B:Nat} {a w:World} (h:Below B a w) (n:Nat):Below B a (w.drewN n):=⟨h.os,h.tape,h.output,h.size,h.block⟩
def Near (w:World):Type:={ x:World // Below w.heap.size w x }
instance near_some (w:World):Nonempty (Near w):=⟨⟨w,Below.refl _ _⟩⟩
def Near.at_ {w:World} (s:Near w):World:=s.1
theorem Near.is {w:World} (s:Near w):Below w.heap.size w s.at_:=s.2
theorem Near.cell {w:World} (s:Near w) {b o:Nat} {v:Value} (h:w.cell? ⟨b,o,none⟩=some v) (hb:b < w.heap.size):s.at_.cell? ⟨b,o,none⟩=some v:=(s.is.cell (p:=⟨b,o,none⟩) hb).trans h
theorem near_draw (w:World):∃ s:Near w,{ w with drawn:=w.drawn+1 }=s.at_:=⟨⟨w.drew,(Below.refl _ _).drew⟩,rfl⟩
theorem near_of {P:Program} {f:FuncId} {args:Array Value} {w:World} {s:Near w} {v:Value} (h:Calls P f args s.at_ fun e w'=>e=.returned v∧Below s.at_.heap.size s.at_ w') :
 Calls P f args s.at_ fun e w''=>e=.returned v∧∃ s':Near w,w''=s'.at_ :=
 h.mono fun _ w'' ⟨he,hb⟩=>⟨he,⟨w'',below_step s.is hb⟩,rfl⟩
theorem wp_region_near {P:Program} {ops:List Oper} {id:Nat} {Q:Exit→Act→World→Prop} {a:Act} {w:World} (hm:P.follows .mixedOrders=true) (hB:Region.lexB .any ops.toArray=true)
 (h:wpQuiet P ops.toArray (fun w'=>∃ s:Near w,w'=s.at_) (fun a'=>∀ w',(∃ s:Near w,w'=s.at_)→Q .normal a' w') ops a):(Code.region id ops.toArray true).wp P Q a w :=
 wp_region_quiet (C:=fun w'=>∃ s:Near w,w'=s.at_) hm hB (near_draw w) (by simpa using h)
theorem wp_name {P:Program} {c:Code} {Q:Exit→Act→World→Prop} {a:Act} {w:World} (R:World→Prop) (hR:R w) (h:∀ W,R W→c.wp P Q a W):c.wp P Q a w:=h w hR
theorem set_same {w:World} {b o:Nat} {u v:Value} (h:w.cell? ⟨b,o,none⟩=some u):(w.setCell ⟨b,o,none⟩ v).cell? ⟨b,o,none⟩=some v:=World.cell?_setCell_same w _ _ h
theorem set_off {w:World} {b o o':Nat} {u v:Value} (hne:o ≠ o') (h:w.cell? ⟨b,o',none⟩=some u):(w.setCell ⟨b,o,none⟩ v).cell? ⟨b,o',none⟩=some u :=
 (World.cell?_setCell_other w _ _ _ (fun e=>hne (by injection e))).trans h
theorem set_blk {w:World} {b b' o o':Nat} {u v:Value} (hne:b ≠ b') (h:w.cell? ⟨b',o',none⟩=some u):(w.setCell ⟨b,o,none⟩ v).cell? ⟨b',o',none⟩=some u :=
 (World.cell?_setCell_other w _ _ _ (fun e=>hne (by injection e))).trans h
section
variable {α:Type} {w w':World} {cells:α→List Value} {sz:Nat} {A:Option Addr} {L:List α}
def RowAt (cells:α→List Value) (sz:Nat) (w:World) (A:Option Addr) (L:List α):Prop :=
 L ≠ []→∃ b off,A=some ⟨b,off,none⟩∧b < w.heap.size∧∀ k (hk:k < L.length) j u,(cells L[k])[j]? = some u→w.cell? ⟨b,off+k * sz+j,none⟩=some u
theorem RowAt.nil_:RowAt cells sz w A ([]:List α):=fun h=>absurd rfl h
theorem RowAt.below (h:RowAt cells sz w A L) (hb:Below w.heap.size w w'):RowAt cells sz w' A L:=fun hn=>by
 obtain ⟨b,off,e,hlt,hc⟩:=h hn
 exact ⟨b,off,e,Nat.lt_of_lt_of_le hlt hb.size,fun k hk j u hu=>(hb.cell (p:=⟨b,_,none⟩) hlt).trans (hc k hk j u hu)⟩
theorem RowAt.at_ (h:RowAt cells sz w A L) {k:Nat} (hk:k < L.length):∃ b off,A=some ⟨b,off,none⟩∧b < w.heap.size∧∀ k (hk:k < L.length) j u,(cells L[k])[j]? = some u→w.cell? ⟨b,off+k * sz+j,none⟩=some u :=
 h (fun e=>by subst e;simp at hk)
end
theorem RowAt.one {α:Type} {w w':World} {val:α→Value} {A:Option Addr} {L:List α} (h:RowAt (fun a=>[val a]) 1 w A L) (hb:Below w.heap.size w w') {k:Nat} (hk:k < L.length) :
 ∃ b off,A=some ⟨b,off,none⟩∧b < w.heap.size∧w'.cell? ⟨b,off+k,none⟩=some (val L[k]):=by
 obtain ⟨b,off,e,hlt,hc⟩:=h.at_ hk
 refine ⟨b,off,e,hlt,(hb.cell (p:=⟨b,_,none⟩) hlt).trans ?_⟩
 have:=hc k hk 0 _ rfl
 simpa using this
structure It where
 s:Int
 k:Int
 t:Int
 v:Int
 x:Int
abbrev It.val (i:It):Value:=.agg #[.int .i64 i.s,.int .i64 i.k,.int .u64 i.t,.int .u64 i.v,.int .i64 i.x]
def It.cells (i:It):List Value:=[.int .i64 i.s,.int .i64 i.k,.int .u64 i.t,.int .u64 i.v,.int .i64 i.x]
def It.wf (i:It):Prop:=(-9223372036854775808≤i.s∧i.s≤9223372036854775807)∧(-9223372036854775808≤i.k∧i.k≤9223372036854775807)∧(0≤i.t∧i.t≤18446744073709551615)∧(0≤i.v∧i.v≤18446744073709551615)∧(-9223372036854775808≤i.x∧i.x≤9223372036854775807)
def ItemAt (w:World) (b o:Nat) (i:It):Prop :=
 w.cell? ⟨b,o,none⟩=some (.int .i64 i.s)∧w.cell? ⟨b,o+1,none⟩=some (.int .i64 i.k)∧w.cell? ⟨b,o+2,none⟩=some (.int .u64 i.t) ∧
 w.cell? ⟨b,o+3,none⟩=some (.int .u64 i.v)∧w.cell? ⟨b,o+4,none⟩=some (.int .i64 i.x)
abbrev ItemsAt (w:World) (A:Option Addr) (L:List It):Prop:=RowAt It.cells 5 w A L
theorem ItemsAt.item {w w':World} {A:Option Addr} {L:List It} (h:ItemsAt w A L) (hb:Below w.heap.size w w') {k:Nat} (hk:k < L.length) :
 ∃ b off,A=some ⟨b,off,none⟩∧b < w.heap.size∧ItemAt w' b (off+k * 5) L[k]:=by
 obtain ⟨b,off,e,hlt,hc⟩:=h.at_ hk
 refine ⟨b,off,e,hlt,?_⟩
 have hx:∀ j u,(It.cells L[k])[j]? = some u→w'.cell? ⟨b,off+k * 5+j,none⟩=some u:=fun j u hu=>(hb.cell (p:=⟨b,_,none⟩) hlt).trans (hc k hk j u hu)
 exact ⟨hx 0 _ rfl,hx 1 _ rfl,hx 2 _ rfl,hx 3 _ rfl,hx 4 _ rfl⟩
section
variable {H:Type} {enc:TypeId × Value→H} {P:Program} {w:World} {base:Nat} {spare:Nat→Bool} {held:Bool}
theorem trodAll_below (hl:laidOutB P=true) {W W':World} (hb:Below W.heap.size W W'):∀ (ts:List TypeId) (_:∀ t ∈ ts,P.readableRec t=true∧t < P.types.size) (vs:List Value) (ds:List (DataW H)) (ps:List MemPlace),
 DataW.TrodAll enc P W 0 (fun _=>true) true ts vs ds ps→(∀ x ∈ ps,x.block < W.heap.size)→DataW.TrodAll enc P W' 0 (fun b=>decide (b < W.heap.size)) true ts vs ds ps
 | [],_,vs,ds,ps,h,_=>by
  cases vs <;> cases ds <;> simp_all [DataW.TrodAll]
 | t :: ts,hr,vs,ds,ps,h,hlt=>by
  obtain ⟨v,vs',d,ds',p,q,rfl,rfl,rfl,h0,h1⟩:=trodAll_cons h
  refine trodAll_cons_mk (Below.trod hl (hr t (by simp)).1 (hr t (by simp)).2 h0 hb (fun x hx=>hlt x (by simp [hx]))) (trodAll_below hl hb ts (fun t' ht'=>hr t' (by simp [ht'])) vs' ds' q h1 (fun x hx=>hlt x (by simp [hx])))
theorem law_post {f:Func} {s:ChangeSpec} {W W':World} {args:Array Value} {ds:List (DataW H)} {p:List MemPlace} {tb:TypeId} (hl:laidOutB P=true) (hr:∀ t ∈ f.params.toList,P.readableRec t=true∧t < P.types.size)
 (hvars:s.vars=[]) (hres:f.resultTypes=#[tb]) (htb:P.underlying tb=some .bool)
 (hfn:s.fn H ds={ results:=[.lit (.bool true)],args:=ds })
 (hA:DataW.TrodAll enc P W 0 (fun _=>true) true f.params.toList args.toList ds p) (hfz:W.noneFrozen p) (hb:Below W.heap.size W W') (hlt:∀ x ∈ p,x.block < W.heap.size) :
 s.post enc P f false true false false W args (.bool true) W':=by
 have hW:DataW.Whole enc P f.params.toList s.vars false W args.toList ds [] p:=⟨p,[],hA,by rw [hvars];rfl,by simp,hfz,fun h=>by cases h⟩
 refine ⟨ds,[],p,[],p,[],hW,?_,?_,?_,hb.frame _,fun h=>by cases h⟩
 ·rw [List.append_nil,hfn,hres]
  exact trodAll_mk1 (shut_bool htb _)
 ·rw [List.append_nil,hfn]
  exact trodAll_below hl hb _ hr _ _ _ hA hlt
 ·rw [List.append_nil,hfn,hvars]
  rfl
end
end Go.Proofs.YtgmkckjedngkdaaGreatDoor
