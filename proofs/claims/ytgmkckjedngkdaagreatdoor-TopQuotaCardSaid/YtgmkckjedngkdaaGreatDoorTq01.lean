/- A part of the proof that TopQuotaLaw holds: XLib. Conditions: as typed. -/
import Derived.Test.YtgmkckjedngkdaaGreatDoorRows
import Derived.Handy
import Derived.Outline
import Derived.Deep.Slices
import Derived.Deep.QuietTactic
import Derived.BigQuiet
import Derived.WalkLawsBesides
import Derived.Deep.Fields
import Derived.Lib.SmallJoins
set_option linter.unusedVariables false
set_option linter.unusedSimpArgs false
namespace Go.Proofs.YtgmkckjedngkdaaGreatDoor
open Go.ChangeShapes Go.WideShapes Go.ChangeAt Go.RowKit
theorem hide {p:Prop} (h:p):Hid p:=h
def Enters (P:Program) (F:FuncId):Prop:=∀ args W,(callFunc F args).run P W=.ok (.enter F args) W
theorem bcell {W w1:World} (hb:Below W.heap.size W w1):(∀ b o,b < W.heap.size→w1.cell? ⟨b,o,none⟩=W.cell? ⟨b,o,none⟩)∧(∀ b o,b < W.heap.size→w1.frozen? ⟨b,o,none⟩=W.frozen? ⟨b,o,none⟩) :=
 ⟨fun b o h=>hb.cell (p:=⟨b,o,none⟩) h,fun b o h=>hb.frozen (p:=⟨b,o,none⟩) h⟩
theorem below_step {w a b:World} (h:Below w.heap.size w a) (k:Below a.heap.size a b):Below w.heap.size w b:=h.trans (k.mono h.size)
theorem below_alloc {w a:World} (h:Below w.heap.size w a) (o:Obj):Below w.heap.size w (a.alloc o):=h.alloc h.size o
theorem below_drewN {B:Nat} {a w:World} (h:Below B a w) (n:Nat):Below B a (w.drewN n):=⟨h.os,h.tape,h.output,h.size,h.block⟩
def Near (w:World):Type:={ x:World // Below w.heap.size w x }
instance near_some (w:World):Nonempty (Near w):=⟨⟨w,Below.refl _ _⟩⟩
def Near.at_ {w:World} (s:Near w):World:=s.1
theorem Near.is {w:World} (s:Near w):Below w.heap.size w s.at_:=s.2
theorem Near.cell {w:World} (s:Near w) {b o:Nat} {v:Value} (h:w.cell? ⟨b,o,none⟩=some v) (hb:b < w.heap.size):s.at_.cell? ⟨b,o,none⟩=some v:=(s.is.cell (p:=⟨b,o,none⟩) hb).trans h
theorem near_draw (w:World):∃ s:Near w,{ w with drawn:=w.drawn+1 }=s.at_:=⟨⟨w.drew,(Below.refl _ _).drew⟩,rfl⟩
theorem near_of {P:Program} {f:FuncId} {args:Array Value} {w:World} {s:Near w} {v:Value} (h:Calls P f args s.at_ fun e w'=>e=.returned v∧Below s.at_.heap.size s.at_ w') :
   Calls P f args s.at_ fun e w''=>e=.returned v∧∃ s':Near w,w''=s'.at_ :=
 h.mono fun _ w'' ⟨he,hb⟩=>⟨he,⟨w'',below_step s.is hb⟩,rfl⟩
theorem wp_region_near {P:Program} {ops:List Oper} {id:Nat} {Q:Exit→Act→World→Prop} {a:Act} {w:World} (hm:P.follows .mixedOrders=true) (hB:Region.lexB .any ops.toArray=true)
   (h:wpQuiet P ops.toArray (fun w'=>∃ s:Near w,w'=s.at_) (fun a'=>∀ w',(∃ s:Near w,w'=s.at_)→Q .normal a' w') ops a):(Code.region id ops.toArray true).wp P Q a w :=
 wp_region_quiet (C:=fun w'=>∃ s:Near w,w'=s.at_) hm hB (near_draw w) (by simpa using h)
theorem wp_name {P:Program} {c:Code} {Q:Exit→Act→World→Prop} {a:Act} {w:World} (R:World→Prop) (hR:R w) (h:∀ W,R W→c.wp P Q a W):c.wp P Q a w:=h w hR
theorem set_same {w:World} {b o:Nat} {u v:Value} (h:w.cell? ⟨b,o,none⟩=some u):(w.setCell ⟨b,o,none⟩ v).cell? ⟨b,o,none⟩=some v:=World.cell?_setCell_same w _ _ h
theorem set_off {w:World} {b o o':Nat} {u v:Value} (hne:o ≠ o') (h:w.cell? ⟨b,o',none⟩=some u):(w.setCell ⟨b,o,none⟩ v).cell? ⟨b,o',none⟩=some u :=
 (World.cell?_setCell_other w _ _ _ (fun e=>hne (by injection e))).trans h
theorem set_blk {w:World} {b b' o o':Nat} {u v:Value} (hne:b ≠ b') (h:w.cell? ⟨b',o',none⟩=some u):(w.setCell ⟨b,o,none⟩ v).cell? ⟨b',o',none⟩=some u :=
 (World.cell?_setCell_other w _ _ _ (fun e=>hne (by injection e))).trans h
section
variable {α:Type} {w w':World} {cells:α→List Value} {sz:Nat} {A:Option Addr} {L:List α}
def RowAt (cells:α→List Value) (sz:Nat) (w:World) (A:Option Addr) (L:List α):Prop :=
 L ≠ []→∃ b off,A=some ⟨b,off,none⟩∧b < w.heap.size∧∀ k (hk:k < L.length) j u,(cells L[k])[j]? = some u→w.cell? ⟨b,off+k * sz+j,none⟩=some u
theorem RowAt.nil_:RowAt cells sz w A ([]:List α):=fun h=>absurd rfl h
theorem RowAt.below (h:RowAt cells sz w A L) (hb:Below w.heap.size w w'):RowAt cells sz w' A L:=fun hn=>by
 obtain ⟨b,off,e,hlt,hc⟩:=h hn
 exact ⟨b,off,e,Nat.lt_of_lt_of_le hlt hb.size,fun k hk j u hu=>(hb.cell (p:=⟨b,_,none⟩) hlt).trans (hc k hk j u hu)⟩
theorem RowAt.at_ (h:RowAt cells sz w A L) {k:Nat} (hk:k < L.length):∃ b off,A=some ⟨b,off,none⟩∧b < w.heap.size∧∀ k (hk:k < L.length) j u,(cells L[k])[j]? = some u→w.cell? ⟨b,off+k * sz+j,none⟩=some u :=
 h (fun e=>by subst e;simp at hk)
end
theorem RowAt.one {α:Type} {w w':World} {val:α→Value} {A:Option Addr} {L:List α} (h:RowAt (fun a=>[val a]) 1 w A L) (hb:Below w.heap.size w w') {k:Nat} (hk:k < L.length) :
   ∃ b off,A=some ⟨b,off,none⟩∧b < w.heap.size∧w'.cell? ⟨b,off+k,none⟩=some (val L[k]):=by
 obtain ⟨b,off,e,hlt,hc⟩:=h.at_ hk
 refine ⟨b,off,e,hlt,(hb.cell (p:=⟨b,_,none⟩) hlt).trans ?_⟩
 have:=hc k hk 0 _ rfl
 simpa using this
structure It where
 s:Int
 k:Int
 t:Int
 v:Int
 x:Int
abbrev It.val (i:It):Value:=.agg #[.int .i64 i.s,.int .i64 i.k,.int .u64 i.t,.int .u64 i.v,.int .i64 i.x]
def It.cells (i:It):List Value:=[.int .i64 i.s,.int .i64 i.k,.int .u64 i.t,.int .u64 i.v,.int .i64 i.x]
def It.wf (i:It):Prop:=(-9223372036854775808≤i.s∧i.s≤9223372036854775807)∧(-9223372036854775808≤i.k∧i.k≤9223372036854775807)∧(0≤i.t∧i.t≤18446744073709551615)∧(0≤i.v∧i.v≤18446744073709551615)∧(-9223372036854775808≤i.x∧i.x≤9223372036854775807)
def ItemAt (w:World) (b o:Nat) (i:It):Prop :=
 w.cell? ⟨b,o,none⟩=some (.int .i64 i.s)∧w.cell? ⟨b,o+1,none⟩=some (.int .i64 i.k)∧w.cell? ⟨b,o+2,none⟩=some (.int .u64 i.t) ∧
 w.cell? ⟨b,o+3,none⟩=some (.int .u64 i.v)∧w.cell? ⟨b,o+4,none⟩=some (.int .i64 i.x)
abbrev ItemsAt (w:World) (A:Option Addr) (L:List It):Prop:=RowAt It.cells 5 w A L
theorem ItemsAt.item {w w':World} {A:Option Addr} {L:List It} (h:ItemsAt w A L) (hb:Below w.heap.size w w') {k:Nat} (hk:k < L.length) :
   ∃ b off,A=some ⟨b,off,none⟩∧b < w.heap.size∧ItemAt w' b (off+k * 5) L[k]:=by
 obtain ⟨b,off,e,hlt,hc⟩:=h.at_ hk
 refine ⟨b,off,e,hlt,?_⟩
 have hx:∀ j u,(It.cells L[k])[j]? = some u→w'.cell? ⟨b,off+k * 5+j,none⟩=some u:=fun j u hu=>(hb.cell (p:=⟨b,_,none⟩) hlt).trans (hc k hk j u hu)
 exact ⟨hx 0 _ rfl,hx 1 _ rfl,hx 2 _ rfl,hx 3 _ rfl,hx 4 _ rfl⟩
section
variable {H:Type} {enc:TypeId × Value→H} {P:Program} {w:World} {base:Nat} {spare:Nat→Bool} {held:Bool}
theorem cells?_row {sz:Nat} {a:Addr} {base:Nat} {cs:List Value} (h:w.cells? base a sz=some cs) (hs:0 < sz):a.spot=none∧a.block < w.heap.size∧∀ j u,cs[j]? = some u→w.cell? ⟨a.block,a.off+j,none⟩=some u:=by
 obtain ⟨_,hl,hc⟩:=World.cells?_some h
 have h0:=hc 0 hs
 have h0':w.cell? (a.add 0)=some (cs[0]'(by omega)):=by rw [h0,List.getElem?_eq_getElem]
 have hsp:=World.cell?_spot h0'
 have hsp':a.spot=none:=by simpa [Addr.add] using hsp
 have key:∀ j,a.add j=⟨a.block,a.off+j,none⟩:=by
   intro j
   obtain ⟨b,o,s⟩:=a
   simp only at hsp'
   subst hsp'
   unfold Addr.add
   by_cases hj:j=0 <;> simp [hj]
 refine ⟨hsp',?_,?_⟩
 · rw [key] at h0'
   rcases Nat.lt_or_ge a.block w.heap.size with hlt | hge
   · exact hlt
   · simp [World.cell?,Array.getElem?_eq_none hge] at h0'
 · intro j u hu
   have hj:j < sz:=by
     have:=(List.getElem?_eq_some_iff.1 hu).1
     omega
   rw [← key,hc j hj,hu]
theorem open_row {α:Type} {cells:α→List Value} {ok:α→Prop} {sz:Nat} {r:Reach} {b0:Nat} {t e:TypeId} {v:Value} {d:DataW H} {p:List MemPlace} (ht:P.underlying t=some (.slice e)) (hC:P.cellsOf e=sz) (hs:0 < sz)
   (dec:∀ n cs x,DataW.trod enc P w base (fun _=>true) held n e cs=some x→∃ a:α,ok a∧cs=cells a)
   (hv:Value.okWide P w r b0 t v) (h:DataW.Trod enc P w base (fun _=>true) held t v d p) :
   ∃ A c L,v=.slice A L.length c∧L.length≤c∧c≤maxLen∧RowAt cells sz w A L∧∀ a ∈ L,ok a:=by
 obtain ⟨A,n,c,rfl⟩:=okWide_slice ht hv
 obtain ⟨fuel,hf⟩:=h
 rcases Go.Deep.open_slice ht hf with ⟨hcs,_⟩ | ⟨a,len,cap,m,n',D,Pl,hcs,_,hl,hm,hmm,_,hi⟩
 · simp [Value.cells] at hcs
   obtain ⟨rfl,rfl,rfl⟩:=hcs
   exact ⟨none,0,[],rfl,Nat.le_refl _,by simp,RowAt.nil_,by simp⟩
 · simp [Value.cells] at hcs
   obtain ⟨rfl,rfl,rfl⟩:=hcs
   have hmc:m=c:=by simpa using hmm
   have hx:∀ i,i < n→∃ x:α,ok x∧w.cells? base (a.add (i * sz)) sz=some (cells x):=by
     intro i hin
     obtain ⟨cs',hc,htr⟩:=hi i (by omega)
     obtain ⟨x,hx,rfl⟩:=dec _ _ _ htr
     rw [hC] at hc
     exact ⟨x,hx,hc⟩
   let L:List α:=(List.range n).attach.map fun i=>(hx i.1 (by simpa using i.2)).choose
   have hL:L.length=n:=by simp [L]
   have hLk:∀ k (hk:k < L.length),ok L[k]∧w.cells? base (a.add (k * sz)) sz=some (cells L[k]):=by
     intro k hk
     have hk':k < n:=by omega
     have e:L[k]=(hx k hk').choose:=by simp [L]
     rw [e]
     exact (hx k hk').choose_spec
   refine ⟨some a,c,L,by rw [hL],by omega,by omega,?_,?_⟩
   · intro hne
     have h0:0 < L.length:=List.length_pos_iff.2 hne
     have hz:=cells?_row (hLk 0 h0).2 hs
     obtain ⟨b,off,spot⟩:=a
     have hspot:spot=none:=by simpa [Addr.add] using hz.1
     subst hspot
     refine ⟨b,off,rfl,by simpa [Addr.add] using hz.2.1,?_⟩
     intro k hk j u hu
     have:=(cells?_row (hLk k hk).2 hs).2.2 j u hu
     have e2:(Addr.add ⟨b,off,none⟩ (k * sz))=⟨b,off+k * sz,none⟩:=by
       unfold Addr.add
       by_cases hj:k * sz=0 <;> simp [hj]
     rw [e2] at this
     exact this
   · intro x hx'
     obtain ⟨k,hk,rfl⟩:=List.getElem_of_mem hx'
     exact (hLk k hk).1
theorem dec_int {k:IntKind} {e:TypeId} (he:P.underlying e=some (.int k)) (n:Nat) (cs:List Value) (x:DataW H × List MemPlace) (h:DataW.trod enc P w base spare held n e cs=some x):∃ a:Int,(Lit.int k a).wf=true∧cs=[.int k a]:=by
 obtain ⟨a,e1,_,hw⟩:=DataW.trod_int he h
 exact ⟨a,hw,e1⟩
theorem dec_fields {t:TypeId} {fs:Array Field} (hs:P.underlying t=some (.struct fs)) (hone:Go.Deep.oneCellFields P fs=true) (hC:P.cellsOf t=fs.size) {n:Nat} {cs:List Value} {x:DataW H × List MemPlace}
   (h:DataW.trod enc P w base spare held n t cs=some x):cs.length=fs.size∧∀ (i:Nat) (f:Field),fs[i]? = some f→∃ (c:Value) (m:Nat) (y:DataW H × List MemPlace),cs[i]? = some c∧DataW.trod enc P w base spare held m f.type [c]=some y:=by
 obtain ⟨xs,m,_,_,hl,hxs,hf⟩:=DataW.trod_struct hs h
 refine ⟨hl.trans hC,fun i f hi=>?_⟩
 have hlt:i < fs.size:=(Array.getElem?_eq_some_iff.1 hi).1
 obtain ⟨ho,hk⟩:=Go.Deep.hone_of hone i f hi
 have:=hf i f hi
 rw [ho,hk] at this
 have hil:i < cs.length:=by omega
 have e1:(cs.drop i).take 1=[cs[i]]:=by
   rw [List.drop_eq_getElem_cons hil];rfl
 rw [e1] at this
 have hxi:i < xs.length:=by omega
 exact ⟨cs[i],m,xs[i],List.getElem?_eq_getElem hil,this.trans (List.getElem?_eq_getElem hxi)⟩
theorem dec_item {t:TypeId} {f0 f1 f2 f3 f4:Field} (hs:P.underlying t=some (.struct #[f0,f1,f2,f3,f4])) (hone:Go.Deep.oneCellFields P #[f0,f1,f2,f3,f4]=true) (hC:P.cellsOf t=5)
   (h0:P.underlying f0.type=some (.int .i64)) (h1:P.underlying f1.type=some (.int .i64)) (h2:P.underlying f2.type=some (.int .u64)) (h3:P.underlying f3.type=some (.int .u64)) (h4:P.underlying f4.type=some (.int .i64))
   (n:Nat) (cs:List Value) (x:DataW H × List MemPlace) (h:DataW.trod enc P w base spare held n t cs=some x):∃ a:It,a.wf∧cs=a.cells:=by
 obtain ⟨hl,hf⟩:=dec_fields hs hone (by simpa using hC) h
 obtain ⟨c0,m0,y0,e0,t0⟩:=hf 0 f0 rfl
 obtain ⟨c1,m1,y1,e1,t1⟩:=hf 1 f1 rfl
 obtain ⟨c2,m2,y2,e2,t2⟩:=hf 2 f2 rfl
 obtain ⟨c3,m3,y3,e3,t3⟩:=hf 3 f3 rfl
 obtain ⟨c4,m4,y4,e4,t4⟩:=hf 4 f4 rfl
 obtain ⟨a0,r0,w0⟩:=dec_int h0 _ _ _ t0
 obtain ⟨a1,r1,w1⟩:=dec_int h1 _ _ _ t1
 obtain ⟨a2,r2,w2⟩:=dec_int h2 _ _ _ t2
 obtain ⟨a3,r3,w3⟩:=dec_int h3 _ _ _ t3
 obtain ⟨a4,r4,w4⟩:=dec_int h4 _ _ _ t4
 have b0:-9223372036854775808≤a0∧a0≤9223372036854775807:=bounds_i64 r0
 have b1:-9223372036854775808≤a1∧a1≤9223372036854775807:=bounds_i64 r1
 have b2:0≤a2∧a2≤18446744073709551615:=bounds_u64 r2
 have b3:0≤a3∧a3≤18446744073709551615:=bounds_u64 r3
 have b4:-9223372036854775808≤a4∧a4≤9223372036854775807:=bounds_i64 r4
 refine ⟨⟨a0,a1,a2,a3,a4⟩,⟨b0,b1,b2,b3,b4⟩,?_⟩
 match cs,hl with
 | [d0,d1,d2,d3,d4],_ =>
   simp at e0 e1 e2 e3 e4 w0 w1 w2 w3 w4
   subst e0 e1 e2 e3 e4
   simp [It.cells,w0,w1,w2,w3,w4]
theorem trodAll_below (hl:laidOutB P=true) {W W':World} (hb:Below W.heap.size W W'):∀ (ts:List TypeId) (_:∀ t ∈ ts,P.readableRec t=true∧t < P.types.size) (vs:List Value) (ds:List (DataW H)) (ps:List MemPlace),
   DataW.TrodAll enc P W 0 (fun _=>true) true ts vs ds ps→(∀ x ∈ ps,x.block < W.heap.size)→DataW.TrodAll enc P W' 0 (fun b=>decide (b < W.heap.size)) true ts vs ds ps
 | [],_,vs,ds,ps,h,_=>by
   cases vs <;> cases ds <;> simp_all [DataW.TrodAll]
 | t :: ts,hr,vs,ds,ps,h,hlt=>by
   obtain ⟨v,vs',d,ds',p,q,rfl,rfl,rfl,h0,h1⟩:=trodAll_cons h
   refine trodAll_cons_mk (Below.trod hl (hr t (by simp)).1 (hr t (by simp)).2 h0 hb (fun x hx=>hlt x (by simp [hx]))) (trodAll_below hl hb ts (fun t' ht'=>hr t' (by simp [ht'])) vs' ds' q h1 (fun x hx=>hlt x (by simp [hx])))
theorem law_post {f:Func} {s:ChangeSpec} {W W':World} {args:Array Value} {ds:List (DataW H)} {p:List MemPlace} {tb:TypeId} (hl:laidOutB P=true) (hr:∀ t ∈ f.params.toList,P.readableRec t=true∧t < P.types.size)
   (hvars:s.vars=[]) (hres:f.resultTypes=#[tb]) (htb:P.underlying tb=some .bool)
   (hfn:s.fn H ds={ results:=[.lit (.bool true)],args:=ds })
   (hA:DataW.TrodAll enc P W 0 (fun _=>true) true f.params.toList args.toList ds p) (hfz:W.noneFrozen p) (hb:Below W.heap.size W W') (hlt:∀ x ∈ p,x.block < W.heap.size) :
   s.post enc P f false true false false W args (.bool true) W':=by
 have hW:DataW.Whole enc P f.params.toList s.vars false W args.toList ds [] p:=⟨p,[],hA,by rw [hvars];rfl,by simp,hfz,fun h=>by cases h⟩
 refine ⟨ds,[],p,[],p,[],hW,?_,?_,?_,hb.frame _,fun h=>by cases h⟩
 · rw [List.append_nil,hfn,hres]
   exact trodAll_mk1 (shut_bool htb _)
 · rw [List.append_nil,hfn]
   exact trodAll_below hl hb _ hr _ _ _ hA hlt
 · rw [List.append_nil,hfn,hvars]
   rfl
end
end Go.Proofs.YtgmkckjedngkdaaGreatDoor
