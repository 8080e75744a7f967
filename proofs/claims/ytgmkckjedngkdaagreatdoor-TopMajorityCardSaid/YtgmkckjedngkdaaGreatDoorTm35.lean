/- A part of the proof that TopMajorityLaw holds: XZClu. Conditions: as typed. -/
import Derived.Test.YtgmkckjedngkdaaGreatDoorTm33
import Derived.Test.YtgmkckjedngkdaaGreatDoorTm34
set_option linter.unusedVariables false
set_option linter.unusedSimpArgs false
namespace Go.Proofs.YtgmkckjedngkdaaGreatDoor
open Go.ChangeShapes Go.WideShapes Go.ChangeAt Go.RowKit
theorem Tryz.infoAnsw:(Tryz.prog.info? 50).map (fun i=>(i.zero,i.size,i.bytes))=some (some (.agg #[.int .u64 0,.int .i64 0,.int .i64 0,.int .u64 0,.int .i64 0,.int .i64 0,.int .u64 0,.slice none 0 0]),8,80):=by kernel_rfl
structure An where
 id:Int
 k:Int
 s:Int
 t:Int
 x:Int
 e:Int
 v:Int
 la:Option Addr
 ln:Nat
 lc:Nat
def An.cells (a:An):List Value:=[.int .u64 a.id,.int .i64 a.k,.int .i64 a.s,.int .u64 a.t,.int .i64 a.x,.int .i64 a.e,.int .u64 a.v,.slice a.la a.ln a.lc]
abbrev An.val (a:An):Value:=.agg #[.int .u64 a.id,.int .i64 a.k,.int .i64 a.s,.int .u64 a.t,.int .i64 a.x,.int .i64 a.e,.int .u64 a.v,.slice a.la a.ln a.lc]
theorem An.cells_len (x:An):(An.cells x).length=8:=rfl
theorem An.cells_one (x:An):∀ u ∈ An.cells x,u.oneCell'=true:=by
 intro u hu
 simp only [An.cells,List.mem_cons,List.not_mem_nil,or_false] at hu
 rcases hu with rfl | rfl | rfl | rfl | rfl | rfl | rfl | rfl <;> rfl
structure Pl where
 d:Nat
 n:Nat
 k:Nat
 vj:Value
 N:Nr
 now:Int
 lease:Int
 job:Option (Nat × Co)
 up:Bool
def jobV (b:Nat):Value:=.iface 116 (.agg #[ptv b])
def jobVs (j:Option (Nat × Co)):List Value:=match j with
 | none=>[]
 | some x=>[jobV x.1]
structure PlV (w:World) (base:Nat) (col:Nat→Nat) (i p:Nat) (P:Pl):Prop where
 box:w.heap[p]? = some (.cells #[ptv P.d,ptv P.n,ptv P.k,P.vj] 104 (0,0))
 cp:col p=10+5 * i
 node:NodeO w base P.n (fun g=>col g=11+5 * i) P.N
 id:P.N.id=i
 dsk:P.N.R.d=P.d
 clk:ClkAt w P.k i P.now P.lease
 ck:col P.k=12+5 * i
 jobs:OwnL (one1 (fun v:Value=>v)) 1 192 base w P.vj (jobVs P.job)
 cj:∀ g,P.vj.ownBlock=some g→col g=13+5 * i
 job:∀ x,P.job=some x→CoB w base x.1 (fun g=>col g=14+5 * i) x.2
structure PlD (w:World) (col:Nat→Nat) (i p:Nat) (P:Pl):Prop where
 box:w.heap[p]? = some (.cells #[ptv P.d,.pointer none,.pointer none,.slice none 0 0] 104 (0,0))
 cp:col p=10+5 * i
 job:P.job=none
structure Cl where
 vp:Value
 ps:List Nat
 P:List Pl
 grace:Int
 nb:Nat
 rb:Option Nat
 C:List Mg
 se:Int
 ids:Int
 va:Value
 AL:List (An × List It)
 vi:Value
 IL:List An
structure CluV (w:World) (base:Bs) (c:Nat) (col:Nat→Nat) (a:Cl):Prop where
 ok:ColOk w base col
 bl:base.le w
 box:w.heap[c]? = some (.cells #[a.vp,.int .u64 a.grace,ptv a.nb,.int .u64 a.ids,a.va,a.vi] 99 (0,0))
 cc:col c=1
 row:∃ A cp,a.vp=.slice A a.ps.length cp∧RowAt (one1 ptv) 1 w A a.ps∧∀ ad,A=some ad→a.ps ≠ []→col ad.block=3
 len:a.P.length=a.ps.length
 pl:∀ i p P,a.ps[i]? = some p→a.P[i]? = some P→P.up=true→PlV w base col i p P
 pd:∀ i p P,a.ps[i]? = some p→a.P[i]? = some P→P.up=false→PlD w col i p P
 net:NetX w a.nb a.rb (fun g=>col g=0) 300 a.C 0 a.se
 cn:∀ g,NBlk a.nb a.rb g→col g=2
 ans:OwnL An.cells 8 50 base w a.va (a.AL.map Prod.fst)
 ca:∀ g,a.va.ownBlock=some g→col g=4
 its:∀ x ∈ a.AL,x.2.length=x.1.ln∧ItemsAt w x.1.la x.2∧x.1.ln≤x.1.lc∧x.1.lc≤maxLen∧∀ ad,x.1.la=some ad→x.2 ≠ []→col ad.block=0
 iss:OwnL An.cells 8 50 base w a.vi a.IL
 ci:∀ g,a.vi.ownBlock=some g→col g=5
theorem CluV.bek {w w':World} {base:Bs} {c:Nat} {col:Nat→Nat} {a:Cl} (H:CluV w base c col a) (g:Below w.heap.size w w'):Bek base w w':=bekOf g H.bl
section
variable {w w':World} {base:Bs} {c i p:Nat} {col col':Nat→Nat} {S:Nat→Prop} {P:Pl} {a:Cl}
theorem PlV.sets (H:PlV w base col i p P) (k:Sets S w w') (hS:∀ g,10+5 * i≤col g→col g≤14+5 * i→¬ S g) (hk:ColOk w base col) (hk':ColOk w' base col') (hc:∀ g j,10+5 * i≤j→j≤14+5 * i→(col' g=j ↔ col g=j)):PlV w' base col' i p P:=by
 have hlt:∀ g,10+5 * i≤col g→g < w.heap.size:=fun g hg=>(hk g (by omega)).2
 exact {
  box:=(k.block p (hlt p (by rw [H.cp];omega)) (hS p (by rw [H.cp];omega) (by rw [H.cp];omega))).trans H.box
  cp:=(hc p _ (Nat.le_refl _) (by omega)).2 H.cp
  node:=(H.node.sets k (fun g hg=>hS g (by rw [hg];omega) (by rw [hg];omega))).wide (fun g hg=>(hc g _ (by omega) (by omega)).2 hg) (fun g hg=>hk'.lt hg (by omega))
  id:=H.id
  dsk:=H.dsk
  clk:=H.clk.sets k (hS _ (by rw [H.ck];omega) (by rw [H.ck];omega))
  ck:=(hc _ _ (by omega) (by omega)).2 H.ck
  jobs:=OwnL.sets H.jobs k (fun g hg=>hS g (by rw [H.cj g hg];omega) (by rw [H.cj g hg];omega))
  cj:=fun g hg=>(hc g _ (by omega) (by omega)).2 (H.cj g hg)
  job:=fun x hx=>((H.job x hx).sets k (fun g hg=>hS g (by rw [hg];omega) (by rw [hg];omega))).wide (fun g hg=>(hc g _ (by omega) (Nat.le_refl _)).2 hg) (fun g hg=>hk'.lt hg (by omega)) }
structure Turn (w w':World) (base:Bs) (col col':Nat→Nat) (j j2:Nat):Prop where
 sets:Sets (fun g=>col g=j ∨ col g=j2) w w'
 ok:ColOk w' base col'
 same:∀ g k,k ≠ j→k ≠ j2→k ≠ 0→(col' g=k ↔ col g=k)
 zero:∀ g,g < w.heap.size→col g=0→col' g=0
theorem PlV.turn (H:PlV w base col i p P) {j j2:Nat} (t:Turn w w' base col col' j j2) (hj:(j < 10+5 * i ∨ 14+5 * i < j)∧(j2 < 10+5 * i ∨ 14+5 * i < j2)) (hk:ColOk w base col):PlV w' base col' i p P :=
 H.sets t.sets (fun g h1 h2 e=>by omega) hk t.ok (fun g k h1 h2=>t.same g k (by omega) (by omega) (by omega))
theorem PlD.sets (H:PlD w col i p P) (k:Sets S w w') (hS:∀ g,col g=10+5 * i→¬ S g) (hk:ColOk w base col) (hc:∀ g,(col' g=10+5 * i ↔ col g=10+5 * i)):PlD w' col' i p P :=
 ⟨(k.block p (hk p (by rw [H.cp];omega)).2 (hS p H.cp)).trans H.box,(hc p).2 H.cp,H.job⟩
theorem PlD.turn (H:PlD w col i p P) {j j2:Nat} (t:Turn w w' base col col' j j2) (hj:j ≠ 10+5 * i∧j2 ≠ 10+5 * i) (hk:ColOk w base col):PlD w' col' i p P :=
 H.sets t.sets (fun g h1 e=>by omega) hk (fun g=>t.same g _ (by omega) (by omega) (by omega))
theorem its_turn {x:An × List It} {j j2:Nat} (t:Turn w w' base col col' j j2) (hj:j ≠ 0∧j2 ≠ 0) (h:x.2.length=x.1.ln∧ItemsAt w x.1.la x.2∧x.1.ln≤x.1.lc∧x.1.lc≤maxLen∧∀ ad,x.1.la=some ad→x.2 ≠ []→col ad.block=0) :
 x.2.length=x.1.ln∧ItemsAt w' x.1.la x.2∧x.1.ln≤x.1.lc∧x.1.lc≤maxLen∧∀ ad,x.1.la=some ad→x.2 ≠ []→col' ad.block=0:=by
 obtain ⟨h1,h2,h3,h4,h5⟩:=h
 refine ⟨h1,h2.sets t.sets (fun ad ha hn e=>by have:=h5 ad ha hn;omega),h3,h4,fun ad ha hn=>t.zero _ ?_ (h5 ad ha hn)⟩
 obtain ⟨b,off,e,hlt,_⟩:=h2 hn
 rw [ha] at e
 cases e
 exact hlt
theorem row_turn {A:Option Addr} {L:List Nat} {j j2:Nat} (t:Turn w w' base col col' j j2) (hj:j ≠ 3∧j2 ≠ 3) (h:RowAt (one1 ptv) 1 w A L) (hc:∀ ad,A=some ad→L ≠ []→col ad.block=3) :
 RowAt (one1 ptv) 1 w' A L∧∀ ad,A=some ad→L ≠ []→col' ad.block=3:=by
 refine ⟨fun hne=>?_,fun ad ha hn=>(t.same _ 3 (by omega) (by omega) (by omega)).2 (hc ad ha hn)⟩
 obtain ⟨b,off,rfl,hlt,hcl⟩:=h hne
 exact ⟨b,off,rfl,Nat.lt_of_lt_of_le hlt t.sets.size,fun q hq i u hu=>(World.cell?_of_block (t.sets.block b hlt (fun e=>by have:=hc _ rfl hne;simp only at this;omega))).trans (hcl q hq i u hu)⟩
theorem net_turn {j j2:Nat} (H:CluV w base c col a) (t:Turn w w' base col col' j j2) (hj:j ≠ 2∧j2 ≠ 2) (hj0:j ≠ 0∧j2 ≠ 0):NetX w' a.nb a.rb (fun g=>col' g=0) 300 a.C 0 a.se:=by
 obtain ⟨v,M,h1,h2,h3,h4⟩:=H.net.at_
 refine ⟨⟨v,M,?_,h2,h3,fun x hx ad ha hn=>t.zero _ ((h1.rd x hx).1.lt ad ha hn) (h4 x hx ad ha hn)⟩,H.net.ok⟩
 exact h1.sets t.sets (fun e=>by have:=H.cn a.nb (.inl rfl);omega) (fun g hg e=>by have:=H.cn g (.inr (by rw [← h2];exact hg));omega) (fun x hx ad ha hn e=>by have:=h4 x hx ad ha hn;omega)
end
end Go.Proofs.YtgmkckjedngkdaaGreatDoor
