/- A part of the proof that TopMajorityLaw holds: XZDsk, XZDskA, XZDskB, XZDskC, XZDskD. Conditions: as typed. -/
import Derived.Test.YtgmkckjedngkdaaGreatDoorTm03
import Derived.Test.YtgmkckjedngkdaaGreatDoorTm10
import Derived.Maps.OwnSet
import Derived.Maps.RangeWalk
set_option linter.unusedVariables false
set_option linter.unusedSimpArgs false
namespace Go.Proofs.YtgmkckjedngkdaaGreatDoor
open Go.ChangeShapes Go.WideShapes Go.ChangeAt Go.RowKit
abbrev ptv (g:Nat):Value:=.pointer (some ⟨g,0,none⟩)
structure Tn where
 k:Int
 f:Int
 a:ByteArray
 b:ByteArray
def Tn.cells (t:Tn):List Value:=[.int .i64 t.k,.int .i64 t.f,.string t.a,.string t.b]
theorem Tn.len (t:Tn):t.cells.length=4:=rfl
structure Fz where
 g:Nat
 v:Value
 L:List Int
 last:Nat
structure Dk where
 q:Int
 Z:List Fz
 D:DataW Unit
 dead:Bool
 stop:Int
 tn:Nat
 calm:Bool
structure Dh where
 vf:Value
 vt:Value
 bn:Nat
 bl:Nat
 DL:DataW Unit
 T:List Tn
 calls:Int
structure FzAt (w:World) (base:Nat) (z:Fz):Prop where
 box:w.heap[z.g]? = some (.cells #[z.v,.int .i64 z.last] 175 (0,0))
 own:OwnL (one1 u8v) 1 5 base w z.v z.L
 low:base≤z.g
 few:z.L.length≤250000
 last:z.last≤z.L.length
abbrev NamesAt (w:World) (b n:Nat) (D:DataW Unit):Prop:=w.ownsMap Tryz.prog 9 (plainElem Tryz.prog 3) b n D
def dkL (K:Dk) (h:Dh):List Value:=[.int .i64 K.q,h.vf,.map (some h.bn),.map (some h.bl),h.vt,.int .i64 h.calls,.bool K.dead,.int .i64 K.stop,.int .i64 0]
def Led (D:DataW Unit) (n:Nat):Prop:=∀ (kl:Lit) (y:DataW Unit),(∀ z,D.atKey kl z=y)→∃ i:Nat,i < n∧y=.lit (.int .i64 i)
def FzFar (x y:Fz):Prop:=x.g ≠ y.g∧∀ g,x.v.ownBlock=some g→y.v.ownBlock ≠ some g
structure DiskV (w:World) (base p:Nat) (X:Nat→Prop) (K:Dk) (h:Dh):Prop where
 box:w.heap[p]? = some (.cells (dkL K h).toArray 70 (0,0))
 low:base≤p
 names:NamesAt w h.bn (Maps.size K.D) K.D
 lasted:NamesAt w h.bl (Maps.size h.DL) h.DL
 two:h.bn ≠ h.bl
 files:OwnL (one1 ptv) 1 172 base w h.vf (K.Z.map Fz.g)
 turns:OwnL Tn.cells 4 177 base w h.vt h.T
 each:∀ z ∈ K.Z,FzAt w base z
 far:∀ i j (hi:i < K.Z.length) (hj:j < K.Z.length),i ≠ j→FzFar (K.Z[i]'hi) (K.Z[j]'hj)
 inX:X p∧X h.bn∧X h.bl∧(∀ g,h.vf.ownBlock=some g→X g)∧(∀ g,h.vt.ownBlock=some g→X g)∧∀ z ∈ K.Z,X z.g∧∀ g,z.v.ownBlock=some g→X g
 bd:∀ g,X g→base≤g∧g < w.heap.size
 few:K.Z.length≤1000∧h.T.length≤K.tn∧K.tn≤1000000
 led:Led K.D K.Z.length
 stop0:0≤K.stop∧K.stop≤9223372036854775807
 quota:0≤K.q∧K.q≤9223372036854775807
 calm_:K.calm=true→h.T=[]∧h.DL=K.D
def DiskO (w:World) (base p:Nat) (X:Nat→Prop) (K:Dk):Prop:=∃ h,DiskV w base p X K h
theorem NamesAt.sets {w w':World} {S:Nat→Prop} {b n:Nat} {D:DataW Unit} (h:NamesAt w b n D) (k:Sets S w w') (hS:¬ S b):NamesAt w' b n D:=by
 have hlt:=h.lt
 obtain ⟨es,clock,hb,h2⟩:=h
 exact ⟨es,clock,(k.block b hlt hS).trans hb,h2⟩
theorem FzAt.sets {w w':World} {S:Nat→Prop} {base:Nat} {z:Fz} (h:FzAt w base z) (k:Sets S w w') (hS:¬ S z.g) (hV:∀ g,z.v.ownBlock=some g→¬ S g):FzAt w' base z :=
 ⟨(k.block z.g (Array.getElem?_eq_some_iff.1 h.box).1 hS).trans h.box,h.own.sets k hV,h.low,h.few,h.last⟩
theorem sets1 (w:World) (p o:Nat) (v:Value):Sets (fun g=>g=p) w (w.setCell ⟨p,o,none⟩ v):=(Sets.refl (S:=fun g=>g=p) w).set (fun _=>rfl) o v
theorem DiskV.sets {w w':World} {S X:Nat→Prop} {base p:Nat} {K:Dk} {h:Dh} (H:DiskV w base p X K h) (k:Sets S w w') (hS:∀ g,X g→¬ S g):DiskV w' base p X K h where
 box:=(k.block p (H.bd p H.inX.1).2 (hS p H.inX.1)).trans H.box
 low:=H.low
 names:=H.names.sets k (hS _ H.inX.2.1)
 lasted:=H.lasted.sets k (hS _ H.inX.2.2.1)
 two:=H.two
 files:=H.files.sets k (fun g hg=>hS g (H.inX.2.2.2.1 g hg))
 turns:=H.turns.sets k (fun g hg=>hS g (H.inX.2.2.2.2.1 g hg))
 each:=fun z hz=>(H.each z hz).sets k (hS _ (H.inX.2.2.2.2.2 z hz).1) (fun g hg=>hS g ((H.inX.2.2.2.2.2 z hz).2 g hg))
 far:=H.far
 inX:=H.inX
 bd:=fun g hg=>⟨(H.bd g hg).1,Nat.lt_of_lt_of_le (H.bd g hg).2 k.size⟩
 few:=H.few
 led:=H.led
 stop0:=H.stop0
 quota:=H.quota
 calm_:=H.calm_
theorem DiskV.below {w w':World} {X:Nat→Prop} {base p:Nat} {K:Dk} {h:Dh} (H:DiskV w base p X K h) (hb:Below w.heap.size w w'):DiskV w' base p X K h:=H.sets (S:=fun _=>False) (Sets.of hb) (fun _ _=>id)
theorem DiskV.wide {w:World} {X Y:Nat→Prop} {base p:Nat} {K:Dk} {h:Dh} (H:DiskV w base p X K h) (hX:∀ g,X g→Y g) (hY:∀ g,Y g→base≤g∧g < w.heap.size):DiskV w base p Y K h :=
 { H with
   inX:=⟨hX _ H.inX.1,hX _ H.inX.2.1,hX _ H.inX.2.2.1,fun g hg=>hX g (H.inX.2.2.2.1 g hg),fun g hg=>hX g (H.inX.2.2.2.2.1 g hg),fun z hz=>⟨hX _ (H.inX.2.2.2.2.2 z hz).1,fun g hg=>hX g ((H.inX.2.2.2.2.2 z hz).2 g hg)⟩⟩
   bd:=hY }
theorem DiskO.sets {w w':World} {S X:Nat→Prop} {base p:Nat} {K:Dk} (H:DiskO w base p X K) (k:Sets S w w') (hS:∀ g,X g→¬ S g):DiskO w' base p X K:=let ⟨h,H⟩:=H;⟨h,H.sets k hS⟩
theorem DiskO.below {w w':World} {X:Nat→Prop} {base p:Nat} {K:Dk} (H:DiskO w base p X K) (hb:Below w.heap.size w w'):DiskO w' base p X K:=let ⟨h,H⟩:=H;⟨h,H.below hb⟩
theorem DiskO.wide {w:World} {X Y:Nat→Prop} {base p:Nat} {K:Dk} (H:DiskO w base p X K) (hX:∀ g,X g→Y g) (hY:∀ g,Y g→base≤g∧g < w.heap.size):DiskO w base p Y K:=let ⟨h,H⟩:=H;⟨h,H.wide hX hY⟩
theorem DiskO.bd {w:World} {X:Nat→Prop} {base p:Nat} {K:Dk} (H:DiskO w base p X K):∀ g,X g→base≤g∧g < w.heap.size:=let ⟨_,H⟩:=H;H.bd
theorem DiskO.at_ {w:World} {X:Nat→Prop} {base p:Nat} {K:Dk} (H:DiskO w base p X K):X p:=let ⟨_,H⟩:=H;H.inX.1
theorem not_map {w:World} {b:Nat} {c:Array Value} {t:TypeId} {fr:Nat × Nat} {n:Nat} {D:DataW Unit} (h:w.heap[b]? = some (.cells c t fr)) {m:Nat} (k:NamesAt w m n D):m ≠ b:=by
 rintro rfl
 obtain ⟨es,clock,hb,_⟩:=k
 rw [h] at hb
 cases hb
theorem own_not_map {α:Type} {cells:α→List Value} {sz:Nat} {e:TypeId} {base:Nat} {w:World} {v:Value} {L:List α} (h:OwnL cells sz e base w v L) {m n:Nat} {D:DataW Unit} (k:NamesAt w m n D):v.ownBlock ≠ some m:=by
 intro hv
 obtain ⟨_,h1⟩:=h
 rcases h1 with ⟨rfl,_⟩ | ⟨g,cap,cur,rfl,h2,h3,h4⟩
 ·cases hv
 ·cases hv
  exact not_map h3 k rfl
theorem own_ne_box {α:Type} {cells:α→List Value} {sz:Nat} {e:TypeId} {base:Nat} {w:World} {v:Value} {L:List α} (h:OwnL cells sz e base w v L) {b:Nat} {c:Array Value} {t:TypeId} {fr:Nat × Nat} (k:w.heap[b]? = some (.cells c t fr)) (ht:e ≠ t):v.ownBlock ≠ some b:=by
 intro hv
 obtain ⟨_,h1⟩:=h
 rcases h1 with ⟨rfl,_⟩ | ⟨g,cap,cur,rfl,h2,h3,h4⟩
 ·cases hv
 ·cases hv
  rw [k] at h3
  cases h3
  exact ht rfl
theorem own_ne_own {α β:Type} {cells:α→List Value} {cells':β→List Value} {sz sz':Nat} {e e':TypeId} {base base':Nat} {w:World} {v v':Value} {L:List α} {L':List β} (h:OwnL cells sz e base w v L) (k:OwnL cells' sz' e' base' w v' L') (ht:e ≠ e') {g:Nat} (hg:v.ownBlock=some g):v'.ownBlock ≠ some g:=by
 intro hv
 obtain ⟨_,h1⟩:=h
 rcases h1 with ⟨rfl,_⟩ | ⟨g1,cap,cur,rfl,h2,h3,h4⟩
 ·cases hg
 ·cases hg
  exact own_ne_box k h3 (fun e=>ht e.symm) hv
theorem box_ne {w:World} {b b':Nat} {c c':Array Value} {t t':TypeId} {fr fr':Nat × Nat} (h:w.heap[b]? = some (.cells c t fr)) (k:w.heap[b']? = some (.cells c' t' fr')) (ht:t ≠ t'):b ≠ b':=by
 rintro rfl
 rw [h] at k
 injection k with k
 injection k with _ k
 exact ht k
theorem DiskV.boxed {w w':World} {X:Nat→Prop} {base p:Nat} {K K':Dk} {h h':Dh} (H:DiskV w base p X K h) (k:Sets (fun g=>g=p) w w') (hbox:w'.heap[p]? = some (.cells (dkL K' h').toArray 70 (0,0)))
 (e1:K'.Z=K.Z) (e2:K'.D=K.D) (e3:h'.vf=h.vf) (e4:h'.vt=h.vt) (e5:h'.bn=h.bn) (e6:h'.bl=h.bl) (e8:h'.DL=h.DL) (e9:h'.T=h.T) (e10:K'.tn=K.tn) (e11:K'.calm=K.calm) (hs:0≤K'.stop∧K'.stop≤9223372036854775807) (hq:0≤K'.q∧K'.q≤9223372036854775807):DiskV w' base p X K' h' where
 box:=hbox
 low:=H.low
 names:=by rw [e5,e2];exact H.names.sets k (not_map H.box H.names)
 lasted:=by rw [e6,e8];exact H.lasted.sets k (not_map H.box H.lasted)
 two:=by rw [e5,e6];exact H.two
 files:=by rw [e3,e1];exact H.files.sets k (fun g hg e=>own_ne_box H.files H.box (by decide) (e ▸ hg))
 turns:=by rw [e4,e9];exact H.turns.sets k (fun g hg e=>own_ne_box H.turns H.box (by decide) (e ▸ hg))
 each:=by
  rw [e1]
  intro z hz
  refine (H.each z hz).sets k (fun e=>?_) (fun g hg e=>own_ne_box (H.each z hz).own H.box (by decide) (e ▸ hg))
  exact box_ne (H.each z hz).box H.box (by decide) e
 far:=by
  obtain ⟨q,Z,D,dd,st,tn,cm⟩:=K'
  dsimp only at e1
  subst e1
  exact H.far
 inX:=by rw [e1,e3,e4,e5,e6];exact H.inX
 bd:=fun g hg=>⟨(H.bd g hg).1,Nat.lt_of_lt_of_le (H.bd g hg).2 k.size⟩
 few:=by rw [e1,e9,e10];exact H.few
 led:=by rw [e1,e2];exact H.led
 stop0:=hs
 quota:=hq
 calm_:=by rw [e11,e8,e9,e2];exact H.calm_
theorem DiskV.facts {w:World} {X:Nat→Prop} {base p:Nat} {K:Dk} {h:Dh} (H:DiskV w base p X K h):p < w.heap.size∧(w.cell? ⟨p,0,none⟩=some (.int .i64 K.q)∧w.cell? ⟨p,1,none⟩=some h.vf∧w.cell? ⟨p,2,none⟩=some (.map (some h.bn))∧w.cell? ⟨p,3,none⟩=some (.map (some h.bl))∧w.cell? ⟨p,4,none⟩=some h.vt∧w.cell? ⟨p,5,none⟩=some (.int .i64 h.calls)∧w.cell? ⟨p,6,none⟩=some (.bool K.dead)∧w.cell? ⟨p,7,none⟩=some (.int .i64 K.stop)∧w.cell? ⟨p,8,none⟩=some (.int .i64 0))∧∀ o,w.frozen? ⟨p,o,none⟩=false :=
 ⟨(Array.getElem?_eq_some_iff.1 H.box).1,⟨(cell_of_row w p 0 _ _ _ H.box).trans rfl,(cell_of_row w p 1 _ _ _ H.box).trans rfl,(cell_of_row w p 2 _ _ _ H.box).trans rfl,(cell_of_row w p 3 _ _ _ H.box).trans rfl,(cell_of_row w p 4 _ _ _ H.box).trans rfl,(cell_of_row w p 5 _ _ _ H.box).trans rfl,(cell_of_row w p 6 _ _ _ H.box).trans rfl,(cell_of_row w p 7 _ _ _ H.box).trans rfl,(cell_of_row w p 8 _ _ _ H.box).trans rfl⟩,fun o=>by simp [World.frozen?,H.box]⟩
theorem dk_set {w:World} {p:Nat} {l:List Value} (o:Nat) (v:Value) (H:w.heap[p]? = some (.cells l.toArray 70 (0,0))):(w.setCell ⟨p,o,none⟩ v).heap[p]? = some (.cells (l.set o v).toArray 70 (0,0)):=by
 simp [World.setCell,Array.getElem?_modify,H]
def Xw (X:Nat→Prop) (w w':World) (g:Nat):Prop:=X g ∨ (w.heap.size≤g∧g < w'.heap.size)
theorem own_lt {α:Type} {cells:α→List Value} {sz:Nat} {e:TypeId} {base:Nat} {w:World} {v:Value} {L:List α} (h:OwnL cells sz e base w v L):∀ g,v.ownBlock=some g→base≤g∧g < w.heap.size:=OwnL.lt h
theorem DiskV.filed {w w':World} {X:Nat→Prop} {base p:Nat} {K:Dk} {h:Dh} (H:DiskV w base p X K h) {i:Nat} (hi:i < K.Z.length) {z:Fz} (hg:z.g=(K.Z[i]'hi).g) (hz:FzAt w' base z) (hv:∀ g,z.v.ownBlock=some g→(K.Z[i]'hi).v.ownBlock=some g ∨ w.heap.size≤g)
 (k:Sets (fun g=>g=(K.Z[i]'hi).g ∨ (K.Z[i]'hi).v.ownBlock=some g) w w'):DiskV w' base p (Xw X w w') { K with Z:=K.Z.set i z } h where
 box:=by
  refine (k.block p (H.bd p H.inX.1).2 ?_).trans H.box
  rintro (e | e)
  ·exact box_ne H.box (H.each _ (List.getElem_mem hi)).box (by decide) e
  ·exact own_ne_box (H.each _ (List.getElem_mem hi)).own H.box (by decide) e
 low:=H.low
 names:=H.names.sets k (by
  rintro (e | e)
  ·exact not_map (H.each _ (List.getElem_mem hi)).box H.names e
  ·exact own_not_map (H.each _ (List.getElem_mem hi)).own H.names e)
 lasted:=H.lasted.sets k (by
  rintro (e | e)
  ·exact not_map (H.each _ (List.getElem_mem hi)).box H.lasted e
  ·exact own_not_map (H.each _ (List.getElem_mem hi)).own H.lasted e)
 two:=H.two
 files:=by
  have e1:(K.Z.set i z).map Fz.g=K.Z.map Fz.g:=by
   rw [List.map_set,hg]
   apply List.ext_getElem
   ·simp
   ·intro n h1 h2
    rw [List.getElem_set]
    split
    ·rename_i e;subst e;simp
    ·rfl
  show OwnL (one1 ptv) 1 172 base w' h.vf ((K.Z.set i z).map Fz.g)
  rw [e1]
  refine H.files.sets k (fun g hf e=>?_)
  rcases e with e | e
  ·exact own_ne_box H.files (H.each _ (List.getElem_mem hi)).box (by decide) (e ▸ hf)
  ·exact own_ne_own H.files (H.each _ (List.getElem_mem hi)).own (by decide) hf e
 turns:=H.turns.sets k (fun g hf e=>by
  rcases e with e | e
  ·exact own_ne_box H.turns (H.each _ (List.getElem_mem hi)).box (by decide) (e ▸ hf)
  ·exact own_ne_own H.turns (H.each _ (List.getElem_mem hi)).own (by decide) hf e)
 each:=by
  intro y hy
  obtain ⟨j,hj,rfl⟩:=List.getElem_of_mem hy
  rw [List.getElem_set]
  split
  ·exact hz
  ·rename_i hne
   have hj':j < K.Z.length:=by simpa using hj
   have hf:=H.far i j hi hj' hne
   refine (H.each _ (List.getElem_mem hj')).sets k (fun e=>?_) (fun g hgv e=>?_)
   ·rcases e with e | e
    ·exact hf.1 e.symm
    ·exact own_ne_box (H.each _ (List.getElem_mem hi)).own (H.each _ (List.getElem_mem hj')).box (by decide) e
   ·rcases e with e | e
    ·exact own_ne_box (H.each _ (List.getElem_mem hj')).own (H.each _ (List.getElem_mem hi)).box (by decide) (e ▸ hgv)
    ·exact hf.2 g e hgv
 far:=by
  have old:∀ j (hj:j < K.Z.length),i ≠ j→FzFar z (K.Z[j]'hj)∧FzFar (K.Z[j]'hj) z:=by
   intro j hj hne
   have h1:=H.far i j hi hj hne
   have hlt:=own_lt (H.each _ (List.getElem_mem hj)).own
   refine ⟨⟨by rw [hg];exact h1.1,fun g e1 e2=>?_⟩,⟨by rw [hg];exact fun e=>h1.1 e.symm,fun g e2 e1=>?_⟩⟩
   ·rcases hv g e1 with e3 | e3
    ·exact h1.2 g e3 e2
    ·have:=hlt g e2;omega
   ·rcases hv g e1 with e3 | e3
    ·exact h1.2 g e3 e2
    ·have:=hlt g e2;omega
  intro a b ha hb hne
  have ha':a < K.Z.length:=by simpa using ha
  have hb':b < K.Z.length:=by simpa using hb
  show FzFar ((K.Z.set i z)[a]'ha) ((K.Z.set i z)[b]'hb)
  rw [List.getElem_set,List.getElem_set]
  split
  ·rename_i e
   split
   ·rename_i e2;omega
   ·rename_i e2;exact (old b hb' e2).1
  ·rename_i e
   split
   ·exact (old a ha' e).2
   ·exact H.far a b ha' hb' hne
 inX:=by
  refine ⟨.inl H.inX.1,.inl H.inX.2.1,.inl H.inX.2.2.1,fun g hg=>.inl (H.inX.2.2.2.1 g hg),fun g hg=>.inl (H.inX.2.2.2.2.1 g hg),fun y hy=>?_⟩
  obtain ⟨j,hj,rfl⟩:=List.getElem_of_mem hy
  have hj':j < K.Z.length:=by simpa using hj
  rw [List.getElem_set]
  split
  ·refine ⟨.inl (by rw [hg];exact (H.inX.2.2.2.2.2 _ (List.getElem_mem hi)).1),fun g e=>?_⟩
   rcases hv g e with e2 | e2
   ·exact .inl ((H.inX.2.2.2.2.2 _ (List.getElem_mem hi)).2 g e2)
   ·exact .inr ⟨e2,(own_lt hz.own g e).2⟩
  ·exact ⟨.inl (H.inX.2.2.2.2.2 _ (List.getElem_mem hj')).1,fun g e=>.inl ((H.inX.2.2.2.2.2 _ (List.getElem_mem hj')).2 g e)⟩
 bd:=by
  have hs:=k.size
  have hb:base≤w.heap.size:=by have:=H.bd p H.inX.1;omega
  rintro g (e | e)
  ·have:=H.bd g e;omega
  ·omega
 few:=by
  show (K.Z.set i z).length≤1000∧_
  rw [List.length_set]
  exact H.few
 led:=by
  show Led K.D (K.Z.set i z).length
  rw [List.length_set]
  exact H.led
 stop0:=H.stop0
 quota:=H.quota
 calm_:=H.calm_
end Go.Proofs.YtgmkckjedngkdaaGreatDoor
namespace Go.Proofs.YtgmkckjedngkdaaGreatDoor
open Go.ChangeShapes Go.WideShapes Go.ChangeAt Go.RowKit
def namedC (c:Nat):Bool:=(decide (97≤c) && decide (c≤122)) || (decide (48≤c) && decide (c≤57)) || decide (c=46)
def namedB (s:ByteArray):Bool:=decide (1≤s.size) && decide (s.size≤16) && s.data.toList.all (fun c=>namedC c.toNat)
theorem namedB_at {s:ByteArray} (h:namedB s=true):1≤s.size∧s.size≤16∧∀ k (hk:k < s.size),(97≤(s[k]'hk).toNat∧(s[k]'hk).toNat≤122) ∨ (48≤(s[k]'hk).toNat∧(s[k]'hk).toNat≤57) ∨ (s[k]'hk).toNat=46:=by
 unfold namedB at h
 rw [Bool.and_eq_true,Bool.and_eq_true,decide_eq_true_iff,decide_eq_true_iff,List.all_eq_true] at h
 refine ⟨h.1.1,h.1.2,fun k hk=>?_⟩
 have h2:=h.2 (s[k]'hk) (by
  have hs:s.data[k]'hk ∈ s.data.toList:=by
   rw [Array.mem_toList_iff];exact Array.getElem_mem hk
  exact hs)
 simp only [namedC,Bool.or_eq_true,Bool.and_eq_true,decide_eq_true_eq] at h2
 omega
theorem index_str {P:Program} {t:TypeId} (ht:P.underlying t=some .string) (s:ByteArray) (k:Nat) (hk:k < s.size) (w:World):(Instr.index t (.string s) (.int .i64 k)).run P w=.ok (.int .u8 (s[k]'hk).toNat) w:=by
 have h1:0≤(k:Int)∧(k:Int) < s.size:=by omega
 rw [run_index_string w t s .i64 k ht,dif_pos h1]
 rfl
set_option maxRecDepth 100000 in
set_option maxHeartbeats 800000 in
theorem named_yes (s:ByteArray) (w:World) (h:namedB s=true):Calls Tryz.prog 187 #[.string s] w fun e w'=>e=.returned (.bool true)∧w'=w:=by
 obtain ⟨h1,h2,h3⟩:=namedB_at h
 have i1:¬ (s.size:Int) < 1:=by omega
 have i2:¬ 16 < (s.size:Int):=by omega
 have H3:=hide h3
 clear h h3
 go_enter Tryz.func187,Tryz.ntmps187
 go_wp2_with fail
 go_loopw [15] (fun i wr=>∃ k:Nat,k≤s.size∧i=.int .i64 k∧wr=w) (fun i _=>s.size - (intOf i).toNat)
 case atStart=>exact ⟨0,by omega,rfl,rfl⟩
 case round =>
  obtain ⟨k,hk,rfl,rfl⟩:=hrel
  by_cases hlt:k < s.size
  ·have h4:=H3.out k hlt
   have hltI:(k:Int) < s.size:=by omega
   have hix:=index_str Tryz.underlying9 s k hlt wr
   generalize (s[k]'hlt).toNat=c at *
   have HI:=hide hix
   rcases h4 with ⟨h5,h6⟩ | ⟨h5,h6⟩ | h5
   ·have j1:¬ (c:Int) < 97:=by omega
    have j2:¬ 122 < (c:Int):=by omega
    go_wp2_with fail
    go_roundw
    case rel=>exact ⟨k+1,by omega,by go_num,trivial⟩
    case measure=>simp [intOf];omega
   ·have j1:(c:Int) < 97:=by omega
    have j2:¬ (c:Int) < 48:=by omega
    have j3:¬ 57 < (c:Int):=by omega
    go_wp2_with fail
    go_roundw
    case rel=>exact ⟨k+1,by omega,by go_num,trivial⟩
    case measure=>simp [intOf];omega
   ·subst h5
    go_wp2_with fail
    go_roundw
    case rel=>exact ⟨k+1,by omega,by go_num,trivial⟩
    case measure=>simp [intOf];omega
  ·have hltI:¬ (k:Int) < s.size:=by omega
   go_wp2_with fail
   go_ret
   exact ⟨rfl,rfl⟩
theorem iaddw_any (b o:Nat) (n y s:Int) (w:World) (h:w.cell? ⟨b,o,none⟩=some (.int .i64 n)) (hz:w.frozen? ⟨b,o,none⟩=false) (hs:IntKind.i64.wrap (n+y)=s) :
 Calls Tryz.prog 229 #[.pointer (some ⟨b,o,none⟩),.int .i64 y] w fun e w'=>e=.returned (.int .i64 s)∧w'=w.setCell ⟨b,o,none⟩ (.int .i64 s):=by
 have hadd:=run_call_add (P:=Tryz.prog) Tryz.func284 (by kernel_rfl) (by kernel_rfl) (by kernel_rfl) .i64 (by kernel_rfl) (y:=y) (s:=s) h hz (by simp [go_sem,← hs])
 clear hs
 go_enter Tryz.func229,Tryz.ntmps229
 go_wp2
 go_ret
 exact ⟨rfl,rfl⟩
theorem dead_any (p:Nat) (d:Bool) (w:World) (h:w.cell? ⟨p,6,none⟩=some (.bool d)):Calls Tryz.prog 56 #[ptv p] w fun e w'=>e=.returned (.bool d)∧w'=w:=by
 go_enter Tryz.func56,Tryz.ntmps56
 go_wp2
 go_ret
 exact ⟨rfl,rfl⟩
abbrev strv (s:ByteArray):Value:=.string s
def callE (K:Dk):Int:=if K.dead then 50 else 0
def callD (K:Dk):Dk:=if K.dead then K else if 0 < K.stop then { K with stop:=K.stop - 1,dead:=K.stop - 1 == 0 } else K
theorem callD_Z (K:Dk):(callD K).Z=K.Z:=by unfold callD;split <;> (try split) <;> rfl
theorem callD_D (K:Dk):(callD K).D=K.D:=by unfold callD;split <;> (try split) <;> rfl
theorem callD_q (K:Dk):(callD K).q=K.q:=by unfold callD;split <;> (try split) <;> rfl
set_option maxRecDepth 100000 in
set_option maxHeartbeats 1600000 in
theorem call_any {w:World} {base p:Nat} {X:Nat→Prop} {K:Dk} {h:Dh} (H:DiskV w base p X K h) (A:Option Addr) (c:Nat) (L:List ByteArray) (hL:ValsAt strv w A L) (hl:L.length≤1000) (hn:∀ s ∈ L,namedB s=true) :
 Calls Tryz.prog 191 #[ptv p,.slice A L.length c] w fun e w'=>e=.returned (.int .i64 (callE K))∧(∃ n,DiskV w' base p X (callD K) { h with calls:=n })∧Sets (fun g=>g=p) w w':=by
 obtain ⟨hp,⟨c0,c1,c2,c3,c4,c5,c6,c7,c8⟩,hz⟩:=H.facts
 obtain ⟨nc,hnc⟩:∃ nc,IntKind.i64.wrap (h.calls+1)=nc:=⟨_,rfl⟩
 have hbx:=dk_set 5 (.int .i64 nc) H.box
 have hS0:=sets1 w p 5 (.int .i64 nc)
 have hadd:=iaddw_any p 5 h.calls 1 nc w c5 (hz 5) hnc
 obtain ⟨w1,hw1⟩:∃ w1,w.setCell ⟨p,5,none⟩ (.int .i64 nc)=w1:=⟨_,rfl⟩
 rw [hw1] at hbx hS0 hadd
 have H1:DiskV w1 base p X K { h with calls:=nc }:=H.boxed hS0 hbx rfl rfl rfl rfl rfl rfl rfl rfl rfl rfl H.stop0 H.quota
 have HADD:=hide hadd
 have HS0:=hide hS0
 have HH:=hide H1
 have HBX:=hide hbx
 have HST:=hide H.stop0
 obtain ⟨_,⟨_,_,_,_,_,_,d6,d7,d8⟩,dz⟩:=H1.facts
 have HD:=hide (dead_any p K.dead w1 d6)
 have hp1:p < w1.heap.size:=Nat.lt_of_lt_of_le hp hS0.size
 have hnn:=hn
 clear hw1 hnc hadd
 have HN:=hide (fun k hk=>named_yes L[k] w (hnn _ (List.getElem_mem hk)))
 have hz7:=dz 7
 have hz6:=dz 6
 clear hbx hS0 H1 c0 c1 c2 c3 c4 c5 c6 c7 c8 hz hn hnn H dz
 go_enter Tryz.func191,Tryz.ntmps191
 go_wp2_with fail
 go_loopw [9] (fun i wr=>∃ k:Nat,k≤L.length∧i=.int .i64 k∧wr=w) (fun i _=>L.length - (intOf i).toNat)
 case atStart=>exact ⟨0,by omega,rfl,rfl⟩
 case round =>
  obtain ⟨k,hk,rfl,rfl⟩:=hrel
  by_cases hlt:k < L.length
  ·obtain ⟨b,off,rfl,hbb,d0⟩:=RowAt.one hL (Below.refl _ _) hlt
   have hltI:(k:Int) < L.length:=by omega
   have h1:=HN.out k hlt
   have HN1:=hide h1
   clear h1 HN
   generalize L[k]'hlt=s at *
   go_wp2_with ((with_reducible refine (HN1.out).mono ?_);rintro e w1 ⟨rfl,rfl⟩)
   go_roundw
   case rel=>exact ⟨k+1,by omega,by go_num,trivial⟩
   case measure=>simp [intOf];omega
  ·have hltI:¬ (k:Int) < (L.length:Int):=by omega
   clear HN
   cases hd:K.dead with
   | true =>
    rw [hd] at HD
    have HE:=hide (show callE K=50 by unfold callE;rw [hd];rfl)
    have HK:=hide (show callD K=K by unfold callD;rw [hd];rfl)
    clear hd
    go_wp2_with (first | ((with_reducible refine (HADD.out).mono ?_);rintro e w2 ⟨rfl,rfl⟩) | ((with_reducible refine (HD.out).mono ?_);rintro e w3 ⟨rfl,rfl⟩))
    go_ret
    exact ⟨by rw [HE.out];rfl,⟨nc,by rw [HK.out];exact HH.out⟩,HS0.out⟩
   | false =>
    rw [hd] at HD
    have HE:=hide (show callE K=0 by unfold callE;rw [hd];rfl)
    by_cases h0:0 < K.stop
    ·have hwe:wrap64 (K.stop - 1)=K.stop - 1:=by have:=HST.out;unfold wrap64;omega
     have HK:=hide (show callD K={ K with stop:=wrap64 (K.stop - 1),dead:=wrap64 (K.stop - 1) == 0 } by unfold callD;rw [hd,if_pos h0,hwe];rfl)
     have HS1:=hide (show 0≤wrap64 (K.stop - 1)∧wrap64 (K.stop - 1)≤9223372036854775807 by have:=HST.out;rw [hwe];omega)
     clear hd hwe
     go_wp2_with (first | ((with_reducible refine (HADD.out).mono ?_);rintro e w2 ⟨rfl,rfl⟩) | ((with_reducible refine (HD.out).mono ?_);rintro e w3 ⟨rfl,rfl⟩))
     go_ret
     have hb2:=dk_set 6 (.bool (wrap64 (K.stop - 1) == 0)) (dk_set 7 (.int .i64 (wrap64 (K.stop - 1))) HBX.out)
     have hS2:Sets (fun g=>g=p) w3 ((w3.setCell ⟨p,7,none⟩ (.int .i64 (wrap64 (K.stop - 1)))).setCell ⟨p,6,none⟩ (.bool (wrap64 (K.stop - 1) == 0))):=(sets1 w3 p 7 _).set (fun _=>rfl) _ _
     refine ⟨by rw [HE.out];rfl,⟨nc,?_⟩,HS0.out.trans hS2 (fun _ _ h=>h)⟩
     rw [HK.out]
     exact HH.out.boxed hS2 hb2 rfl rfl rfl rfl rfl rfl rfl rfl rfl rfl HS1.out HH.out.quota
    ·have HK:=hide (show callD K=K by unfold callD;rw [hd,if_neg h0];rfl)
     clear hd
     go_wp2_with (first | ((with_reducible refine (HADD.out).mono ?_);rintro e w2 ⟨rfl,rfl⟩) | ((with_reducible refine (HD.out).mono ?_);rintro e w3 ⟨rfl,rfl⟩))
     go_ret
     exact ⟨by rw [HE.out];rfl,⟨nc,by rw [HK.out];exact HH.out⟩,HS0.out⟩
abbrev nkey (s:ByteArray):Lit:=.string s.data.toList
def hitN (D:DataW Unit) (s:ByteArray) (i:Nat):Prop:=Maps.has D (nkey s)=true∧∀ z,D.atKey (nkey s) z=.lit (.int .i64 i)
def missN (D:DataW Unit) (s:ByteArray):Prop:=Maps.has D (nkey s)=false
theorem keyS:Maps.Keyed Tryz.prog 9:=Maps.string_keyed Tryz.underlying9
theorem zeroI (w:World):(zeroValue 3).run Tryz.prog w=.ok (.int .i64 0) w:=by kernel_rfl
theorem names_look {w:World} {b n:Nat} {D:DataW Unit} (h:NamesAt w b n D) {s:ByteArray} (hs:s.size≤maxLen) (i:Int) (x:Bool) (h1:Maps.has D (nkey s)=x) (h2:D.atKey (nkey s) (.lit (.int .i64 0))=.lit (.int .i64 i)) :
 (Instr.lookup 61 (.map (some b)) (.string s) true).run Tryz.prog w=.ok (.tuple #[.int .i64 i,.bool x]) w:=by
 obtain ⟨v,ps,hrun,hv⟩:=World.ownsMap.look_ok h keyS Tryz.underlying61 (zeroI w) (plainElem_int Tryz.underlying3 (by decide)) (Go.WideMaps.keyOf_string_mk Tryz.underlying9 hs)
 obtain ⟨c,rfl,hc,_⟩:=plainElem_int_inv Tryz.underlying3 hv
 rw [h2] at hc
 simp at hc
 rw [hrun,h1,hc.1]
theorem namedB_size {s:ByteArray} (h:namedB s=true):s.size≤maxLen:=by
 have:=(namedB_at h).2.1
 unfold maxLen
 omega
set_option maxRecDepth 100000 in
theorem find_hit_D {w:World} {base p:Nat} {X:Nat→Prop} {K:Dk} {h:Dh} (H:DiskV w base p X K h) (s:ByteArray) (hs:s.size≤maxLen) (i:Nat) (hi:i < K.Z.length) (hh:hitN K.D s i) :
 Calls Tryz.prog 188 #[ptv p,.string s] w fun e w'=>e=.returned (ptv (K.Z[i]'hi).g)∧w'=w:=by
 obtain ⟨hp,⟨_,c1,c2,_⟩,_⟩:=H.facts
 have hlk:=names_look H.names hs i true hh.1 (hh.2 _)
 obtain ⟨A,cc,hv,hr,_⟩:=OwnL.row (cells:=one1 ptv) (sz:=1) (fun _=>rfl) H.files
 rw [List.length_map] at hv
 rw [hv] at c1
 obtain ⟨b,off,rfl,hb,d0⟩:=RowAt.one hr (Below.refl _ _) (k:=i) (by simpa using hi)
 rw [List.getElem_map] at d0
 have hiI:(i:Int) < K.Z.length:=by omega
 clear H hh hv hr
 generalize (K.Z[i]'hi).g=g at *
 go_enter Tryz.func188,Tryz.ntmps188
 go_wp2_with fail
 go_ret
 exact ⟨rfl,rfl⟩
set_option maxRecDepth 100000 in
theorem find_miss_D {w:World} {base p:Nat} {X:Nat→Prop} {K:Dk} {h:Dh} (H:DiskV w base p X K h) (s:ByteArray) (hs:s.size≤maxLen) (hh:missN K.D s) :
 Calls Tryz.prog 188 #[ptv p,.string s] w fun e w'=>e=.returned (.pointer none)∧w'=w:=by
 obtain ⟨hp,⟨_,c1,c2,_⟩,_⟩:=H.facts
 have hlk:=names_look H.names hs 0 false hh (Maps.atKey_of_not_has hh _)
 clear H hh
 go_enter Tryz.func188,Tryz.ntmps188
 go_wp2_with fail
 go_ret
 exact ⟨rfl,rfl⟩
end Go.Proofs.YtgmkckjedngkdaaGreatDoor
namespace Go.Proofs.YtgmkckjedngkdaaGreatDoor
open Go.ChangeShapes Go.WideShapes Go.ChangeAt Go.RowKit
theorem wpList_next_si {H:Type} {P:Program} (w:World) {ops:Array Oper} {rest:List Oper} {o:Oper} {a:Act} {Q:Exit→Act→World→Prop} (hg:o.guard=none) (it:Operand) (hop:o.op=Op.next it false) (k e:TypeId) (qe:IntKind) (K:Maps.Keyed P k) (hk:P.underlying k=some .string) (he:P.underlying e=some (.int qe))
 (b r n:Nat) (D:DataW H) (left:Lit→Bool) (cnt:Nat) (hit:a.eval it=.pointer (some ⟨r,0,none⟩)) (h:w.ranges P k (plainElem P e) b r n D left cnt)
 (hDone:cnt=0→(∀ kl,left kl=false)→wpList P ops Q rest (a.put o.dst (.tuple #[.bool false])) w)
 (hMore:∀ (x:ByteArray) (c:Int) (w':World) (cnt':Nat),(∀ zd,D.atKey (.string x.data.toList) zd=.lit (.int qe c))→w'.ranges P k (plainElem P e) b r n D (fun z=>left z && !z.sameKey (.string x.data.toList)) cnt'→cnt' < cnt →
  w.grownBy w' (some r)→w'.heap.size=w.heap.size→(Instr.entry (.pointer (some ⟨r,0,none⟩))).run P w'=.ok (.tuple #[.string x,.int qe c]) w'→wpList P ops Q rest (a.put o.dst (.tuple #[.bool true,.string x,.int qe c])) w') :
 wpList P ops Q (o :: rest) a w :=
 wpList_next_ranges w hg it hop k K (plainElem P e) Value.string (Value.int qe) (fun key kl hkey=>by obtain ⟨x,rfl,_⟩:=Go.WideMaps.string_of_keyOf hk hkey;exact ⟨x,rfl⟩) (fun v y hv=>by obtain ⟨c,rfl,_⟩:=plainElem_int_inv he hv;exact ⟨c,rfl⟩)
  b r n D left cnt hit h hDone (fun x c kl y w' cnt' hkey hlk hv hat hrg hlt hgr hsz hen=>by
   obtain ⟨x',ex,rfl,_⟩:=Go.WideMaps.string_of_keyOf hk hkey
   cases ex
   obtain ⟨c',ec,rfl,_⟩:=plainElem_int_inv he hv
   cases ec
   exact hMore x c w' cnt' hat hrg hlt hgr hsz hen)
theorem DiskV.file {w:World} {base p:Nat} {X:Nat→Prop} {K:Dk} {h:Dh} (H:DiskV w base p X K h) {i:Nat} (hi:i < K.Z.length) :
 ∃ A c,(K.Z[i]'hi).v=.slice A (K.Z[i]'hi).L.length c∧ValsAt u8v w A (K.Z[i]'hi).L∧(K.Z[i]'hi).g < w.heap.size∧w.cell? ⟨(K.Z[i]'hi).g,0,none⟩=some (.slice A (K.Z[i]'hi).L.length c)∧w.cell? ⟨(K.Z[i]'hi).g,1,none⟩=some (.int .i64 (K.Z[i]'hi).last)∧(∀ o,w.frozen? ⟨(K.Z[i]'hi).g,o,none⟩=false):=by
 have hz:=H.each _ (List.getElem_mem hi)
 obtain ⟨A,c,hv,hr,_⟩:=OwnL.row (cells:=one1 u8v) (sz:=1) (fun _=>rfl) hz.own
 refine ⟨A,c,hv,hr,(Array.getElem?_eq_some_iff.1 hz.box).1,?_,(cell_of_row w _ 1 _ _ _ hz.box).trans rfl,fun o=>by simp [World.frozen?,hz.box]⟩
 rw [← hv]
 exact (cell_of_row w _ 0 _ _ _ hz.box).trans rfl
theorem DiskV.row {w:World} {base p:Nat} {X:Nat→Prop} {K:Dk} {h:Dh} (H:DiskV w base p X K h):∃ A c,h.vf=.slice A K.Z.length c∧ValsAt ptv w A (K.Z.map Fz.g):=by
 obtain ⟨A,c,hv,hr,_⟩:=OwnL.row (cells:=one1 ptv) (sz:=1) (fun _=>rfl) H.files
 rw [List.length_map] at hv
 exact ⟨A,c,hv,hr⟩
set_option maxRecDepth 100000 in
set_option maxHeartbeats 1600000 in
theorem used_any {w:World} {base p:Nat} {X:Nat→Prop} {K:Dk} {h:Dh} (H:DiskV w base p X K h) (M:Nat) (hM:∀ z ∈ K.Z,z.L.length≤M) (hb:Maps.size K.D * M≤1099511627776) :
 Calls Tryz.prog 283 #[ptv p] w fun e w'=>∃ u:Nat,e=.returned (.int .i64 u)∧u≤Maps.size K.D * M∧Below w.heap.size w w':=by
 obtain ⟨hp,⟨_,c1,c2,_⟩,_⟩:=H.facts
 have HN:=hide H.names
 have HH:=hide H
 have HM:=hide hM
 have HBD:=hide hb
 clear H hM hb
 go_enter Tryz.func283,Tryz.ntmps283
 go_wp2_with (first
  | (at_range;refine wpList_range_own _ rfl _ 61 rfl 9 3 keyS Tryz.underlying61 _ h.bn (Maps.size K.D) _ rfl HN.out ?_;intro w0 hrg0 hg0 hs0)
  | go_in)
 go_frame
 have hb0:Below w.heap.size w w0:=(Below.refl _ w).grown hg0 (Nat.le_refl _) (fun j hj=>by cases hj)
 go_loopw [3,5] (fun n _ wr=>∃ (left:Lit→Bool) (cnt u:Nat),n=.int .i64 u∧wr.ranges Tryz.prog 9 (plainElem Tryz.prog 3) h.bn w.heap.size (Maps.size K.D) K.D left cnt∧cnt≤Maps.size K.D∧u≤(Maps.size K.D - cnt) * M∧Below w.heap.size w wr)
  (fun _ _ wr=>wr.rangeLeft h.bn w.heap.size)
 case atStart=>exact ⟨_,_,0,rfl,hrg0,Nat.le_refl _,by simp,hb0⟩
 case round =>
  clear hrg0 hg0 hs0 hb0 w0
  obtain ⟨left,cnt,u,rfl,hrg,hcs,hu,hnx⟩:=hrel
  go_wp2_with (first
   | (at_next;refine wpList_next_si _ rfl _ rfl 9 3 .i64 keyS Tryz.underlying9 Tryz.underlying3 h.bn w.heap.size (Maps.size K.D) _ _ _ rfl hrg ?_ ?_)
   | go_in)
  ·intro hc0 hl0
   subst hc0
   go_wp2
   go_ret
   exact ⟨u,rfl,by simpa using hu,hnx⟩
  ·intro x c w1 cnt1 hat hrg1 hlt hg1 hs1 hen
   obtain ⟨i,hi,hy⟩:=HH.out.led _ _ hat
   obtain rfl:c=i:=by injection hy with hy;injection hy
   have hnx1:=hnx.grown hg1 hnx.size (fun j hj=>by cases hj;exact Nat.le_refl _)
   have H1:=HH.out.below hnx1
   obtain ⟨A,cc,hv,hr⟩:=H1.row
   obtain ⟨hp1,⟨_,c1,_⟩,_⟩:=H1.facts
   rw [hv] at c1
   obtain ⟨b,off,rfl,hbb,d0⟩:=RowAt.one hr (Below.refl _ _) (k:=i) (by simpa using hi)
   rw [List.getElem_map] at d0
   obtain ⟨A2,c2,_,_,hg2,d1,_⟩:=H1.file hi
   have hml:=HM.out _ (List.getElem_mem hi)
   have hiI:(i:Int) < K.Z.length:=by omega
   have HU:Hid (u+(K.Z[i]'hi).L.length≤(Maps.size K.D - cnt1) * M∧u+(K.Z[i]'hi).L.length≤1099511627776):=hide (by
    have h2:(Maps.size K.D - cnt+1) * M≤(Maps.size K.D - cnt1) * M:=Nat.mul_le_mul_right _ (by omega)
    have h3:(Maps.size K.D - cnt1) * M≤Maps.size K.D * M:=Nat.mul_le_mul_right _ (by omega)
    have h4:=HBD.out
    rw [Nat.succ_mul] at h2
    omega)
   clear H1 hv hr hml
   generalize (K.Z[i]'hi).L.length=l at *
   generalize (K.Z[i]'hi).g=g at *
   have hwr:wrap64 ((u:Int)+l)=((u+l:Nat):Int):=by have:=HU.out.2;unfold wrap64;omega
   go_wp2_with fail
   go_roundw
   case rel=>exact ⟨_,cnt1,u+l,by rw [hwr],hrg1,by omega,HU.out.1,hnx1⟩
   case measure=>rw [hrg1.left_eq,hrg.left_eq];exact hlt
end Go.Proofs.YtgmkckjedngkdaaGreatDoor
namespace Go.Proofs.YtgmkckjedngkdaaGreatDoor
open Go.ChangeShapes Go.WideShapes Go.ChangeAt Go.RowKit
theorem wpList_append_valsM {P:Program} {α:Type} {val:α→Value} {ops:Array Oper} {rest:List Oper} {o:Oper} {a:Act} {w:World} {Q:Exit→Act→World→Prop} (hgd:o.guard=none) (s x:Operand) (t e:TypeId) (z:Value) (bytes:Nat)
 (ho:o.op=.call { callee:=.builtin .append,args:=#[s,x],argTypes:=#[t,t] })
 (ht:P.underlying t=some (.slice e)) (hinf:(P.info? e).map (fun i=>(i.zero,i.size,i.bytes))=some (some z,1,bytes)) (hzs:z.cells.size=1) (h1:∀ a,(val a).oneCell'=true) (hby:bytes≤16)
 (base:Nat) (v:Value) (L:List α) (hs:a.eval s=v) (hown:OwnL (one1 val) 1 e base w v L) (A:Option Addr) (c:Nat) (M:List α) (hx:a.eval x=.slice A M.length c) (hr:ValsAt val w A M) (hn:L.length+M.length≤2199023255552) (hbase:base≤w.heap.size)
 (h:∀ v' w',OwnL (one1 val) 1 e base w' v' (L ++ M)→w.grownBy w' v.ownBlock→(v'.ownBlock=v.ownBlock ∨ v'.ownBlock=some w.heap.size)→wpList P ops Q rest (a.put o.dst v') w'):wpList P ops Q (o :: rest) a w:=by
 refine wpList_plain hgd fun K hK=>?_
 obtain ⟨v',w',hrun,h2,h3,h4⟩:=run_append_vals (P:=P) w base t o.type e z bytes ht hinf hzs h1 hby v L hown A c M hr hn hbase
 unfold Oper.wp execOp
 simp only [ho,resolve,invoke,builtin,Sem.run_bind,Sem.run_pure,Result.andThen_ok,List.map_toArray,List.map_cons,List.map_nil,hs,hx,hrun]
 exact hK _ _ (h v' w' h2 h3 h4)
theorem sets_grown {w w':World} {row:Option Nat} (h:w.grownBy w' row):Sets (fun c=>row=some c) w w':=⟨h.os,h.tape,h.output,h.size,fun i hi hs=>h.block i hi (fun e=>hs e.symm)⟩
theorem Xw.bd {w w':World} {X:Nat→Prop} {base:Nat} (h:∀ g,X g→base≤g∧g < w.heap.size) (hb:base≤w.heap.size) (hs:w.heap.size≤w'.heap.size):∀ g,Xw X w w' g→base≤g∧g < w'.heap.size:=by
 rintro g (e | e)
 ·have:=h g e;omega
 ·omega
theorem Xw.more {w w1 w':World} {X:Nat→Prop} (h1:w.heap.size≤w1.heap.size):∀ g,Xw X w1 w' g→Xw X w w' g:=by
 rintro g (e | e)
 ·exact .inl e
 ·exact .inr (by omega)
theorem DiskV.base_le {w:World} {base p:Nat} {X:Nat→Prop} {K:Dk} {h:Dh} (H:DiskV w base p X K h):base≤w.heap.size:=by have:=H.bd p H.inX.1;omega
def AppTo (K:Dk) (i:Nat) (z:Fz) (B:List Int) (M:Nat) (ee:Int) (K':Dk):Prop :=
 (ee ≠ 0∧K'=callD K∧(K.dead=true ∨ 250000 < z.L.length+B.length ∨ K.q < ((Maps.size K.D * M+B.length:Nat):Int))) ∨
 (ee=0∧K.dead=false∧z.L.length+B.length≤250000∧∃ v,K'={ callD K with Z:=K.Z.set i { z with v:=v,L:=z.L ++ B } })
theorem name_row {w:World} {s:ByteArray}:ValsAt strv (w.alloc (.cells #[.string s] 9)) (some ⟨w.heap.size,0,none⟩) [s]:=RowAt.new_one (cells:=one1 strv) (y:=s) (heap_alloc_new w (.cells #[.string s] 9))
theorem call_one {w:World} {base p:Nat} {X:Nat→Prop} {K:Dk} {h:Dh} (H:DiskV w base p X K h) {s:ByteArray} (hs:namedB s=true) :
 Calls Tryz.prog 191 #[ptv p,.slice (some ⟨w.heap.size,0,none⟩) 1 1] (w.alloc (.cells #[.string s] 9)) fun e w'=>e=.returned (.int .i64 (callE K))∧(∃ n,DiskV w' base p X (callD K) { h with calls:=n })∧Sets (fun g=>g=p) w w':=by
 have hb:=below_alloc (Below.refl w.heap.size w) (.cells #[.string s] 9)
 refine (call_any (H.below hb) (some ⟨w.heap.size,0,none⟩) 1 [s] name_row (by simp) (by simpa using hs)).mono ?_
 rintro e w' ⟨rfl,h1,h2⟩
 exact ⟨rfl,h1,(Sets.of (S:=fun g=>g=p) hb).trans h2 (fun _ _ h=>h)⟩
set_option maxRecDepth 100000 in
set_option maxHeartbeats 3200000 in
theorem append_v {w:World} {base p:Nat} {X:Nat→Prop} {K:Dk} {h:Dh} (H:DiskV w base p X K h) {s:ByteArray} (hs:namedB s=true) {i:Nat} (hh:hitN K.D s i) {z:Fz} (hz:K.Z[i]? = some z) (A:Option Addr) (c:Nat) (B:List Int) (hB:ValsAt u8v w A B) (hAX:∀ a,A=some a→B ≠ []→a.block ≠ p) (hBl:B.length≤9223372036854775807)
 (M:Nat) (hM:∀ z ∈ K.Z,z.L.length≤M) (hMs:Maps.size K.D * M≤1099511627776) :
 Calls Tryz.prog 228 #[ptv p,.string s,.slice A B.length c] w fun e w'=>∃ ee K',e=.returned (.int .i64 ee)∧AppTo K i z B M ee K'∧DiskO w' base p (Xw X w w') K'∧Sets X w w':=by
 have HCL:=hide (call_one H hs)
 have hXp:∀ g,g=p→X g:=fun g e=>e ▸ H.inX.1
 cases hd:K.dead with
 | true =>
  have hE:callE K=50:=by unfold callE;rw [hd];rfl
  rw [hE] at HCL
  have HR:Hid (∀ K',K'=callD K→AppTo K i z B M 50 K'):=hide (fun K' e=>.inl ⟨by decide,e,.inl hd⟩)
  have HX:=hide hXp
  have HBD:=hide (fun (W:World) (hs:w.heap.size≤W.heap.size)=>Xw.bd H.bd H.base_le hs)
  clear H hB hAX hM hMs hd hE hXp hh hz
  go_enter Tryz.func228,Tryz.ntmps228
  go_wp2_with ((with_reducible refine (HCL.out).mono ?_);rintro e w1 ⟨rfl,⟨n,h1⟩,hS⟩)
  go_ret
  exact ⟨50,_,rfl,HR.out _ rfl,⟨_,h1.wide (fun g e=>.inl e) (HBD.out _ hS.size)⟩,⟨hS.os,hS.tape,hS.output,hS.size,fun b hb hn=>hS.block b hb (fun e=>hn (HX.out b e))⟩⟩
 | false =>
  have hE:callE K=0:=by unfold callE;rw [hd];rfl
  rw [hE] at HCL
  have HD:=hide hd
  have HB:=hide hB
  have HAX:=hide hAX
  have HH:=hide hh
  have HZ:=hide hz
  have HM:=hide hM
  have HMS:=hide hMs
  have HX:=hide hXp
  have HBD:=hide (fun (W:World) (hs:w.heap.size≤W.heap.size)=>Xw.bd H.bd H.base_le hs)
  have HBL:=hide H.base_le
  clear H hB hAX hM hMs hd hE hXp hh hz
  go_enter Tryz.func228,Tryz.ntmps228
  go_upto_region 2 with ((with_reducible refine (HCL.out).mono ?_);rintro e w1 ⟨rfl,⟨n,h1⟩,hS⟩)
  have HS:=hide hS
  have HB1:Hid (ValsAt u8v w1 A B):=hide (HB.out.sets hS (fun a ha hn e=>HAX.out a ha hn e))
  have hiL:i < (callD K).Z.length:=by rw [callD_Z];exact (List.getElem?_eq_some_iff.1 HZ.out).1
  have hze:(callD K).Z[i]'hiL=z:=by
   have e1:=callD_Z K
   have e2:=HZ.out
   rw [← e1] at e2
   exact (List.getElem?_eq_some_iff.1 e2).2
  have HF:=hide (find_hit_D h1 s (namedB_size hs) i hiL (by rw [callD_D];exact HH.out))
  rw [hze] at HF
  have HH1:=hide h1
  have HSZ:=hide hS.size
  obtain ⟨Az,cz,hv,_,hg,f0,f1,ff⟩:=h1.file hiL
  rw [hze] at hv hg f0 f1 ff
  have HV:=hide hv
  have HZE:=hide hze
  have hzl:z.L.length≤250000:=by have:=(h1.each _ (List.getElem_mem hiL)).few;rwa [hze] at this
  obtain ⟨hp1,⟨c0,_⟩,_⟩:=h1.facts
  rw [callD_q] at c0
  have hq:=h1.quota
  rw [callD_q] at hq
  clear h1 hS hv hze
  have hSX:Hid (Sets X w w1):=hide ⟨HS.out.os,HS.out.tape,HS.out.output,HS.out.size,fun b hb hn=>HS.out.block b hb (fun e=>hn (HX.out b e))⟩
  by_cases hlong:B.length≤250000∧z.L.length+B.length≤250000
  case neg =>
   have HR:Hid (AppTo K i z B M 2 (callD K)):=hide (.inl ⟨by decide,rfl,.inr (.inl (by omega))⟩)
   by_cases hb:250000 < (B.length:Int)
   ·clear hlong
    go_wp2_with ((with_reducible refine (HF.out).mono ?_);rintro e w2 ⟨rfl,rfl⟩)
    go_ret
    exact ⟨2,_,rfl,HR.out,⟨_,HH1.out.wide (fun g e=>.inl e) (HBD.out _ HSZ.out)⟩,hSX.out⟩
   ·have hlt:(250000:Int) - B.length < z.L.length:=by omega
    have hw1:wrap64 (250000 - (B.length:Int))=250000 - (B.length:Int):=by unfold wrap64;omega
    clear hlong
    go_wp2_with ((with_reducible refine (HF.out).mono ?_);rintro e w2 ⟨rfl,rfl⟩)
    go_ret
    exact ⟨2,_,rfl,HR.out,⟨_,HH1.out.wide (fun g e=>.inl e) (HBD.out _ HSZ.out)⟩,hSX.out⟩
  case pos =>
   obtain ⟨hl1,hl2⟩:=hlong
   have hb:¬ 250000 < (B.length:Int):=by omega
   have hlt:¬ (250000:Int) - B.length < z.L.length:=by omega
   have hw1:wrap64 (250000 - (B.length:Int))=250000 - (B.length:Int):=by unfold wrap64;omega
   have hw2:wrap64 (K.q - (B.length:Int))=K.q - (B.length:Int):=by unfold wrap64;omega
   have hw3:IntKind.i64.wrap (K.q - (B.length:Int))=K.q - (B.length:Int):=by simp only [IntKind.wrap,IntKind.bits,IntKind.signed];simp;omega
   have HL:=hide hl2
   have HQ:=hide hq
   clear hl1 hl2 hzl hq
   have HU0:=used_any HH1.out M (by rw [callD_Z];exact HM.out) (by rw [callD_D];exact HMS.out)
   go_upto_region 9 with ((with_reducible refine (HF.out).mono ?_);rintro e w2 ⟨rfl,rfl⟩)
   have HU:Hid (Calls Tryz.prog 283 #[ptv p] w2.drew fun e w'=>∃ u:Nat,e=.returned (.int .i64 u)∧u≤Maps.size K.D * M∧Below w2.drew.heap.size w2.drew w'):=hide (by
    have:=used_any (HH1.out.below (Below.refl _ _).drew) M (by rw [callD_Z];exact HM.out) (by rw [callD_D];exact HMS.out)
    rw [callD_D] at this
    exact this)
   have HC:Hid (∀ W,Below w2.drew.heap.size w2.drew W→W.cell? ⟨p,0,none⟩=some (.int .i64 K.q)):=hide (fun W hW=>(hW.cell (p:=⟨p,0,none⟩) hp1).trans c0)
   clear HU0
   refine j_start [] (by kernel_rfl) ?_
   refine' j_t 0 [] rfl (by kernel_rfl) rfl ?y0 ?r0
   case y0=>(intro w' hw';go_simp;try with_reducible rfl)
   try go_frame
   refine' j_t 2 [] rfl (by kernel_rfl) rfl ?y2 ?r2
   case y2=>(intro w' hw';go_simp;try with_reducible rfl)
   try go_frame
   refine' j_t 3 [] rfl (by kernel_rfl) rfl ?y3 ?r3
   case y3=>(intro w' hw';go_simp;try with_reducible rfl)
   try go_frame
   refine' j_t 4 [] rfl (by kernel_rfl) rfl ?y4 ?r4
   case y4=>(intro w' hw';go_simp;try with_reducible rfl)
   try go_frame
   refine' j_t 5 [] rfl (by kernel_rfl) rfl ?y5 ?r5
   case y5=>(intro w' hw';have h0:=HC.out _ hw';go_simp;try with_reducible rfl)
   try go_frame
   refine' j_t 6 [] rfl (by kernel_rfl) rfl ?y6 ?r6
   case y6=>(intro w' hw';go_simp;try with_reducible rfl)
   try go_frame
   refine' j_t 7 [] rfl (by kernel_rfl) rfl ?y7 ?r7
   case y7=>(intro w' hw';go_simp;try with_reducible rfl)
   try go_frame
   refine' j_t 8 [] rfl (by kernel_rfl) rfl ?y8 ?r8
   case y8=>(intro w' hw';go_simp;try with_reducible rfl)
   try go_frame
   refine' j_s 1 (by kernel_rfl) rfl (fun K hK=>?s1)
   go_simp
   refine (Calls.mono (HU.out) ?_);rintro e u1 ⟨u,rfl,hu,gg⟩
   have HGG:=hide gg
   have HUU:=hide hu
   clear hu
   refine hK.out _ _ gg (j_switch gg ?_)
   clear hK K gg
   try go_frame
   refine' j_t 9 [] rfl (by kernel_rfl) rfl ?y9 ?r9
   case y9=>(intro w' hw';go_simp;try with_reducible rfl)
   try go_frame
   refine' j_t 10 [] rfl (by kernel_rfl) rfl ?y10 ?r10
   case y10=>(intro w' hw';go_simp;try with_reducible rfl)
   try go_frame
   refine wpAnyJ_done (by kernel_rfl) ?_ _
   refine NoPanic.normal ?_
   have hW:Below w2.heap.size w2 u1:=below_step (Below.refl _ w2).drew HGG.out
   have H2:=HH1.out.below hW
   have hS2:Hid (Sets X w u1):=hide (hSX.out.trans (Sets.of (S:=X) hW) (fun _ _ h=>h))
   have hsz2:=hS2.out.size
   have hiL2:=hiL
   clear HGG HU HC HCL
   by_cases hfull:K.q - (B.length:Int) < u
   ·have HR:Hid (AppTo K i z B M 15 (callD K)):=hide (.inl ⟨by decide,rfl,.inr (.inr (by have:=HUU.out;omega))⟩)
    have HFIN:=hide (H2.wide (fun g e=>.inl e) (HBD.out _ hsz2))
    clear H2 hW
    go_wp2_with fail
    go_ret
    exact ⟨15,_,rfl,HR.out,⟨_,HFIN.out⟩,hS2.out⟩
   ·have hzg:z.g < u1.heap.size:=Nat.lt_of_lt_of_le hg hW.size
    have g0:=(hW.cell (p:=⟨z.g,0,none⟩) hg).trans f0
    have g1:=(hW.cell (p:=⟨z.g,1,none⟩) hg).trans f1
    have gf:=fun o=>(hW.frozen (p:=⟨z.g,o,none⟩) hg).trans (ff o)
    have HFZ:Hid (FzAt u1 base z):=hide (by have:=H2.each _ (List.getElem_mem hiL);rwa [HZE.out] at this)
    have HBU:Hid (ValsAt u8v u1 A B):=hide (HB1.out.below hW)
    have HH2:=hide H2
    have HOWN:Hid (OwnL (one1 u8v) 1 5 base u1 (.slice Az z.L.length cz) z.L):=hide (by rw [← HV.out];exact HFZ.out.own)
    have HBL2:Hid (base≤u1.heap.size):=hide (Nat.le_trans HBL.out hsz2)
    have hlb:=HL.out
    clear H2 hW f0 f1 ff
    go_wp2_with (at_builtin;refine wpList_append_valsM rfl (.tmp 52) (.tmp 53) 173 5 _ 1 rfl Tryz.underlying173 Tryz.infoU8t rfl (fun _=>rfl) (by omega) base _ z.L rfl HOWN.out A c B rfl HBU.out (by omega) HBL2.out ?_;intro v3 w3 ho3 hg3 hm3;have hne3:z.g ≠ u1.heap.size:=Nat.ne_of_lt hzg;have hnz:some z.g ≠ (Value.slice Az z.L.length cz).ownBlock:=(fun e=>own_ne_box HOWN.out HFZ.out.box (by decide) e.symm);have hb3:=(hg3.block z.g hzg hnz).trans HFZ.out.box;have q0:w3.cell? ⟨z.g,0,none⟩=some (.slice Az z.L.length cz):=(by rw [← HV.out];exact (cell_of_row w3 z.g 0 _ _ _ hb3).trans rfl);obtain ⟨A3,c3,rfl,_⟩:=OwnL.row (cells:=one1 u8v) (sz:=1) (fun _=>rfl) ho3;obtain ⟨n3,hn3⟩:∃ n3,(z.L ++ B).length=n3:=⟨_,rfl⟩;rw [hn3] at ho3 hm3 ⊢;clear hn3;have qf:∀ o,w3.frozen? ⟨z.g,o,none⟩=false:=(fun o=>by simp [World.frozen?,hb3]);have qf0:=qf 0;have HO3:=hide ho3;have HG3:=hide hg3;have HM3:=hide hm3;have HB3:=hide hb3;clear ho3 hg3 hm3 hb3 qf hnz)
    go_ret
    obtain ⟨v3,hv3⟩:∃ v3,Value.slice A3 n3 c3=v3:=⟨_,rfl⟩
    rw [hv3] at HO3 HM3 ⊢
    have hS4:Sets (fun g=>g=z.g ∨ z.v.ownBlock=some g) u1 (w3.setCell ⟨z.g,0,none⟩ v3):=by
     have h1:=sets_grown HG3.out
     rw [← HV.out] at h1
     have h2:Sets (fun g=>g=z.g ∨ z.v.ownBlock=some g) u1 w3:=⟨h1.os,h1.tape,h1.output,h1.size,fun b hb hn=>h1.block b hb (fun e=>hn (.inr e))⟩
     exact h2.set (fun _=>.inl rfl) 0 v3
    have hnv:v3.ownBlock ≠ some z.g:=fun e=>own_ne_box HO3.out HB3.out (by decide) e
    have hF4:FzAt (w3.setCell ⟨z.g,0,none⟩ v3) base { z with v:=v3,L:=z.L ++ B } :=
     ⟨by simp [World.setCell,Array.getElem?_modify,HB3.out],OwnL.setFar HO3.out hnv v3,HFZ.out.low,by rw [List.length_append];exact HL.out,by rw [List.length_append];have:=HFZ.out.last;exact Nat.le_trans this (Nat.le_add_right _ _)⟩
    have hM4:∀ g,v3.ownBlock=some g→z.v.ownBlock=some g ∨ u1.heap.size≤g:=fun g e=>by
     rcases HM3.out with h | h
     ·rw [e] at h;left;rw [HV.out];exact h.symm
     ·rw [e] at h;injection h with h;right;omega
    have hF:=HH2.out.filed hiL (z:={ z with v:=v3,L:=z.L ++ B }) (w':=w3.setCell ⟨z.g,0,none⟩ v3) (by rw [HZE.out]) hF4 (by rw [HZE.out];exact hM4) (by rw [HZE.out];exact hS4)
    have hzX:∀ g,(g=z.g ∨ z.v.ownBlock=some g)→X g:=by
     have h1:=HH2.out.inX.2.2.2.2.2 _ (List.getElem_mem hiL)
     rw [HZE.out] at h1
     rintro g (e | e)
     ·exact e ▸ h1.1
     ·exact h1.2 g e
    have hS5:Sets X w (w3.setCell ⟨z.g,0,none⟩ v3):=hS2.out.trans hS4 (fun g _ e=>hzX g e)
    have hF6:=hF.wide (Y:=Xw X w (w3.setCell ⟨z.g,0,none⟩ v3)) (Xw.more hsz2) (HBD.out _ hS5.size)
    rw [callD_Z] at hF6
    exact ⟨0,rfl,_,.inr ⟨rfl,HD.out,HL.out,v3,rfl⟩,⟨_,hF6⟩,hS5⟩
end Go.Proofs.YtgmkckjedngkdaaGreatDoor
namespace Go.Proofs.YtgmkckjedngkdaaGreatDoor
open Go.ChangeShapes Go.WideShapes Go.ChangeAt Go.RowKit
def SyncTo (K:Dk) (i:Nat) (z:Fz) (ee:Int) (K':Dk):Prop :=
 (ee ≠ 0∧K'=callD K∧K.dead=true) ∨ (ee=0∧K.dead=false∧K'={ callD K with Z:=K.Z.set i { z with last:=z.L.length } })
set_option maxRecDepth 100000 in
set_option maxHeartbeats 1600000 in
theorem sync_v {w:World} {base p:Nat} {X:Nat→Prop} {K:Dk} {h:Dh} (H:DiskV w base p X K h) {s:ByteArray} (hs:namedB s=true) {i:Nat} (hh:hitN K.D s i) {z:Fz} (hz:K.Z[i]? = some z) :
 Calls Tryz.prog 193 #[ptv p,.string s] w fun e w'=>∃ ee K',e=.returned (.int .i64 ee)∧SyncTo K i z ee K'∧DiskO w' base p (Xw X w w') K'∧Sets X w w':=by
 have HCL:=hide (call_one H hs)
 have hXp:∀ g,g=p→X g:=fun g e=>e ▸ H.inX.1
 cases hd:K.dead with
 | true =>
  have hE:callE K=50:=by unfold callE;rw [hd];rfl
  rw [hE] at HCL
  have HR:Hid (∀ K',K'=callD K→SyncTo K i z 50 K'):=hide (fun K' e=>.inl ⟨by decide,e,hd⟩)
  have HX:=hide hXp
  have HBD:=hide (fun (W:World) (hs:w.heap.size≤W.heap.size)=>Xw.bd H.bd H.base_le hs)
  clear H hd hE hXp hh hz
  go_enter Tryz.func193,Tryz.ntmps193
  go_wp2_with ((with_reducible refine (HCL.out).mono ?_);rintro e w1 ⟨rfl,⟨n,h1⟩,hS⟩)
  go_ret
  exact ⟨50,_,rfl,HR.out _ rfl,⟨_,h1.wide (fun g e=>.inl e) (HBD.out _ hS.size)⟩,⟨hS.os,hS.tape,hS.output,hS.size,fun b hb hn=>hS.block b hb (fun e=>hn (HX.out b e))⟩⟩
 | false =>
  have hE:callE K=0:=by unfold callE;rw [hd];rfl
  rw [hE] at HCL
  have HD:=hide hd
  have HH:=hide hh
  have HZ:=hide hz
  have HX:=hide hXp
  have HBD:=hide (fun (W:World) (hs:w.heap.size≤W.heap.size)=>Xw.bd H.bd H.base_le hs)
  clear H hd hE hXp hh hz
  go_enter Tryz.func193,Tryz.ntmps193
  go_upto_region 2 with ((with_reducible refine (HCL.out).mono ?_);rintro e w1 ⟨rfl,⟨n,h1⟩,hS⟩)
  have HS:=hide hS
  have hiL:i < (callD K).Z.length:=by rw [callD_Z];exact (List.getElem?_eq_some_iff.1 HZ.out).1
  have hze:(callD K).Z[i]'hiL=z:=by
   have e1:=callD_Z K
   have e2:=HZ.out
   rw [← e1] at e2
   exact (List.getElem?_eq_some_iff.1 e2).2
  have HF:=hide (find_hit_D h1 s (namedB_size hs) i hiL (by rw [callD_D];exact HH.out))
  rw [hze] at HF
  have HH1:=hide h1
  have HSZ:=hide hS.size
  obtain ⟨Az,cz,hv,_,hg,f0,f1,ff⟩:=h1.file hiL
  rw [hze] at hv hg f0 f1 ff
  have ff1:=ff 1
  have HV:=hide hv
  have HZE:=hide hze
  have hFZ:Hid (FzAt w1 base z):=hide (by have:=h1.each _ (List.getElem_mem hiL);rwa [hze] at this)
  clear h1 hS hv hze ff
  have hSX:Hid (Sets X w w1):=hide ⟨HS.out.os,HS.out.tape,HS.out.output,HS.out.size,fun b hb hn=>HS.out.block b hb (fun e=>hn (HX.out b e))⟩
  go_wp2_with ((with_reducible refine (HF.out).mono ?_);rintro e w2 ⟨rfl,rfl⟩)
  go_ret
  have hnv:z.v.ownBlock ≠ some z.g:=fun e=>own_ne_box hFZ.out.own hFZ.out.box (by decide) e
  have hF4:FzAt (w2.setCell ⟨z.g,1,none⟩ (.int .i64 z.L.length)) base { z with last:=z.L.length } :=
   ⟨by simp [World.setCell,Array.getElem?_modify,hFZ.out.box],OwnL.setFar hFZ.out.own hnv _,hFZ.out.low,hFZ.out.few,Nat.le_refl _⟩
  have hS4:Sets (fun g=>g=z.g ∨ z.v.ownBlock=some g) w2 (w2.setCell ⟨z.g,1,none⟩ (.int .i64 z.L.length)):=(Sets.refl w2).set (fun _=>.inl rfl) 1 _
  have hF:=HH1.out.filed hiL (z:={ z with last:=z.L.length }) (w':=w2.setCell ⟨z.g,1,none⟩ (.int .i64 z.L.length)) (by rw [HZE.out]) hF4 (by rw [HZE.out];exact fun g e=>.inl e) (by rw [HZE.out];exact hS4)
  have hzX:∀ g,(g=z.g ∨ z.v.ownBlock=some g)→X g:=by
   have h1:=HH1.out.inX.2.2.2.2.2 _ (List.getElem_mem hiL)
   rw [HZE.out] at h1
   rintro g (e | e)
   ·exact e ▸ h1.1
   ·exact h1.2 g e
  have hS5:Sets X w (w2.setCell ⟨z.g,1,none⟩ (.int .i64 z.L.length)):=hSX.out.trans hS4 (fun g _ e=>hzX g e)
  have hF6:=hF.wide (Y:=Xw X w (w2.setCell ⟨z.g,1,none⟩ (.int .i64 z.L.length))) (Xw.more HSZ.out) (HBD.out _ hS5.size)
  rw [callD_Z] at hF6
  exact ⟨0,_,rfl,.inr ⟨rfl,HD.out,rfl⟩,⟨_,hF6⟩,hS5⟩
set_option maxRecDepth 100000 in
set_option maxHeartbeats 800000 in
theorem read_miss {w:World} {base p:Nat} {X:Nat→Prop} {K:Dk} {h:Dh} (H:DiskV w base p X K h) {s:ByteArray} (hs:namedB s=true) (hd:K.dead=false) (hh:missN K.D s) :
 Calls Tryz.prog 121 #[ptv p,.string s] w fun e w'=>e=.returned (.tuple #[.slice none 0 0,.int .i64 11])∧w'=w:=by
 obtain ⟨_,⟨_,_,_,_,_,_,c6,_⟩,_⟩:=H.facts
 have HD:=hide (dead_any p false w (by rw [← hd];exact c6))
 have HN:=hide (named_yes s w hs)
 have HF:=hide (find_miss_D H s (namedB_size hs) hh)
 clear H c6
 go_enter Tryz.func121,Tryz.ntmps121
 go_wp2_with (first | ((with_reducible refine (HN.out).mono ?_);rintro e w1 ⟨rfl,rfl⟩) | ((with_reducible refine (HD.out).mono ?_);rintro e w2 ⟨rfl,rfl⟩) | ((with_reducible refine (HF.out).mono ?_);rintro e w2 ⟨rfl,rfl⟩))
 go_returns
 exact ⟨rfl,rfl⟩
end Go.Proofs.YtgmkckjedngkdaaGreatDoor
