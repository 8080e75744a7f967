/- A part of the proof that TopMajorityLaw holds: XZCol. Conditions: as typed. -/
import Derived.Test.YtgmkckjedngkdaaGreatDoorTm29
import Derived.Test.YtgmkckjedngkdaaGreatDoorTm30
import Derived.Test.YtgmkckjedngkdaaGreatDoorTm31
set_option linter.unusedVariables false
set_option linter.unusedSimpArgs false
namespace Go.Proofs.YtgmkckjedngkdaaGreatDoor
open Go.ChangeShapes Go.WideShapes Go.ChangeAt Go.RowKit
def cutW (w:World) (n:Nat):World:={ w with heap:=w.heap.extract 0 n }
theorem cutW_size {w:World} {n:Nat} (h:n≤w.heap.size):(cutW w n).heap.size=n:=by
 show (w.heap.extract 0 n).size=n
 rw [Array.size_extract];omega
theorem cutW_below {w:World} {n:Nat} (h:n≤w.heap.size):Below n (cutW w n) w :=
 ⟨rfl,rfl,rfl,by rw [cutW_size h];exact h,fun k hk=>by
  show w.heap[k]? = (w.heap.extract 0 n)[k]?
  rw [Array.getElem?_extract]
  rw [if_pos (by omega),Nat.zero_add]⟩
structure CoB (w:World) (base b:Nat) (X:Nat→Prop) (R:Co):Prop where
 row:∃ vg va,w.heap[b]? = some (.cells (coL R 0 vg va).toArray 190 (0,0))∧CoG w b X vg R.G∧CoA w b X vg va R.AL
 xb:X b
 xs:∀ g,X g→base≤g∧g < w.heap.size
theorem CoB.o {w:World} {base b:Nat} {X:Nat→Prop} {R:Co} (h:CoB w base b X R):CoO (cutW w base) w b X R:=by
 have hb:base≤w.heap.size:=by have:=h.xs b h.xb;omega
 exact ⟨h.row,by rw [cutW_size hb];exact cutW_below hb,h.xb,by rw [cutW_size hb];exact h.xs⟩
theorem CoO.b {w0 w:World} {base b:Nat} {X:Nat→Prop} {R:Co} (h:CoO w0 w b X R) (hb:base≤w0.heap.size):CoB w base b X R :=
 ⟨h.row,h.xb,fun g hg=>⟨Nat.le_trans hb (h.xs g hg).1,(h.xs g hg).2⟩⟩
theorem CoB.sets {w w':World} {S X:Nat→Prop} {base b:Nat} {R:Co} (h:CoB w base b X R) (k:Sets S w w') (hS:∀ g,X g→¬ S g):CoB w' base b X R:=by
 obtain ⟨vg,va,hb,h1,h2⟩:=h.row
 exact ⟨⟨vg,va,(k.block b (h.xs b h.xb).2 (hS b h.xb)).trans hb,h1.sets k (fun g hg _=>hS g hg),h2.sets k (fun g hg _=>hS g hg)⟩,h.xb,fun g hg=>⟨(h.xs g hg).1,Nat.lt_of_lt_of_le (h.xs g hg).2 k.size⟩⟩
theorem CoB.wide {w:World} {X Y:Nat→Prop} {base b:Nat} {R:Co} (h:CoB w base b X R) (hX:∀ g,X g→Y g) (hY:∀ g,Y g→base≤g∧g < w.heap.size):CoB w base b Y R:=by
 obtain ⟨vg,va,hb,h1,h2⟩:=h.row
 exact ⟨⟨vg,va,hb,h1.up hX,h2.up hX⟩,hX b h.xb,hY⟩
def colN (col:Nat→Nat) (lo hi j:Nat) (g:Nat):Nat:=if g < lo then col g else if g < hi then j else 0
structure Bs where
 n:Nat
 K:Nat→Prop
instance:Coe Bs Nat:=⟨Bs.n⟩
abbrev bs0 (w:World):Bs:=⟨w.heap.size,fun _=>False⟩
def Bs.le (b:Bs) (w:World):Prop:=b.n≤w.heap.size∧∀ g,b.K g→g < w.heap.size
structure Bek (b:Bs) (w w':World):Prop where
 low:Below b.n w w'
 keep:∀ g,b.K g→g < w.heap.size→w'.heap[g]? = w.heap[g]?
theorem Bs.le.up {b:Bs} {w w':World} (h:b.le w) (hs:w.heap.size≤w'.heap.size):b.le w':=⟨Nat.le_trans h.1 hs,fun g hg=>Nat.lt_of_lt_of_le (h.2 g hg) hs⟩
theorem Bek.refl (b:Bs) (w:World):Bek b w w:=⟨Below.refl _ _,fun _ _ _=>rfl⟩
theorem Bek.trans {b:Bs} {w w1 w2:World} (h1:Bek b w w1) (h2:Bek b w1 w2):Bek b w w2:=⟨h1.low.trans h2.low,fun g hg hl=>(h2.keep g hg (Nat.lt_of_lt_of_le hl h1.low.size)).trans (h1.keep g hg hl)⟩
theorem Bek.size {b:Bs} {w w':World} (h:Bek b w w'):w.heap.size≤w'.heap.size:=h.low.size
theorem bekOf {b:Bs} {w w':World} (h:Below w.heap.size w w') (hb:b.le w):Bek b w w':=⟨h.mono hb.1,fun g _ hl=>h.block g hl⟩
theorem Sets.bek {S:Nat→Prop} {b:Bs} {w0 w w':World} (hb:Bek b w0 w) (k:Sets S w w') (hS:∀ g,S g→b.n≤g∧¬ b.K g) (hbl:b.le w):Bek b w0 w' :=
 ⟨Sets.below hb.low k (fun g hg=>(hS g hg).1) hbl.1,fun g hg hl=>(k.block g (Nat.lt_of_lt_of_le hl hb.low.size) (fun e=>(hS g e).2 hg)).trans (hb.keep g hg hl)⟩
def ColOk (w:World) (base:Bs) (col:Nat→Nat):Prop:=∀ g,col g ≠ 0→(base.n≤g∧¬ base.K g)∧g < w.heap.size
section
variable {w w':World} {base:Bs} {lo hi j i:Nat} {col:Nat→Nat}
theorem ColOk.lt (h:ColOk w base col) {g:Nat} (e:col g=i) (hi:i ≠ 0):base.n≤g∧g < w.heap.size:=⟨(h g (by rw [e];exact hi)).1.1,(h g (by rw [e];exact hi)).2⟩
theorem ColOk.next (h:ColOk w base col) (hb:base.le w) (h1:w.heap.size≤w'.heap.size) (h2:hi≤w'.heap.size):ColOk w' base (colN col w.heap.size hi j):=fun g hg=>by
 unfold colN at hg
 by_cases a:g < w.heap.size
 ·rw [if_pos a] at hg
  have:=h g hg
  exact ⟨this.1,Nat.lt_of_lt_of_le this.2 h1⟩
 ·rw [if_neg a] at hg
  by_cases b:g < hi
  ·exact ⟨⟨Nat.le_trans hb.1 (by omega),fun e=>a (hb.2 g e)⟩,Nat.lt_of_lt_of_le b h2⟩
  ·rw [if_neg b] at hg;exact absurd rfl hg
theorem colN_old {g:Nat} (h:g < lo):colN col lo hi j g=col g:=by unfold colN;rw [if_pos h]
theorem colN_other (h:ColOk w base col) (hi0:i ≠ 0) (hij:i ≠ j) (g:Nat):colN col w.heap.size hi j g=i ↔ col g=i:=by
 unfold colN
 by_cases a:g < w.heap.size
 ·rw [if_pos a]
 ·rw [if_neg a]
  refine ⟨fun e=>?_,fun e=>absurd (h.lt e hi0).2 a⟩
  by_cases b:g < hi
  ·rw [if_pos b] at e;exact absurd e.symm hij
  ·rw [if_neg b] at e;exact absurd e.symm hi0
theorem colN_self (h:ColOk w base col) (hj:j ≠ 0) (g:Nat):colN col w.heap.size hi j g=j ↔ col g=j ∨ (w.heap.size≤g∧g < hi):=by
 unfold colN
 by_cases a:g < w.heap.size
 ·rw [if_pos a]
  exact ⟨.inl,fun e=>e.elim id (fun e=>by omega)⟩
 ·rw [if_neg a]
  by_cases b:g < hi
  ·rw [if_pos b];exact ⟨fun _=>.inr ⟨by omega,b⟩,fun _=>rfl⟩
  ·rw [if_neg b]
   exact ⟨fun e=>absurd e.symm hj,fun e=>e.elim (fun e=>absurd (h.lt e hj).2 a) (fun e=>absurd e.2 b)⟩
end
end Go.Proofs.YtgmkckjedngkdaaGreatDoor
