/- A part of the proof that TopQuotaLaw holds: XZCol. Conditions: as typed. -/
import Derived.Test.YtgmkckjedngkdaaGreatDoorTq33
import Derived.Test.YtgmkckjedngkdaaGreatDoorTq34
import Derived.Test.YtgmkckjedngkdaaGreatDoorTq35
set_option linter.unusedVariables false
set_option linter.unusedSimpArgs false
namespace Go.Proofs.YtgmkckjedngkdaaGreatDoor
open Go.ChangeShapes Go.WideShapes Go.ChangeAt Go.RowKit
def cutW (w:World) (n:Nat):World:={ w with heap:=w.heap.extract 0 n }
theorem cutW_size {w:World} {n:Nat} (h:n≤w.heap.size):(cutW w n).heap.size=n:=by
 show (w.heap.extract 0 n).size=n
 rw [Array.size_extract];omega
theorem cutW_below {w:World} {n:Nat} (h:n≤w.heap.size):Below n (cutW w n) w :=
 ⟨rfl,rfl,rfl,by rw [cutW_size h];exact h,fun k hk=>by
   show w.heap[k]? = (w.heap.extract 0 n)[k]?
   rw [Array.getElem?_extract]
   rw [if_pos (by omega),Nat.zero_add]⟩
structure CoB (w:World) (base b:Nat) (X:Nat→Prop) (R:Co):Prop where
 row:∃ vg va,w.heap[b]? = some (.cells (coL R 0 vg va).toArray 190 (0,0))∧CoG w b X vg R.G∧CoA w b X vg va R.AL
 xb:X b
 xs:∀ g,X g→base≤g∧g < w.heap.size
theorem CoB.o {w:World} {base b:Nat} {X:Nat→Prop} {R:Co} (h:CoB w base b X R):CoO (cutW w base) w b X R:=by
 have hb:base≤w.heap.size:=by have:=h.xs b h.xb;omega
 exact ⟨h.row,by rw [cutW_size hb];exact cutW_below hb,h.xb,by rw [cutW_size hb];exact h.xs⟩
theorem CoO.b {w0 w:World} {base b:Nat} {X:Nat→Prop} {R:Co} (h:CoO w0 w b X R) (hb:base≤w0.heap.size):CoB w base b X R :=
 ⟨h.row,h.xb,fun g hg=>⟨Nat.le_trans hb (h.xs g hg).1,(h.xs g hg).2⟩⟩
theorem CoB.sets {w w':World} {S X:Nat→Prop} {base b:Nat} {R:Co} (h:CoB w base b X R) (k:Sets S w w') (hS:∀ g,X g→¬ S g):CoB w' base b X R:=by
 obtain ⟨vg,va,hb,h1,h2⟩:=h.row
 exact ⟨⟨vg,va,(k.block b (h.xs b h.xb).2 (hS b h.xb)).trans hb,h1.sets k (fun g hg _=>hS g hg),h2.sets k (fun g hg _=>hS g hg)⟩,h.xb,fun g hg=>⟨(h.xs g hg).1,Nat.lt_of_lt_of_le (h.xs g hg).2 k.size⟩⟩
theorem CoB.wide {w:World} {X Y:Nat→Prop} {base b:Nat} {R:Co} (h:CoB w base b X R) (hX:∀ g,X g→Y g) (hY:∀ g,Y g→base≤g∧g < w.heap.size):CoB w base b Y R:=by
 obtain ⟨vg,va,hb,h1,h2⟩:=h.row
 exact ⟨⟨vg,va,hb,h1.up hX,h2.up hX⟩,hX b h.xb,hY⟩
def colN (col:Nat→Nat) (lo hi j:Nat) (g:Nat):Nat:=if g < lo then col g else if g < hi then j else 0
def ColOk (w:World) (base:Nat) (col:Nat→Nat):Prop:=∀ g,col g ≠ 0→base≤g∧g < w.heap.size
section
variable {w w':World} {base lo hi j i:Nat} {col:Nat→Nat}
theorem ColOk.lt (h:ColOk w base col) {g:Nat} (e:col g=i) (hi:i ≠ 0):base≤g∧g < w.heap.size:=h g (by rw [e];exact hi)
theorem ColOk.next (h:ColOk w base col) (hb:base≤w.heap.size) (h1:w.heap.size≤w'.heap.size) (h2:hi≤w'.heap.size):ColOk w' base (colN col w.heap.size hi j):=fun g hg=>by
 unfold colN at hg
 by_cases a:g < w.heap.size
 · rw [if_pos a] at hg
   have:=h g hg
   omega
 · rw [if_neg a] at hg
   by_cases b:g < hi
   · omega
   · rw [if_neg b] at hg;exact absurd rfl hg
theorem colN_old {g:Nat} (h:g < lo):colN col lo hi j g=col g:=by unfold colN;rw [if_pos h]
theorem colN_other (h:ColOk w base col) (hi0:i ≠ 0) (hij:i ≠ j) (g:Nat):colN col w.heap.size hi j g=i ↔ col g=i:=by
 unfold colN
 by_cases a:g < w.heap.size
 · rw [if_pos a]
 · rw [if_neg a]
   refine ⟨fun e=>?_,fun e=>absurd (h.lt e hi0).2 a⟩
   by_cases b:g < hi
   · rw [if_pos b] at e;exact absurd e.symm hij
   · rw [if_neg b] at e;exact absurd e.symm hi0
theorem colN_self (h:ColOk w base col) (hj:j ≠ 0) (g:Nat):colN col w.heap.size hi j g=j ↔ col g=j ∨ (w.heap.size≤g∧g < hi):=by
 unfold colN
 by_cases a:g < w.heap.size
 · rw [if_pos a]
   exact ⟨.inl,fun e=>e.elim id (fun e=>by omega)⟩
 · rw [if_neg a]
   by_cases b:g < hi
   · rw [if_pos b];exact ⟨fun _=>.inr ⟨by omega,b⟩,fun _=>rfl⟩
   · rw [if_neg b]
     exact ⟨fun e=>absurd e.symm hj,fun e=>e.elim (fun e=>absurd (h.lt e hj).2 a) (fun e=>absurd e.2 b)⟩
end
end Go.Proofs.YtgmkckjedngkdaaGreatDoor
