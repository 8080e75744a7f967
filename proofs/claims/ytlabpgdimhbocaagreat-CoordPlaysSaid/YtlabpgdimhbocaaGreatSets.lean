/- Worlds in which all blocks but some stay as they were; what reads as before there. No program's function occurs here; no conditions but those typed in each lemma. -/
import Derived.Test.YtlabpgdimhbocaaGreatOwn
namespace Go.Proofs.YtlabpgdimhbocaaGreat
set_option linter.unusedVariables false
set_option linter.unusedSimpArgs false
open Go.ChangeShapes Go.WideShapes Go.ChangeAt Go.RowKit

/-- All blocks but some stay. -/
structure Sets (S : Nat → Prop) (w w' : World) : Prop where
  os : w'.os = w.os
  tape : w'.tape = w.tape
  output : w'.output = w.output
  size : w.heap.size ≤ w'.heap.size
  block : ∀ b, b < w.heap.size → ¬ S b → w'.heap[b]? = w.heap[b]?
theorem Sets.of {S : Nat → Prop} {w w' : World} (h : Below w.heap.size w w') : Sets S w w' := ⟨h.os, h.tape, h.output, h.size, fun b hb _ => h.block b hb⟩
theorem Sets.refl {S : Nat → Prop} (w : World) : Sets S w w := Sets.of (Below.refl _ _)
theorem Sets.trans {S T : Nat → Prop} {a b c : World} (h : Sets S a b) (k : Sets T b c) (ht : ∀ i, i < a.heap.size → T i → S i) : Sets S a c :=
  ⟨k.os.trans h.os, k.tape.trans h.tape, k.output.trans h.output, Nat.le_trans h.size k.size, fun i hi hs => (k.block i (Nat.lt_of_lt_of_le hi h.size) (fun t => hs (ht i hi t))).trans (h.block i hi hs)⟩
theorem Sets.set {S : Nat → Prop} {w w' : World} (h : Sets S w w') {g : Nat} (hg : g < w.heap.size → S g) (o : Nat) (u : Value) : Sets S w (w'.setCell ⟨g, o, none⟩ u) :=
  ⟨h.os, h.tape, h.output, by simpa using h.size, fun i hi hs => by
    have hne : i ≠ g := fun e => hs (e ▸ hg (e ▸ hi))
    exact (Below.heap_setCell w' ⟨g, o, none⟩ u i (fun e => hne (by simpa using e))).trans (h.block i hi hs)⟩
theorem Sets.drew {S : Nat → Prop} {w w' : World} (h : Sets S w w') : Sets S w w'.drew := ⟨h.os, h.tape, h.output, h.size, h.block⟩
theorem Sets.below {S : Nat → Prop} {B : Nat} {w0 w w' : World} (h : Below B w0 w) (k : Sets S w w') (hS : ∀ b, S b → B ≤ b) (hB : B ≤ w.heap.size) : Below B w0 w' :=
  ⟨k.os.trans h.os, k.tape.trans h.tape, k.output.trans h.output, Nat.le_trans h.size k.size, fun i hi => (k.block i (by omega) (fun s => by have := hS i s; omega)).trans (h.block i hi)⟩
theorem six_cells {w : World} {g : Nat} {v0 v1 v2 v3 v4 v5 : Value} {t : TypeId} {fr : Nat × Nat} (h : w.heap[g]? = some (.cells #[v0, v1, v2, v3, v4, v5] t fr)) :
    w.cell? ⟨g, 0, none⟩ = some v0 ∧ w.cell? ⟨g, 1, none⟩ = some v1 ∧ w.cell? ⟨g, 2, none⟩ = some v2 ∧ w.cell? ⟨g, 3, none⟩ = some v3 ∧ w.cell? ⟨g, 4, none⟩ = some v4 ∧ w.cell? ⟨g, 5, none⟩ = some v5 :=
  ⟨(cell_of_row w g 0 _ _ _ h).trans rfl, (cell_of_row w g 1 _ _ _ h).trans rfl, (cell_of_row w g 2 _ _ _ h).trans rfl, (cell_of_row w g 3 _ _ _ h).trans rfl, (cell_of_row w g 4 _ _ _ h).trans rfl, (cell_of_row w g 5 _ _ _ h).trans rfl⟩
theorem RowAt.sets {α : Type} {cells : α → List Value} {sz : Nat} {S : Nat → Prop} {w w' : World} {A : Option Addr} {L : List α} (h : RowAt cells sz w A L) (k : Sets S w w') (hS : ∀ a, A = some a → L ≠ [] → ¬ S a.block) : RowAt cells sz w' A L := fun hn => by
  obtain ⟨b, off, rfl, hlt, hc⟩ := h hn
  exact ⟨b, off, rfl, Nat.lt_of_lt_of_le hlt k.size, fun i hi j u hu => (World.cell?_of_block (k.block b hlt (hS _ rfl hn))).trans (hc i hi j u hu)⟩
theorem OwnL.sets {α : Type} {cells : α → List Value} {sz : Nat} {e : TypeId} {base : Nat} {S : Nat → Prop} {w w' : World} {v : Value} {L : List α} (h : OwnL cells sz e base w v L) (k : Sets S w w') (hS : ∀ g, v.ownBlock = some g → ¬ S g) : OwnL cells sz e base w' v L := by
  obtain ⟨h0, h1⟩ := h
  refine ⟨h0, ?_⟩
  rcases h1 with h1 | ⟨g, cap, cur, rfl, h2, h3, h4⟩
  · exact .inl h1
  · exact .inr ⟨g, cap, cur, rfl, h2, (k.block g (Array.getElem?_eq_some_iff.1 h3).1 (hS g rfl)).trans h3, h4⟩
theorem Sets.cell {S : Nat → Prop} {w w' : World} (h : Sets S w w') {b o : Nat} {v : Value} (hb : b < w.heap.size) (hS : ¬ S b) (hc : w.cell? ⟨b, o, none⟩ = some v) : w'.cell? ⟨b, o, none⟩ = some v := (World.cell?_of_block (h.block b hb hS)).trans hc
end Go.Proofs.YtlabpgdimhbocaaGreat
