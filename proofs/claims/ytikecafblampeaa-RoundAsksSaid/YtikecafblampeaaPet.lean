/- net.Net: New, Len, Lost, Sent, has, Take: contracts. Conditions: the net as it lies. -/
import Derived.Test.YtikecafblampeaaMDel
import Derived.BigQuiet
namespace Go.Proofs.Ytikecafblampeaa
set_option linter.unusedVariables false
set_option linter.unusedSimpArgs false
open Go.ChangeShapes Go.WideShapes Go.ChangeAt Go.RowKit
variable {Fr : Nat → Prop}

/-- What a message says. -/
def Mg.bare (m : Mg) : Mg := { m with A := none, c := 0 }
theorem bare_same (m : Mg) : Mg.same m m.bare := ⟨rfl, rfl, rfl, rfl, rfl, rfl⟩
theorem bare_eq {a b : Mg} (h : Mg.same a b) : a.bare = b.bare := by
  obtain ⟨h1, h2, h3, h4, h5, h6⟩ := h
  unfold Mg.bare
  rw [h1, h2, h3, h4, h5, h6]
/-- A net's block: how many it may hold, its messages, how many were lost, how many were sent. -/
def nwC (m : Int) (v : Value) (a b : Int) : Array Value := #[.int .i64 m, v, .int .i64 a, .int .i64 b]
theorem nw_box {w : World} {b : Nat} {v : Value} {m l s : Int} {t : TypeId} (h : w.heap[b]? = some (.cells (nwC m v l s) t (0, 0))) : b < w.heap.size ∧
    (w.cell? ⟨b, 0, none⟩ = some (.int .i64 m) ∧ w.cell? ⟨b, 1, none⟩ = some v ∧ w.cell? ⟨b, 2, none⟩ = some (.int .i64 l) ∧ w.cell? ⟨b, 3, none⟩ = some (.int .i64 s)) ∧ ∀ o, w.frozen? ⟨b, o, none⟩ = false :=
  ⟨(Array.getElem?_eq_some_iff.1 h).1, ⟨(cell_of_row w b 0 _ _ _ h).trans rfl, (cell_of_row w b 1 _ _ _ h).trans rfl, (cell_of_row w b 2 _ _ _ h).trans rfl, (cell_of_row w b 3 _ _ _ h).trans rfl⟩, fun o => by simp [World.frozen?, h]⟩
theorem nw_put1 {w : World} {b : Nat} {v : Value} {m l s : Int} {t : TypeId} (u : Value) (h : w.heap[b]? = some (.cells (nwC m v l s) t (0, 0))) : (w.setCell ⟨b, 1, none⟩ u).heap[b]? = some (.cells (nwC m u l s) t (0, 0)) := by
  simp [World.setCell, Array.getElem?_modify, h, nwC]
theorem nw_put2 {w : World} {b : Nat} {v : Value} {m l s : Int} {t : TypeId} (x : Int) (h : w.heap[b]? = some (.cells (nwC m v l s) t (0, 0))) : (w.setCell ⟨b, 2, none⟩ (.int .i64 x)).heap[b]? = some (.cells (nwC m v x s) t (0, 0)) := by
  simp [World.setCell, Array.getElem?_modify, h, nwC]
theorem nw_put3 {w : World} {b : Nat} {v : Value} {m l s : Int} {t : TypeId} (x : Int) (h : w.heap[b]? = some (.cells (nwC m v l s) t (0, 0))) : (w.setCell ⟨b, 3, none⟩ (.int .i64 x)).heap[b]? = some (.cells (nwC m v l x) t (0, 0)) := by
  simp [World.setCell, Array.getElem?_modify, h, nwC]
/-- The blocks that a net writes. -/
def NBlk (b : Nat) (rb : Option Nat) (c : Nat) : Prop := c = b ∨ rb = some c
/-- A row's block: the same one, or a new one. -/
def MovedB (w : World) (rb rb' : Option Nat) : Prop := rb' = rb ∨ ∃ g, w.heap.size ≤ g ∧ rb' = some g
def capN (n : Int) : Nat := (min (max n 1) 1000).toNat
/-- Whether there is an i-th of n. -/
def hasB (n : Nat) (i : Int) : Bool := decide (0 ≤ i) && decide (i < (n : Int))
end Go.Proofs.Ytikecafblampeaa
