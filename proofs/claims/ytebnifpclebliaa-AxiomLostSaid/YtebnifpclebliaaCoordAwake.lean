/- What wakes layer 24's statements: a call that asks, and its messages. Conditions typed at each lemma. -/
import Derived.Test.YtebnifpclebliaaOwn
import Derived.StillTailTactics
import Derived.BigRegion
import Derived.Deep.DeepCutAuto
import Derived.Deep.CutBlock
namespace Go.Proofs.Ytebnifpclebliaa
set_option linter.unusedVariables false
set_option linter.unusedSimpArgs false
open Go.ChangeShapes Go.WideShapes Go.ChangeAt Go.RowKit

structure Ms where
  kind : Int
  from_ : Int
  dest : Int
  id : Int
  n : Int
  items : Value
def Ms.cells (m : Ms) : List Value := [.int .i64 m.kind, .int .i64 m.from_, .int .i64 m.dest, .int .u64 m.id, .int .u64 m.n, m.items]
def asks (at_ id s : Int) (k : Nat) : List Ms := (List.range k).map fun q : Nat => (⟨4, at_, (q : Int), id, s, .slice none 0 0⟩ : Ms)
theorem asks_len (at_ id s : Int) (k : Nat) : (asks at_ id s k).length = k := by simp [asks]
theorem asks_snoc (at_ id s : Int) (k : Nat) : asks at_ id s (k + 1) = asks at_ id s k ++ [⟨4, at_, k, id, s, .slice none 0 0⟩] := by simp [asks, List.range_succ]
/-- A call's cells that 'send' reads: a get, nobody counted. -/
structure GetAt (w : World) (b : Nat) (n at_ id s : Int) : Prop where
  lt : b < w.heap.size
  c0 : w.cell? ⟨b, 0, none⟩ = some (.int .i64 n)
  c1 : w.cell? ⟨b, 1, none⟩ = some (.int .i64 at_)
  c2 : w.cell? ⟨b, 2, none⟩ = some (.int .u64 id)
  c3 : w.cell? ⟨b, 3, none⟩ = some (.int .i64 3)
  c4 : w.cell? ⟨b, 4, none⟩ = some (.int .i64 s)
  cc : ∀ k : Nat, k < 7 → w.cell? ⟨b, 8 + k, none⟩ = some (.bool false)
theorem GetAt.below {w w' : World} {b : Nat} {n at_ id s : Int} (h : GetAt w b n at_ id s) (hb : Below w.heap.size w w') : GetAt w' b n at_ id s :=
  ⟨Nat.lt_of_lt_of_le h.lt hb.size, (hb.cell (p := ⟨b, _, none⟩) h.lt).trans h.c0, (hb.cell (p := ⟨b, _, none⟩) h.lt).trans h.c1, (hb.cell (p := ⟨b, _, none⟩) h.lt).trans h.c2, (hb.cell (p := ⟨b, _, none⟩) h.lt).trans h.c3,
   (hb.cell (p := ⟨b, _, none⟩) h.lt).trans h.c4, fun k hk => (hb.cell (p := ⟨b, _, none⟩) h.lt).trans (h.cc k hk)⟩

end Go.Proofs.Ytebnifpclebliaa
