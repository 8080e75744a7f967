/- A row of items appended to a slice of the call's own. No program's function occurs here. Conditions: the bounds typed. -/
import Derived.Test.YtlabpgdimhbocaaGreatOg
namespace Go.Proofs.YtlabpgdimhbocaaGreat
set_option linter.unusedVariables false
set_option linter.unusedSimpArgs false
open Go.ChangeShapes Go.WideShapes Go.ChangeAt Go.RowKit

theorem items_none {w : World} {M : List It} {A : Option Addr} (h : ItemsAt w A M) : A = none → M = [] := by
  intro e
  subst e
  cases M with
  | nil => rfl
  | cons a M => obtain ⟨b, off, e, _⟩ := h (by simp); cases e
theorem wpList_append_items {ops : Array Oper} {rest : List Oper} {o : Oper} {a : Act} {Q : Exit → Act → World → Prop} (hgd : o.guard = none) (s x : Operand)
    (ho : o.op = .call { callee := .builtin .append, args := #[s, x], argTypes := #[37, 37] })
    (B base : Nat) (w0 w : World) (v : Value) (L : List It) (A : Option Addr) (n c : Nat) (M : List It) (hs : a.eval s = v) (hx : a.eval x = .slice A n c) (hM : M.length = n) (hr : ItemsAt w A M)
    (hown : Ow base w v L) (hb : Below B w0 w) (hB : B ≤ base) (hbase : base ≤ w.heap.size) (hn : L.length + n ≤ 2199023255553)
    (h : ∀ v' w', Ow base w' v' (L ++ M) → Below B w0 w' → w.grownBy w' v.ownBlock → wpList Tryz.prog ops Q rest (a.put o.dst v') w') : wpList Tryz.prog ops Q (o :: rest) a w := by
  subst hM
  obtain ⟨i0, hi, hz0, hz1, hz2⟩ := info_parts Tryz.infoItem
  refine wpList_append_row w hgd s x 37 ho base 78 i0 _ 5 40 Tryz.underlying37 hi hz0 hz1 hz2 rfl (by omega) It.cells_len v L hs hown A c M hx hr (items_none hr) (fun m _ => It.cells_one m) (by simp only [maxLen]; omega) (by omega) hbase ?_
  intro v1 w1 h1 hg _
  exact h v1 w1 h1 (hb.grown hg (Nat.le_trans hB hbase) (fun k hk => Nat.le_trans hB (OwnL.lt hown k hk).1)) hg
end Go.Proofs.YtlabpgdimhbocaaGreat
