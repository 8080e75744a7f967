/- append at a step of a region that draws its order, of a part of a slice: items, ints. No program's function occurs here. Conditions: the bounds typed at each. -/
import Derived.Test.YthpbohheddkfiaaSl
import Derived.Test.YthpbohheddkfiaaOne
namespace Go.Proofs.Ythpbohheddkfiaa
set_option linter.unusedVariables false
set_option linter.unusedSimpArgs false
open Go.ChangeShapes Go.WideShapes Go.ChangeAt Go.RowKit

theorem Try.infoIntS : (Try.prog.info? 3).map (fun i => (i.zero, i.size, i.bytes)) = some (some (.int .i64 0), 1, 8) := by kernel_rfl
theorem none_row {α : Type} {cells : α → List Value} {sz : Nat} {w : World} {A : Option Addr} {M : List α} (hr : RowAt cells sz w A M) (hA : A = none) : M = [] := by
  rcases M with _ | ⟨m, M⟩
  · rfl
  · obtain ⟨b, off, e1, _⟩ := hr (by simp)
    rw [hA] at e1; cases e1
theorem step_app_items {ops : Array Oper} {o : Oper} {a : Act} {w : World} {K : Act → World → Prop} {Q : Exit → Act → World → Prop} {E : Prop} (hgd : o.guard = none) (s x : Operand)
    (ho : o.op = .call { callee := .builtin .append, args := #[s, x], argTypes := #[22, 22] })
    (base : Nat) (v : Value) (L : List It) (hs : a.eval s = v) (hown : Ow base w v L) (A : Option Addr) (c m : Nat) (M : List It) (hm : M.length = m) (hx : a.eval x = .slice A m c) (hr : ItemsAt w A M) (hn : L.length + M.length ≤ 2199023255552) (hbase : base ≤ w.heap.size)
    (h : ∀ v' w', Ow base w' v' (L ++ M) → w.grownBy w' v.ownBlock → K (a.put o.dst v') w') : if Region.wanted o (yielded ops a.tmps) = true then Oper.wp Try.prog o a w K Q else E := by
  subst hm
  have hw : Region.wanted o (yielded ops a.tmps) = true := by simp [Region.wanted, hgd]
  rw [if_pos hw]
  obtain ⟨i0, hi, hz0, hz1, hz2⟩ := info_parts Try.infoItem
  obtain ⟨v', w', hrun, h2, h3, _⟩ := run_append_row (P := Try.prog) w base 22 o.type 33 i0 _ 5 40 Try.underlying22 hi hz0 hz1 hz2 rfl (by omega) It.cells_len v L hown A c M hr (none_row hr) (fun m _ => It.cells_one m) (by simp only [maxLen]; omega) (by omega) hbase
  unfold Oper.wp execOp
  simp only [ho, resolve, invoke, builtin, Sem.run_bind, Sem.run_pure, Result.andThen_ok, List.map_toArray, List.map_cons, List.map_nil, hs, hx, hrun]
  exact h v' w' h2 h3
abbrev natv (n : Nat) : Value := .int .i64 n
theorem step_app_nats {ops : Array Oper} {o : Oper} {a : Act} {w : World} {K : Act → World → Prop} {Q : Exit → Act → World → Prop} {E : Prop} (hgd : o.guard = none) (s x : Operand)
    (ho : o.op = .call { callee := .builtin .append, args := #[s, x], argTypes := #[30, 30] })
    (base : Nat) (v : Value) (L : List Nat) (hs : a.eval s = v) (hown : OwnL (one1 natv) 1 3 base w v L) (A : Option Addr) (c m : Nat) (M : List Nat) (hm : M.length = m) (hx : a.eval x = .slice A m c) (hr : ValsAt natv w A M) (hn : L.length + M.length ≤ 2199023255552) (hbase : base ≤ w.heap.size)
    (h : ∀ v' w', OwnL (one1 natv) 1 3 base w' v' (L ++ M) → w.grownBy w' v.ownBlock → K (a.put o.dst v') w') : if Region.wanted o (yielded ops a.tmps) = true then Oper.wp Try.prog o a w K Q else E := by
  subst hm
  exact step_append_vals hgd s x 30 3 _ 8 ho Try.underlying30 Try.infoIntS rfl (fun _ => rfl) (by decide) base v L hs hown A c M hx hr hn hbase h
theorem step_app_items' {ops : Array Oper} {o : Oper} {a : Act} {w0 w : World} {K : Act → World → Prop} {Q : Exit → Act → World → Prop} {E : Prop} (hb : Below w0.heap.size w0 w) (hgd : o.guard = none) (s x : Operand)
    (ho : o.op = .call { callee := .builtin .append, args := #[s, x], argTypes := #[22, 22] })
    (v : Value) (L : List It) (hs : a.eval s = v) (hown : Ow w0.heap.size w v L) (A : Option Addr) (c m : Nat) (M : List It) (hm : M.length = m) (hx : a.eval x = .slice A m c) (hr : ItemsAt w A M) (hn : L.length + M.length ≤ 2199023255552)
    (h : ∀ v' w', Ow w0.heap.size w' v' (L ++ M) → Below w0.heap.size w0 w' → w.grownBy w' v.ownBlock → K (a.put o.dst v') w') : if Region.wanted o (yielded ops a.tmps) = true then Oper.wp Try.prog o a w K Q else E :=
  step_app_items hgd s x ho w0.heap.size v L hs hown A c m M hm hx hr hn hb.size fun v' w' h1 hg => h v' w' h1 (below_row hb hown hg hb.size) hg
theorem step_app_nats' {ops : Array Oper} {o : Oper} {a : Act} {w0 w : World} {K : Act → World → Prop} {Q : Exit → Act → World → Prop} {E : Prop} (hb : Below w0.heap.size w0 w) (hgd : o.guard = none) (s x : Operand)
    (ho : o.op = .call { callee := .builtin .append, args := #[s, x], argTypes := #[30, 30] })
    (v : Value) (L : List Nat) (hs : a.eval s = v) (hown : OwnL (one1 natv) 1 3 w0.heap.size w v L) (A : Option Addr) (c m : Nat) (M : List Nat) (hm : M.length = m) (hx : a.eval x = .slice A m c) (hr : ValsAt natv w A M) (hn : L.length + M.length ≤ 2199023255552)
    (h : ∀ v' w', OwnL (one1 natv) 1 3 w0.heap.size w' v' (L ++ M) → Below w0.heap.size w0 w' → w.grownBy w' v.ownBlock → K (a.put o.dst v') w') : if Region.wanted o (yielded ops a.tmps) = true then Oper.wp Try.prog o a w K Q else E :=
  step_app_nats hgd s x ho w0.heap.size v L hs hown A c m M hm hx hr hn hb.size fun v' w' h1 hg => h v' w' h1 (below_row hb hown hg hb.size) hg
theorem own_empty {α : Type} (cells : α → List Value) (sz : Nat) (e : TypeId) (base : Nat) (w : World) (hb : base ≤ w.heap.size) : OwnL cells sz e base (w.alloc (.cells #[] e)) (.slice (some ⟨w.heap.size, 0, none⟩) 0 0) ([] : List α) := by
  refine ⟨by simp, .inr ⟨w.heap.size, 0, #[], rfl, hb, heap_alloc_new w _, Nat.le_refl _, by simp [maxLen], by simp, by simp⟩⟩
theorem own_empty2 {α : Type} (cells : α → List Value) (sz : Nat) (e : TypeId) (base : Nat) (w : World) (o : Obj) (hb : base ≤ w.heap.size) : OwnL cells sz e base ((w.alloc o).alloc (.cells #[] e)) (.slice (some ⟨w.heap.size + 1, 0, none⟩) 0 0) ([] : List α) := by
  have h := own_empty cells sz e base (w.alloc o) (by simp; omega)
  have e1 : (w.alloc o).heap.size = w.heap.size + 1 := by simp
  rw [e1] at h
  exact h
end Go.Proofs.Ythpbohheddkfiaa
