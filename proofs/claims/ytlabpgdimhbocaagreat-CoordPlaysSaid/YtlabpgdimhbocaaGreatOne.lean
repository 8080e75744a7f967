/- Slices of one-cell elements (numbers), as lists: one more appended to a slice of the call's own. No program's function occurs here. Conditions: the bounds typed at each lemma. -/
import Derived.Test.YtlabpgdimhbocaaGreatOwn
import Derived.Deep.DeepCutAuto
import Derived.Deep.CutBlock
import Derived.BigRegion
namespace Go.Proofs.YtlabpgdimhbocaaGreat
set_option linter.unusedVariables false
set_option linter.unusedSimpArgs false
open Go.ChangeShapes Go.WideShapes Go.ChangeAt Go.RowKit

abbrev one1 {α : Type} (val : α → Value) : α → List Value := fun a => [val a]
/-- A slice of one-cell elements that reads as the list. -/
abbrev ValsAt {α : Type} (val : α → Value) (w : World) (A : Option Addr) (L : List α) : Prop := RowAt (one1 val) 1 w A L
abbrev u8v (b : Int) : Value := .int .u8 b
abbrev i64v (b : Int) : Value := .int .i64 b
abbrev u64v (b : Int) : Value := .int .u64 b

theorem wpList_append_one {P : Program} {α : Type} {val : α → Value} {ops : Array Oper} {rest : List Oper} {o : Oper} {a : Act} {Q : Exit → Act → World → Prop} (hgd : o.guard = none) (s x : Operand) (t e : TypeId) (z : Value) (bytes : Nat)
    (ho : o.op = .call { callee := .builtin .append, args := #[s, x], argTypes := #[t, t] })
    (ht : P.underlying t = some (.slice e)) (hinf : (P.info? e).map (fun i => (i.zero, i.size, i.bytes)) = some (some z, 1, bytes)) (hzs : z.cells.size = 1) (h1 : ∀ a, (val a).oneCell' = true) (hby : bytes ≤ 16)
    (B base : Nat) (w0 w W : World) (v : Value) (L : List α) (y : α) (hs : a.eval s = v) (hx : a.eval x = .slice (some ⟨w.heap.size, 0, none⟩) 1 1) (hW : W = w.alloc (.cells #[val y] e))
    (hown : OwnL (one1 val) 1 e base w v L) (hb : Below B w0 w) (hB : B ≤ base) (hbase : base ≤ w.heap.size) (hn : L.length ≤ 2199023255552)
    (h : ∀ v' w', OwnL (one1 val) 1 e base w' v' (L ++ [y]) → Below B w0 w' → w.grownBy w' v.ownBlock → wpList P ops Q rest (a.put o.dst v') w') : wpList P ops Q (o :: rest) a W := by
  subst hW
  obtain ⟨i0, hi, hz0, hz1, hz2⟩ := info_parts hinf
  have hbb : (L.length + 1) * bytes ≤ 140737488355328 := by
    have : (L.length + 1) * bytes ≤ (L.length + 1) * 16 := Nat.mul_le_mul_left _ hby
    omega
  refine wpList_append_row (w.alloc _) hgd s x t ho base e i0 _ 1 bytes ht hi hz0 hz1 hz2 hzs (by omega) (fun _ => rfl) v L hs (OwnL.alloc hown _) (some ⟨w.heap.size, 0, none⟩) 1 [y] hx (RowAt.new_one (t := e) (fr := (0, 0)) (heap_alloc_new w _)) (by simp) (fun m _ u hu => by simp only [List.mem_singleton] at hu; subst hu; exact h1 m) (by simp only [List.length_singleton, maxLen]; omega) (by simpa using hbb) (by simp; omega) ?_
  intro v1 w1 h1 hg _
  refine h v1 w1 h1 ?_ ?_
  · exact (hb.alloc (Nat.le_trans hB hbase) _).grown hg (by simp; omega) (fun k hk => Nat.le_trans hB (OwnL.lt hown k hk).1)
  · exact ⟨hg.os, hg.tape, hg.output, Nat.le_trans (by simp) hg.size, fun k hk hne => (hg.block k (by simp; omega) hne).trans (Below.heap_alloc w _ k hk)⟩

/-! ### append of a row -/
theorem run_append_vals {P : Program} {α : Type} {val : α → Value} (w : World) (base : Nat) (t ty e : TypeId) (z : Value) (bytes : Nat) (ht : P.underlying t = some (.slice e)) (hinf : (P.info? e).map (fun i => (i.zero, i.size, i.bytes)) = some (some z, 1, bytes)) (hzs : z.cells.size = 1) (h1 : ∀ a, (val a).oneCell' = true) (hby : bytes ≤ 16)
    (v : Value) (L : List α) (hown : OwnL (one1 val) 1 e base w v L) (A : Option Addr) (c : Nat) (M : List α) (hr : ValsAt val w A M) (hn : L.length + M.length ≤ 2199023255552) (hbase : base ≤ w.heap.size) :
    ∃ v' w', (Builtin.append_ #[t, t] ty #[v, .slice A M.length c]).run P w = .ok v' w' ∧ OwnL (one1 val) 1 e base w' v' (L ++ M) ∧ w.grownBy w' v.ownBlock ∧ (v'.ownBlock = v.ownBlock ∨ v'.ownBlock = some w.heap.size) := by
  obtain ⟨i0, hi, hz0, hz1, hz2⟩ := info_parts hinf
  have hbb : (L.length + M.length) * bytes ≤ 140737488355328 := by
    have : (L.length + M.length) * bytes ≤ (L.length + M.length) * 16 := Nat.mul_le_mul_left _ hby
    omega
  exact run_append_row w base t ty e i0 z 1 bytes ht hi hz0 hz1 hz2 hzs (by omega) (fun _ => rfl) v L hown A c M hr
    (fun hA => by
      rcases M with _ | ⟨m, M⟩
      · rfl
      · obtain ⟨b, off, e1, _⟩ := hr (by simp)
        rw [hA] at e1; cases e1)
    (fun m _ u hu => by simp only [List.mem_singleton] at hu; subst hu; exact h1 m) (by simp only [maxLen]; omega) hbb hbase

theorem wpList_append_vals {P : Program} {α : Type} {val : α → Value} {ops : Array Oper} {rest : List Oper} {o : Oper} {a : Act} {w : World} {Q : Exit → Act → World → Prop} (hgd : o.guard = none) (s x : Operand) (t e : TypeId) (z : Value) (bytes : Nat)
    (ho : o.op = .call { callee := .builtin .append, args := #[s, x], argTypes := #[t, t] })
    (ht : P.underlying t = some (.slice e)) (hinf : (P.info? e).map (fun i => (i.zero, i.size, i.bytes)) = some (some z, 1, bytes)) (hzs : z.cells.size = 1) (h1 : ∀ a, (val a).oneCell' = true) (hby : bytes ≤ 16)
    (base : Nat) (v : Value) (L : List α) (hs : a.eval s = v) (hown : OwnL (one1 val) 1 e base w v L) (A : Option Addr) (c : Nat) (M : List α) (hx : a.eval x = .slice A M.length c) (hr : ValsAt val w A M) (hn : L.length + M.length ≤ 2199023255552) (hbase : base ≤ w.heap.size)
    (h : ∀ v' w', OwnL (one1 val) 1 e base w' v' (L ++ M) → w.grownBy w' v.ownBlock → wpList P ops Q rest (a.put o.dst v') w') : wpList P ops Q (o :: rest) a w := by
  refine wpList_plain hgd fun K hK => ?_
  obtain ⟨v', w', hrun, h2, h3, _⟩ := run_append_vals (P := P) w base t o.type e z bytes ht hinf hzs h1 hby v L hown A c M hr hn hbase
  unfold Oper.wp execOp
  simp only [ho, resolve, invoke, builtin, Sem.run_bind, Sem.run_pure, Result.andThen_ok, List.map_toArray, List.map_cons, List.map_nil, hs, hx, hrun]
  exact hK _ _ (h v' w' h2 h3)
/-- At a step of a region that draws its order. -/
theorem step_append_vals {P : Program} {α : Type} {val : α → Value} {ops : Array Oper} {o : Oper} {a : Act} {w : World} {K : Act → World → Prop} {Q : Exit → Act → World → Prop} {E : Prop} (hgd : o.guard = none) (s x : Operand) (t e : TypeId) (z : Value) (bytes : Nat)
    (ho : o.op = .call { callee := .builtin .append, args := #[s, x], argTypes := #[t, t] })
    (ht : P.underlying t = some (.slice e)) (hinf : (P.info? e).map (fun i => (i.zero, i.size, i.bytes)) = some (some z, 1, bytes)) (hzs : z.cells.size = 1) (h1 : ∀ a, (val a).oneCell' = true) (hby : bytes ≤ 16)
    (base : Nat) (v : Value) (L : List α) (hs : a.eval s = v) (hown : OwnL (one1 val) 1 e base w v L) (A : Option Addr) (c : Nat) (M : List α) (hx : a.eval x = .slice A M.length c) (hr : ValsAt val w A M) (hn : L.length + M.length ≤ 2199023255552) (hbase : base ≤ w.heap.size)
    (h : ∀ v' w', OwnL (one1 val) 1 e base w' v' (L ++ M) → w.grownBy w' v.ownBlock → K (a.put o.dst v') w') : if Region.wanted o (yielded ops a.tmps) = true then Oper.wp P o a w K Q else E := by
  have hw : Region.wanted o (yielded ops a.tmps) = true := by simp [Region.wanted, hgd]
  rw [if_pos hw]
  obtain ⟨v', w', hrun, h2, h3, _⟩ := run_append_vals (P := P) w base t o.type e z bytes ht hinf hzs h1 hby v L hown A c M hr hn hbase
  unfold Oper.wp execOp
  simp only [ho, resolve, invoke, builtin, Sem.run_bind, Sem.run_pure, Result.andThen_ok, List.map_toArray, List.map_cons, List.map_nil, hs, hx, hrun]
  exact h v' w' h2 h3

/-- A row of the call's own, as it reads. -/
theorem OwnL.vals {α : Type} {val : α → Value} {e : TypeId} {base : Nat} {w : World} {v : Value} {L : List α} (h : OwnL (one1 val) 1 e base w v L) :
    ∃ A c, v = .slice A L.length c ∧ ValsAt val w A L ∧ L.length ≤ c ∧ c ≤ maxLen := by
  obtain ⟨A, c, e, hr, _, h1, h2⟩ := OwnL.row (cells := one1 val) (fun _ => rfl) h
  exact ⟨A, c, e, hr, h1, h2⟩
/-- A whole block of one-cell elements reads as its list. -/
theorem vals_of_block {α : Type} {val : α → Value} {w : World} {g : Nat} {t : TypeId} {fr : Nat × Nat} {L : List α} (h : w.heap[g]? = some (.cells (L.map val).toArray t fr)) : ValsAt val w (some ⟨g, 0, none⟩) L := by
  intro _
  refine ⟨g, 0, rfl, (Array.getElem?_eq_some_iff.1 h).1, fun k hk j u hu => ?_⟩
  have hj : j = 0 := by
    have := (List.getElem?_eq_some_iff.1 hu).1
    simpa [one1] using this
  subst hj
  have := cell_of_row w g (0 + k * 1 + 0) _ _ _ h
  rw [this]
  simp only [one1, List.getElem?_cons_zero, Option.some.injEq] at hu
  subst hu
  simp [hk]
theorem take_snoc {α : Type} {L : List α} {k : Nat} (hk : k < L.length) : L.take (k + 1) = L.take k ++ [L[k]] := List.take_succ_eq_append_getElem hk
end Go.Proofs.YtlabpgdimhbocaaGreat
