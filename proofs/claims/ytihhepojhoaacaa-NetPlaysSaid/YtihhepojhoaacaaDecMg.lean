/- Messages, and scripts of a net's calls, as arguments: how one reads. No program's function occurs here. -/
import Derived.Test.YtihhepojhoaacaaMsg
import Derived.Test.YtihhepojhoaacaaNest
namespace Go.Proofs.Ytihhepojhoaacaa
set_option linter.unusedVariables false
set_option linter.unusedSimpArgs false
open Go.ChangeShapes Go.WideShapes Go.ChangeAt Go.RowKit

/-- A message that came in. -/
structure Mg.good (w : World) (m : Mg) : Prop where
  rd : m.rd w
  its : ∀ x ∈ m.L, x.wf
  bk : -9223372036854775808 ≤ m.k ∧ m.k ≤ 9223372036854775807
  bf : -9223372036854775808 ≤ m.f ∧ m.f ≤ 9223372036854775807
  bt : -9223372036854775808 ≤ m.t ∧ m.t ≤ 9223372036854775807
  bi : 0 ≤ m.id ∧ m.id ≤ 18446744073709551615
  bn : 0 ≤ m.n ∧ m.n ≤ 18446744073709551615
/-- One call of a script. -/
structure Op9 where
  kind : Int
  i : Int
  k : Int
  m : Mg
def Op9.cells (o : Op9) : List Value := .int .i64 o.kind :: .int .i64 o.i :: .int .i64 o.k :: o.m.cells
structure Op9.good (w : World) (o : Op9) : Prop where
  m : o.m.good w
  bk : -9223372036854775808 ≤ o.kind ∧ o.kind ≤ 9223372036854775807
  bi : -9223372036854775808 ≤ o.i ∧ o.i ≤ 9223372036854775807
  bj : -9223372036854775808 ≤ o.k ∧ o.k ≤ 9223372036854775807
section
variable {H : Type} {enc : TypeId × Value → H} {P : Program} {w : World} {base : Nat} {held : Bool}
theorem dec_msg {t : TypeId} {f0 f1 f2 f3 f4 f5 : Field} (hs : P.underlying t = some (.struct #[f0, f1, f2, f3, f4, f5])) (hone : Go.Deep.oneCellFields P #[f0, f1, f2, f3, f4, f5] = true) (hC : P.cellsOf t = 6)
    (h0 : P.underlying f0.type = some (.int .i64)) (h1 : P.underlying f1.type = some (.int .i64)) (h2 : P.underlying f2.type = some (.int .i64)) (h3 : P.underlying f3.type = some (.int .u64)) (h4 : P.underlying f4.type = some (.int .u64))
    (h5 : ∀ n cs x, DataW.trod enc P w base (fun _ => true) held n f5.type cs = some x → ∃ s : Sv It, Sv.good It.cells 5 It.wf w s ∧ cs = [s.val])
    (n : Nat) (cs : List Value) (x : DataW H × List MemPlace) (h : DataW.trod enc P w base (fun _ => true) held n t cs = some x) : ∃ a : Mg, a.good w ∧ cs = a.cells := by
  obtain ⟨hl, hf⟩ := dec_fields hs hone (by simpa using hC) h
  obtain ⟨c0, m0, y0, e0, t0⟩ := hf 0 f0 rfl
  obtain ⟨c1, m1, y1, e1, t1⟩ := hf 1 f1 rfl
  obtain ⟨c2, m2, y2, e2, t2⟩ := hf 2 f2 rfl
  obtain ⟨c3, m3, y3, e3, t3⟩ := hf 3 f3 rfl
  obtain ⟨c4, m4, y4, e4, t4⟩ := hf 4 f4 rfl
  obtain ⟨c5, m5, y5, e5, t5⟩ := hf 5 f5 rfl
  obtain ⟨a0, r0, w0⟩ := dec_int h0 _ _ _ t0
  obtain ⟨a1, r1, w1⟩ := dec_int h1 _ _ _ t1
  obtain ⟨a2, r2, w2⟩ := dec_int h2 _ _ _ t2
  obtain ⟨a3, r3, w3⟩ := dec_int h3 _ _ _ t3
  obtain ⟨a4, r4, w4⟩ := dec_int h4 _ _ _ t4
  obtain ⟨s, hsg, w5⟩ := h5 _ _ _ t5
  refine ⟨⟨a0, a1, a2, a3, a4, s.A, s.c, s.L⟩, ⟨⟨hsg.row, hsg.lc, hsg.cm⟩, hsg.ok, bounds_i64 r0, bounds_i64 r1, bounds_i64 r2, bounds_u64 r3, bounds_u64 r4⟩, ?_⟩
  match cs, hl with
  | [d0, d1, d2, d3, d4, d5], _ =>
    simp at e0 e1 e2 e3 e4 e5 w0 w1 w2 w3 w4 w5
    subst e0 e1 e2 e3 e4 e5
    simp [Mg.cells, w0, w1, w2, w3, w4, w5]
theorem dec_op {t : TypeId} {f0 f1 f2 f3 : Field} (hs : P.underlying t = some (.struct #[f0, f1, f2, f3])) (hC : P.cellsOf t = 9)
    (o0 : f0.offset = 0 ∧ P.cellsOf f0.type = 1) (o1 : f1.offset = 1 ∧ P.cellsOf f1.type = 1) (o2 : f2.offset = 2 ∧ P.cellsOf f2.type = 1) (o3 : f3.offset = 3 ∧ P.cellsOf f3.type = 6)
    (h0 : P.underlying f0.type = some (.int .i64)) (h1 : P.underlying f1.type = some (.int .i64)) (h2 : P.underlying f2.type = some (.int .i64))
    (h3 : ∀ n cs x, DataW.trod enc P w base (fun _ => true) held n f3.type cs = some x → ∃ a : Mg, a.good w ∧ cs = a.cells)
    (n : Nat) (cs : List Value) (x : DataW H × List MemPlace) (h : DataW.trod enc P w base (fun _ => true) held n t cs = some x) : ∃ a : Op9, a.good w ∧ cs = a.cells := by
  obtain ⟨xs, m, _, _, hl, hxs, hf⟩ := DataW.trod_struct hs h
  rw [hC] at hl
  match cs, hl with
  | [d0, d1, d2, d3, d4, d5, d6, d7, d8], _ =>
    have t0 := hf 0 f0 rfl
    have t1 := hf 1 f1 rfl
    have t2 := hf 2 f2 rfl
    have t3 := hf 3 f3 rfl
    rw [o0.1, o0.2] at t0
    rw [o1.1, o1.2] at t1
    rw [o2.1, o2.2] at t2
    rw [o3.1, o3.2] at t3
    have hx : xs.length = 4 := hxs
    obtain ⟨a0, r0, w0⟩ := dec_int h0 _ _ _ (t0.trans (List.getElem?_eq_getElem (by omega)))
    obtain ⟨a1, r1, w1⟩ := dec_int h1 _ _ _ (t1.trans (List.getElem?_eq_getElem (by omega)))
    obtain ⟨a2, r2, w2⟩ := dec_int h2 _ _ _ (t2.trans (List.getElem?_eq_getElem (by omega)))
    obtain ⟨mm, hm, w3⟩ := h3 _ _ _ (t3.trans (List.getElem?_eq_getElem (by omega)))
    refine ⟨⟨a0, a1, a2, mm⟩, ⟨hm, bounds_i64 r0, bounds_i64 r1, bounds_i64 r2⟩, ?_⟩
    simp only [List.drop_zero, List.drop_succ_cons, List.take_succ_cons, List.take_zero, List.cons.injEq, and_true] at w0 w1 w2 w3
    subst w0 w1 w2
    unfold Op9.cells
    rw [← w3]
end
end Go.Proofs.Ytihhepojhoaacaa
