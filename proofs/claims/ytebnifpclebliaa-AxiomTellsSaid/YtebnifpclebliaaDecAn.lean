/- Answers as arguments: how one reads. No program's function occurs here. -/
import Derived.Test.YtebnifpclebliaaAnA
import Derived.Test.YtebnifpclebliaaNest
namespace Go.Proofs.Ytebnifpclebliaa
set_option linter.unusedVariables false
set_option linter.unusedSimpArgs false
open Go.ChangeShapes Go.WideShapes Go.ChangeAt Go.RowKit

section
variable {H : Type} {enc : TypeId × Value → H} {P : Program} {w : World} {base : Nat} {held : Bool}
theorem dec_client {t : TypeId} {f0 f1 f2 f3 : Field} (hs : P.underlying t = some (.struct #[f0, f1, f2, f3])) (hone : Go.Deep.oneCellFields P #[f0, f1, f2, f3] = true) (hC : P.cellsOf t = 4)
    (h0 : P.underlying f0.type = some (.int .i64)) (h1 : P.underlying f1.type = some (.int .i64)) (h2 : P.underlying f2.type = some (.int .u64)) (h3 : P.underlying f3.type = some (.int .i64))
    (n : Nat) (cs : List Value) (x : DataW H × List MemPlace) (h : DataW.trod enc P w base (fun _ => true) held n t cs = some x) : ∃ a b c d : Int, cs = [.int .i64 a, .int .i64 b, .int .u64 c, .int .i64 d] := by
  obtain ⟨hl, hf⟩ := dec_fields hs hone (by simpa using hC) h
  obtain ⟨c0, m0, y0, e0, t0⟩ := hf 0 f0 rfl
  obtain ⟨c1, m1, y1, e1, t1⟩ := hf 1 f1 rfl
  obtain ⟨c2, m2, y2, e2, t2⟩ := hf 2 f2 rfl
  obtain ⟨c3, m3, y3, e3, t3⟩ := hf 3 f3 rfl
  obtain ⟨a0, r0, w0⟩ := dec_int h0 _ _ _ t0
  obtain ⟨a1, r1, w1⟩ := dec_int h1 _ _ _ t1
  obtain ⟨a2, r2, w2⟩ := dec_int h2 _ _ _ t2
  obtain ⟨a3, r3, w3⟩ := dec_int h3 _ _ _ t3
  refine ⟨a0, a1, a2, a3, ?_⟩
  match cs, hl with
  | [d0, d1, d2, d3], _ =>
    simp at e0 e1 e2 e3 w0 w1 w2 w3
    subst e0 e1 e2 e3 w0 w1 w2 w3
    rfl
theorem dec_ans {t : TypeId} {f0 f1 f2 f3 f4 : Field} (hs : P.underlying t = some (.struct #[f0, f1, f2, f3, f4])) (hC : P.cellsOf t = 8)
    (o0 : f0.offset = 0 ∧ P.cellsOf f0.type = 1) (o1 : f1.offset = 1 ∧ P.cellsOf f1.type = 4) (o2 : f2.offset = 5 ∧ P.cellsOf f2.type = 1) (o3 : f3.offset = 6 ∧ P.cellsOf f3.type = 1) (o4 : f4.offset = 7 ∧ P.cellsOf f4.type = 1)
    (h0 : P.underlying f0.type = some (.int .u64)) (h1 : ∀ n cs x, DataW.trod enc P w base (fun _ => true) held n f1.type cs = some x → ∃ a b c d : Int, cs = [.int .i64 a, .int .i64 b, .int .u64 c, .int .i64 d])
    (h2 : P.underlying f2.type = some (.int .i64)) (h3 : P.underlying f3.type = some (.int .u64)) (h4 : ∀ n cs x, DataW.trod enc P w base (fun _ => true) held n f4.type cs = some x → ∃ (A : Option Addr) (n c : Nat), cs = [.slice A n c])
    (n : Nat) (cs : List Value) (x : DataW H × List MemPlace) (h : DataW.trod enc P w base (fun _ => true) held n t cs = some x) : ∃ a : An, True ∧ cs = a.cells := by
  obtain ⟨xs, m, _, _, hl, hxs, hf⟩ := DataW.trod_struct hs h
  rw [hC] at hl
  match cs, hl with
  | [d0, d1, d2, d3, d4, d5, d6, d7], _ =>
    have t0 := hf 0 f0 rfl
    have t1 := hf 1 f1 rfl
    have t2 := hf 2 f2 rfl
    have t3 := hf 3 f3 rfl
    have t4 := hf 4 f4 rfl
    rw [o0.1, o0.2] at t0
    rw [o1.1, o1.2] at t1
    rw [o2.1, o2.2] at t2
    rw [o3.1, o3.2] at t3
    rw [o4.1, o4.2] at t4
    have hx : xs.length = 5 := hxs
    obtain ⟨a0, _, w0⟩ := dec_int h0 _ _ _ (t0.trans (List.getElem?_eq_getElem (by omega)))
    obtain ⟨k, s, tt, xx, w1⟩ := h1 _ _ _ (t1.trans (List.getElem?_eq_getElem (by omega)))
    obtain ⟨a2, _, w2⟩ := dec_int h2 _ _ _ (t2.trans (List.getElem?_eq_getElem (by omega)))
    obtain ⟨a3, _, w3⟩ := dec_int h3 _ _ _ (t3.trans (List.getElem?_eq_getElem (by omega)))
    obtain ⟨A, ln, lc, w4⟩ := h4 _ _ _ (t4.trans (List.getElem?_eq_getElem (by omega)))
    simp at w0 w1 w2 w3 w4
    obtain ⟨e1, e2, e3, e4⟩ := w1
    subst w0 e1 e2 e3 e4 w2 w3 w4
    exact ⟨⟨a0, k, s, tt, xx, a2, a3, A, ln, lc⟩, trivial, rfl⟩
end
end Go.Proofs.Ytebnifpclebliaa
