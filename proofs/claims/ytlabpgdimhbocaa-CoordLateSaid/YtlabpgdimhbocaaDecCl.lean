/- A client's call as an argument. No conditions. -/
import Derived.Test.YtlabpgdimhbocaaNest
namespace Go.Proofs.Ytlabpgdimhbocaa
set_option linter.unusedVariables false
set_option linter.unusedSimpArgs false
open Go.ChangeShapes Go.WideShapes Go.ChangeAt Go.RowKit
structure Cl where
  k : Int
  s : Int
  t : Int
  x : Int
def Cl.cells (a : Cl) : List Value := [.int .i64 a.k, .int .i64 a.s, .int .u64 a.t, .int .i64 a.x]
abbrev Cl.val (a : Cl) : Value := .agg #[.int .i64 a.k, .int .i64 a.s, .int .u64 a.t, .int .i64 a.x]
def Cl.wf (_ : Cl) : Prop := True
section
variable {H : Type} {enc : TypeId × Value → H} {P : Program} {w : World} {base : Nat} {held : Bool}
theorem dec_client0 {t : TypeId} {f0 f1 f2 f3 : Field} (hs : P.underlying t = some (.struct #[f0, f1, f2, f3])) (hone : Go.Deep.oneCellFields P #[f0, f1, f2, f3] = true) (hC : P.cellsOf t = 4)
    (h0 : P.underlying f0.type = some (.int .i64)) (h1 : P.underlying f1.type = some (.int .i64)) (h2 : P.underlying f2.type = some (.int .u64)) (h3 : P.underlying f3.type = some (.int .i64))
    (n : Nat) (cs : List Value) (x : DataW H × List MemPlace) (h : DataW.trod enc P w base (fun _ => true) held n t cs = some x) : ∃ a b c d : Int, cs = [.int .i64 a, .int .i64 b, .int .u64 c, .int .i64 d] := by
  obtain ⟨hl, hf⟩ := dec_fields hs hone (by simpa using hC) h
  obtain ⟨c0, m0, y0, e0, t0⟩ := hf 0 f0 rfl
  obtain ⟨c1, m1, y1, e1, t1⟩ := hf 1 f1 rfl
  obtain ⟨c2, m2, y2, e2, t2⟩ := hf 2 f2 rfl
  obtain ⟨c3, m3, y3, e3, t3⟩ := hf 3 f3 rfl
  obtain ⟨a0, r0, w0⟩ := dec_int h0 _ _ _ t0
  obtain ⟨a1, r1, w1⟩ := dec_int h1 _ _ _ t1
  obtain ⟨a2, r2, w2⟩ := dec_int h2 _ _ _ t2
  obtain ⟨a3, r3, w3⟩ := dec_int h3 _ _ _ t3
  refine ⟨a0, a1, a2, a3, ?_⟩
  match cs, hl with
  | [d0, d1, d2, d3], _ =>
    simp at e0 e1 e2 e3 w0 w1 w2 w3
    subst e0 e1 e2 e3 w0 w1 w2 w3
    rfl
theorem dec_client {t : TypeId} {f0 f1 f2 f3 : Field} (hs : P.underlying t = some (.struct #[f0, f1, f2, f3])) (hone : Go.Deep.oneCellFields P #[f0, f1, f2, f3] = true) (hC : P.cellsOf t = 4)
    (h0 : P.underlying f0.type = some (.int .i64)) (h1 : P.underlying f1.type = some (.int .i64)) (h2 : P.underlying f2.type = some (.int .u64)) (h3 : P.underlying f3.type = some (.int .i64))
    (n : Nat) (cs : List Value) (x : DataW H × List MemPlace) (h : DataW.trod enc P w base (fun _ => true) held n t cs = some x) : ∃ a : Cl, a.wf ∧ cs = a.cells := by
  obtain ⟨a, b, c, d, e⟩ := dec_client0 hs hone hC h0 h1 h2 h3 n cs x h
  exact ⟨⟨a, b, c, d⟩, trivial, e⟩
end
end Go.Proofs.Ytlabpgdimhbocaa
