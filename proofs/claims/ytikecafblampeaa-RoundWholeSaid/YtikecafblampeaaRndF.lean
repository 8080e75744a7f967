/- What a round's Done tells, spelled out; the answer in a place of its own. Conditions: the round as it lies. -/
import Derived.Test.YtikecafblampeaaRndC
namespace Go.Proofs.Ytikecafblampeaa
set_option linter.unusedVariables false
set_option linter.unusedSimpArgs false
open Go.ChangeShapes Go.WideShapes Go.ChangeAt Go.RowKit
section
variable {w0 w : World} {b n : Nat} {a id f p : Int} {C : Nat → Bool} {L : List It} {tk ee v : Int}
theorem rdone_end (h : RndO w0 w b (endG n a id f C L tk ee v)) : Calls Try.prog 18 #[.pointer (some ⟨b, 0, none⟩)] w fun e w' => e = .returned (.tuple #[.agg #[.int .u64 id, .int .i64 0, .int .i64 0, .int .u64 0, .int .i64 0, .int .i64 ee, .int .u64 v, .slice none 0 0], .bool true]) ∧ Below w.heap.size w w' := rdone_any h
theorem rdone_st (h : RndO w0 w b (stG n a id f p C L tk)) (hp : p ≠ 3) : Calls Try.prog 18 #[.pointer (some ⟨b, 0, none⟩)] w fun e w' => e = .returned (.tuple #[.agg #[.int .u64 0, .int .i64 0, .int .i64 0, .int .u64 0, .int .i64 0, .int .i64 0, .int .u64 0, .slice none 0 0], .bool false]) ∧ Below w.heap.size w w' := by
  have hp2 : ((stG n a id f p C L tk).ph == 3) = false := by
    show (p == 3) = false
    simpa using hp
  have h2 := rdone_any h
  rw [hp2] at h2
  exact h2
end
theorem ron_s {w0 w : World} {b : Nat} {R R' : Rs} {M : List Mg} (h : RndO w0 w b R) (k : RndK R) (m : Mg) (hm : m.rd w0) (e1 : onR R m = R') (e2 : onM R m = M) :
    Calls Try.prog 10 #[.pointer (some ⟨b, 0, none⟩), m.val] w fun e w' => Told w0 w b R' M e w' ∧ Sets (fun g => g = b) w w' := by
  subst e1
  subst e2
  have hl : m.L.length ≤ 9223372036854775807 := by
    have h1 := hm.2
    unfold maxLen at h1
    omega
  refine Calls.mono (ron_any h m hm hl k.n k.ph k.L k.cnt) ?_
  rintro e w' ⟨v, N, h1, h2, h3, h4, h5⟩
  exact ⟨Told.of ⟨v, N, h1, h2, h3, h4⟩, h5⟩
theorem rsends_b {w0 w : World} {b : Nat} {R : Rs} {M : List Mg} (h : RndO w0 w b R) (k : RndK R) (e2 : sendR R true = M) :
    Calls Try.prog 20 #[.pointer (some ⟨b, 0, none⟩)] w fun e w' => Told w0 w b R M e w' ∧ Below w.heap.size w w' := by
  subst e2
  have hl := k.L
  refine Calls.mono (rsends_any h (by omega) k.ph k.n) ?_
  rintro e w' ⟨v, N, h1, h3, h4, h5⟩
  exact ⟨Told.of ⟨v, N, h1, h.below h5, h3, h4⟩, h5⟩
/-- An answer in a new place. -/
theorem ans_al (w : World) (v0 v1 v2 v3 v4 v5 v6 v7 : Value) : ∃ W, w.alloc (.cells #[v0, v1, v2, v3, v4, v5, v6, v7] 47) = W ∧ Below w.heap.size w W ∧ W.heap[w.heap.size]? = some (.cells [v0, v1, v2, v3, v4, v5, v6, v7].toArray 47 (0, 0)) :=
  ⟨_, rfl, below_alloc (Below.refl w.heap.size w) _, heap_alloc_new w _⟩
/-- An answer in a new place: the cells. -/
theorem ans_at {w W : World} {g : Nat} {v0 v1 v2 v3 v4 v5 v6 v7 : Value} (h : w.heap[g]? = some (.cells [v0, v1, v2, v3, v4, v5, v6, v7].toArray 47 (0, 0))) (hb : Below w.heap.size w W) :
    W.cell? ⟨g, 0, none⟩ = some v0 ∧ W.cell? ⟨g, 1, none⟩ = some v1 ∧ W.cell? ⟨g, 2, none⟩ = some v2 ∧ W.cell? ⟨g, 3, none⟩ = some v3 ∧ W.cell? ⟨g, 4, none⟩ = some v4 ∧ W.cell? ⟨g, 5, none⟩ = some v5 ∧ W.cell? ⟨g, 6, none⟩ = some v6 ∧ W.cell? ⟨g, 7, none⟩ = some v7 := by
  have hg : g < w.heap.size := (Array.getElem?_eq_some_iff.1 h).1
  have h2 := (hb.block g hg).trans h
  refine ⟨?_, ?_, ?_, ?_, ?_, ?_, ?_, ?_⟩ <;> (rw [cell_of_list h2]; rfl)
end Go.Proofs.Ytikecafblampeaa
