/- An empty slice of one's own. No program's function occurs here. No condition. -/
import Derived.Test.YtlabpgdimhbocaaGreatOwn
namespace Go.Proofs.YtlabpgdimhbocaaGreat
set_option linter.unusedVariables false
set_option linter.unusedSimpArgs false
open Go.ChangeShapes Go.WideShapes Go.ChangeAt Go.RowKit

theorem own_emptyE {α : Type} (cells : α → List Value) (sz : Nat) (e : TypeId) (base : Nat) (w : World) (hb : base ≤ w.heap.size) : OwnL cells sz e base (w.alloc (.cells #[] e)) (.slice (some ⟨w.heap.size, 0, none⟩) 0 0) ([] : List α) := by
  refine ⟨by simp, .inr ⟨w.heap.size, 0, #[], rfl, hb, heap_alloc_new w _, Nat.le_refl _, by simp [maxLen], by simp, by simp⟩⟩
theorem flat1 {α : Type} (val : α → Value) (L : List α) : L.flatMap (fun a => [val a]) = L.map val := by
  induction L with
  | nil => rfl
  | cons a L ih => rw [List.flatMap_cons, ih]; rfl
theorem heap_setE {w : World} {g o : Nat} {l : List Value} {t : TypeId} {u : Value} (h : w.heap[g]? = some (.cells l.toArray t (0, 0))) : (w.setCell ⟨g, o, none⟩ u).heap[g]? = some (.cells (l.set o u).toArray t (0, 0)) := by
  simp [World.setCell, Array.getElem?_modify, h]
/-- One element of a row of one's own, of one cell, set. -/
theorem own_set1 {α : Type} {val : α → Value} {e : TypeId} {base : Nat} {w : World} {g n c : Nat} {L : List α} (h : OwnL (fun a => [val a]) 1 e base w (.slice (some ⟨g, 0, none⟩) n c) L) {k : Nat} (hk : k < L.length) (y : α) :
    OwnL (fun a => [val a]) 1 e base (w.setCell ⟨g, k, none⟩ (val y)) (.slice (some ⟨g, 0, none⟩) n c) (L.set k y) := by
  obtain ⟨hl, h2⟩ := h
  refine ⟨by simp [flat1], ?_⟩
  rcases h2 with ⟨e0, _⟩ | ⟨g', cap, cur, ev, hb, hh, hnc, hcm, hcs, htk⟩
  · cases e0
  · injection ev with e1 e2 e3
    injection e1 with e1
    injection e1 with e1
    subst e1
    obtain ⟨l, rfl⟩ : ∃ l : List Value, cur = l.toArray := ⟨cur.toList, by simp⟩
    refine .inr ⟨g, cap, (l.set k (val y)).toArray, ?_, hb, heap_setE hh, by rw [List.length_set]; exact hnc, hcm, by simpa using hcs, ?_⟩
    · rw [List.length_set, e2, e3]
    · simp only [List.length_set, Nat.mul_one, flat1] at *
      rw [List.map_set, ← htk, List.take_set]
theorem own_at1 {α : Type} {val : α → Value} {e : TypeId} {base : Nat} {w : World} {A : Option Addr} {n c : Nat} {L : List α} (h : OwnL (fun a => [val a]) 1 e base w (.slice A n c) L) (hL : 0 < L.length) :
    ∃ g, A = some ⟨g, 0, none⟩ ∧ base ≤ g ∧ g < w.heap.size ∧ (∀ k (hk : k < L.length), w.cell? ⟨g, k, none⟩ = some (val L[k])) ∧ ∀ o, w.frozen? ⟨g, o, none⟩ = false := by
  obtain ⟨A', c', e', hr, _⟩ := OwnL.row (cells := fun a => [val a]) (fun _ => rfl) h
  injection e' with e1
  subst e1
  rcases h.2 with ⟨e0, h0⟩ | ⟨g, cap, cur, ev, hb, hh, _⟩
  · omega
  · injection ev with e1 e2 e3
    subst e1
    obtain ⟨b, off, e4, hlt, hc⟩ := hr (List.ne_nil_of_length_pos hL)
    obtain ⟨rfl, rfl⟩ : g = b ∧ 0 = off := by injection e4 with h; injection h; exact ⟨by assumption, by assumption⟩
    refine ⟨g, rfl, hb, hlt, fun k hk => ?_, fun o => by simp [World.frozen?, hh]⟩
    have := hc k hk 0 _ rfl
    simpa using this
end Go.Proofs.YtlabpgdimhbocaaGreat
