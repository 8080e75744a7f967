/- Slices of slices, as lists of lists: how an argument reads. No program's function occurs here. -/
import Derived.Test.YtlabpgdimhbocaaLib
namespace Go.Proofs.Ytlabpgdimhbocaa
set_option linter.unusedVariables false
set_option linter.unusedSimpArgs false
open Go.ChangeShapes Go.WideShapes Go.ChangeAt Go.RowKit

/-- A slice value with what it reads as. -/
structure Sv (β : Type) where
  A : Option Addr
  c : Nat
  L : List β
abbrev Sv.val {β : Type} (s : Sv β) : Value := .slice s.A s.L.length s.c
structure Sv.good {β : Type} (cells : β → List Value) (sz : Nat) (ok : β → Prop) (w : World) (s : Sv β) : Prop where
  lc : s.L.length ≤ s.c
  cm : s.c ≤ maxLen
  row : RowAt cells sz w s.A s.L
  ok : ∀ a ∈ s.L, ok a
theorem Sv.good.below {β : Type} {cells : β → List Value} {sz : Nat} {ok : β → Prop} {w w' : World} {s : Sv β} (h : Sv.good cells sz ok w s) (hb : Below w.heap.size w w') : Sv.good cells sz ok w' s := { h with row := h.row.below hb }

section
variable {H : Type} {enc : TypeId × Value → H} {P : Program} {w : World} {base : Nat} {held : Bool}
theorem dec_slice {β : Type} {cells : β → List Value} {ok : β → Prop} {sz : Nat} {t e : TypeId} (ht : P.underlying t = some (.slice e)) (hC : P.cellsOf e = sz) (hs : 0 < sz)
    (dec : ∀ n cs x, DataW.trod enc P w base (fun _ => true) held n e cs = some x → ∃ a : β, ok a ∧ cs = cells a)
    (fuel : Nat) (cs : List Value) (x : DataW H × List MemPlace) (hf : DataW.trod enc P w base (fun _ => true) held fuel t cs = some x) :
    ∃ s : Sv β, Sv.good cells sz ok w s ∧ cs = [s.val] := by
  rcases Go.Deep.open_slice ht hf with ⟨hcs, _⟩ | ⟨a, n, c, m, n', D, Pl, hcs, _, hl, hm, hmm, _, hi⟩
  · exact ⟨⟨none, 0, []⟩, ⟨Nat.le_refl _, by simp, RowAt.nil_, by simp⟩, hcs⟩
  · have hmc : m = c := by simpa using hmm
    have hx : ∀ i, i < n → ∃ x : β, ok x ∧ w.cells? base (a.add (i * sz)) sz = some (cells x) := by
      intro i hin
      obtain ⟨cs', hc, htr⟩ := hi i (by omega)
      obtain ⟨x, hx, rfl⟩ := dec _ _ _ htr
      rw [hC] at hc
      exact ⟨x, hx, hc⟩
    let L : List β := (List.range n).attach.map fun i => (hx i.1 (by simpa using i.2)).choose
    have hL : L.length = n := by simp [L]
    have hLk : ∀ k (hk : k < L.length), ok L[k] ∧ w.cells? base (a.add (k * sz)) sz = some (cells L[k]) := by
      intro k hk
      have hk' : k < n := by omega
      have e : L[k] = (hx k hk').choose := by simp [L]
      rw [e]
      exact (hx k hk').choose_spec
    refine ⟨⟨some a, c, L⟩, ⟨by show L.length ≤ c; omega, by show c ≤ maxLen; omega, ?_, ?_⟩, by rw [hcs]; show [_] = [Value.slice (some a) L.length c]; rw [hL]⟩
    · intro hne
      have h0 : 0 < L.length := List.length_pos_iff.2 hne
      have hz := cells?_row (hLk 0 h0).2 hs
      obtain ⟨b, off, spot⟩ := a
      have hspot : spot = none := by simpa [Addr.add] using hz.1
      subst hspot
      refine ⟨b, off, rfl, by simpa [Addr.add] using hz.2.1, ?_⟩
      intro k hk j u hu
      have := (cells?_row (hLk k hk).2 hs).2.2 j u hu
      have e2 : (Addr.add ⟨b, off, none⟩ (k * sz)) = ⟨b, off + k * sz, none⟩ := by
        unfold Addr.add
        by_cases hj : k * sz = 0 <;> simp [hj]
      rw [e2] at this
      exact this
    · intro x hx'
      obtain ⟨k, hk, rfl⟩ := List.getElem_of_mem hx'
      exact (hLk k hk).1
end
end Go.Proofs.Ytlabpgdimhbocaa
