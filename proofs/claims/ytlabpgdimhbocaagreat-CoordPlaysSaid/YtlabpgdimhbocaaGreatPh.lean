/- Whether a delete of a state hides an item: the contract of state.hidden. Conditions: the list's length; its items may be, and rise. -/
import Derived.Test.YtlabpgdimhbocaaGreatPl
namespace Go.Proofs.YtlabpgdimhbocaaGreat
set_option linter.unusedVariables false
set_option linter.unusedSimpArgs false
open Go.ChangeShapes Go.WideShapes Go.ChangeAt Go.RowKit

theorem hidB_tomb {L : List It} (hr : Rising L) (hg : ∀ y ∈ L, It.good y) (x : It) : hidB L x = (sameAt (tombOf x.s) L && hidesB (tombAt x.s L) x) := by
  rw [hid_tomb hr hg]
  unfold tombAt
  cases h : sameAt (tombOf x.s) L
  · simp
  · obtain ⟨hl, _⟩ := sameAt_true h
    rw [List.getElem?_eq_getElem hl]
    simp
set_option maxHeartbeats 1600000 in
theorem hidden_any (A : Option Addr) (c : Nat) (L : List It) (x : It) (w : World) (hL : ItemsAt w A L) (hn : L.length ≤ 4611686018427387904) (hr : Rising L) (hg : ∀ y ∈ L, It.good y) :
    Calls Tryz.prog 77 #[.slice A L.length c, x.val] w fun e w' => e = .returned (.bool (hidB L x)) ∧ Below w.heap.size w w' := by
  have HE := hide (hidB_tomb hr hg x)
  have HT := hide (fun W hW => tomb_any x.s A c L W (RowAt.below hL hW) hn hr)
  clear hL hr hg
  generalize tombAt x.s L = t at *
  cases hs : sameAt (tombOf x.s) L
  · rw [hs] at HE
    go_enter Tryz.func77, Tryz.ntmps77
    go_wp2_with fail
    refine (Calls.mono (HT.out _ (below_alloc (Below.refl _ _) _)) ?_); rintro e w1 ⟨rfl, hg1⟩
    rw [hs]
    have hb1 : Below w.heap.size w w1 := below_step (below_alloc (Below.refl _ _) _) hg1
    go_wp2_with fail
    go_ret
    exact ⟨by rw [HE.out]; rfl, below_alloc hb1 _⟩
  · rw [hs] at HE
    go_enter Tryz.func77, Tryz.ntmps77
    go_wp2_with fail
    refine (Calls.mono (HT.out _ (below_alloc (Below.refl _ _) _)) ?_); rintro e w1 ⟨rfl, hg1⟩
    rw [hs]
    obtain ⟨x0, x1, x2, x3, x4⟩ := box_item (g := w.heap.size) (x := x) ((hg1.block _ (by simp)).trans (heap_alloc_new w _))
    have hz : w.heap.size < w1.heap.size := by have := hg1.size; simp at this; omega
    have hb1 : Below w.heap.size w w1 := below_step (below_alloc (Below.refl _ _) _) hg1
    go_wp2_with fail
    refine (Calls.mono (phides_any t x _) ?_); rintro e w2 ⟨rfl, hg2⟩
    go_wp2_with fail
    go_ret
    exact ⟨by rw [HE.out]; rfl, below_step (below_alloc hb1 _) hg2⟩
end Go.Proofs.YtlabpgdimhbocaaGreat
