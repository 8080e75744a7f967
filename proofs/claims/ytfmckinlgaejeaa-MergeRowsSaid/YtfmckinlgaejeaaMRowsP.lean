/- Plain law for MergeRows, no program: a row without what is hidden is what its items come to. -/
import Derived.Test.YtfmckinlgaejeaaMHideP
import Derived.Test.YtfmckinlgaejeaaWout
import Derived.Test.YtfmckinlgaejeaaFil
namespace Go.Proofs.Ytfmckinlgaejeaa
set_option linter.unusedVariables false
set_option linter.unusedSimpArgs false

theorem clean_hid {L : List It} (h : ∀ y ∈ L, 0 ≤ y.v) : cleanL L = L.filter fun x => !hidB L x := by
  unfold cleanL keepL
  refine List.filter_congr fun x hx => ?_
  congr 1
  have h1 := hid_iff h x
  have h2 : hidB L x = true ↔ ∃ t ∈ L, It.hides t x := by
    unfold hidB
    rw [List.any_eq_true]
    simp only [hidesB, decide_eq_true_eq]
  rw [Bool.eq_iff_iff, h1, h2]
  constructor
  · rintro ⟨hk, y, hy, h3, h4, h5⟩
    exact ⟨y, hy, h3, hk, h4, h5⟩
  · rintro ⟨y, hy, h3, hk, h4, h5⟩
    exact ⟨hk, y, hy, h3, h4, h5⟩
theorem keep_pur (v : Int) (M : List It) : keepL (oldT v) M = M.filter (purP v) := by
  unfold keepL
  refine List.filter_congr fun x _ => ?_
  unfold oldT purP
  by_cases h1 : x.k = 1 <;> by_cases h2 : x.v ≤ v
  · rw [decide_eq_true h1, decide_eq_true h2, decide_eq_false (by omega)]; rfl
  · rw [decide_eq_true h1, decide_eq_false h2, decide_eq_true (by omega)]; rfl
  · rw [decide_eq_false h1, decide_eq_true (show x.k ≠ 1 ∨ v < x.v from .inl h1)]; rfl
  · rw [decide_eq_false h1, decide_eq_true (show x.k ≠ 1 ∨ v < x.v from .inl h1)]; rfl
theorem clean_isOf {S U : List It} (h : RowOf S U) (hv : ∀ y ∈ S, 0 ≤ y.v) : IsOf S (cleanL U) := by
  have hU : ∀ y ∈ U, 0 ≤ y.v := fun y hy => hv y ((h.mem y).1 hy).1
  refine ⟨clean_up h.up, fun x => ?_⟩
  rw [mem_clean hU, h.mem]
  constructor
  · rintro ⟨⟨h1, h2⟩, h3⟩
    refine ⟨h1, h2, fun t ht hh => h3 ?_⟩
    obtain ⟨u, hu, hsu, hwu⟩ := row_best h ht
    unfold It.hides at hh
    exact ⟨hh.2.1, u, hu, by unfold It.same at hsu; omega, by unfold It.same at hsu; omega, by unfold It.wins at hwu; omega⟩
  · rintro ⟨h1, h2, h3⟩
    refine ⟨⟨h1, h2⟩, ?_⟩
    rintro ⟨hk, y, hy, h4, h5, h6⟩
    exact h3 y ((h.mem y).1 hy).1 ⟨h4, hk, h5, h6⟩
theorem clean_ofL {S U : List It} (h : RowOf S U) (hg : ∀ y ∈ S, It.good y) (hv : ∀ y ∈ S, 0 ≤ y.v) : ofL S = cleanL U := by
  have h1 := ofL_isOf S
  have h2 : goods S = S := List.filter_eq_self.2 fun y hy => decide_eq_true (hg y hy)
  rw [h2] at h1
  exact h1.uniq (clean_isOf h hv)
end Go.Proofs.Ytfmckinlgaejeaa
