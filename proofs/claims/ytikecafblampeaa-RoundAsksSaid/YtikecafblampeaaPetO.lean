/- A net of one's own: contracts of net's functions in the form that a law's walk calls; clepsydralaw21.awake. Conditions: the net as it lies. -/
import Derived.Test.YtikecafblampeaaPetD
namespace Go.Proofs.Ytikecafblampeaa
set_option linter.unusedVariables false
set_option linter.unusedSimpArgs false
open Go.ChangeShapes Go.WideShapes Go.ChangeAt Go.RowKit
variable {Fr : Nat → Prop}

/-- A message without items. -/
abbrev mg0 (k id : Int) : Mg := ⟨k, 0, 0, id, 0, none, 0, []⟩
theorem mg0_rd (w : World) (x : Mg) (h : x.A = none) (hL : x.L = []) (hc : x.c = 0) : x.rd w := by
  refine ⟨?_, by rw [hL, hc]; simp, by rw [hc]; simp⟩
  rw [hL]; exact RowAt.nil_
theorem bare_lit {x : Mg} {k f t id n : Int} {L : List It} (h : x.bare = ⟨k, f, t, id, n, none, 0, L⟩) : ∃ A c, x = ⟨k, f, t, id, n, A, c, L⟩ := by
  obtain ⟨k', f', t', id', n', A', c', L'⟩ := x
  unfold Mg.bare at h
  injection h with h1 h2 h3 h4 h5 _ _ h6
  subst h1 h2 h3 h4 h5 h6
  exact ⟨A', c', rfl⟩
section
variable {w0 w : World} {b : Nat} {rb : Option Nat} {m : Nat} {C : List Mg} {l s : Int}
end
end Go.Proofs.Ytikecafblampeaa
