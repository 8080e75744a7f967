/- The walk of clepsydralaw22.FloorCollects: it returns true. Conditions: the arguments are numbers of their kind. -/
import Derived.Test.YtchkgmgechaflaaFloor
namespace Go.Proofs.Ytchkgmgechaflaa.floorCollects
open Go.ChangeShapes Go.WideShapes Go.ChangeAt Go.RowKit
set_option maxHeartbeats 400000 in
theorem walk (a0 : Int) (w0 : (Lit.int .u64 a0).wf = true) (a1 : Int) (w1 : (Lit.int .u64 a1).wf = true) (a2 : Int) (w2 : (Lit.int .u64 a2).wf = true) (a3 : Int) (w3 : (Lit.int .u64 a3).wf = true) (w : World) :
    Calls Try.prog 3 #[.int .u64 a0, .int .u64 a1, .int .u64 a2, .int .u64 a3] w fun e w' => e = .returned (.bool true) ∧ Below w.heap.size w w' := by
  obtain ⟨b0, c0⟩ := bounds_u64 w0
  obtain ⟨b1, c1⟩ := bounds_u64 w1
  obtain ⟨b2, c2⟩ := bounds_u64 w2
  obtain ⟨b3, c3⟩ := bounds_u64 w3
  have e0 := and_mask a0 40 1099511627775 (by omega) (by decide) b0 (by omega)
  have e1 := and_mask a1 40 1099511627775 (by omega) (by decide) b1 (by omega)
  have e2 := and_mask a2 40 1099511627775 (by omega) (by decide) b2 (by omega)
  have e3 := and_mask a3 42 4398046511103 (by omega) (by decide) b3 (by omega)
  generalize hx0 : a0 % 2 ^ 40 = x0 at e0
  generalize hx1 : a1 % 2 ^ 40 = x1 at e1
  generalize hx2 : a2 % 2 ^ 40 = x2 at e2
  generalize hx3 : a3 % 2 ^ 42 = x3 at e3
  have l0 : 0 ≤ x0 ∧ x0 < 1099511627776 := by omega
  have l1 : 0 ≤ x1 ∧ x1 < 1099511627776 := by omega
  have l2 : 0 ≤ x2 ∧ x2 < 1099511627776 := by omega
  have l3 : 0 ≤ x3 ∧ x3 < 4398046511104 := by omega
  clear hx0 hx1 hx2 hx3 w0 w1 w2 w3
  by_cases h : x1 + x2 ≤ x3
  · have h4 : collects x1 x3 x2 = true := by simp only [collects, decide_eq_true_eq]; omega
    have h5 : collects x1 (x3 + 1) x2 = true := by simp only [collects, decide_eq_true_eq]; omega
    go_enter Try.func3, Try.ntmps3
    go_wp2_with (first
      | ((with_reducible refine (pcollect_yes (x0 + 5) x0 x1 0 x3 x2 _ (by omega) (by omega) h4).mono ?_); rintro e w1 ⟨rfl, hg1⟩; obtain ⟨hc1, hf1⟩ := bcell hg1)
      | ((with_reducible refine (pcollect_yes (x0 + 5) x0 x1 0 (x3 + 1) x2 _ (by omega) (by omega) h5).mono ?_); rintro e w2 ⟨rfl, hg2⟩)
      | ((with_reducible refine (awake_ok _).mono ?_); rintro e w3 ⟨rfl, hg3⟩))
    go_returns
    have g1 := (Below.alloc (Below.refl w.heap.size w) (Nat.le_refl _) _).trans (hg1.mono (by simp))
    have g2 := g1.trans (hg2.mono g1.size)
    exact ⟨rfl, g2.trans (hg3.mono g2.size)⟩
  · have h4 : collects x1 x3 x2 = false := by simp only [collects, decide_eq_false_iff_not]; omega
    go_enter Try.func3, Try.ntmps3
    go_wp2_with (first
      | ((with_reducible refine (pcollect_no (x0 + 5) x0 x1 0 x3 x2 _ (by omega) (by omega) h4).mono ?_); rintro e w1 ⟨rfl, hg1⟩; obtain ⟨hc1, hf1⟩ := bcell hg1)
      | ((with_reducible refine (awake_ok _).mono ?_); rintro e w3 ⟨rfl, hg3⟩))
    go_returns
    have g1 := (Below.alloc (Below.refl w.heap.size w) (Nat.le_refl _) _).trans (hg1.mono (by simp))
    exact ⟨rfl, g1.trans (hg3.mono g1.size)⟩
end Go.Proofs.Ytchkgmgechaflaa.floorCollects
