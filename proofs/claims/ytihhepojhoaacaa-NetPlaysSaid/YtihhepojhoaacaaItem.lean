/- What samples and deletes are to each other: contracts of package item and of the document's answer. No conditions. -/
import Derived.Test.YtihhepojhoaacaaSt
namespace Go.Proofs.Ytihhepojhoaacaa
set_option linter.unusedVariables false
set_option linter.unusedSimpArgs false
open Go.ChangeShapes Go.WideShapes Go.ChangeAt Go.RowKit

set_option maxHeartbeats 3200000 in
theorem pgood_any (a : It) (w : World) : Calls Try.prog 38 #[a.val] w fun e w' => e = .returned (.bool (goodB a)) ∧ Below w.heap.size w w' := by
  obtain ⟨a0, a1, a2, a3, a4⟩ := a
  by_cases h0 : a0 < 0
  case pos =>
    first | rw [show goodB _ = true from decide_eq_true (by dsimp only [It.good]; omega)] | rw [show goodB _ = false from decide_eq_false (by dsimp only [It.good]; omega)]
    go_enter Try.func38, Try.ntmps38
    go_wp2
    go_returns
    exact ⟨by simp; try omega, by go_grown⟩
  by_cases h1 : 255 < a0
  case pos =>
    first | rw [show goodB _ = true from decide_eq_true (by dsimp only [It.good]; omega)] | rw [show goodB _ = false from decide_eq_false (by dsimp only [It.good]; omega)]
    go_enter Try.func38, Try.ntmps38
    go_wp2
    go_returns
    exact ⟨by simp; try omega, by go_grown⟩
  by_cases h2 : a3 < 1
  case pos =>
    first | rw [show goodB _ = true from decide_eq_true (by dsimp only [It.good]; omega)] | rw [show goodB _ = false from decide_eq_false (by dsimp only [It.good]; omega)]
    go_enter Try.func38, Try.ntmps38
    go_wp2
    go_returns
    exact ⟨by simp; try omega, by go_grown⟩
  by_cases h3 : 281474976710656 < a3
  case pos =>
    first | rw [show goodB _ = true from decide_eq_true (by dsimp only [It.good]; omega)] | rw [show goodB _ = false from decide_eq_false (by dsimp only [It.good]; omega)]
    go_enter Try.func38, Try.ntmps38
    go_wp2
    go_returns
    exact ⟨by simp; try omega, by go_grown⟩
  by_cases k1 : a1 = 1
  case pos =>
    subst k1
    by_cases g0 : a2 ≠ 0
    case pos =>
      first | rw [show goodB _ = true from decide_eq_true (by dsimp only [It.good]; omega)] | rw [show goodB _ = false from decide_eq_false (by dsimp only [It.good]; omega)]
      go_enter Try.func38, Try.ntmps38
      go_wp2
      go_returns
      exact ⟨by simp; try omega, by go_grown⟩
    by_cases g1 : a4 ≠ 0
    case pos =>
      first | rw [show goodB _ = true from decide_eq_true (by dsimp only [It.good]; omega)] | rw [show goodB _ = false from decide_eq_false (by dsimp only [It.good]; omega)]
      go_enter Try.func38, Try.ntmps38
      go_wp2
      go_returns
      exact ⟨by simp; try omega, by go_grown⟩
    obtain rfl : a2 = 0 := by omega
    obtain rfl : a4 = 0 := by omega
    first | rw [show goodB _ = true from decide_eq_true (by dsimp only [It.good]; omega)] | rw [show goodB _ = false from decide_eq_false (by dsimp only [It.good]; omega)]
    go_enter Try.func38, Try.ntmps38
    go_wp2
    go_returns
    exact ⟨by simp; try omega, by go_grown⟩
  by_cases k2 : a1 = 2
  case pos =>
    subst k2
    by_cases g2 : 1099511627776 < a2
    case pos =>
      first | rw [show goodB _ = true from decide_eq_true (by dsimp only [It.good]; omega)] | rw [show goodB _ = false from decide_eq_false (by dsimp only [It.good]; omega)]
      go_enter Try.func38, Try.ntmps38
      go_wp2
      go_returns
      exact ⟨by simp; try omega, by go_grown⟩
    first | rw [show goodB _ = true from decide_eq_true (by dsimp only [It.good]; omega)] | rw [show goodB _ = false from decide_eq_false (by dsimp only [It.good]; omega)]
    go_enter Try.func38, Try.ntmps38
    go_wp2
    go_returns
    exact ⟨by simp; try omega, by go_grown⟩
  first | rw [show goodB _ = true from decide_eq_true (by dsimp only [It.good]; omega)] | rw [show goodB _ = false from decide_eq_false (by dsimp only [It.good]; omega)]
  go_enter Try.func38, Try.ntmps38
  go_wp2
  go_returns
  exact ⟨by simp; try omega, by go_grown⟩
set_option maxHeartbeats 3200000 in
theorem rgood_any (a : It) (w : World) : Calls Try.prog 35 #[a.val] w fun e w' => e = .returned (.bool (goodB a)) ∧ Below w.heap.size w w' := by
  obtain ⟨a0, a1, a2, a3, a4⟩ := a
  by_cases h0 : a0 < 0
  case pos =>
    first | rw [show goodB _ = true from decide_eq_true (by dsimp only [It.good]; omega)] | rw [show goodB _ = false from decide_eq_false (by dsimp only [It.good]; omega)]
    go_enter Try.func35, Try.ntmps35
    go_wp2
    go_returns
    exact ⟨by simp; try omega, by go_grown⟩
  by_cases h1 : 255 < a0
  case pos =>
    first | rw [show goodB _ = true from decide_eq_true (by dsimp only [It.good]; omega)] | rw [show goodB _ = false from decide_eq_false (by dsimp only [It.good]; omega)]
    go_enter Try.func35, Try.ntmps35
    go_wp2
    go_returns
    exact ⟨by simp; try omega, by go_grown⟩
  by_cases h2 : a3 < 1
  case pos =>
    first | rw [show goodB _ = true from decide_eq_true (by dsimp only [It.good]; omega)] | rw [show goodB _ = false from decide_eq_false (by dsimp only [It.good]; omega)]
    go_enter Try.func35, Try.ntmps35
    go_wp2
    go_returns
    exact ⟨by simp; try omega, by go_grown⟩
  by_cases h3 : 281474976710656 < a3
  case pos =>
    first | rw [show goodB _ = true from decide_eq_true (by dsimp only [It.good]; omega)] | rw [show goodB _ = false from decide_eq_false (by dsimp only [It.good]; omega)]
    go_enter Try.func35, Try.ntmps35
    go_wp2
    go_returns
    exact ⟨by simp; try omega, by go_grown⟩
  by_cases k1 : a1 = 1
  case pos =>
    subst k1
    by_cases g0 : a2 ≠ 0
    case pos =>
      first | rw [show goodB _ = true from decide_eq_true (by dsimp only [It.good]; omega)] | rw [show goodB _ = false from decide_eq_false (by dsimp only [It.good]; omega)]
      go_enter Try.func35, Try.ntmps35
      go_wp2
      go_returns
      exact ⟨by simp; try omega, by go_grown⟩
    by_cases g1 : a4 ≠ 0
    case pos =>
      first | rw [show goodB _ = true from decide_eq_true (by dsimp only [It.good]; omega)] | rw [show goodB _ = false from decide_eq_false (by dsimp only [It.good]; omega)]
      go_enter Try.func35, Try.ntmps35
      go_wp2
      go_returns
      exact ⟨by simp; try omega, by go_grown⟩
    obtain rfl : a2 = 0 := by omega
    obtain rfl : a4 = 0 := by omega
    first | rw [show goodB _ = true from decide_eq_true (by dsimp only [It.good]; omega)] | rw [show goodB _ = false from decide_eq_false (by dsimp only [It.good]; omega)]
    go_enter Try.func35, Try.ntmps35
    go_wp2
    go_returns
    exact ⟨by simp; try omega, by go_grown⟩
  by_cases k2 : a1 = 2
  case pos =>
    subst k2
    by_cases g2 : 1099511627776 < a2
    case pos =>
      first | rw [show goodB _ = true from decide_eq_true (by dsimp only [It.good]; omega)] | rw [show goodB _ = false from decide_eq_false (by dsimp only [It.good]; omega)]
      go_enter Try.func35, Try.ntmps35
      go_wp2
      go_returns
      exact ⟨by simp; try omega, by go_grown⟩
    first | rw [show goodB _ = true from decide_eq_true (by dsimp only [It.good]; omega)] | rw [show goodB _ = false from decide_eq_false (by dsimp only [It.good]; omega)]
    go_enter Try.func35, Try.ntmps35
    go_wp2
    go_returns
    exact ⟨by simp; try omega, by go_grown⟩
  first | rw [show goodB _ = true from decide_eq_true (by dsimp only [It.good]; omega)] | rw [show goodB _ = false from decide_eq_false (by dsimp only [It.good]; omega)]
  go_enter Try.func35, Try.ntmps35
  go_wp2
  go_returns
  exact ⟨by simp; try omega, by go_grown⟩
theorem sameB_eq (a b : It) : sameB a b = (!ltB a b && !ltB b a) := by
  rw [Bool.eq_iff_iff]
  simp only [sameB, ltB, Bool.and_eq_true, Bool.not_eq_true', decide_eq_true_eq, decide_eq_false_iff_not]
  unfold It.same It.lt
  omega
end Go.Proofs.Ytihhepojhoaacaa
