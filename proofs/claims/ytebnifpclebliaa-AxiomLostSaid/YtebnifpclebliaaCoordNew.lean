/- A client's call begun: which may be. Contracts of coord.Nodes, Ok. No conditions. -/
import Derived.Test.YtebnifpclebliaaCoordAwake
namespace Go.Proofs.Ytebnifpclebliaa
set_option linter.unusedVariables false
set_option linter.unusedSimpArgs false
open Go.ChangeShapes Go.WideShapes Go.ChangeAt Go.RowKit

def nodesB (n at_ id : Int) : Bool := decide (1 ≤ n ∧ n ≤ 7 ∧ 0 ≤ at_ ∧ at_ < n ∧ 1 ≤ id ∧ id ≤ 1099511627776)
def clientB (k s t x : Int) : Bool := decide (0 ≤ s ∧ s ≤ 255 ∧ t ≤ 1099511627776 ∧ (k = 1 ∨ ((k = 2 ∨ k = 3) ∧ t = 0 ∧ x = 0)))
abbrev client4 (k s t x : Int) : Value := .agg #[.int .i64 k, .int .i64 s, .int .u64 t, .int .i64 x]

set_option maxHeartbeats 3200000 in
theorem ok_any (k s t x : Int) (w : World) : Calls Try.prog 28 #[client4 k s t x] w fun e w' => e = .returned (.bool (clientB k s t x)) ∧ Below w.heap.size w w' := by
  by_cases h0 : 0 ≤ s
  case neg =>
    first | rw [show clientB _ _ _ _ = true from decide_eq_true (by omega)] | rw [show clientB _ _ _ _ = false from decide_eq_false (by omega)]
    go_enter Try.func28, Try.ntmps28
    go_wp2
    go_returns
    exact ⟨by simp; try omega, by go_grown⟩
  by_cases h1 : s ≤ 255
  case neg =>
    first | rw [show clientB _ _ _ _ = true from decide_eq_true (by omega)] | rw [show clientB _ _ _ _ = false from decide_eq_false (by omega)]
    go_enter Try.func28, Try.ntmps28
    go_wp2
    go_returns
    exact ⟨by simp; try omega, by go_grown⟩
  by_cases h2 : t ≤ 1099511627776
  case neg =>
    first | rw [show clientB _ _ _ _ = true from decide_eq_true (by omega)] | rw [show clientB _ _ _ _ = false from decide_eq_false (by omega)]
    go_enter Try.func28, Try.ntmps28
    go_wp2
    go_returns
    exact ⟨by simp; try omega, by go_grown⟩
  by_cases k2 : k = 2
  case pos =>
    subst k2
    by_cases g0 : t = 0
    case neg =>
      first | rw [show clientB _ _ _ _ = true from decide_eq_true (by omega)] | rw [show clientB _ _ _ _ = false from decide_eq_false (by omega)]
      go_enter Try.func28, Try.ntmps28
      go_wp2
      go_returns
      exact ⟨by simp; try omega, by go_grown⟩
    by_cases g1 : x = 0
    case neg =>
      first | rw [show clientB _ _ _ _ = true from decide_eq_true (by omega)] | rw [show clientB _ _ _ _ = false from decide_eq_false (by omega)]
      go_enter Try.func28, Try.ntmps28
      go_wp2
      go_returns
      exact ⟨by simp; try omega, by go_grown⟩
    subst g0
    subst g1
    first | rw [show clientB _ _ _ _ = true from decide_eq_true (by omega)] | rw [show clientB _ _ _ _ = false from decide_eq_false (by omega)]
    go_enter Try.func28, Try.ntmps28
    go_wp2
    go_returns
    exact ⟨by simp; try omega, by go_grown⟩
  by_cases k3 : k = 3
  case pos =>
    subst k3
    by_cases g0 : t = 0
    case neg =>
      first | rw [show clientB _ _ _ _ = true from decide_eq_true (by omega)] | rw [show clientB _ _ _ _ = false from decide_eq_false (by omega)]
      go_enter Try.func28, Try.ntmps28
      go_wp2
      go_returns
      exact ⟨by simp; try omega, by go_grown⟩
    by_cases g1 : x = 0
    case neg =>
      first | rw [show clientB _ _ _ _ = true from decide_eq_true (by omega)] | rw [show clientB _ _ _ _ = false from decide_eq_false (by omega)]
      go_enter Try.func28, Try.ntmps28
      go_wp2
      go_returns
      exact ⟨by simp; try omega, by go_grown⟩
    subst g0
    subst g1
    first | rw [show clientB _ _ _ _ = true from decide_eq_true (by omega)] | rw [show clientB _ _ _ _ = false from decide_eq_false (by omega)]
    go_enter Try.func28, Try.ntmps28
    go_wp2
    go_returns
    exact ⟨by simp; try omega, by go_grown⟩
  by_cases k1 : k = 1
  case pos =>
    subst k1
    first | rw [show clientB _ _ _ _ = true from decide_eq_true (by omega)] | rw [show clientB _ _ _ _ = false from decide_eq_false (by omega)]
    go_enter Try.func28, Try.ntmps28
    go_wp2
    go_returns
    exact ⟨by simp; try omega, by go_grown⟩
  first | rw [show clientB _ _ _ _ = true from decide_eq_true (by omega)] | rw [show clientB _ _ _ _ = false from decide_eq_false (by omega)]
  go_enter Try.func28, Try.ntmps28
  go_wp2
  go_returns
  exact ⟨by simp; try omega, by go_grown⟩
end Go.Proofs.Ytebnifpclebliaa
