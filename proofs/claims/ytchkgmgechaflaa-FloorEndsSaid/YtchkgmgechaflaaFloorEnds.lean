/- The walk of clepsydralaw22.FloorEnds: it returns true. Conditions: the arguments are numbers of their kind. -/
import Derived.Test.YtchkgmgechaflaaFloor
namespace Go.Proofs.Ytchkgmgechaflaa.floorEnds
open Go.ChangeShapes Go.WideShapes Go.ChangeAt Go.RowKit
set_option maxHeartbeats 400000 in
theorem walk (a0 : Int) (w0 : (Lit.int .u64 a0).wf = true) (a1 : Int) (w1 : (Lit.int .u64 a1).wf = true) (a2 : Int) (w2 : (Lit.int .u64 a2).wf = true) (w : World) :
    Calls Try.prog 6 #[.int .u64 a0, .int .u64 a1, .int .u64 a2] w fun e w' => e = .returned (.bool true) ∧ Below w.heap.size w w' := by
  obtain ⟨b0, c0⟩ := bounds_u64 w0
  obtain ⟨b1, c1⟩ := bounds_u64 w1
  obtain ⟨b2, c2⟩ := bounds_u64 w2
  have e0 := and_mask a0 3 7 (by omega) (by decide) b0 (by omega)
  generalize hx0 : a0 % 2 ^ 3 = x0 at e0
  have l0 : 0 ≤ x0 ∧ x0 < 8 := by omega
  clear hx0 w0 w1 w2
  have n0 : ((0 : Int) == 281474976710652 + x0) = false := beq_eq_false_iff_ne.2 (by omega)
  by_cases hf : x0 ≤ 4
  · have d1 : decide (281474976710652 + x0 ≤ 281474976710656) = true := by simp; omega
    have s1 : sealB (281474976710652 + x0) 0 = true := by simp only [sealB, decide_eq_true_eq]; omega
    have s2 : evenB (281474976710652 + x0) (281474976710652 + x0) 0 = true := by simp only [evenB, decide_eq_true_eq]; omega
    have hk1 := pseal_yes 0 0 0 0 (281474976710652 + x0)
    have hk2 := peven_yes (281474976710652 + x0) 0 0 0 (281474976710652 + x0) a1
    obtain ⟨y, hy, hy1⟩ : ∃ y, capV a1 = y ∧ ((281474976710656 < a1 ∧ y = 281474976710656) ∨ (a1 ≤ 281474976710656 ∧ y = a1)) := ⟨_, rfl, by unfold capV; split <;> omega⟩
    rw [hy] at hk2
    have hyn : 0 ≤ y := by omega
    cases hcol : collects y a1 a2
    · have hk3 := fun W => pcollect_no (281474976710652 + x0) (281474976710652 + x0) y 0 a1 a2 W (by omega) (by omega) hcol
      simp only [collects, decide_eq_false_iff_not] at hcol
      have hor : (281474976710656 - y < a2 ∧ decide (a2 ≤ 281474976710656 - y) = false) ∨ (a2 ≤ 281474976710656 - y ∧ a1 < y + a2 ∧ decide (a2 ≤ 281474976710656 - y) = true ∧ decide (y + a2 ≤ a1) = false) := by
        by_cases hgr : a2 ≤ 281474976710656 - y
        · right; simp; omega
        · left; simp; omega
      clear hcol
      rcases hor with ⟨i1, hor⟩ | ⟨i1, i2, hor, hor2⟩
      all_goals
        rcases hy1 with ⟨h1, rfl⟩ | ⟨h1, rfl⟩
        all_goals try (exfalso; omega)
        all_goals
          clear hy
          go_enter Try.func6, Try.ntmps6
          go_wp2_with (first
            | ((with_reducible refine (hk1 _ s1).mono ?_); rintro e w1 ⟨rfl, hg1⟩; obtain ⟨hc1, hf1⟩ := bcell hg1)
            | ((with_reducible refine (hk2 _ s2).mono ?_); rintro e w2 ⟨rfl, hg2⟩; obtain ⟨hc2, hf2⟩ := bcell hg2)
            | ((with_reducible refine (hk3 _).mono ?_); rintro e w3 ⟨rfl, hg3⟩; obtain ⟨hc3, hf3⟩ := bcell hg3)
            | ((with_reducible refine (awake_ok _).mono ?_); rintro e w4 ⟨rfl, hg4⟩))
          all_goals
            go_returns
            exact ⟨by rfl, by repeat' (first | exact Below.refl _ _ | refine below_alloc ?_ _ | refine below_step ?_ (by assumption))⟩
    · have hk3 := fun W => pcollect_yes (281474976710652 + x0) (281474976710652 + x0) y 0 a1 a2 W (by omega) (by omega) hcol
      simp only [collects, decide_eq_true_eq] at hcol
      obtain ⟨q1, q2, q3⟩ := hcol
      have d2 : decide (a2 ≤ 281474976710656 - y) = true := by simp; omega
      have d3 : decide (y + a2 ≤ a1) = true := by simp; omega
      rcases hy1 with ⟨h1, rfl⟩ | ⟨h1, rfl⟩
      all_goals
        clear hy
        go_enter Try.func6, Try.ntmps6
        go_wp2_with (first
          | ((with_reducible refine (hk1 _ s1).mono ?_); rintro e w1 ⟨rfl, hg1⟩; obtain ⟨hc1, hf1⟩ := bcell hg1)
          | ((with_reducible refine (hk2 _ s2).mono ?_); rintro e w2 ⟨rfl, hg2⟩; obtain ⟨hc2, hf2⟩ := bcell hg2)
          | ((with_reducible refine (hk3 _).mono ?_); rintro e w3 ⟨rfl, hg3⟩; obtain ⟨hc3, hf3⟩ := bcell hg3)
          | ((with_reducible refine (awake_ok _).mono ?_); rintro e w4 ⟨rfl, hg4⟩))
        all_goals
          go_returns
          exact ⟨by rfl, by repeat' (first | exact Below.refl _ _ | refine below_alloc ?_ _ | refine below_step ?_ (by assumption))⟩
  · have d1 : decide (281474976710652 + x0 ≤ 281474976710656) = false := by simp; omega
    have s1 : sealB (281474976710652 + x0) 0 = false := by simp only [sealB, decide_eq_false_iff_not]; omega
    have hk1 := pseal_no 0 0 0 0 (281474976710652 + x0)
    go_enter Try.func6, Try.ntmps6
    go_wp2_with (first
      | ((with_reducible refine (hk1 _ s1).mono ?_); rintro e w1 ⟨rfl, hg1⟩; obtain ⟨hc1, hf1⟩ := bcell hg1)
      | ((with_reducible refine (awake_ok _).mono ?_); rintro e w4 ⟨rfl, hg4⟩))
    all_goals
      go_returns
      exact ⟨by rfl, by repeat' (first | exact Below.refl _ _ | refine below_alloc ?_ _ | refine below_step ?_ (by assumption))⟩
end Go.Proofs.Ytchkgmgechaflaa.floorEnds
