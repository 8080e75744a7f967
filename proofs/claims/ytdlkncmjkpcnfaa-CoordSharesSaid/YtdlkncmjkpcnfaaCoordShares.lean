/- The walk of clepsydralaw24.CoordShares: it returns true. Conditions: the arguments are numbers of their kind. -/
import Derived.Test.YtdlkncmjkpcnfaaBits
import Derived.Test.YtdlkncmjkpcnfaaCoordSends
namespace Go.Proofs.Ytdlkncmjkpcnfaa.coordShares
open Go.ChangeShapes Go.WideShapes Go.ChangeAt Go.RowKit

theorem bit_step (y : Int) (k : Nat) (h0 : 0 ≤ y) (h1 : y < 18446744073709551616) : ∃ q : Int, bits .and .u64 (y / 2 ^ k) 1 = q ∧ (0 ≤ q ∧ q ≤ 1) ∧ cnt y (k + 1) = cnt y k + q := by
  have hp : (0 : Int) < 2 ^ k := by
    have : 0 < (2 : Nat) ^ k := Nat.pow_pos (by omega)
    have h3 : ((0 : Nat) : Int) < ((2 ^ k : Nat) : Int) := by omega
    simpa using h3
  have h2 : 0 ≤ y / 2 ^ k := Int.ediv_nonneg h0 (by omega)
  have h3 : y / 2 ^ k ≤ y := Int.ediv_le_self _ h0
  have e := and_mask (y / 2 ^ k) 1 1 (by omega) (by decide) h2 (by omega)
  exact ⟨_, e, by omega, rfl⟩

/-- What the test of the law needs: not both are enough, or they share a node. -/
theorem share (y1 y2 : Int) (n : Nat) (need : Int) (hy1 : 0 ≤ y1 ∧ y1 < 18446744073709551616) (hy2 : 0 ≤ y2 ∧ y2 < 18446744073709551616) (hn : (n : Int) < 2 * need) :
    (decide (need ≤ cnt y1 n) = false) ∨ (decide (need ≤ cnt y1 n) = true ∧ decide (need ≤ cnt y2 n) = false) ∨ (decide (need ≤ cnt y1 n) = true ∧ decide (need ≤ cnt y2 n) = true ∧ (bits .and .u64 y1 y2 == 0) = false) := by
  by_cases h1 : need ≤ cnt y1 n
  · by_cases h2 : need ≤ cnt y2 n
    · refine .inr (.inr ⟨decide_eq_true h1, decide_eq_true h2, beq_eq_false_iff_ne.2 fun h3 => ?_⟩)
      have := cnt_two y1 y2 n (fun i _ => and_zero_bits hy1.1 hy2.1 hy1.2 hy2.2 h3 i)
      omega
    · exact .inr (.inl ⟨decide_eq_true h1, decide_eq_false h2⟩)
  · exact .inl (decide_eq_false h1)

set_option maxHeartbeats 6400000 in
theorem walk {w : World} (a0 : Int) (w0 : (Lit.int .i64 a0).wf = true) (a1 : Int) (w1 : (Lit.int .u64 a1).wf = true) (a2 : Int) (w2 : (Lit.int .u64 a2).wf = true) :
    Calls Try.prog 4 #[.int .i64 a0, .int .u64 a1, .int .u64 a2] w fun e w' => e = .returned (.bool true) ∧ Below w.heap.size w w' := by
  have b1 := bounds_u64 w1
  have b2 := bounds_u64 w2
  have e0 := and_mask_i64 a0 8 255 (by omega) (by decide)
  generalize hx0 : a0 % 2 ^ 8 = x0 at e0
  have l0 : 0 ≤ x0 ∧ x0 < 256 := by omega
  clear hx0 w0 w1 w2
  obtain ⟨n, hn, hn1⟩ : ∃ n : Int, x0 % 7 + 1 = n ∧ (n = 1 ∨ n = 2 ∨ n = 3 ∨ n = 4 ∨ n = 5 ∨ n = 6 ∨ n = 7) := ⟨_, rfl, by omega⟩
  rcases hn1 with rfl | rfl | rfl | rfl | rfl | rfl | rfl
  · have m1 := and_mask a1 1 1 (by omega) (by decide) (by omega) (by omega)
    have m2 := and_mask a2 1 1 (by omega) (by decide) (by omega) (by omega)
    generalize hy1 : a1 % 2 ^ 1 = y1 at m1
    generalize hy2 : a2 % 2 ^ 1 = y2 at m2
    have ly1 : 0 ≤ y1 ∧ y1 < 18446744073709551616 := by omega
    have ly2 : 0 ≤ y2 ∧ y2 < 18446744073709551616 := by omega
    have HS := hide (share y1 y2 1 1 ly1 ly2 (by omega))
    clear hy1 hy2
    go_enter Try.func4, Try.ntmps4
    go_wp2_with ((with_reducible refine (need_any _ _ (by omega) (by omega)).mono ?_); rintro e w4 ⟨rfl, hg4⟩)
    go_quiet (fail)
    go_wp2_with fail
    go_loop [8, 9, 10] (fun x y i => ∃ k : Nat, k ≤ 1 ∧ i = .int .i64 k ∧ x = .int .i64 (cnt y1 k) ∧ y = .int .i64 (cnt y2 k)) (fun _ _ i => 1 - (intOf i).toNat)
    case atStart => exact ⟨0, by omega, rfl, rfl, rfl⟩
    case round =>
      obtain ⟨k, hk, rfl, rfl, rfl⟩ := hrel
      have c1 := cnt_bd y1 k
      have c2 := cnt_bd y2 k
      by_cases hlt : (k : Int) < 1
      · obtain ⟨q1, hq1, hq1b, hc1⟩ := bit_step y1 k ly1.1 ly1.2
        obtain ⟨q2, hq2, hq2b, hc2⟩ := bit_step y2 k ly2.1 ly2.2
        have HC1 := hide hc1
        have HC2 := hide hc2
        clear hc1 hc2
        go_wp2_with fail
        go_round
        case rel => exact ⟨k + 1, by omega, by go_num, by rw [HC1.out], by rw [HC2.out]⟩
        case measure => simp [intOf]; omega
      · obtain rfl : k = 1 := by omega
        generalize cnt y1 1 = p1 at *
        generalize cnt y2 1 = p2 at *
        rcases HS.out with h1 | ⟨h1, h2⟩ | ⟨h1, h2, h3⟩
        all_goals
          go_wp2_with ((with_reducible refine (awake_ok _).mono ?_); rintro e w5 ⟨rfl, hg5⟩)
          go_ret
          exact ⟨by rfl, below_step (below_drewN hg4 _) hg5⟩
  · have m1 := and_mask a1 2 3 (by omega) (by decide) (by omega) (by omega)
    have m2 := and_mask a2 2 3 (by omega) (by decide) (by omega) (by omega)
    generalize hy1 : a1 % 2 ^ 2 = y1 at m1
    generalize hy2 : a2 % 2 ^ 2 = y2 at m2
    have ly1 : 0 ≤ y1 ∧ y1 < 18446744073709551616 := by omega
    have ly2 : 0 ≤ y2 ∧ y2 < 18446744073709551616 := by omega
    have HS := hide (share y1 y2 2 2 ly1 ly2 (by omega))
    clear hy1 hy2
    go_enter Try.func4, Try.ntmps4
    go_wp2_with ((with_reducible refine (need_any _ _ (by omega) (by omega)).mono ?_); rintro e w4 ⟨rfl, hg4⟩)
    go_quiet (fail)
    go_wp2_with fail
    go_loop [8, 9, 10] (fun x y i => ∃ k : Nat, k ≤ 2 ∧ i = .int .i64 k ∧ x = .int .i64 (cnt y1 k) ∧ y = .int .i64 (cnt y2 k)) (fun _ _ i => 2 - (intOf i).toNat)
    case atStart => exact ⟨0, by omega, rfl, rfl, rfl⟩
    case round =>
      obtain ⟨k, hk, rfl, rfl, rfl⟩ := hrel
      have c1 := cnt_bd y1 k
      have c2 := cnt_bd y2 k
      by_cases hlt : (k : Int) < 2
      · obtain ⟨q1, hq1, hq1b, hc1⟩ := bit_step y1 k ly1.1 ly1.2
        obtain ⟨q2, hq2, hq2b, hc2⟩ := bit_step y2 k ly2.1 ly2.2
        have HC1 := hide hc1
        have HC2 := hide hc2
        clear hc1 hc2
        go_wp2_with fail
        go_round
        case rel => exact ⟨k + 1, by omega, by go_num, by rw [HC1.out], by rw [HC2.out]⟩
        case measure => simp [intOf]; omega
      · obtain rfl : k = 2 := by omega
        generalize cnt y1 2 = p1 at *
        generalize cnt y2 2 = p2 at *
        rcases HS.out with h1 | ⟨h1, h2⟩ | ⟨h1, h2, h3⟩
        all_goals
          go_wp2_with ((with_reducible refine (awake_ok _).mono ?_); rintro e w5 ⟨rfl, hg5⟩)
          go_ret
          exact ⟨by rfl, below_step (below_drewN hg4 _) hg5⟩
  · have m1 := and_mask a1 3 7 (by omega) (by decide) (by omega) (by omega)
    have m2 := and_mask a2 3 7 (by omega) (by decide) (by omega) (by omega)
    generalize hy1 : a1 % 2 ^ 3 = y1 at m1
    generalize hy2 : a2 % 2 ^ 3 = y2 at m2
    have ly1 : 0 ≤ y1 ∧ y1 < 18446744073709551616 := by omega
    have ly2 : 0 ≤ y2 ∧ y2 < 18446744073709551616 := by omega
    have HS := hide (share y1 y2 3 2 ly1 ly2 (by omega))
    clear hy1 hy2
    go_enter Try.func4, Try.ntmps4
    go_wp2_with ((with_reducible refine (need_any _ _ (by omega) (by omega)).mono ?_); rintro e w4 ⟨rfl, hg4⟩)
    go_quiet (fail)
    go_wp2_with fail
    go_loop [8, 9, 10] (fun x y i => ∃ k : Nat, k ≤ 3 ∧ i = .int .i64 k ∧ x = .int .i64 (cnt y1 k) ∧ y = .int .i64 (cnt y2 k)) (fun _ _ i => 3 - (intOf i).toNat)
    case atStart => exact ⟨0, by omega, rfl, rfl, rfl⟩
    case round =>
      obtain ⟨k, hk, rfl, rfl, rfl⟩ := hrel
      have c1 := cnt_bd y1 k
      have c2 := cnt_bd y2 k
      by_cases hlt : (k : Int) < 3
      · obtain ⟨q1, hq1, hq1b, hc1⟩ := bit_step y1 k ly1.1 ly1.2
        obtain ⟨q2, hq2, hq2b, hc2⟩ := bit_step y2 k ly2.1 ly2.2
        have HC1 := hide hc1
        have HC2 := hide hc2
        clear hc1 hc2
        go_wp2_with fail
        go_round
        case rel => exact ⟨k + 1, by omega, by go_num, by rw [HC1.out], by rw [HC2.out]⟩
        case measure => simp [intOf]; omega
      · obtain rfl : k = 3 := by omega
        generalize cnt y1 3 = p1 at *
        generalize cnt y2 3 = p2 at *
        rcases HS.out with h1 | ⟨h1, h2⟩ | ⟨h1, h2, h3⟩
        all_goals
          go_wp2_with ((with_reducible refine (awake_ok _).mono ?_); rintro e w5 ⟨rfl, hg5⟩)
          go_ret
          exact ⟨by rfl, below_step (below_drewN hg4 _) hg5⟩
  · have m1 := and_mask a1 4 15 (by omega) (by decide) (by omega) (by omega)
    have m2 := and_mask a2 4 15 (by omega) (by decide) (by omega) (by omega)
    generalize hy1 : a1 % 2 ^ 4 = y1 at m1
    generalize hy2 : a2 % 2 ^ 4 = y2 at m2
    have ly1 : 0 ≤ y1 ∧ y1 < 18446744073709551616 := by omega
    have ly2 : 0 ≤ y2 ∧ y2 < 18446744073709551616 := by omega
    have HS := hide (share y1 y2 4 3 ly1 ly2 (by omega))
    clear hy1 hy2
    go_enter Try.func4, Try.ntmps4
    go_wp2_with ((with_reducible refine (need_any _ _ (by omega) (by omega)).mono ?_); rintro e w4 ⟨rfl, hg4⟩)
    go_quiet (fail)
    go_wp2_with fail
    go_loop [8, 9, 10] (fun x y i => ∃ k : Nat, k ≤ 4 ∧ i = .int .i64 k ∧ x = .int .i64 (cnt y1 k) ∧ y = .int .i64 (cnt y2 k)) (fun _ _ i => 4 - (intOf i).toNat)
    case atStart => exact ⟨0, by omega, rfl, rfl, rfl⟩
    case round =>
      obtain ⟨k, hk, rfl, rfl, rfl⟩ := hrel
      have c1 := cnt_bd y1 k
      have c2 := cnt_bd y2 k
      by_cases hlt : (k : Int) < 4
      · obtain ⟨q1, hq1, hq1b, hc1⟩ := bit_step y1 k ly1.1 ly1.2
        obtain ⟨q2, hq2, hq2b, hc2⟩ := bit_step y2 k ly2.1 ly2.2
        have HC1 := hide hc1
        have HC2 := hide hc2
        clear hc1 hc2
        go_wp2_with fail
        go_round
        case rel => exact ⟨k + 1, by omega, by go_num, by rw [HC1.out], by rw [HC2.out]⟩
        case measure => simp [intOf]; omega
      · obtain rfl : k = 4 := by omega
        generalize cnt y1 4 = p1 at *
        generalize cnt y2 4 = p2 at *
        rcases HS.out with h1 | ⟨h1, h2⟩ | ⟨h1, h2, h3⟩
        all_goals
          go_wp2_with ((with_reducible refine (awake_ok _).mono ?_); rintro e w5 ⟨rfl, hg5⟩)
          go_ret
          exact ⟨by rfl, below_step (below_drewN hg4 _) hg5⟩
  · have m1 := and_mask a1 5 31 (by omega) (by decide) (by omega) (by omega)
    have m2 := and_mask a2 5 31 (by omega) (by decide) (by omega) (by omega)
    generalize hy1 : a1 % 2 ^ 5 = y1 at m1
    generalize hy2 : a2 % 2 ^ 5 = y2 at m2
    have ly1 : 0 ≤ y1 ∧ y1 < 18446744073709551616 := by omega
    have ly2 : 0 ≤ y2 ∧ y2 < 18446744073709551616 := by omega
    have HS := hide (share y1 y2 5 3 ly1 ly2 (by omega))
    clear hy1 hy2
    go_enter Try.func4, Try.ntmps4
    go_wp2_with ((with_reducible refine (need_any _ _ (by omega) (by omega)).mono ?_); rintro e w4 ⟨rfl, hg4⟩)
    go_quiet (fail)
    go_wp2_with fail
    go_loop [8, 9, 10] (fun x y i => ∃ k : Nat, k ≤ 5 ∧ i = .int .i64 k ∧ x = .int .i64 (cnt y1 k) ∧ y = .int .i64 (cnt y2 k)) (fun _ _ i => 5 - (intOf i).toNat)
    case atStart => exact ⟨0, by omega, rfl, rfl, rfl⟩
    case round =>
      obtain ⟨k, hk, rfl, rfl, rfl⟩ := hrel
      have c1 := cnt_bd y1 k
      have c2 := cnt_bd y2 k
      by_cases hlt : (k : Int) < 5
      · obtain ⟨q1, hq1, hq1b, hc1⟩ := bit_step y1 k ly1.1 ly1.2
        obtain ⟨q2, hq2, hq2b, hc2⟩ := bit_step y2 k ly2.1 ly2.2
        have HC1 := hide hc1
        have HC2 := hide hc2
        clear hc1 hc2
        go_wp2_with fail
        go_round
        case rel => exact ⟨k + 1, by omega, by go_num, by rw [HC1.out], by rw [HC2.out]⟩
        case measure => simp [intOf]; omega
      · obtain rfl : k = 5 := by omega
        generalize cnt y1 5 = p1 at *
        generalize cnt y2 5 = p2 at *
        rcases HS.out with h1 | ⟨h1, h2⟩ | ⟨h1, h2, h3⟩
        all_goals
          go_wp2_with ((with_reducible refine (awake_ok _).mono ?_); rintro e w5 ⟨rfl, hg5⟩)
          go_ret
          exact ⟨by rfl, below_step (below_drewN hg4 _) hg5⟩
  · have m1 := and_mask a1 6 63 (by omega) (by decide) (by omega) (by omega)
    have m2 := and_mask a2 6 63 (by omega) (by decide) (by omega) (by omega)
    generalize hy1 : a1 % 2 ^ 6 = y1 at m1
    generalize hy2 : a2 % 2 ^ 6 = y2 at m2
    have ly1 : 0 ≤ y1 ∧ y1 < 18446744073709551616 := by omega
    have ly2 : 0 ≤ y2 ∧ y2 < 18446744073709551616 := by omega
    have HS := hide (share y1 y2 6 4 ly1 ly2 (by omega))
    clear hy1 hy2
    go_enter Try.func4, Try.ntmps4
    go_wp2_with ((with_reducible refine (need_any _ _ (by omega) (by omega)).mono ?_); rintro e w4 ⟨rfl, hg4⟩)
    go_quiet (fail)
    go_wp2_with fail
    go_loop [8, 9, 10] (fun x y i => ∃ k : Nat, k ≤ 6 ∧ i = .int .i64 k ∧ x = .int .i64 (cnt y1 k) ∧ y = .int .i64 (cnt y2 k)) (fun _ _ i => 6 - (intOf i).toNat)
    case atStart => exact ⟨0, by omega, rfl, rfl, rfl⟩
    case round =>
      obtain ⟨k, hk, rfl, rfl, rfl⟩ := hrel
      have c1 := cnt_bd y1 k
      have c2 := cnt_bd y2 k
      by_cases hlt : (k : Int) < 6
      · obtain ⟨q1, hq1, hq1b, hc1⟩ := bit_step y1 k ly1.1 ly1.2
        obtain ⟨q2, hq2, hq2b, hc2⟩ := bit_step y2 k ly2.1 ly2.2
        have HC1 := hide hc1
        have HC2 := hide hc2
        clear hc1 hc2
        go_wp2_with fail
        go_round
        case rel => exact ⟨k + 1, by omega, by go_num, by rw [HC1.out], by rw [HC2.out]⟩
        case measure => simp [intOf]; omega
      · obtain rfl : k = 6 := by omega
        generalize cnt y1 6 = p1 at *
        generalize cnt y2 6 = p2 at *
        rcases HS.out with h1 | ⟨h1, h2⟩ | ⟨h1, h2, h3⟩
        all_goals
          go_wp2_with ((with_reducible refine (awake_ok _).mono ?_); rintro e w5 ⟨rfl, hg5⟩)
          go_ret
          exact ⟨by rfl, below_step (below_drewN hg4 _) hg5⟩
  · have m1 := and_mask a1 7 127 (by omega) (by decide) (by omega) (by omega)
    have m2 := and_mask a2 7 127 (by omega) (by decide) (by omega) (by omega)
    generalize hy1 : a1 % 2 ^ 7 = y1 at m1
    generalize hy2 : a2 % 2 ^ 7 = y2 at m2
    have ly1 : 0 ≤ y1 ∧ y1 < 18446744073709551616 := by omega
    have ly2 : 0 ≤ y2 ∧ y2 < 18446744073709551616 := by omega
    have HS := hide (share y1 y2 7 4 ly1 ly2 (by omega))
    clear hy1 hy2
    go_enter Try.func4, Try.ntmps4
    go_wp2_with ((with_reducible refine (need_any _ _ (by omega) (by omega)).mono ?_); rintro e w4 ⟨rfl, hg4⟩)
    go_quiet (fail)
    go_wp2_with fail
    go_loop [8, 9, 10] (fun x y i => ∃ k : Nat, k ≤ 7 ∧ i = .int .i64 k ∧ x = .int .i64 (cnt y1 k) ∧ y = .int .i64 (cnt y2 k)) (fun _ _ i => 7 - (intOf i).toNat)
    case atStart => exact ⟨0, by omega, rfl, rfl, rfl⟩
    case round =>
      obtain ⟨k, hk, rfl, rfl, rfl⟩ := hrel
      have c1 := cnt_bd y1 k
      have c2 := cnt_bd y2 k
      by_cases hlt : (k : Int) < 7
      · obtain ⟨q1, hq1, hq1b, hc1⟩ := bit_step y1 k ly1.1 ly1.2
        obtain ⟨q2, hq2, hq2b, hc2⟩ := bit_step y2 k ly2.1 ly2.2
        have HC1 := hide hc1
        have HC2 := hide hc2
        clear hc1 hc2
        go_wp2_with fail
        go_round
        case rel => exact ⟨k + 1, by omega, by go_num, by rw [HC1.out], by rw [HC2.out]⟩
        case measure => simp [intOf]; omega
      · obtain rfl : k = 7 := by omega
        generalize cnt y1 7 = p1 at *
        generalize cnt y2 7 = p2 at *
        rcases HS.out with h1 | ⟨h1, h2⟩ | ⟨h1, h2, h3⟩
        all_goals
          go_wp2_with ((with_reducible refine (awake_ok _).mono ?_); rintro e w5 ⟨rfl, hg5⟩)
          go_ret
          exact ⟨by rfl, below_step (below_drewN hg4 _) hg5⟩
end Go.Proofs.Ytdlkncmjkpcnfaa.coordShares
