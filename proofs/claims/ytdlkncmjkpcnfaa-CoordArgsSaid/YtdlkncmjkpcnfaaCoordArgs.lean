/- The walk of clepsydralaw24.CoordArgs: it returns true. Conditions: the arguments are numbers of their kind. -/
import Derived.Test.YtdlkncmjkpcnfaaBits
import Derived.Test.YtdlkncmjkpcnfaaCoordSends
namespace Go.Proofs.Ytdlkncmjkpcnfaa.coordArgs
open Go.ChangeShapes Go.WideShapes Go.ChangeAt Go.RowKit

def errN (b : Bool) : Int := if b then 0 else 1
theorem new_any (n at_ id k s t x v : Int) (w : World) :
    Calls Try.prog 5 #[.int .i64 n, .int .i64 at_, .int .u64 id, client4 k s t x, .int .u64 v] w fun e w' => (∃ p, e = .returned (.tuple #[.pointer p, .int .i64 (errN (newB n at_ id k s t x v))])) ∧ Below w.heap.size w w' := by
  cases h : newB n at_ id k s t x v
  · exact (new_no n at_ id k s t x v w h).mono fun e w' ⟨he, hb⟩ => ⟨⟨_, he⟩, hb⟩
  · exact (new_yes n at_ id k s t x v w h).mono fun e w' ⟨⟨b, he, _⟩, hb⟩ => ⟨⟨_, he⟩, hb⟩

theorem good_one (N AT ID S T V : Int) (hid : 1 ≤ ID) (hv : 1 ≤ V) : newB N AT ID 1 S T 0 V = decide (1 ≤ N ∧ N ≤ 7 ∧ 0 ≤ AT ∧ AT < N ∧ ID ≤ 1099511627776 ∧ 0 ≤ S ∧ S ≤ 255 ∧ T ≤ 1099511627776 ∧ V ≤ 281474976710656) := by
  have q1 : (V == 0) = false := beq_eq_false_iff_ne.2 (by omega)
  rw [Bool.eq_iff_iff]
  simp [newB, nodesB, clientB, q1]
  omega
theorem good_three (N AT ID S T V : Int) (hid : 1 ≤ ID) (hv : 1 ≤ V) : newB N AT ID 3 S 0 0 0 = decide (1 ≤ N ∧ N ≤ 7 ∧ 0 ≤ AT ∧ AT < N ∧ ID ≤ 1099511627776 ∧ 0 ≤ S ∧ S ≤ 255 ∧ S ≤ 255) := by
  have q1 : (V == 0) = false := beq_eq_false_iff_ne.2 (by omega)
  rw [Bool.eq_iff_iff]
  simp [newB, nodesB, clientB, q1]
  omega
theorem good_other (N AT ID K S T V : Int) (hid : 1 ≤ ID) (hv : 1 ≤ V) (hk1 : K ≠ 1) (hk3 : K ≠ 3) : newB N AT ID K S 0 0 V = decide (1 ≤ N ∧ N ≤ 7 ∧ 0 ≤ AT ∧ AT < N ∧ ID ≤ 1099511627776 ∧ 0 ≤ S ∧ S ≤ 255 ∧ 1 ≤ K ∧ K ≤ 3 ∧ V ≤ 281474976710656) := by
  have q1 : (V == 0) = false := beq_eq_false_iff_ne.2 (by omega)
  have q2 : (K == 3) = false := beq_eq_false_iff_ne.2 hk3
  rw [Bool.eq_iff_iff]
  simp [newB, nodesB, clientB, q1, q2]
  omega

set_option maxHeartbeats 12800000 in
set_option maxRecDepth 100000 in
theorem walk {w : World} (a0 : Int) (w0 : (Lit.int .i64 a0).wf = true) (a1 : Int) (w1 : (Lit.int .i64 a1).wf = true) (a2 : Int) (w2 : (Lit.int .u64 a2).wf = true) (a3 : Int) (w3 : (Lit.int .i64 a3).wf = true) (a4 : Int) (w4 : (Lit.int .i64 a4).wf = true)
    (a5 : Int) (w5 : (Lit.int .u64 a5).wf = true) (a6 : Int) (w6 : (Lit.int .u64 a6).wf = true) :
    Calls Try.prog 3 #[.int .i64 a0, .int .i64 a1, .int .u64 a2, .int .i64 a3, .int .i64 a4, .int .u64 a5, .int .u64 a6] w fun e w' => e = .returned (.bool true) ∧ Below w.heap.size w w' := by
  have b2 := bounds_u64 w2
  have b5 := bounds_u64 w5
  have b6 := bounds_u64 w6
  have e0 := and_mask_i64 a0 4 15 (by omega) (by decide)
  have e1 := and_mask_i64 a1 4 15 (by omega) (by decide)
  have e3 := and_mask_i64 a3 3 7 (by omega) (by decide)
  have e4 := and_mask_i64 a4 9 511 (by omega) (by decide)
  have e2 := and_mask a2 3 7 (by omega) (by decide) (by omega) (by omega)
  have e5 := and_mask a5 3 7 (by omega) (by decide) (by omega) (by omega)
  have e6 := and_mask a6 3 7 (by omega) (by decide) (by omega) (by omega)
  obtain ⟨N, hN⟩ : ∃ N, a0 % 2 ^ 4 = N := ⟨_, rfl⟩
  obtain ⟨p1, hp1⟩ : ∃ p, a1 % 2 ^ 4 = p := ⟨_, rfl⟩
  obtain ⟨p3, hp3⟩ : ∃ p, a3 % 2 ^ 3 = p := ⟨_, rfl⟩
  obtain ⟨p4, hp4⟩ : ∃ p, a4 % 2 ^ 9 = p := ⟨_, rfl⟩
  obtain ⟨p2, hp2⟩ : ∃ p, a2 % 2 ^ 3 = p := ⟨_, rfl⟩
  obtain ⟨p5, hp5⟩ : ∃ p, a5 % 2 ^ 3 = p := ⟨_, rfl⟩
  obtain ⟨p6, hp6⟩ : ∃ p, a6 % 2 ^ 3 = p := ⟨_, rfl⟩
  rw [hN] at e0
  rw [hp1] at e1
  rw [hp2] at e2
  rw [hp3] at e3
  rw [hp4] at e4
  rw [hp5] at e5
  rw [hp6] at e6
  obtain ⟨AT, hAT⟩ : ∃ x, p1 - 4 = x := ⟨_, rfl⟩
  obtain ⟨K, hK⟩ : ∃ x, p3 - 1 = x := ⟨_, rfl⟩
  obtain ⟨S, hS⟩ : ∃ x, p4 - 100 = x := ⟨_, rfl⟩
  obtain ⟨ID, hID⟩ : ∃ x, 1099511627773 + p2 = x := ⟨_, rfl⟩
  obtain ⟨T, hT⟩ : ∃ x, 1099511627773 + p5 = x := ⟨_, rfl⟩
  obtain ⟨V, hV⟩ : ∃ x, 281474976710653 + p6 = x := ⟨_, rfl⟩
  have l0 : 0 ≤ N ∧ N ≤ 15 := by omega
  have l1 : (0 ≤ p1 ∧ p1 ≤ 15) ∧ (-4 ≤ AT ∧ AT ≤ 11) := by omega
  have l3 : (0 ≤ p3 ∧ p3 ≤ 7) ∧ (-1 ≤ K ∧ K ≤ 6) := by omega
  have l4 : (0 ≤ p4 ∧ p4 ≤ 511) ∧ (-100 ≤ S ∧ S ≤ 411) := by omega
  have l2 : (0 ≤ p2 ∧ p2 ≤ 7) ∧ (1099511627773 ≤ ID ∧ ID ≤ 1099511627780) := by omega
  have l5 : (0 ≤ p5 ∧ p5 ≤ 7) ∧ (1099511627773 ≤ T ∧ T ≤ 1099511627780) := by omega
  have l6 : (0 ≤ p6 ∧ p6 ≤ 7) ∧ (281474976710653 ≤ V ∧ V ≤ 281474976710660) := by omega
  clear hN hp1 hp2 hp3 hp4 hp5 hp6 w0 w1 w2 w3 w4 w5 w6
  have g1 := fun W => new_no 3 0 0 3 0 0 0 0 W (by decide)
  have g2 := fun W => new_no 3 0 1 3 0 0 0 8 W (by decide)
  have g3 := fun W => new_no 3 0 1 1 0 0 0 0 W (by decide)
  have G1 := hide g1
  have G2 := hide g2
  have G3 := hide g3
  clear g1 g2 g3
  by_cases k1 : K = 1
  case pos =>
    subst k1
    have nw := fun W => new_any N AT ID 1 S T 0 V W
    rw [good_one N AT ID S T V (by omega) (by omega)] at nw
    obtain ⟨B, hB⟩ : ∃ B, decide (1 ≤ N ∧ N ≤ 7 ∧ 0 ≤ AT ∧ AT < N ∧ ID ≤ 1099511627776 ∧ 0 ≤ S ∧ S ≤ 255 ∧ T ≤ 1099511627776 ∧ V ≤ 281474976710656) = B := ⟨_, rfl⟩
    rw [hB] at nw
    have HB := hide hB
    have NW := hide nw
    clear nw hB
    go_enter Try.func3, Try.ntmps3
    go_upto_region 9 with (((with_reducible refine (NW.out _).mono ?_); rintro e w1 ⟨⟨p, rfl⟩, hg1⟩))
    have HBl : Hid (Below w.heap.size w w1) := (by repeat' (first | exact Below.refl _ _ | refine below_alloc ?_ _ | refine below_step ?_ (by assumption)))
    clear hg1
    go_cut [18] (fun g W => g = .bool B ∧ Below w.heap.size w W)
    case first =>
      by_cases h0 : 1 ≤ N
      case neg =>
        cases B
        all_goals first | (exfalso; have hq := HB.out; simp only [decide_eq_true_eq, decide_eq_false_iff_not] at hq; omega) | (go_wp2; go_meet; exact ⟨by rfl, HBl.out⟩)
      by_cases h1 : N ≤ 7
      case neg =>
        cases B
        all_goals first | (exfalso; have hq := HB.out; simp only [decide_eq_true_eq, decide_eq_false_iff_not] at hq; omega) | (go_wp2; go_meet; exact ⟨by rfl, HBl.out⟩)
      by_cases h2 : 0 ≤ AT
      case neg =>
        cases B
        all_goals first | (exfalso; have hq := HB.out; simp only [decide_eq_true_eq, decide_eq_false_iff_not] at hq; omega) | (go_wp2; go_meet; exact ⟨by rfl, HBl.out⟩)
      by_cases h3 : AT < N
      case neg =>
        cases B
        all_goals first | (exfalso; have hq := HB.out; simp only [decide_eq_true_eq, decide_eq_false_iff_not] at hq; omega) | (go_wp2; go_meet; exact ⟨by rfl, HBl.out⟩)
      by_cases h4 : ID ≤ 1099511627776
      case neg =>
        cases B
        all_goals first | (exfalso; have hq := HB.out; simp only [decide_eq_true_eq, decide_eq_false_iff_not] at hq; omega) | (go_wp2; go_meet; exact ⟨by rfl, HBl.out⟩)
      by_cases h5 : 0 ≤ S
      case neg =>
        cases B
        all_goals first | (exfalso; have hq := HB.out; simp only [decide_eq_true_eq, decide_eq_false_iff_not] at hq; omega) | (go_wp2; go_meet; exact ⟨by rfl, HBl.out⟩)
      by_cases h6 : S ≤ 255
      case neg =>
        cases B
        all_goals first | (exfalso; have hq := HB.out; simp only [decide_eq_true_eq, decide_eq_false_iff_not] at hq; omega) | (go_wp2; go_meet; exact ⟨by rfl, HBl.out⟩)
      by_cases h7 : T ≤ 1099511627776
      case neg =>
        cases B
        all_goals first | (exfalso; have hq := HB.out; simp only [decide_eq_true_eq, decide_eq_false_iff_not] at hq; omega) | (go_wp2; go_meet; exact ⟨by rfl, HBl.out⟩)
      by_cases h8 : V ≤ 281474976710656
      case neg =>
        cases B
        all_goals first | (exfalso; have hq := HB.out; simp only [decide_eq_true_eq, decide_eq_false_iff_not] at hq; omega) | (go_wp2; go_meet; exact ⟨by rfl, HBl.out⟩)
      cases B
      all_goals first | (exfalso; have hq := HB.out; simp only [decide_eq_true_eq, decide_eq_false_iff_not] at hq; omega) | (go_wp2; go_meet; exact ⟨by rfl, HBl.out⟩)
    case rest =>
      obtain ⟨rfl, hb⟩ := hcut
      clear HBl HB NW
      cases B
      all_goals
        simp only [errN, if_true, Bool.false_eq_true, if_false]
        go_wp2_with (first
          | ((with_reducible refine (G1.out _).mono ?_); rintro e w2 ⟨rfl, hg2⟩)
          | ((with_reducible refine (G2.out _).mono ?_); rintro e w3 ⟨rfl, hg3⟩)
          | ((with_reducible refine (G3.out _).mono ?_); rintro e w4 ⟨rfl, hg4⟩)
          | ((with_reducible refine (awake_ok _).mono ?_); rintro e w5 ⟨rfl, hg5⟩))
        go_returns
        exact ⟨by rfl, below_step (below_step (below_step (below_step hb hg2) hg3) hg4) hg5⟩
  by_cases k3 : K = 3
  case pos =>
    subst k3
    have nw := fun W => new_any N AT ID 3 S 0 0 0 W
    rw [good_three N AT ID S T V (by omega) (by omega)] at nw
    obtain ⟨B, hB⟩ : ∃ B, decide (1 ≤ N ∧ N ≤ 7 ∧ 0 ≤ AT ∧ AT < N ∧ ID ≤ 1099511627776 ∧ 0 ≤ S ∧ S ≤ 255 ∧ S ≤ 255) = B := ⟨_, rfl⟩
    rw [hB] at nw
    have HB := hide hB
    have NW := hide nw
    clear nw hB
    go_enter Try.func3, Try.ntmps3
    go_upto_region 9 with (((with_reducible refine (NW.out _).mono ?_); rintro e w1 ⟨⟨p, rfl⟩, hg1⟩))
    have HBl : Hid (Below w.heap.size w w1) := (by repeat' (first | exact Below.refl _ _ | refine below_alloc ?_ _ | refine below_step ?_ (by assumption)))
    clear hg1
    go_cut [18] (fun g W => g = .bool B ∧ Below w.heap.size w W)
    case first =>
      by_cases h0 : 1 ≤ N
      case neg =>
        cases B
        all_goals first | (exfalso; have hq := HB.out; simp only [decide_eq_true_eq, decide_eq_false_iff_not] at hq; omega) | (go_wp2; go_meet; exact ⟨by rfl, HBl.out⟩)
      by_cases h1 : N ≤ 7
      case neg =>
        cases B
        all_goals first | (exfalso; have hq := HB.out; simp only [decide_eq_true_eq, decide_eq_false_iff_not] at hq; omega) | (go_wp2; go_meet; exact ⟨by rfl, HBl.out⟩)
      by_cases h2 : 0 ≤ AT
      case neg =>
        cases B
        all_goals first | (exfalso; have hq := HB.out; simp only [decide_eq_true_eq, decide_eq_false_iff_not] at hq; omega) | (go_wp2; go_meet; exact ⟨by rfl, HBl.out⟩)
      by_cases h3 : AT < N
      case neg =>
        cases B
        all_goals first | (exfalso; have hq := HB.out; simp only [decide_eq_true_eq, decide_eq_false_iff_not] at hq; omega) | (go_wp2; go_meet; exact ⟨by rfl, HBl.out⟩)
      by_cases h4 : ID ≤ 1099511627776
      case neg =>
        cases B
        all_goals first | (exfalso; have hq := HB.out; simp only [decide_eq_true_eq, decide_eq_false_iff_not] at hq; omega) | (go_wp2; go_meet; exact ⟨by rfl, HBl.out⟩)
      by_cases h5 : 0 ≤ S
      case neg =>
        cases B
        all_goals first | (exfalso; have hq := HB.out; simp only [decide_eq_true_eq, decide_eq_false_iff_not] at hq; omega) | (go_wp2; go_meet; exact ⟨by rfl, HBl.out⟩)
      by_cases h6 : S ≤ 255
      case neg =>
        cases B
        all_goals first | (exfalso; have hq := HB.out; simp only [decide_eq_true_eq, decide_eq_false_iff_not] at hq; omega) | (go_wp2; go_meet; exact ⟨by rfl, HBl.out⟩)
      cases B
      all_goals first | (exfalso; have hq := HB.out; simp only [decide_eq_true_eq, decide_eq_false_iff_not] at hq; omega) | (go_wp2; go_meet; exact ⟨by rfl, HBl.out⟩)
    case rest =>
      obtain ⟨rfl, hb⟩ := hcut
      clear HBl HB NW
      cases B
      all_goals
        simp only [errN, if_true, Bool.false_eq_true, if_false]
        go_wp2_with (first
          | ((with_reducible refine (G1.out _).mono ?_); rintro e w2 ⟨rfl, hg2⟩)
          | ((with_reducible refine (G2.out _).mono ?_); rintro e w3 ⟨rfl, hg3⟩)
          | ((with_reducible refine (G3.out _).mono ?_); rintro e w4 ⟨rfl, hg4⟩)
          | ((with_reducible refine (awake_ok _).mono ?_); rintro e w5 ⟨rfl, hg5⟩))
        go_returns
        exact ⟨by rfl, below_step (below_step (below_step (below_step hb hg2) hg3) hg4) hg5⟩
  have nw := fun W => new_any N AT ID K S 0 0 V W
  rw [good_other N AT ID K S T V (by omega) (by omega) k1 k3] at nw
  obtain ⟨B, hB⟩ : ∃ B, decide (1 ≤ N ∧ N ≤ 7 ∧ 0 ≤ AT ∧ AT < N ∧ ID ≤ 1099511627776 ∧ 0 ≤ S ∧ S ≤ 255 ∧ 1 ≤ K ∧ K ≤ 3 ∧ V ≤ 281474976710656) = B := ⟨_, rfl⟩
  rw [hB] at nw
  have HB := hide hB
  have NW := hide nw
  clear nw hB
  go_enter Try.func3, Try.ntmps3
  go_upto_region 9 with (((with_reducible refine (NW.out _).mono ?_); rintro e w1 ⟨⟨p, rfl⟩, hg1⟩))
  have HBl : Hid (Below w.heap.size w w1) := (by repeat' (first | exact Below.refl _ _ | refine below_alloc ?_ _ | refine below_step ?_ (by assumption)))
  clear hg1
  go_cut [18] (fun g W => g = .bool B ∧ Below w.heap.size w W)
  case first =>
    by_cases h0 : 1 ≤ N
    case neg =>
      cases B
      all_goals first | (exfalso; have hq := HB.out; simp only [decide_eq_true_eq, decide_eq_false_iff_not] at hq; omega) | (go_wp2; go_meet; exact ⟨by rfl, HBl.out⟩)
    by_cases h1 : N ≤ 7
    case neg =>
      cases B
      all_goals first | (exfalso; have hq := HB.out; simp only [decide_eq_true_eq, decide_eq_false_iff_not] at hq; omega) | (go_wp2; go_meet; exact ⟨by rfl, HBl.out⟩)
    by_cases h2 : 0 ≤ AT
    case neg =>
      cases B
      all_goals first | (exfalso; have hq := HB.out; simp only [decide_eq_true_eq, decide_eq_false_iff_not] at hq; omega) | (go_wp2; go_meet; exact ⟨by rfl, HBl.out⟩)
    by_cases h3 : AT < N
    case neg =>
      cases B
      all_goals first | (exfalso; have hq := HB.out; simp only [decide_eq_true_eq, decide_eq_false_iff_not] at hq; omega) | (go_wp2; go_meet; exact ⟨by rfl, HBl.out⟩)
    by_cases h4 : ID ≤ 1099511627776
    case neg =>
      cases B
      all_goals first | (exfalso; have hq := HB.out; simp only [decide_eq_true_eq, decide_eq_false_iff_not] at hq; omega) | (go_wp2; go_meet; exact ⟨by rfl, HBl.out⟩)
    by_cases h5 : 1 ≤ K
    case neg =>
      cases B
      all_goals first | (exfalso; have hq := HB.out; simp only [decide_eq_true_eq, decide_eq_false_iff_not] at hq; omega) | (go_wp2; go_meet; exact ⟨by rfl, HBl.out⟩)
    by_cases h6 : K ≤ 3
    case neg =>
      cases B
      all_goals first | (exfalso; have hq := HB.out; simp only [decide_eq_true_eq, decide_eq_false_iff_not] at hq; omega) | (go_wp2; go_meet; exact ⟨by rfl, HBl.out⟩)
    by_cases h7 : 0 ≤ S
    case neg =>
      cases B
      all_goals first | (exfalso; have hq := HB.out; simp only [decide_eq_true_eq, decide_eq_false_iff_not] at hq; omega) | (go_wp2; go_meet; exact ⟨by rfl, HBl.out⟩)
    by_cases h8 : S ≤ 255
    case neg =>
      cases B
      all_goals first | (exfalso; have hq := HB.out; simp only [decide_eq_true_eq, decide_eq_false_iff_not] at hq; omega) | (go_wp2; go_meet; exact ⟨by rfl, HBl.out⟩)
    by_cases h9 : V ≤ 281474976710656
    case neg =>
      cases B
      all_goals first | (exfalso; have hq := HB.out; simp only [decide_eq_true_eq, decide_eq_false_iff_not] at hq; omega) | (go_wp2; go_meet; exact ⟨by rfl, HBl.out⟩)
    cases B
    all_goals first | (exfalso; have hq := HB.out; simp only [decide_eq_true_eq, decide_eq_false_iff_not] at hq; omega) | (go_wp2; go_meet; exact ⟨by rfl, HBl.out⟩)
  case rest =>
    obtain ⟨rfl, hb⟩ := hcut
    clear HBl HB NW
    cases B
    all_goals
      simp only [errN, if_true, Bool.false_eq_true, if_false]
      go_wp2_with (first
        | ((with_reducible refine (G1.out _).mono ?_); rintro e w2 ⟨rfl, hg2⟩)
        | ((with_reducible refine (G2.out _).mono ?_); rintro e w3 ⟨rfl, hg3⟩)
        | ((with_reducible refine (G3.out _).mono ?_); rintro e w4 ⟨rfl, hg4⟩)
        | ((with_reducible refine (awake_ok _).mono ?_); rintro e w5 ⟨rfl, hg5⟩))
      go_returns
      exact ⟨by rfl, below_step (below_step (below_step (below_step hb hg2) hg3) hg4) hg5⟩
end Go.Proofs.Ytdlkncmjkpcnfaa.coordArgs
