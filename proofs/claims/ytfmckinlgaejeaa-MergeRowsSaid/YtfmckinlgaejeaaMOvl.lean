/- merge.Overlap: a contract. Conditions: the rows readable. -/
import Derived.Test.YtfmckinlgaejeaaItem
import Derived.Test.YtfmckinlgaejeaaMrgP
import Derived.Test.YtfmckinlgaejeaaPl
namespace Go.Proofs.Ytfmckinlgaejeaa
set_option linter.unusedVariables false
set_option linter.unusedSimpArgs false
open Go.ChangeShapes Go.WideShapes Go.ChangeAt Go.RowKit

/-- Neither row stands wholly ahead of the other. -/
def ovB (L M : List It) : Bool := match L, M with
  | x :: L', y :: M' => !ltB ((y :: M').getLastD It0) x && !ltB ((x :: L').getLastD It0) y
  | _, _ => false
theorem ovB_nil (M : List It) : ovB [] M = false := rfl
theorem ovB_nil2 (L : List It) : ovB L [] = false := by cases L <;> rfl
theorem ovB_at {L M : List It} {p q : Nat} (hp : L.length = p + 1) (hq : M.length = q + 1) : ovB L M = (!ltB (M[q]'(by omega)) (L[0]'(by omega)) && !ltB (L[p]'(by omega)) (M[0]'(by omega))) := by
  cases L with
  | nil => simp at hp
  | cons x L =>
    cases M with
    | nil => simp at hq
    | cons y M =>
      have h1 : (y :: M).getLastD It0 = (y :: M)[q]'(by omega) := by
        rw [List.getLastD_eq_getLast?, List.getLast?_eq_getElem?, show (y :: M).length - 1 = q by omega, List.getElem?_eq_getElem (by omega)]
        rfl
      have h2 : (x :: L).getLastD It0 = (x :: L)[p]'(by omega) := by
        rw [List.getLastD_eq_getLast?, List.getLast?_eq_getElem?, show (x :: L).length - 1 = p by omega, List.getElem?_eq_getElem (by omega)]
        rfl
      show (!ltB ((y :: M).getLastD It0) x && !ltB ((x :: L).getLastD It0) y) = _
      rw [h1, h2]
      rfl
theorem ovB_self {L : List It} (h : Rising L) (hn : L ≠ []) : ovB L L = true := by
  obtain ⟨p, hp⟩ : ∃ p, L.length = p + 1 := ⟨L.length - 1, by have := List.length_pos_iff.2 hn; omega⟩
  rw [ovB_at hp hp]
  have key : ltB (L[p]'(by omega)) (L[0]'(by omega)) = false := by
    refine decide_eq_false fun hl => ?_
    by_cases e : p = 0
    · subst e
      unfold It.lt at hl; omega
    · have := List.pairwise_iff_getElem.1 h 0 p (by omega) (by omega) (by omega)
      unfold It.lt at *; omega
  rw [key]
  rfl
set_option maxRecDepth 100000 in
set_option maxHeartbeats 6400000 in
theorem overlap_any (A B : Option Addr) (c d : Nat) (L M : List It) (w : World) (hL : ItemsAt w A L) (hM : ItemsAt w B M) (hl : L.length ≤ 1099511627776) (hm : M.length ≤ 1099511627776) :
    Calls Try.prog 11 #[.slice A L.length c, .slice B M.length d] w fun e w' => e = .returned (.bool (ovB L M)) ∧ Below w.heap.size w w' := by
  cases hp : L.length with
  | zero =>
    obtain rfl := List.eq_nil_of_length_eq_zero hp
    rw [ovB_nil]
    clear hL hM hp
    go_enter Try.func11, Try.ntmps11
    go_wp2_with fail
    refine wp_region_near (by kernel_rfl) (by kernel_rfl) ?_
    repeat (go_big_quiet_step (fail))
    refine wpQuiet_nil ?_
    intro _ hw'
    obtain ⟨s1, rfl⟩ := hw'
    go_wp2_with fail
    go_ret
    exact ⟨rfl, s1.is⟩
  | succ p =>
    cases hq : M.length with
    | zero =>
      obtain rfl := List.eq_nil_of_length_eq_zero hq
      rw [ovB_nil2]
      have hp0 : decide ((0 : Int) < ((p : Int) + 1)) = true := decide_eq_true (by omega)
      clear hL hM hp
      go_enter Try.func11, Try.ntmps11
      go_wp2_with fail
      refine wp_region_near (by kernel_rfl) (by kernel_rfl) ?_
      repeat (go_big_quiet_step (fail))
      refine wpQuiet_nil ?_
      intro _ hw'
      obtain ⟨s1, rfl⟩ := hw'
      go_wp2_with fail
      go_ret
      exact ⟨rfl, s1.is⟩
    | succ q =>
      have hov := ovB_at hp hq
      obtain ⟨b1, o1, rfl, hb1, x0, x1, x2, x3, x4⟩ := ItemsAt.item hL (Below.refl _ _) (show 0 < L.length by omega)
      obtain ⟨b1', o1', e1, _, u0, u1, u2, u3, u4⟩ := ItemsAt.item hL (Below.refl _ _) (show p < L.length by omega)
      obtain ⟨rfl, rfl⟩ : b1 = b1' ∧ o1 = o1' := by injection e1 with h; injection h; exact ⟨by assumption, by assumption⟩
      obtain ⟨b2, o2, rfl, hb2, y0, y1, y2, y3, y4⟩ := ItemsAt.item hM (Below.refl _ _) (show 0 < M.length by omega)
      obtain ⟨b2', o2', e2, _, v0, v1, v2, v3, v4⟩ := ItemsAt.item hM (Below.refl _ _) (show q < M.length by omega)
      obtain ⟨rfl, rfl⟩ : b2 = b2' ∧ o2 = o2' := by injection e2 with h; injection h; exact ⟨by assumption, by assumption⟩
      simp only [Nat.zero_mul, Nat.add_zero] at x0 x1 x2 x3 x4 y0 y1 y2 y3 y4
      have hp0 : decide ((0 : Int) < ((p : Int) + 1)) = true := decide_eq_true (by omega)
      have hq0 : decide ((0 : Int) < ((q : Int) + 1)) = true := decide_eq_true (by omega)
      have hpB : (p : Int) ≤ 1099511627776 := by omega
      have hqB : (q : Int) ≤ 1099511627776 := by omega
      have hpI : (0 : Int) ≤ (p : Int) := by omega
      have hqI : (0 : Int) ≤ (q : Int) := by omega
      have H1 := hide (fun V => pless_any (M[q]'(by omega)) (L[0]'(by omega)) V)
      have H2 := hide (fun V => pless_any (L[p]'(by omega)) (M[0]'(by omega)) V)
      generalize (L[0]'(by omega)) = x at *
      generalize (L[p]'(by omega)) = u at *
      generalize (M[0]'(by omega)) = y at *
      generalize (M[q]'(by omega)) = v at *
      clear hL hM e1 e2 hp hq
      cases h1 : ltB v x with
      | true =>
        rw [hov, h1]
        rw [h1] at H1
        clear hov h1
        have rx0 := fun s : Near w => s.cell x0 hb1
        have rx1 := fun s : Near w => s.cell x1 hb1
        have rx2 := fun s : Near w => s.cell x2 hb1
        have rx3 := fun s : Near w => s.cell x3 hb1
        have rx4 := fun s : Near w => s.cell x4 hb1
        have ru0 := fun s : Near w => s.cell u0 hb1
        have ru1 := fun s : Near w => s.cell u1 hb1
        have ru2 := fun s : Near w => s.cell u2 hb1
        have ru3 := fun s : Near w => s.cell u3 hb1
        have ru4 := fun s : Near w => s.cell u4 hb1
        have ry0 := fun s : Near w => s.cell y0 hb2
        have ry1 := fun s : Near w => s.cell y1 hb2
        have ry2 := fun s : Near w => s.cell y2 hb2
        have ry3 := fun s : Near w => s.cell y3 hb2
        have ry4 := fun s : Near w => s.cell y4 hb2
        have rv0 := fun s : Near w => s.cell v0 hb2
        have rv1 := fun s : Near w => s.cell v1 hb2
        have rv2 := fun s : Near w => s.cell v2 hb2
        have rv3 := fun s : Near w => s.cell v3 hb2
        have rv4 := fun s : Near w => s.cell v4 hb2
        go_enter Try.func11, Try.ntmps11
        go_wp2_with fail
        refine wp_region_near (by kernel_rfl) (by kernel_rfl) ?_
        repeat (go_big_quiet_step ((first | (go_at_call 25; with_reducible exact near_of (H1.out _)) | (go_at_call 25; with_reducible exact near_of (H2.out _)))))
        refine wpQuiet_nil ?_
        intro _ hw'
        obtain ⟨s1, rfl⟩ := hw'
        clear rx0 rx1 rx2 rx3 rx4 ru0 ru1 ru2 ru3 ru4 ry0 ry1 ry2 ry3 ry4 rv0 rv1 rv2 rv3 rv4
        go_wp2_with fail
        go_ret
        exact ⟨rfl, s1.is⟩
      | false =>
        cases h2 : ltB u y with
        | true =>
          rw [hov, h1, h2]
          rw [h1] at H1
          rw [h2] at H2
          clear hov h1 h2
          have rx0 := fun s : Near w => s.cell x0 hb1
          have rx1 := fun s : Near w => s.cell x1 hb1
          have rx2 := fun s : Near w => s.cell x2 hb1
          have rx3 := fun s : Near w => s.cell x3 hb1
          have rx4 := fun s : Near w => s.cell x4 hb1
          have ru0 := fun s : Near w => s.cell u0 hb1
          have ru1 := fun s : Near w => s.cell u1 hb1
          have ru2 := fun s : Near w => s.cell u2 hb1
          have ru3 := fun s : Near w => s.cell u3 hb1
          have ru4 := fun s : Near w => s.cell u4 hb1
          have ry0 := fun s : Near w => s.cell y0 hb2
          have ry1 := fun s : Near w => s.cell y1 hb2
          have ry2 := fun s : Near w => s.cell y2 hb2
          have ry3 := fun s : Near w => s.cell y3 hb2
          have ry4 := fun s : Near w => s.cell y4 hb2
          have rv0 := fun s : Near w => s.cell v0 hb2
          have rv1 := fun s : Near w => s.cell v1 hb2
          have rv2 := fun s : Near w => s.cell v2 hb2
          have rv3 := fun s : Near w => s.cell v3 hb2
          have rv4 := fun s : Near w => s.cell v4 hb2
          go_enter Try.func11, Try.ntmps11
          go_wp2_with fail
          refine wp_region_near (by kernel_rfl) (by kernel_rfl) ?_
          repeat (go_big_quiet_step ((first | (go_at_call 25; with_reducible exact near_of (H1.out _)) | (go_at_call 25; with_reducible exact near_of (H2.out _)))))
          refine wpQuiet_nil ?_
          intro _ hw'
          obtain ⟨s1, rfl⟩ := hw'
          clear rx0 rx1 rx2 rx3 rx4 ru0 ru1 ru2 ru3 ru4 ry0 ry1 ry2 ry3 ry4 rv0 rv1 rv2 rv3 rv4
          go_wp2_with fail
          go_ret
          exact ⟨rfl, s1.is⟩
        | false =>
          rw [hov, h1, h2]
          rw [h1] at H1
          rw [h2] at H2
          clear hov h1 h2
          have rx0 := fun s : Near w => s.cell x0 hb1
          have rx1 := fun s : Near w => s.cell x1 hb1
          have rx2 := fun s : Near w => s.cell x2 hb1
          have rx3 := fun s : Near w => s.cell x3 hb1
          have rx4 := fun s : Near w => s.cell x4 hb1
          have ru0 := fun s : Near w => s.cell u0 hb1
          have ru1 := fun s : Near w => s.cell u1 hb1
          have ru2 := fun s : Near w => s.cell u2 hb1
          have ru3 := fun s : Near w => s.cell u3 hb1
          have ru4 := fun s : Near w => s.cell u4 hb1
          have ry0 := fun s : Near w => s.cell y0 hb2
          have ry1 := fun s : Near w => s.cell y1 hb2
          have ry2 := fun s : Near w => s.cell y2 hb2
          have ry3 := fun s : Near w => s.cell y3 hb2
          have ry4 := fun s : Near w => s.cell y4 hb2
          have rv0 := fun s : Near w => s.cell v0 hb2
          have rv1 := fun s : Near w => s.cell v1 hb2
          have rv2 := fun s : Near w => s.cell v2 hb2
          have rv3 := fun s : Near w => s.cell v3 hb2
          have rv4 := fun s : Near w => s.cell v4 hb2
          go_enter Try.func11, Try.ntmps11
          go_wp2_with fail
          refine wp_region_near (by kernel_rfl) (by kernel_rfl) ?_
          repeat (go_big_quiet_step ((first | (go_at_call 25; with_reducible exact near_of (H1.out _)) | (go_at_call 25; with_reducible exact near_of (H2.out _)))))
          refine wpQuiet_nil ?_
          intro _ hw'
          obtain ⟨s1, rfl⟩ := hw'
          clear rx0 rx1 rx2 rx3 rx4 ru0 ru1 ru2 ru3 ru4 ry0 ry1 ry2 ry3 ry4 rv0 rv1 rv2 rv3 rv4
          go_wp2_with fail
          go_ret
          exact ⟨rfl, s1.is⟩
end Go.Proofs.Ytfmckinlgaejeaa
