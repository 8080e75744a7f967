/- The walk of clepsydralaw13.MergeOverlaps: it returns true. Conditions: the arguments are readable. -/
import Derived.Test.YtfmckinlgaejeaaM13
import Derived.Test.YtfmckinlgaejeaaLRows
namespace Go.Proofs.Ytfmckinlgaejeaa.mergeOverlaps
set_option linter.unusedVariables false
set_option linter.unusedSimpArgs false
open Go.ChangeShapes Go.WideShapes Go.ChangeAt Go.RowKit

theorem two_rows {R : List (Sv It)} {X Y : List It} (h : R.map (·.L) = [X, Y]) : ∃ r s : Sv It, R = [r, s] ∧ r.L = X ∧ s.L = Y := by
  match R, h with
  | [r, s], h => simp at h; exact ⟨r, s, rfl, h.1, h.2⟩
set_option maxRecDepth 100000 in
set_option maxHeartbeats 6400000 in
theorem walk {w : World} (A0 : Option Addr) (c0 : Nat) (L0 : List It) (lc0 : L0.length ≤ c0) (cm0 : c0 ≤ maxLen) (r0 : RowAt It.cells 5 w A0 L0) (w0 : ∀ a ∈ L0, a.wf)
    (A1 : Option Addr) (c1 : Nat) (L1 : List It) (lc1 : L1.length ≤ c1) (cm1 : c1 ≤ maxLen) (r1 : RowAt It.cells 5 w A1 L1) (w1 : ∀ a ∈ L1, a.wf) :
    Calls Try.prog 3 #[.slice A0 L0.length c0, .slice A1 L1.length c1] w fun e w' => e = .returned (.bool true) ∧ Below w.heap.size w w' := by
  have hb1 := below_alloc (Below.refl w.heap.size w) (.cells #[.slice A0 L0.length c0, .slice A1 L1.length c1] 22)
  have hg := heap_alloc_new w (.cells #[.slice A0 L0.length c0, .slice A1 L1.length c1] 22)
  have hR : RowAt svC 1 (w.alloc (.cells #[.slice A0 L0.length c0, .slice A1 L1.length c1] 22)) (some ⟨w.heap.size, 0, none⟩) [⟨A0, c0, L0⟩, ⟨A1, c1, L1⟩] := by
    refine fun _ => ⟨w.heap.size, 0, rfl, (Array.getElem?_eq_some_iff.1 hg).1, fun k hk j u hu => ?_⟩
    have hj : j = 0 := by
      cases j with
      | zero => rfl
      | succ j => simp at hu
    subst hj
    have hk2 : k = 0 ∨ k = 1 := by simp only [List.length_cons, List.length_nil] at hk; omega
    rcases hk2 with rfl | rfl
    · exact (cell_of_row _ _ 0 _ _ _ hg).trans hu
    · exact (cell_of_row _ _ 1 _ _ _ hg).trans hu
  have hlr := lrows_any (some ⟨w.heap.size, 0, none⟩) 2 [⟨A0, c0, L0⟩, ⟨A1, c1, L1⟩] _ hR (by
    intro s hs
    simp only [List.mem_cons, List.not_mem_nil, or_false] at hs
    rcases hs with rfl | rfl
    · exact ⟨lc0, cm0, r0.below hb1, w0⟩
    · exact ⟨lc1, cm1, r1.below hb1, w1⟩) (by simp)
  have HLR := hide hlr
  have HB1 := hide hb1
  clear hlr hb1 hg hR r0 r1 w0 w1 cm0 cm1 lc0 lc1
  go_enter Try.func3, Try.ntmps3
  go_wp2_with fail
  refine (Calls.mono HLR.out ?_); rintro e w2 ⟨v, R, rfl, ho, hmp, hrd, hb2⟩
  obtain ⟨ra, rb, rfl, hX, hY⟩ := two_rows (X := rk L0) (Y := rk L1) hmp
  obtain ⟨Av, cv, rfl, _, _, hcv, _⟩ := OwnL.row (cells := svC) (fun _ => rfl) ho
  obtain ⟨g, rfl, _, hgl, hgc, _⟩ := own_at1 ho (by simp)
  have hc0 := hgc 0 (by simp)
  have hc1 := hgc 1 (by simp)
  obtain ⟨ia, _, _, _⟩ := hrd ra (by simp)
  obtain ⟨ib, _, _, _⟩ := hrd rb (by simp)
  simp only [List.getElem_cons_zero, List.getElem_cons_succ] at hc0 hc1
  have lx40 := rk_len L0
  have ly40 := rk_len L1
  have hup := rk_up L0
  obtain ⟨AX, cx, X⟩ := ra
  obtain ⟨AY, cy, Y⟩ := rb
  simp only at hX hY ia ib
  rw [← hX] at lx40 hup
  rw [← hY] at ly40
  have HXY := hide (fun (W : World) (hW : Below w2.heap.size w2 W) => overlap_any AX AY cx cy X Y W (ia.below hW) (ib.below hW) (by omega) (by omega))
  have HXX := hide (fun (W : World) (hW : Below w2.heap.size w2 W) => overlap_any AX AX cx cx X X W (ia.below hW) (ia.below hW) (by omega) (by omega))
  have HB2 := hide (below_step HB1.out hb2)
  obtain ⟨lx, hlx⟩ : ∃ lx, X.length = lx := ⟨_, rfl⟩
  obtain ⟨ly, hly⟩ : ∃ ly, Y.length = ly := ⟨_, rfl⟩
  have hc0 : w2.cell? ⟨g, 0, none⟩ = some (.slice AX lx cx) := by rw [← hlx]; exact hc0
  have hc1 : w2.cell? ⟨g, 1, none⟩ = some (.slice AY ly cy) := by rw [← hly]; exact hc1
  have rc0 := fun s : Near w2 => s.cell hc0 hgl
  have rc1 := fun s : Near w2 => s.cell hc1 hgl
  rw [hlx, hly] at HXY
  rw [hlx] at HXX
  clear ho hmp hrd hb2 hgc hX hY HLR HB1
  go_wp2_with fail
  refine wp_region_near (by kernel_rfl) (by kernel_rfl) ?_
  repeat (go_big_quiet_step (fail))
  refine wpQuiet_nil ?_
  intro _ hw'
  obtain ⟨s0, rfl⟩ := hw'
  have HW0 := hide s0.is
  clear rc0 rc1 hc0 hc1
  obtain ⟨w3, hw3⟩ : ∃ w3, s0.at_ = w3 := ⟨_, rfl⟩
  rw [hw3] at HW0
  rw [hw3]
  clear hw3 s0
  cases lx with
  | zero =>
    obtain rfl := List.eq_nil_of_length_eq_zero hlx
    have HOV : Hid (ovB [] Y = false) := hide (ovB_nil Y)
    clear ia ib hup hlx hly
    go_wp2_with fail
    refine wp_region_near (by kernel_rfl) (by kernel_rfl) ?_
    repeat (go_big_quiet_step (fail))
    refine wpQuiet_nil ?_
    intro _ hw'
    obtain ⟨s1, rfl⟩ := hw'
    go_wp2_with fail
    refine (Calls.mono (HXY.out _ (below_step HW0.out s1.is)) ?_); rintro e w5 ⟨rfl, hb⟩
    rw [HOV.out]
    have HW5 := hide (below_step (below_step HW0.out s1.is) hb)
    clear hb
    go_wp2_with fail
    refine (Calls.mono (awake13_any _) ?_); rintro e w7 ⟨rfl, hb⟩
    have HB7 := hide (below_step (below_step HB2.out HW5.out) hb)
    clear hb
    go_wp2_with fail
    go_ret
    exact ⟨rfl, HB7.out⟩
  | succ p =>
    have HOX : Hid (ovB X X = true) := hide (ovB_self hup (List.ne_nil_of_length_pos (by omega)))
    have hp0 : decide ((0 : Int) < ((p : Int) + 1)) = true := decide_eq_true (by omega)
    have hpe : ((p : Int) + 1 == 0) = false := beq_eq_false_iff_ne.2 (by omega)
    cases ly with
    | zero =>
      obtain rfl := List.eq_nil_of_length_eq_zero hly
      have HOV : Hid (ovB X [] = false) := hide (ovB_nil2 X)
      clear ia ib hup hlx hly
      go_wp2_with fail
      refine wp_region_near (by kernel_rfl) (by kernel_rfl) ?_
      repeat (go_big_quiet_step (fail))
      refine wpQuiet_nil ?_
      intro _ hw'
      obtain ⟨s1, rfl⟩ := hw'
      go_wp2_with fail
      refine (Calls.mono (HXY.out _ (below_step HW0.out s1.is)) ?_); rintro e w5 ⟨rfl, hb⟩
      rw [HOV.out]
      have HW5 := hide (below_step (below_step HW0.out s1.is) hb)
      clear hb
      go_wp2_with fail
      refine (Calls.mono (HXX.out _ HW5.out) ?_); rintro e w6 ⟨rfl, hb⟩
      rw [HOX.out]
      have HW6 := hide (below_step HW5.out hb)
      clear hb
      go_wp2_with fail
      refine (Calls.mono (awake13_any _) ?_); rintro e w7 ⟨rfl, hb⟩
      have HB7 := hide (below_step (below_step HB2.out HW6.out) hb)
      clear hb
      go_wp2_with fail
      go_ret
      exact ⟨rfl, HB7.out⟩
    | succ q =>
      have hov := ovB_at hlx hly
      have ia := ia.below HW0.out
      have ib := ib.below HW0.out
      obtain ⟨b1, o1, rfl, hb1, x0, x1, x2, x3, x4⟩ := ItemsAt.item ia (Below.refl _ _) (show 0 < X.length by omega)
      obtain ⟨b1', o1', e1, _, u0, u1, u2, u3, u4⟩ := ItemsAt.item ia (Below.refl _ _) (show p < X.length by omega)
      obtain ⟨rfl, rfl⟩ : b1 = b1' ∧ o1 = o1' := by injection e1 with h; injection h; exact ⟨by assumption, by assumption⟩
      obtain ⟨b2, o2, rfl, hb2, y0, y1, y2, y3, y4⟩ := ItemsAt.item ib (Below.refl _ _) (show 0 < Y.length by omega)
      obtain ⟨b2', o2', e2, _, v0, v1, v2, v3, v4⟩ := ItemsAt.item ib (Below.refl _ _) (show q < Y.length by omega)
      obtain ⟨rfl, rfl⟩ : b2 = b2' ∧ o2 = o2' := by injection e2 with h; injection h; exact ⟨by assumption, by assumption⟩
      simp only [Nat.zero_mul, Nat.add_zero] at x0 x1 x2 x3 x4 y0 y1 y2 y3 y4
      have hq0 : decide ((0 : Int) < ((q : Int) + 1)) = true := decide_eq_true (by omega)
      have hpB : (p : Int) ≤ 1099511627776 := by omega
      have hqB : (q : Int) ≤ 1099511627776 := by omega
      have hpI : (0 : Int) ≤ (p : Int) := by omega
      have hqI : (0 : Int) ≤ (q : Int) := by omega
      have H1 := hide (fun V => rless_any (X[p]'(by omega)) (Y[0]'(by omega)) V)
      have H2 := hide (fun V => rless_any (Y[q]'(by omega)) (X[0]'(by omega)) V)
      generalize (X[0]'(by omega)) = x at *
      generalize (X[p]'(by omega)) = u at *
      generalize (Y[0]'(by omega)) = y at *
      generalize (Y[q]'(by omega)) = v at *
      clear ia ib e1 e2 hlx hly hup
      cases h1 : ltB u y with
      | true =>
        have HOV : Hid (ovB X Y = false) := hide (by rw [hov, h1]; simp)
        rw [h1] at H1
        clear hov h1
        have rx0 := fun s : Near w3 => s.cell x0 hb1
        have rx1 := fun s : Near w3 => s.cell x1 hb1
        have rx2 := fun s : Near w3 => s.cell x2 hb1
        have rx3 := fun s : Near w3 => s.cell x3 hb1
        have rx4 := fun s : Near w3 => s.cell x4 hb1
        have ru0 := fun s : Near w3 => s.cell u0 hb1
        have ru1 := fun s : Near w3 => s.cell u1 hb1
        have ru2 := fun s : Near w3 => s.cell u2 hb1
        have ru3 := fun s : Near w3 => s.cell u3 hb1
        have ru4 := fun s : Near w3 => s.cell u4 hb1
        have ry0 := fun s : Near w3 => s.cell y0 hb2
        have ry1 := fun s : Near w3 => s.cell y1 hb2
        have ry2 := fun s : Near w3 => s.cell y2 hb2
        have ry3 := fun s : Near w3 => s.cell y3 hb2
        have ry4 := fun s : Near w3 => s.cell y4 hb2
        have rv0 := fun s : Near w3 => s.cell v0 hb2
        have rv1 := fun s : Near w3 => s.cell v1 hb2
        have rv2 := fun s : Near w3 => s.cell v2 hb2
        have rv3 := fun s : Near w3 => s.cell v3 hb2
        have rv4 := fun s : Near w3 => s.cell v4 hb2
        go_wp2_with fail
        refine wp_region_near (by kernel_rfl) (by kernel_rfl) ?_
        repeat (go_big_quiet_step ((first | (go_at_call 10; with_reducible exact near_of (H1.out _)) | (go_at_call 10; with_reducible exact near_of (H2.out _)))))
        refine wpQuiet_nil ?_
        intro _ hw'
        obtain ⟨s1, rfl⟩ := hw'
        clear rx0 rx1 rx2 rx3 rx4 ru0 ru1 ru2 ru3 ru4 ry0 ry1 ry2 ry3 ry4 rv0 rv1 rv2 rv3 rv4 x0 x1 x2 x3 x4 u0 u1 u2 u3 u4 y0 y1 y2 y3 y4 v0 v1 v2 v3 v4
        go_wp2_with fail
        refine (Calls.mono (HXY.out _ (below_step HW0.out s1.is)) ?_); rintro e w5 ⟨rfl, hb⟩
        rw [HOV.out]
        have HW5 := hide (below_step (below_step HW0.out s1.is) hb)
        clear hb
        go_wp2_with fail
        refine (Calls.mono (HXX.out _ HW5.out) ?_); rintro e w6 ⟨rfl, hb⟩
        rw [HOX.out]
        have HW6 := hide (below_step HW5.out hb)
        clear hb
        go_wp2_with fail
        refine (Calls.mono (awake13_any _) ?_); rintro e w7 ⟨rfl, hb⟩
        have HB7 := hide (below_step (below_step HB2.out HW6.out) hb)
        clear hb
        go_wp2_with fail
        go_ret
        exact ⟨rfl, HB7.out⟩
      | false =>
        cases h2 : ltB v x with
        | true =>
          have HOV : Hid (ovB X Y = false) := hide (by rw [hov, h1, h2]; rfl)
          rw [h1] at H1
          rw [h2] at H2
          clear hov h1 h2
          have rx0 := fun s : Near w3 => s.cell x0 hb1
          have rx1 := fun s : Near w3 => s.cell x1 hb1
          have rx2 := fun s : Near w3 => s.cell x2 hb1
          have rx3 := fun s : Near w3 => s.cell x3 hb1
          have rx4 := fun s : Near w3 => s.cell x4 hb1
          have ru0 := fun s : Near w3 => s.cell u0 hb1
          have ru1 := fun s : Near w3 => s.cell u1 hb1
          have ru2 := fun s : Near w3 => s.cell u2 hb1
          have ru3 := fun s : Near w3 => s.cell u3 hb1
          have ru4 := fun s : Near w3 => s.cell u4 hb1
          have ry0 := fun s : Near w3 => s.cell y0 hb2
          have ry1 := fun s : Near w3 => s.cell y1 hb2
          have ry2 := fun s : Near w3 => s.cell y2 hb2
          have ry3 := fun s : Near w3 => s.cell y3 hb2
          have ry4 := fun s : Near w3 => s.cell y4 hb2
          have rv0 := fun s : Near w3 => s.cell v0 hb2
          have rv1 := fun s : Near w3 => s.cell v1 hb2
          have rv2 := fun s : Near w3 => s.cell v2 hb2
          have rv3 := fun s : Near w3 => s.cell v3 hb2
          have rv4 := fun s : Near w3 => s.cell v4 hb2
          go_wp2_with fail
          refine wp_region_near (by kernel_rfl) (by kernel_rfl) ?_
          repeat (go_big_quiet_step ((first | (go_at_call 10; with_reducible exact near_of (H1.out _)) | (go_at_call 10; with_reducible exact near_of (H2.out _)))))
          refine wpQuiet_nil ?_
          intro _ hw'
          obtain ⟨s1, rfl⟩ := hw'
          clear rx0 rx1 rx2 rx3 rx4 ru0 ru1 ru2 ru3 ru4 ry0 ry1 ry2 ry3 ry4 rv0 rv1 rv2 rv3 rv4 x0 x1 x2 x3 x4 u0 u1 u2 u3 u4 y0 y1 y2 y3 y4 v0 v1 v2 v3 v4
          go_wp2_with fail
          refine (Calls.mono (HXY.out _ (below_step HW0.out s1.is)) ?_); rintro e w5 ⟨rfl, hb⟩
          rw [HOV.out]
          have HW5 := hide (below_step (below_step HW0.out s1.is) hb)
          clear hb
          go_wp2_with fail
          refine (Calls.mono (HXX.out _ HW5.out) ?_); rintro e w6 ⟨rfl, hb⟩
          rw [HOX.out]
          have HW6 := hide (below_step HW5.out hb)
          clear hb
          go_wp2_with fail
          refine (Calls.mono (awake13_any _) ?_); rintro e w7 ⟨rfl, hb⟩
          have HB7 := hide (below_step (below_step HB2.out HW6.out) hb)
          clear hb
          go_wp2_with fail
          go_ret
          exact ⟨rfl, HB7.out⟩
        | false =>
          have HOV : Hid (ovB X Y = true) := hide (by rw [hov, h1, h2]; rfl)
          rw [h1] at H1
          rw [h2] at H2
          clear hov h1 h2
          have rx0 := fun s : Near w3 => s.cell x0 hb1
          have rx1 := fun s : Near w3 => s.cell x1 hb1
          have rx2 := fun s : Near w3 => s.cell x2 hb1
          have rx3 := fun s : Near w3 => s.cell x3 hb1
          have rx4 := fun s : Near w3 => s.cell x4 hb1
          have ru0 := fun s : Near w3 => s.cell u0 hb1
          have ru1 := fun s : Near w3 => s.cell u1 hb1
          have ru2 := fun s : Near w3 => s.cell u2 hb1
          have ru3 := fun s : Near w3 => s.cell u3 hb1
          have ru4 := fun s : Near w3 => s.cell u4 hb1
          have ry0 := fun s : Near w3 => s.cell y0 hb2
          have ry1 := fun s : Near w3 => s.cell y1 hb2
          have ry2 := fun s : Near w3 => s.cell y2 hb2
          have ry3 := fun s : Near w3 => s.cell y3 hb2
          have ry4 := fun s : Near w3 => s.cell y4 hb2
          have rv0 := fun s : Near w3 => s.cell v0 hb2
          have rv1 := fun s : Near w3 => s.cell v1 hb2
          have rv2 := fun s : Near w3 => s.cell v2 hb2
          have rv3 := fun s : Near w3 => s.cell v3 hb2
          have rv4 := fun s : Near w3 => s.cell v4 hb2
          go_wp2_with fail
          refine wp_region_near (by kernel_rfl) (by kernel_rfl) ?_
          repeat (go_big_quiet_step ((first | (go_at_call 10; with_reducible exact near_of (H1.out _)) | (go_at_call 10; with_reducible exact near_of (H2.out _)))))
          refine wpQuiet_nil ?_
          intro _ hw'
          obtain ⟨s1, rfl⟩ := hw'
          clear rx0 rx1 rx2 rx3 rx4 ru0 ru1 ru2 ru3 ru4 ry0 ry1 ry2 ry3 ry4 rv0 rv1 rv2 rv3 rv4 x0 x1 x2 x3 x4 u0 u1 u2 u3 u4 y0 y1 y2 y3 y4 v0 v1 v2 v3 v4
          go_wp2_with fail
          refine (Calls.mono (HXY.out _ (below_step HW0.out s1.is)) ?_); rintro e w5 ⟨rfl, hb⟩
          rw [HOV.out]
          have HW5 := hide (below_step (below_step HW0.out s1.is) hb)
          clear hb
          go_wp2_with fail
          refine (Calls.mono (HXX.out _ HW5.out) ?_); rintro e w6 ⟨rfl, hb⟩
          rw [HOX.out]
          have HW6 := hide (below_step HW5.out hb)
          clear hb
          go_wp2_with fail
          refine (Calls.mono (awake13_any _) ?_); rintro e w7 ⟨rfl, hb⟩
          have HB7 := hide (below_step (below_step HB2.out HW6.out) hb)
          clear hb
          go_wp2_with fail
          go_ret
          exact ⟨rfl, HB7.out⟩
end Go.Proofs.Ytfmckinlgaejeaa.mergeOverlaps
