/- The walk of clepsydralaw6.StateJoins: it returns true. No condition. -/
import Derived.Test.YtbhfokfdijnhhaaS6Sl
namespace Go.Proofs.Ytbhfokfdijnhhaa.stateJoins
set_option linter.unusedVariables false
set_option linter.unusedSimpArgs false
open Go.ChangeShapes Go.WideShapes Go.ChangeAt Go.RowKit

set_option maxHeartbeats 3200000 in
set_option maxRecDepth 100000 in
theorem walk {w : World} (A0 : Option Addr) (c0 : Nat) (L0 : List It) (lc0 : L0.length ≤ c0) (cm0 : c0 ≤ maxLen) (r0 : RowAt It.cells 5 w A0 L0) (w0 : ∀ a ∈ L0, a.wf)
    (A1 : Option Addr) (c1 : Nat) (L1 : List It) (lc1 : L1.length ≤ c1) (cm1 : c1 ≤ maxLen) (r1 : RowAt It.cells 5 w A1 L1) (w1 : ∀ a ∈ L1, a.wf)
    (A2 : Option Addr) (c2 : Nat) (L2 : List It) (lc2 : L2.length ≤ c2) (cm2 : c2 ≤ maxLen) (r2 : RowAt It.cells 5 w A2 L2) (w2 : ∀ a ∈ L2, a.wf) :
    Calls Try.prog 3 #[.slice A0 L0.length c0, .slice A1 L1.length c1, .slice A2 L2.length c2] w fun e w' => e = .returned (.bool true) ∧ Below w.heap.size w w' := by
  by_cases h0 : 40 < L0.length
  case pos =>
    have d0 : decide (40 < (L0.length : Int)) = true := decide_eq_true (by omega)
    go_enter Try.func3, Try.ntmps3
    go_wp2_with fail
    refine (Calls.mono (awake_any _) ?_); rintro e w1 ⟨rfl, hg1⟩
    go_wp2_with fail
    go_ret
    exact ⟨rfl, hg1⟩
  by_cases h1 : 40 < L1.length
  case pos =>
    have d0 : decide (40 < (L0.length : Int)) = false := decide_eq_false (by omega)
    have d1 : decide (40 < (L1.length : Int)) = true := decide_eq_true (by omega)
    go_enter Try.func3, Try.ntmps3
    go_wp2_with fail
    refine (Calls.mono (awake_any _) ?_); rintro e w1 ⟨rfl, hg1⟩
    go_wp2_with fail
    go_ret
    exact ⟨rfl, hg1⟩
  by_cases h2 : 40 < L2.length
  case pos =>
    have d0 : decide (40 < (L0.length : Int)) = false := decide_eq_false (by omega)
    have d1 : decide (40 < (L1.length : Int)) = false := decide_eq_false (by omega)
    have d2 : decide (40 < (L2.length : Int)) = true := decide_eq_true (by omega)
    go_enter Try.func3, Try.ntmps3
    go_wp2_with fail
    refine (Calls.mono (awake_any _) ?_); rintro e w1 ⟨rfl, hg1⟩
    go_wp2_with fail
    go_ret
    exact ⟨rfl, hg1⟩
  have d0 : decide (40 < (L0.length : Int)) = false := decide_eq_false (by omega)
  have d1 : decide (40 < (L1.length : Int)) = false := decide_eq_false (by omega)
  have d2 : decide (40 < (L2.length : Int)) = false := decide_eq_false (by omega)
  have HB0 := hide (Below.refl w.heap.size w)
  have S_a := hide (Sl.mk_ r0 lc0 cm0)
  have S_b := hide (Sl.mk_ r1 lc1 cm1)
  have S_c := hide (Sl.mk_ r2 lc2 cm2)
  clear r0 r1 r2 w0 w1 w2
  have l0 := ofL_len L0
  have l1 := ofL_len L1
  have l2 := ofL_len L2
  have lp := joinL_len (ofL L0) (ofL L1)
  have lpy := joinL_len (joinL (ofL L0) (ofL L1)) (ofL L1)
  have lyx := joinL_len (ofL L1) (ofL L0)
  have lpz := joinL_len (joinL (ofL L0) (ofL L1)) (ofL L2)
  have lyz := joinL_len (ofL L1) (ofL L2)
  have lxyz := joinL_len (ofL L0) (joinL (ofL L1) (ofL L2))
  have lxx := joinL_len (ofL L0) (ofL L0)
  have lnx := joinL_len [] (ofL L0)
  simp only [List.length_nil] at lnx
  have E1 : eqL (joinL (ofL L0) (ofL L1)) (joinL (ofL L1) (ofL L0)) = true := eqL_iff.2 (joins_comm L0 L1)
  have E2 : eqL (joinL (joinL (ofL L0) (ofL L1)) (ofL L1)) (joinL (ofL L0) (ofL L1)) = true := eqL_iff.2 (joins_again L0 L1)
  have E3 : eqL (joinL (joinL (ofL L0) (ofL L1)) (ofL L2)) (joinL (ofL L0) (joinL (ofL L1) (ofL L2))) = true := eqL_iff.2 (joins_assoc L0 L1 L2)
  have E4 : eqL (joinL (ofL L0) (ofL L0)) (ofL L0) = true := eqL_iff.2 (joins_self L0)
  have E5 : eqL (joinL [] (ofL L0)) (ofL L0) = true := eqL_iff.2 (joins_nil L0)
  have E6 : stateB (joinL (ofL L0) (ofL L1)) = true := stateB_true (joinL_state _ _)
  have H1 := hide E1
  clear E1
  have H2 := hide E2
  clear E2
  have H3 := hide E3
  clear E3
  have H4 := hide E4
  clear E4
  have H5 := hide E5
  clear E5
  have H6 := hide E6
  clear E6
  go_enter Try.func3, Try.ntmps3
  go_wp2_with fail
  refine (Calls.mono (pof_sl S_a.out (by omega)) ?_); rintro e w1 ⟨v1, rfl, ho1, hg1⟩
  have HB1 := hide (below_step HB0.out hg1)
  have S_a := hide (S_a.out.below hg1)
  have S_b := hide (S_b.out.below hg1)
  have S_c := hide (S_c.out.below hg1)
  have S_x := hide (ho1.sl)
  clear ho1 hg1
  go_wp2_with fail
  refine (Calls.mono (pof_sl S_b.out (by omega)) ?_); rintro e w2 ⟨v2, rfl, ho2, hg2⟩
  have HB2 := hide (below_step HB1.out hg2)
  have S_a := hide (S_a.out.below hg2)
  have S_b := hide (S_b.out.below hg2)
  have S_c := hide (S_c.out.below hg2)
  have S_x := hide (S_x.out.below hg2)
  have S_y := hide (ho2.sl)
  clear ho2 hg2
  go_wp2_with fail
  refine (Calls.mono (pof_sl S_c.out (by omega)) ?_); rintro e w3 ⟨v3, rfl, ho3, hg3⟩
  have HB3 := hide (below_step HB2.out hg3)
  have S_a := hide (S_a.out.below hg3)
  have S_b := hide (S_b.out.below hg3)
  have S_c := hide (S_c.out.below hg3)
  have S_x := hide (S_x.out.below hg3)
  have S_y := hide (S_y.out.below hg3)
  have S_z := hide (ho3.sl)
  clear ho3 hg3
  go_wp2_with fail
  refine (Calls.mono (pjoin_sl S_x.out S_y.out (by omega) (by omega)) ?_); rintro e w4 ⟨v4, rfl, ho4, hg4⟩
  have HB4 := hide (below_step HB3.out hg4)
  have S_a := hide (S_a.out.below hg4)
  have S_b := hide (S_b.out.below hg4)
  have S_c := hide (S_c.out.below hg4)
  have S_x := hide (S_x.out.below hg4)
  have S_y := hide (S_y.out.below hg4)
  have S_z := hide (S_z.out.below hg4)
  have S_p := hide (ho4.sl)
  clear ho4 hg4
  go_wp2_with fail
  refine (Calls.mono (pjoin_sl S_y.out S_x.out (by omega) (by omega)) ?_); rintro e w5 ⟨v5, rfl, ho5, hg5⟩
  have HB5 := hide (below_step HB4.out hg5)
  have S_a := hide (S_a.out.below hg5)
  have S_b := hide (S_b.out.below hg5)
  have S_c := hide (S_c.out.below hg5)
  have S_x := hide (S_x.out.below hg5)
  have S_y := hide (S_y.out.below hg5)
  have S_z := hide (S_z.out.below hg5)
  have S_p := hide (S_p.out.below hg5)
  have S_yx := hide (ho5.sl)
  clear ho5 hg5
  go_wp2_with fail
  refine (Calls.mono (requal_sl S_p.out S_yx.out (by omega) (by omega)) ?_); rintro e w6 ⟨rfl, hg6⟩
  rw [H1.out]
  have HB6 := hide (below_step HB5.out hg6)
  have S_a := hide (S_a.out.below hg6)
  have S_b := hide (S_b.out.below hg6)
  have S_c := hide (S_c.out.below hg6)
  have S_x := hide (S_x.out.below hg6)
  have S_y := hide (S_y.out.below hg6)
  have S_z := hide (S_z.out.below hg6)
  have S_p := hide (S_p.out.below hg6)
  have S_yx := hide (S_yx.out.below hg6)
  clear hg6
  go_wp2_with fail
  refine (Calls.mono (pjoin_sl S_p.out S_y.out (by omega) (by omega)) ?_); rintro e w7 ⟨v7, rfl, ho7, hg7⟩
  have HB7 := hide (below_step HB6.out hg7)
  have S_a := hide (S_a.out.below hg7)
  have S_b := hide (S_b.out.below hg7)
  have S_c := hide (S_c.out.below hg7)
  have S_x := hide (S_x.out.below hg7)
  have S_y := hide (S_y.out.below hg7)
  have S_z := hide (S_z.out.below hg7)
  have S_p := hide (S_p.out.below hg7)
  have S_yx := hide (S_yx.out.below hg7)
  have S_py := hide (ho7.sl)
  clear ho7 hg7
  go_wp2_with fail
  refine (Calls.mono (requal_sl S_py.out S_p.out (by omega) (by omega)) ?_); rintro e w8 ⟨rfl, hg8⟩
  rw [H2.out]
  have HB8 := hide (below_step HB7.out hg8)
  have S_a := hide (S_a.out.below hg8)
  have S_b := hide (S_b.out.below hg8)
  have S_c := hide (S_c.out.below hg8)
  have S_x := hide (S_x.out.below hg8)
  have S_y := hide (S_y.out.below hg8)
  have S_z := hide (S_z.out.below hg8)
  have S_p := hide (S_p.out.below hg8)
  have S_yx := hide (S_yx.out.below hg8)
  have S_py := hide (S_py.out.below hg8)
  clear hg8
  go_wp2_with fail
  refine (Calls.mono (pjoin_sl S_p.out S_z.out (by omega) (by omega)) ?_); rintro e w9 ⟨v9, rfl, ho9, hg9⟩
  have HB9 := hide (below_step HB8.out hg9)
  have S_a := hide (S_a.out.below hg9)
  have S_b := hide (S_b.out.below hg9)
  have S_c := hide (S_c.out.below hg9)
  have S_x := hide (S_x.out.below hg9)
  have S_y := hide (S_y.out.below hg9)
  have S_z := hide (S_z.out.below hg9)
  have S_p := hide (S_p.out.below hg9)
  have S_yx := hide (S_yx.out.below hg9)
  have S_py := hide (S_py.out.below hg9)
  have S_pz := hide (ho9.sl)
  clear ho9 hg9
  go_wp2_with fail
  refine (Calls.mono (pjoin_sl S_y.out S_z.out (by omega) (by omega)) ?_); rintro e w10 ⟨v10, rfl, ho10, hg10⟩
  have HB10 := hide (below_step HB9.out hg10)
  have S_a := hide (S_a.out.below hg10)
  have S_b := hide (S_b.out.below hg10)
  have S_c := hide (S_c.out.below hg10)
  have S_x := hide (S_x.out.below hg10)
  have S_y := hide (S_y.out.below hg10)
  have S_z := hide (S_z.out.below hg10)
  have S_p := hide (S_p.out.below hg10)
  have S_yx := hide (S_yx.out.below hg10)
  have S_py := hide (S_py.out.below hg10)
  have S_pz := hide (S_pz.out.below hg10)
  have S_yz := hide (ho10.sl)
  clear ho10 hg10
  go_wp2_with fail
  refine (Calls.mono (pjoin_sl S_x.out S_yz.out (by omega) (by omega)) ?_); rintro e w11 ⟨v11, rfl, ho11, hg11⟩
  have HB11 := hide (below_step HB10.out hg11)
  have S_a := hide (S_a.out.below hg11)
  have S_b := hide (S_b.out.below hg11)
  have S_c := hide (S_c.out.below hg11)
  have S_x := hide (S_x.out.below hg11)
  have S_y := hide (S_y.out.below hg11)
  have S_z := hide (S_z.out.below hg11)
  have S_p := hide (S_p.out.below hg11)
  have S_yx := hide (S_yx.out.below hg11)
  have S_py := hide (S_py.out.below hg11)
  have S_pz := hide (S_pz.out.below hg11)
  have S_yz := hide (S_yz.out.below hg11)
  have S_xyz := hide (ho11.sl)
  clear ho11 hg11
  go_wp2_with fail
  refine (Calls.mono (requal_sl S_pz.out S_xyz.out (by omega) (by omega)) ?_); rintro e w12 ⟨rfl, hg12⟩
  rw [H3.out]
  have HB12 := hide (below_step HB11.out hg12)
  have S_a := hide (S_a.out.below hg12)
  have S_b := hide (S_b.out.below hg12)
  have S_c := hide (S_c.out.below hg12)
  have S_x := hide (S_x.out.below hg12)
  have S_y := hide (S_y.out.below hg12)
  have S_z := hide (S_z.out.below hg12)
  have S_p := hide (S_p.out.below hg12)
  have S_yx := hide (S_yx.out.below hg12)
  have S_py := hide (S_py.out.below hg12)
  have S_pz := hide (S_pz.out.below hg12)
  have S_yz := hide (S_yz.out.below hg12)
  have S_xyz := hide (S_xyz.out.below hg12)
  clear hg12
  go_wp2_with fail
  refine (Calls.mono (pjoin_sl S_x.out S_x.out (by omega) (by omega)) ?_); rintro e w13 ⟨v13, rfl, ho13, hg13⟩
  have HB13 := hide (below_step HB12.out hg13)
  have S_a := hide (S_a.out.below hg13)
  have S_b := hide (S_b.out.below hg13)
  have S_c := hide (S_c.out.below hg13)
  have S_x := hide (S_x.out.below hg13)
  have S_y := hide (S_y.out.below hg13)
  have S_z := hide (S_z.out.below hg13)
  have S_p := hide (S_p.out.below hg13)
  have S_yx := hide (S_yx.out.below hg13)
  have S_py := hide (S_py.out.below hg13)
  have S_pz := hide (S_pz.out.below hg13)
  have S_yz := hide (S_yz.out.below hg13)
  have S_xyz := hide (S_xyz.out.below hg13)
  have S_xx := hide (ho13.sl)
  clear ho13 hg13
  go_wp2_with fail
  refine (Calls.mono (requal_sl S_xx.out S_x.out (by omega) (by omega)) ?_); rintro e w14 ⟨rfl, hg14⟩
  rw [H4.out]
  have HB14 := hide (below_step HB13.out hg14)
  have S_a := hide (S_a.out.below hg14)
  have S_b := hide (S_b.out.below hg14)
  have S_c := hide (S_c.out.below hg14)
  have S_x := hide (S_x.out.below hg14)
  have S_y := hide (S_y.out.below hg14)
  have S_z := hide (S_z.out.below hg14)
  have S_p := hide (S_p.out.below hg14)
  have S_yx := hide (S_yx.out.below hg14)
  have S_py := hide (S_py.out.below hg14)
  have S_pz := hide (S_pz.out.below hg14)
  have S_yz := hide (S_yz.out.below hg14)
  have S_xyz := hide (S_xyz.out.below hg14)
  have S_xx := hide (S_xx.out.below hg14)
  clear hg14
  go_wp2_with fail
  refine (Calls.mono (pjoin_sl (Sl.nil_ _) S_x.out (by simp) (by omega)) ?_); rintro e w15 ⟨v15, rfl, ho15, hg15⟩
  have HB15 := hide (below_step HB14.out hg15)
  have S_a := hide (S_a.out.below hg15)
  have S_b := hide (S_b.out.below hg15)
  have S_c := hide (S_c.out.below hg15)
  have S_x := hide (S_x.out.below hg15)
  have S_y := hide (S_y.out.below hg15)
  have S_z := hide (S_z.out.below hg15)
  have S_p := hide (S_p.out.below hg15)
  have S_yx := hide (S_yx.out.below hg15)
  have S_py := hide (S_py.out.below hg15)
  have S_pz := hide (S_pz.out.below hg15)
  have S_yz := hide (S_yz.out.below hg15)
  have S_xyz := hide (S_xyz.out.below hg15)
  have S_xx := hide (S_xx.out.below hg15)
  have S_nx := hide (ho15.sl)
  clear ho15 hg15
  go_wp2_with fail
  refine (Calls.mono (requal_sl S_nx.out S_x.out (by omega) (by omega)) ?_); rintro e w16 ⟨rfl, hg16⟩
  rw [H5.out]
  have HB16 := hide (below_step HB15.out hg16)
  have S_a := hide (S_a.out.below hg16)
  have S_b := hide (S_b.out.below hg16)
  have S_c := hide (S_c.out.below hg16)
  have S_x := hide (S_x.out.below hg16)
  have S_y := hide (S_y.out.below hg16)
  have S_z := hide (S_z.out.below hg16)
  have S_p := hide (S_p.out.below hg16)
  have S_yx := hide (S_yx.out.below hg16)
  have S_py := hide (S_py.out.below hg16)
  have S_pz := hide (S_pz.out.below hg16)
  have S_yz := hide (S_yz.out.below hg16)
  have S_xyz := hide (S_xyz.out.below hg16)
  have S_xx := hide (S_xx.out.below hg16)
  have S_nx := hide (S_nx.out.below hg16)
  clear hg16
  go_wp2_with fail
  refine (Calls.mono (pok_sl S_p.out (by omega)) ?_); rintro e w17 ⟨rfl, hg17⟩
  rw [H6.out]
  have HB17 := hide (below_step HB16.out hg17)
  have S_a := hide (S_a.out.below hg17)
  have S_b := hide (S_b.out.below hg17)
  have S_c := hide (S_c.out.below hg17)
  have S_x := hide (S_x.out.below hg17)
  have S_y := hide (S_y.out.below hg17)
  have S_z := hide (S_z.out.below hg17)
  have S_p := hide (S_p.out.below hg17)
  have S_yx := hide (S_yx.out.below hg17)
  have S_py := hide (S_py.out.below hg17)
  have S_pz := hide (S_pz.out.below hg17)
  have S_yz := hide (S_yz.out.below hg17)
  have S_xyz := hide (S_xyz.out.below hg17)
  have S_xx := hide (S_xx.out.below hg17)
  have S_nx := hide (S_nx.out.below hg17)
  clear hg17
  go_wp2_with fail
  refine (Calls.mono (awake_any _) ?_); rintro e w18 ⟨rfl, hg18⟩
  have HB18 := hide (below_step HB17.out hg18)
  have S_a := hide (S_a.out.below hg18)
  have S_b := hide (S_b.out.below hg18)
  have S_c := hide (S_c.out.below hg18)
  have S_x := hide (S_x.out.below hg18)
  have S_y := hide (S_y.out.below hg18)
  have S_z := hide (S_z.out.below hg18)
  have S_p := hide (S_p.out.below hg18)
  have S_yx := hide (S_yx.out.below hg18)
  have S_py := hide (S_py.out.below hg18)
  have S_pz := hide (S_pz.out.below hg18)
  have S_yz := hide (S_yz.out.below hg18)
  have S_xyz := hide (S_xyz.out.below hg18)
  have S_xx := hide (S_xx.out.below hg18)
  have S_nx := hide (S_nx.out.below hg18)
  clear hg18
  go_wp2_with fail
  go_ret
  exact ⟨rfl, HB18.out⟩
end Go.Proofs.Ytbhfokfdijnhhaa.stateJoins
