/- The walk of clepsydralaw24.CoordTurns: it returns true. Conditions: the arguments are readable. -/
import Derived.Test.YtlabpgdimhbocaaCoordTurnsP
import Derived.Test.YtlabpgdimhbocaaBits
namespace Go.Proofs.Ytlabpgdimhbocaa.coordTurns
set_option linter.unusedVariables false
set_option linter.unusedSimpArgs false
open Go.ChangeShapes Go.WideShapes Go.ChangeAt Go.RowKit
abbrev mT (f : Int) (A : Option Addr) (c : Nat) (L : List It) : Mg := ⟨5, f, 2, 5, 4, A, c, L⟩
set_option maxRecDepth 100000 in
set_option maxHeartbeats 6400000 in
theorem walk {w : World} (A0 : Option Addr) (c0 : Nat) (L0 : List It) (lc0 : L0.length ≤ c0) (cm0 : c0 ≤ maxLen) (r0 : RowAt It.cells 5 w A0 L0) (w0 : ∀ x ∈ L0, It.wf x)
    (A1 : Option Addr) (c1 : Nat) (L1 : List It) (lc1 : L1.length ≤ c1) (cm1 : c1 ≤ maxLen) (r1 : RowAt It.cells 5 w A1 L1) (w1 : ∀ x ∈ L1, It.wf x)
    (a2 : Int) (w2 : (Lit.int .i64 a2).wf = true) :
    Calls Try.prog 4 #[.slice A0 L0.length c0, .slice A1 L1.length c1, .int .i64 a2] w fun e w' => e = .returned (.bool true) ∧ Below w.heap.size w w' := by
  obtain ⟨s, hs, hs2⟩ : ∃ s : Int, bits .and .i64 a2 255 = s ∧ 0 ≤ s ∧ s ≤ 255 := ⟨_, and_mask_i64 a2 8 255 (by omega) (by decide), by omega, by omega⟩
  have HS255 := hide hs2
  have HM0 : Hid ((mT 0 A0 c0 L0).rd w) := hide ⟨r0, lc0, cm0⟩
  have HM1 : Hid ((mT 1 A1 c1 L1).rd w) := hide ⟨r1, lc1, cm1⟩
  clear w0 w1 w2 r0 r1 lc0 lc1 cm0 cm1 hs2
  by_cases h0 : L0.length ≤ 40
  case neg =>
    have hI : (40 : Int) < (L0.length : Int) := by omega
    clear h0
    go_enter Try.func4, Try.ntmps4
    go_wp2_with fail
    refine (Calls.mono (cawake_any _) ?_); rintro e w7 ⟨rfl, hb7⟩
    have HB7 := hide hb7
    clear hb7
    go_wp2_with fail
    go_ret
    exact ⟨rfl, HB7.out⟩
  by_cases h1 : L1.length ≤ 40
  case neg =>
    have hI : ¬ (40 : Int) < (L0.length : Int) := by omega
    have hI1 : (40 : Int) < (L1.length : Int) := by omega
    clear h1
    go_enter Try.func4, Try.ntmps4
    go_wp2_with fail
    refine (Calls.mono (cawake_any _) ?_); rintro e w7 ⟨rfl, hb7⟩
    have HB7 := hide hb7
    clear hb7
    go_wp2_with fail
    go_ret
    exact ⟨rfl, HB7.out⟩
  have hI : ¬ (40 : Int) < (L0.length : Int) := by omega
  have hI1 : ¬ (40 : Int) < (L1.length : Int) := by omega
  have HL0 := hide h0
  have HL1 := hide h1
  obtain ⟨E0, hE0⟩ : ∃ E0, two 2 s (mT 0 A0 c0 L0) (mT 1 A1 c1 L1) = E0 := ⟨_, rfl⟩
  obtain ⟨E1, hE1⟩ : ∃ E1, two 2 s (mT 1 A1 c1 L1) (mT 0 A0 c0 L0) = E1 := ⟨_, rfl⟩
  obtain ⟨x0, hx0⟩ : ∃ x0, mokB (mT 0 A0 c0 L0) = x0 := ⟨_, rfl⟩
  obtain ⟨x1, hx1⟩ : ∃ x1, mokB (mT 1 A1 c1 L1) = x1 := ⟨_, rfl⟩
  have q0 := two_eq (a := 2) (s := s) (m := mT 0 A0 c0 L0) (m' := mT 1 A1 c1 L1) (i := 0) (j := 1) rfl rfl rfl rfl (by omega) rfl rfl rfl rfl (by omega) (by omega)
  have q1 := two_eq (a := 2) (s := s) (m := mT 1 A1 c1 L1) (m' := mT 0 A0 c0 L0) (i := 1) (j := 0) rfl rfl rfl rfl (by omega) rfl rfl rfl rfl (by omega) (by omega)
  have p0 := one_eq (a := 2) (s := s) (m := mT 0 A0 c0 L0) (i := 0) rfl rfl rfl rfl (by omega)
  have p1 := one_eq (a := 2) (s := s) (m := mT 1 A1 c1 L1) (i := 1) rfl rfl rfl rfl (by omega)
  have HK0 := hide (one_k (a := 2) (s := s) (m := mT 0 A0 c0 L0) (i := 0) HS255.out rfl rfl rfl rfl (by omega))
  have HK1 := hide (one_k (a := 2) (s := s) (m := mT 1 A1 c1 L1) (i := 1) HS255.out rfl rfl rfl rfl (by omega))
  have hal := two_turn (a := 2) (s := s) (m := mT 0 A0 c0 L0) (m' := mT 1 A1 c1 L1) (i := 0) (j := 1) rfl rfl rfl rfl rfl (by omega) rfl rfl rfl rfl (by omega) (by omega)
  have hl0 := two_len (a := 2) (s := s) (m := mT 0 A0 c0 L0) (m' := mT 1 A1 c1 L1) (i := 0) (j := 1) h0 h1 rfl rfl rfl rfl (by omega) rfl rfl rfl rfl (by omega) (by omega)
  have hl1 := two_len (a := 2) (s := s) (m := mT 1 A1 c1 L1) (m' := mT 0 A0 c0 L0) (i := 1) (j := 0) h1 h0 rfl rfl rfl rfl (by omega) rfl rfl rfl rfl (by omega) (by omega)
  rw [hE0, hE1] at hal
  rw [hE0] at hl0 q0
  rw [hE1] at hl1 q1
  rw [hx0] at p0 q0 q1
  rw [hx1] at p1 q0 q1
  have HP0 : Hid (conR (g3 2 s (fun _ => false) []) (mT 0 A0 c0 L0) = one 2 s (mT 0 A0 c0 L0) ∧ conB (g3 2 s (fun _ => false) []) (mT 0 A0 c0 L0) = x0) := hide ⟨rfl, p0.2⟩
  have HP1 : Hid (conR (g3 2 s (fun _ => false) []) (mT 1 A1 c1 L1) = one 2 s (mT 1 A1 c1 L1) ∧ conB (g3 2 s (fun _ => false) []) (mT 1 A1 c1 L1) = x1) := hide ⟨rfl, p1.2⟩
  have HQ0 : Hid (conR (one 2 s (mT 0 A0 c0 L0)) (mT 1 A1 c1 L1) = E0 ∧ conB (one 2 s (mT 0 A0 c0 L0)) (mT 1 A1 c1 L1) = x1) := hide ⟨hE0, q0.1⟩
  have HQ1 : Hid (conR (one 2 s (mT 1 A1 c1 L1)) (mT 0 A0 c0 L0) = E1 ∧ conB (one 2 s (mT 1 A1 c1 L1)) (mT 0 A0 c0 L0) = x0) := hide ⟨hE1, q1.1⟩
  have HD0 : Hid (E0.dn = (x0 && x1) ∧ E0.ae = 0) := hide ⟨q0.2.1, q0.2.2.1⟩
  have HD1 : Hid (E1.dn = (x1 && x0) ∧ E1.ae = 0) := hide ⟨q1.2.1, q1.2.2.1⟩
  have HEL0 : Hid (E0.AL.length ≤ 1099511627776) := hide (by omega)
  have HEL1 : Hid (E1.AL.length ≤ 1099511627776) := hide (by omega)
  have HAL := hide hal
  have HLE : Hid (E0.AL.length ≤ 80) := hide hl0
  have HNEW := hide (fun W => cnew_co 3 2 5 3 s 0 0 0 W (by unfold newB nodesB clientB; simp; exact HS255.out))
  clear h0 h1 hE0 hE1 hx0 hx1 p0 p1 q0 q1 hal hl0 hl1
  have hzr := heap_alloc_new w (.cells #[.int .u64 0, .int .i64 0, .int .i64 0, .int .u64 0, .int .i64 0, .int .i64 0, .int .u64 0, .slice none 0 0, .int .u64 0, .int .i64 0, .int .i64 0, .int .u64 0, .int .i64 0, .int .i64 0, .int .u64 0, .slice none 0 0] 40)
  have hbr := below_alloc (Below.refl w.heap.size w) (.cells #[.int .u64 0, .int .i64 0, .int .i64 0, .int .u64 0, .int .i64 0, .int .i64 0, .int .u64 0, .slice none 0 0, .int .u64 0, .int .i64 0, .int .i64 0, .int .u64 0, .int .i64 0, .int .i64 0, .int .u64 0, .slice none 0 0] 40)
  obtain ⟨wa, hwa⟩ : ∃ wa, w.alloc (.cells #[.int .u64 0, .int .i64 0, .int .i64 0, .int .u64 0, .int .i64 0, .int .i64 0, .int .u64 0, .slice none 0 0, .int .u64 0, .int .i64 0, .int .i64 0, .int .u64 0, .int .i64 0, .int .i64 0, .int .u64 0, .slice none 0 0] 40) = wa := ⟨_, rfl⟩
  rw [hwa] at hzr hbr
  obtain ⟨gr, hgr⟩ : ∃ gr, w.heap.size = gr := ⟨_, rfl⟩
  rw [hgr] at hzr
  have HWA := hide hwa
  have HGRW := hide hgr
  have HZR := hide hzr
  have HBR := hide hbr
  clear hwa hgr hzr hbr
  go_enter Try.func4, Try.ntmps4
  go_upto_block 0 with fail
  try rw [HWA.out]
  try rw [HGRW.out]
  go_cut [] (fun W => ∃ v0 v1, W.heap[gr]? = some (.cells [.int .u64 E0.aid, .int .i64 E0.ack, .int .i64 E0.acs, .int .u64 E0.act, .int .i64 E0.acv, .int .i64 E0.ae, .int .u64 E0.av, v0, .int .u64 E1.aid, .int .i64 E1.ack, .int .i64 E1.acs, .int .u64 E1.act, .int .i64 E1.acv, .int .i64 E1.ae, .int .u64 E1.av, v1].toArray 40 (0, 0)) ∧ Ow (gr + 1) W v0 E0.AL ∧ Ow (gr + 1) W v1 E1.AL ∧ Below w.heap.size w W)
  case first =>
    go_wp2_with fail
    go_loopw [8] (fun i wr => (i = .int .i64 0 ∧ wr.heap[gr]? = some (.cells [.int .u64 0, .int .i64 0, .int .i64 0, .int .u64 0, .int .i64 0, .int .i64 0, .int .u64 0, .slice none 0 0, .int .u64 0, .int .i64 0, .int .i64 0, .int .u64 0, .int .i64 0, .int .i64 0, .int .u64 0, .slice none 0 0].toArray 40 (0, 0)) ∧ Below w.heap.size w wr) ∨ (i = .int .i64 1 ∧ ∃ v0, wr.heap[gr]? = some (.cells [.int .u64 E0.aid, .int .i64 E0.ack, .int .i64 E0.acs, .int .u64 E0.act, .int .i64 E0.acv, .int .i64 E0.ae, .int .u64 E0.av, v0, .int .u64 0, .int .i64 0, .int .i64 0, .int .u64 0, .int .i64 0, .int .i64 0, .int .u64 0, .slice none 0 0].toArray 40 (0, 0)) ∧ Ow (gr + 1) wr v0 E0.AL ∧ Below w.heap.size w wr) ∨ (i = .int .i64 2 ∧ ∃ v0 v1, wr.heap[gr]? = some (.cells [.int .u64 E0.aid, .int .i64 E0.ack, .int .i64 E0.acs, .int .u64 E0.act, .int .i64 E0.acv, .int .i64 E0.ae, .int .u64 E0.av, v0, .int .u64 E1.aid, .int .i64 E1.ack, .int .i64 E1.acs, .int .u64 E1.act, .int .i64 E1.acv, .int .i64 E1.ae, .int .u64 E1.av, v1].toArray 40 (0, 0)) ∧ Ow (gr + 1) wr v0 E0.AL ∧ Ow (gr + 1) wr v1 E1.AL ∧ Below w.heap.size w wr)) (fun i _ => 3 - (intOf i).toNat)
    case atStart => exact .inl ⟨rfl, HZR.out, HBR.out⟩
    case round =>
      rcases hrel with ⟨rfl, hgr, hbw⟩ | ⟨rfl, v0, hgr, hv0, hbw⟩ | ⟨rfl, v0, v1, hgr, hv0, hv1, hbw⟩
      · have HGR := hide hgr
        have HBW := hide hbw
        have HLGR := hide (Array.getElem?_eq_some_iff.1 hgr).1
        clear hgr hbw
        go_wp2_with fail
        refine (Calls.mono (HNEW.out _) ?_); rintro e w1 ⟨b, rfl, hR⟩
        rw [show co0 3 2 5 3 s 0 0 0 = g3 2 s (fun _ => false) [] from co0_coG 3 2 5 3 s 0 0 0] at hR
        have HR := hide hR
        have hLN := hR.low
        have HGR1 := hide ((hLN.block gr HLGR.out).trans HGR.out)
        clear hR
        have hzm := heap_alloc_new w1 (.cells #[.int .i64 5, .int .i64 0, .int .i64 2, .int .u64 5, .int .u64 4, .slice A0 L0.length c0, .int .i64 5, .int .i64 1, .int .i64 2, .int .u64 5, .int .u64 4, .slice A1 L1.length c1] 33)
        have hbm := below_alloc (Below.refl w1.heap.size w1) (.cells #[.int .i64 5, .int .i64 0, .int .i64 2, .int .u64 5, .int .u64 4, .slice A0 L0.length c0, .int .i64 5, .int .i64 1, .int .i64 2, .int .u64 5, .int .u64 4, .slice A1 L1.length c1] 33)
        obtain ⟨wm, hwm⟩ : ∃ wm, w1.alloc (.cells #[.int .i64 5, .int .i64 0, .int .i64 2, .int .u64 5, .int .u64 4, .slice A0 L0.length c0, .int .i64 5, .int .i64 1, .int .i64 2, .int .u64 5, .int .u64 4, .slice A1 L1.length c1] 33) = wm := ⟨_, rfl⟩
        rw [hwm] at hzm hbm
        obtain ⟨gm, hgm⟩ : ∃ gm, w1.heap.size = gm := ⟨_, rfl⟩
        rw [hgm] at hzm
        have HWM := hide hwm
        have HGM := hide hgm
        have HRm := hide (HR.out.below hbm)
        have HZM := hide hzm
        have HGRm := hide ((hbm.block gr (Nat.lt_of_lt_of_le HLGR.out hLN.size)).trans HGR1.out)
        have lgm := (Array.getElem?_eq_some_iff.1 hzm).1
        have hgmb : gm ≠ b := by have := HR.out.lt; omega
        have HGMB := hide hgmb
        have hgrb : gr ≠ b := by have := HR.out.old; have := HLGR.out; omega
        have HGRB := hide hgrb
        have HO1 := hide (con_x HRm.out (g3_k HS255.out (by simp)) (mT 0 A0 c0 L0) (HM0.out.below HBW.out) HP0.out.1 HP0.out.2 (fun _ _ _ => citems_any (got_lim (m := (mT 0 A0 c0 L0)) (by simp [coG]) (fun g hg => by simp [coG] at hg) HL0.out).1 (got_lim (m := (mT 0 A0 c0 L0)) (by simp [coG]) (fun g hg => by simp [coG] at hg) HL0.out).2))
        clear hwm hgm hzm hbm hLN hgmb hgrb
        go_upto_region 12 with fail
        try rw [HWM.out]
        try rw [HGM.out]
        have t0 : wm.cell? ⟨gm, 0, none⟩ = some (.int .i64 5) := (cell_of_row _ _ 0 _ _ _ HZM.out).trans rfl
        have t1 : wm.cell? ⟨gm, 1, none⟩ = some (.int .i64 0) := (cell_of_row _ _ 1 _ _ _ HZM.out).trans rfl
        have t2 : wm.cell? ⟨gm, 2, none⟩ = some (.int .i64 2) := (cell_of_row _ _ 2 _ _ _ HZM.out).trans rfl
        have t3 : wm.cell? ⟨gm, 3, none⟩ = some (.int .u64 5) := (cell_of_row _ _ 3 _ _ _ HZM.out).trans rfl
        have t4 : wm.cell? ⟨gm, 4, none⟩ = some (.int .u64 4) := (cell_of_row _ _ 4 _ _ _ HZM.out).trans rfl
        have t5 : wm.cell? ⟨gm, 5, none⟩ = some (.slice A0 L0.length c0) := (cell_of_row _ _ 5 _ _ _ HZM.out).trans rfl
        go_wp2_with fail
        refine (Calls.mono HO1.out ?_); rintro e w3 ⟨rfl, hR3, hS3⟩
        have HR3 := hide hR3
        have HZM3 := hide ((hS3.block gm (Array.getElem?_eq_some_iff.1 HZM.out).1 HGMB.out).trans HZM.out)
        have HGR3 := hide ((hS3.block gr (Array.getElem?_eq_some_iff.1 HGRm.out).1 HGRB.out).trans HGRm.out)
        have HXR : Hid (¬ Xn (fun g => g = b) wm w3 gr) := hide (fun h => by
          rcases h with h | h
          · exact HGRB.out h
          · have := (Array.getElem?_eq_some_iff.1 HGRm.out).1; omega)
        have lgm := (Array.getElem?_eq_some_iff.1 HZM3.out).1
        clear hR3 hS3 HO1 t0 t1 t2 t3 t4 t5
        have HO2 := hide (con_x HR3.out HK0.out.1 (mT 1 A1 c1 L1) (HM1.out.below HBW.out) HQ0.out.1 HQ0.out.2 (fun _ _ _ => by rw [HK0.out.2.2.2.1]; exact citems_any (got_lim (m := (mT 1 A1 c1 L1)) HK0.out.2.1 (fun g hg => Nat.le_trans (HK0.out.2.2.1 g hg) HL0.out) HL1.out).1 (got_lim (m := (mT 1 A1 c1 L1)) HK0.out.2.1 (fun g hg => Nat.le_trans (HK0.out.2.2.1 g hg) HL0.out) HL1.out).2))
        go_upto_region 13 with fail
        have t0 : w3.cell? ⟨gm, 6, none⟩ = some (.int .i64 5) := (cell_of_row _ _ 6 _ _ _ HZM3.out).trans rfl
        have t1 : w3.cell? ⟨gm, 7, none⟩ = some (.int .i64 1) := (cell_of_row _ _ 7 _ _ _ HZM3.out).trans rfl
        have t2 : w3.cell? ⟨gm, 8, none⟩ = some (.int .i64 2) := (cell_of_row _ _ 8 _ _ _ HZM3.out).trans rfl
        have t3 : w3.cell? ⟨gm, 9, none⟩ = some (.int .u64 5) := (cell_of_row _ _ 9 _ _ _ HZM3.out).trans rfl
        have t4 : w3.cell? ⟨gm, 10, none⟩ = some (.int .u64 4) := (cell_of_row _ _ 10 _ _ _ HZM3.out).trans rfl
        have t5 : w3.cell? ⟨gm, 11, none⟩ = some (.slice A1 L1.length c1) := (cell_of_row _ _ 11 _ _ _ HZM3.out).trans rfl
        go_wp2_with fail
        refine (Calls.mono HO2.out ?_); rintro e w4 ⟨rfl, hR4, hS4⟩
        have HR4 := hide hR4
        have HGR4 := hide ((hS4.block gr (Array.getElem?_eq_some_iff.1 HGR3.out).1 HXR.out).trans HGR3.out)
        clear hR4 hS4 HO2 t0 t1 t2 t3 t4 t5 lgm
        have HD := hide (cdone_any HR4.out HEL0.out)
        go_wp2_with fail
        refine (Calls.mono HD.out ?_); rintro e w5 ⟨v5, rfl, ho5, hb5⟩
        obtain ⟨A5, c5, rfl, _, _, _⟩ := OwnL.row It.cells_len ho5
        have HO5 := hide ho5
        have HLN := hide (below_step HR4.out.low hb5)
        have HGR5 := hide ((hb5.block gr (Array.getElem?_eq_some_iff.1 HGR4.out).1).trans HGR4.out)
        have HGRL : Hid (gr < w4.heap.size) := hide (Array.getElem?_eq_some_iff.1 HGR4.out).1
        clear ho5 hb5 HD HR3 HR4
        obtain ⟨wx, hwx, hbx, hzx⟩ := ans_al w5 (.int .u64 E0.aid) (.int .i64 E0.ack) (.int .i64 E0.acs) (.int .u64 E0.act) (.int .i64 E0.acv) (.int .i64 E0.ae) (.int .u64 E0.av) (.slice A5 E0.AL.length c5)
        have HWX := hide hwx
        have HBX := hide hbx
        have HGR6 := hide ((hbx.block gr (Array.getElem?_eq_some_iff.1 HGR5.out).1).trans HGR5.out)
        have HO6 := hide (OwnL.below HO5.out hbx)
        obtain ⟨y0, y1, y2, y3, y4, y5, y6, y7⟩ := ans_at hzx (Below.refl _ _)
        have lgx := (Array.getElem?_eq_some_iff.1 hzx).1
        have HGX : Hid (w5.heap.size ≠ gr) := hide (by have := (Array.getElem?_eq_some_iff.1 HGR5.out).1; omega)
        obtain ⟨gx, hgx⟩ : ∃ gx, w5.heap.size = gx := ⟨_, rfl⟩
        rw [hgx] at y0 y1 y2 y3 y4 y5 y6 y7 lgx HGX
        have HGXE := hide hgx
        clear hwx hbx hzx hgx
        go_upto_region 15 with fail
        try rw [HWX.out]
        try rw [HGXE.out]
        rw [HD0.out.1]
        go_cut [72] (fun v W => v = .bool false ∧ wx = W)
        case first =>
          clear y0 y1 y2 y3 y4 y5 y6 y7
          cases x0 <;> cases x1
          all_goals
            go_wp2_with fail
            go_meet
            exact ⟨rfl, rfl⟩
        case rest =>
          obtain ⟨rfl, rfl⟩ := hcut
          have o0 : wx.cell? ⟨gr, 0, none⟩ = some (.int .u64 0) := (cell_of_list (o := 0) HGR6.out).trans rfl
          have o1 : wx.cell? ⟨gr, 1, none⟩ = some (.int .i64 0) := (cell_of_list (o := 1) HGR6.out).trans rfl
          have o2 : wx.cell? ⟨gr, 2, none⟩ = some (.int .i64 0) := (cell_of_list (o := 2) HGR6.out).trans rfl
          have o3 : wx.cell? ⟨gr, 3, none⟩ = some (.int .u64 0) := (cell_of_list (o := 3) HGR6.out).trans rfl
          have o4 : wx.cell? ⟨gr, 4, none⟩ = some (.int .i64 0) := (cell_of_list (o := 4) HGR6.out).trans rfl
          have o5 : wx.cell? ⟨gr, 5, none⟩ = some (.int .i64 0) := (cell_of_list (o := 5) HGR6.out).trans rfl
          have o6 : wx.cell? ⟨gr, 6, none⟩ = some (.int .u64 0) := (cell_of_list (o := 6) HGR6.out).trans rfl
          have o7 : wx.cell? ⟨gr, 7, none⟩ = some (.slice none 0 0) := (cell_of_list (o := 7) HGR6.out).trans rfl
          have of : ∀ o, wx.frozen? ⟨gr, o, none⟩ = false := fun o => by simp [World.frozen?, HGR6.out]
          have lgr : gr < wx.heap.size := (Array.getElem?_eq_some_iff.1 HGR6.out).1
          have hne : ¬ gx = gr := HGX.out
          have hne2 : ¬ gr = gx := fun e => hne e.symm
          have HNEW7 := hide ((set_of_list (o := 7) (set_of_list (o := 6) (set_of_list (o := 5) (set_of_list (o := 4) (set_of_list (o := 3) (set_of_list (o := 2) (set_of_list (o := 1) (set_of_list (o := 0) HGR6.out (.int .u64 E0.aid)) (.int .i64 E0.ack)) (.int .i64 E0.acs)) (.int .u64 E0.act)) (.int .i64 E0.acv)) (.int .i64 E0.ae)) (.int .u64 E0.av)) (.slice A5 E0.AL.length c5)))
          have hs7 : Sets (fun c => c = gr) wx ((((((((wx.setCell ⟨gr, 0, none⟩ (.int .u64 E0.aid)).setCell ⟨gr, 1, none⟩ (.int .i64 E0.ack)).setCell ⟨gr, 2, none⟩ (.int .i64 E0.acs)).setCell ⟨gr, 3, none⟩ (.int .u64 E0.act)).setCell ⟨gr, 4, none⟩ (.int .i64 E0.acv)).setCell ⟨gr, 5, none⟩ (.int .i64 E0.ae)).setCell ⟨gr, 6, none⟩ (.int .u64 E0.av)).setCell ⟨gr, 7, none⟩ (.slice A5 E0.AL.length c5)) := (((((((((Sets.refl (S := fun c => c = gr) wx).set (g := gr) (fun _ => rfl) 0 (.int .u64 E0.aid)).set (g := gr) (fun _ => rfl) 1 (.int .i64 E0.ack)).set (g := gr) (fun _ => rfl) 2 (.int .i64 E0.acs)).set (g := gr) (fun _ => rfl) 3 (.int .u64 E0.act)).set (g := gr) (fun _ => rfl) 4 (.int .i64 E0.acv)).set (g := gr) (fun _ => rfl) 5 (.int .i64 E0.ae)).set (g := gr) (fun _ => rfl) 6 (.int .u64 E0.av)).set (g := gr) (fun _ => rfl) 7 (.slice A5 E0.AL.length c5))
          have HS7 := hide hs7
          have HO7 := hide (OwnL.base_ (OwnL.sets HO6.out hs7 (fun g hg e => by have := (OwnL.lt HO6.out g hg).1; have := HGRL.out; omega)) (show gr + 1 ≤ w4.heap.size from HGRL.out))
          have HB7 := hide (Sets.below (below_step (below_step HBW.out HLN.out) HBX.out) hs7 (fun g e => by rw [e, ← HGRW.out]; exact Nat.le_refl _) (below_step (below_step HBW.out HLN.out) HBX.out).size)
          clear hs7
          go_wp2_with fail
          go_roundw
          case rel => exact .inr (.inl ⟨by go_num, _, HNEW7.out, HO7.out, HB7.out⟩)
          case measure => (simp [intOf] <;> omega)

      · have HGR := hide hgr
        have HBW := hide hbw
        have HV0 := hide hv0
        have HLGR := hide (Array.getElem?_eq_some_iff.1 hgr).1
        clear hgr hbw hv0
        go_wp2_with fail
        refine (Calls.mono (HNEW.out _) ?_); rintro e w1 ⟨b, rfl, hR⟩
        rw [show co0 3 2 5 3 s 0 0 0 = g3 2 s (fun _ => false) [] from co0_coG 3 2 5 3 s 0 0 0] at hR
        have HR := hide hR
        have hLN := hR.low
        have HGR1 := hide ((hLN.block gr HLGR.out).trans HGR.out)
        clear hR
        have hzm := heap_alloc_new w1 (.cells #[.int .i64 5, .int .i64 0, .int .i64 2, .int .u64 5, .int .u64 4, .slice A0 L0.length c0, .int .i64 5, .int .i64 1, .int .i64 2, .int .u64 5, .int .u64 4, .slice A1 L1.length c1] 33)
        have hbm := below_alloc (Below.refl w1.heap.size w1) (.cells #[.int .i64 5, .int .i64 0, .int .i64 2, .int .u64 5, .int .u64 4, .slice A0 L0.length c0, .int .i64 5, .int .i64 1, .int .i64 2, .int .u64 5, .int .u64 4, .slice A1 L1.length c1] 33)
        obtain ⟨wm, hwm⟩ : ∃ wm, w1.alloc (.cells #[.int .i64 5, .int .i64 0, .int .i64 2, .int .u64 5, .int .u64 4, .slice A0 L0.length c0, .int .i64 5, .int .i64 1, .int .i64 2, .int .u64 5, .int .u64 4, .slice A1 L1.length c1] 33) = wm := ⟨_, rfl⟩
        rw [hwm] at hzm hbm
        obtain ⟨gm, hgm⟩ : ∃ gm, w1.heap.size = gm := ⟨_, rfl⟩
        rw [hgm] at hzm
        have HWM := hide hwm
        have HGM := hide hgm
        have HRm := hide (HR.out.below hbm)
        have HZM := hide hzm
        have HGRm := hide ((hbm.block gr (Nat.lt_of_lt_of_le HLGR.out hLN.size)).trans HGR1.out)
        have lgm := (Array.getElem?_eq_some_iff.1 hzm).1
        have hgmb : gm ≠ b := by have := HR.out.lt; omega
        have HGMB := hide hgmb
        have hgrb : gr ≠ b := by have := HR.out.old; have := HLGR.out; omega
        have HGRB := hide hgrb
        have HO1 := hide (con_x HRm.out (g3_k HS255.out (by simp)) (mT 1 A1 c1 L1) (HM1.out.below HBW.out) HP1.out.1 HP1.out.2 (fun _ _ _ => citems_any (got_lim (m := (mT 1 A1 c1 L1)) (by simp [coG]) (fun g hg => by simp [coG] at hg) HL1.out).1 (got_lim (m := (mT 1 A1 c1 L1)) (by simp [coG]) (fun g hg => by simp [coG] at hg) HL1.out).2))
        clear hwm hgm hzm hbm hLN hgmb hgrb
        go_upto_region 12 with fail
        try rw [HWM.out]
        try rw [HGM.out]
        have t0 : wm.cell? ⟨gm, 6, none⟩ = some (.int .i64 5) := (cell_of_row _ _ 6 _ _ _ HZM.out).trans rfl
        have t1 : wm.cell? ⟨gm, 7, none⟩ = some (.int .i64 1) := (cell_of_row _ _ 7 _ _ _ HZM.out).trans rfl
        have t2 : wm.cell? ⟨gm, 8, none⟩ = some (.int .i64 2) := (cell_of_row _ _ 8 _ _ _ HZM.out).trans rfl
        have t3 : wm.cell? ⟨gm, 9, none⟩ = some (.int .u64 5) := (cell_of_row _ _ 9 _ _ _ HZM.out).trans rfl
        have t4 : wm.cell? ⟨gm, 10, none⟩ = some (.int .u64 4) := (cell_of_row _ _ 10 _ _ _ HZM.out).trans rfl
        have t5 : wm.cell? ⟨gm, 11, none⟩ = some (.slice A1 L1.length c1) := (cell_of_row _ _ 11 _ _ _ HZM.out).trans rfl
        go_wp2_with fail
        refine (Calls.mono HO1.out ?_); rintro e w3 ⟨rfl, hR3, hS3⟩
        have HR3 := hide hR3
        have HZM3 := hide ((hS3.block gm (Array.getElem?_eq_some_iff.1 HZM.out).1 HGMB.out).trans HZM.out)
        have HGR3 := hide ((hS3.block gr (Array.getElem?_eq_some_iff.1 HGRm.out).1 HGRB.out).trans HGRm.out)
        have HXR : Hid (¬ Xn (fun g => g = b) wm w3 gr) := hide (fun h => by
          rcases h with h | h
          · exact HGRB.out h
          · have := (Array.getElem?_eq_some_iff.1 HGRm.out).1; omega)
        have lgm := (Array.getElem?_eq_some_iff.1 HZM3.out).1
        clear hR3 hS3 HO1 t0 t1 t2 t3 t4 t5
        have HO2 := hide (con_x HR3.out HK1.out.1 (mT 0 A0 c0 L0) (HM0.out.below HBW.out) HQ1.out.1 HQ1.out.2 (fun _ _ _ => by rw [HK1.out.2.2.2.1]; exact citems_any (got_lim (m := (mT 0 A0 c0 L0)) HK1.out.2.1 (fun g hg => Nat.le_trans (HK1.out.2.2.1 g hg) HL1.out) HL0.out).1 (got_lim (m := (mT 0 A0 c0 L0)) HK1.out.2.1 (fun g hg => Nat.le_trans (HK1.out.2.2.1 g hg) HL1.out) HL0.out).2))
        go_upto_region 13 with fail
        have t0 : w3.cell? ⟨gm, 0, none⟩ = some (.int .i64 5) := (cell_of_row _ _ 0 _ _ _ HZM3.out).trans rfl
        have t1 : w3.cell? ⟨gm, 1, none⟩ = some (.int .i64 0) := (cell_of_row _ _ 1 _ _ _ HZM3.out).trans rfl
        have t2 : w3.cell? ⟨gm, 2, none⟩ = some (.int .i64 2) := (cell_of_row _ _ 2 _ _ _ HZM3.out).trans rfl
        have t3 : w3.cell? ⟨gm, 3, none⟩ = some (.int .u64 5) := (cell_of_row _ _ 3 _ _ _ HZM3.out).trans rfl
        have t4 : w3.cell? ⟨gm, 4, none⟩ = some (.int .u64 4) := (cell_of_row _ _ 4 _ _ _ HZM3.out).trans rfl
        have t5 : w3.cell? ⟨gm, 5, none⟩ = some (.slice A0 L0.length c0) := (cell_of_row _ _ 5 _ _ _ HZM3.out).trans rfl
        go_wp2_with fail
        refine (Calls.mono HO2.out ?_); rintro e w4 ⟨rfl, hR4, hS4⟩
        have HR4 := hide hR4
        have HGR4 := hide ((hS4.block gr (Array.getElem?_eq_some_iff.1 HGR3.out).1 HXR.out).trans HGR3.out)
        clear hR4 hS4 HO2 t0 t1 t2 t3 t4 t5 lgm
        have HD := hide (cdone_any HR4.out HEL1.out)
        go_wp2_with fail
        refine (Calls.mono HD.out ?_); rintro e w5 ⟨v5, rfl, ho5, hb5⟩
        obtain ⟨A5, c5, rfl, _, _, _⟩ := OwnL.row It.cells_len ho5
        have HO5 := hide ho5
        have HLN := hide (below_step HR4.out.low hb5)
        have HGR5 := hide ((hb5.block gr (Array.getElem?_eq_some_iff.1 HGR4.out).1).trans HGR4.out)
        have HGRL : Hid (gr < w4.heap.size) := hide (Array.getElem?_eq_some_iff.1 HGR4.out).1
        clear ho5 hb5 HD HR3 HR4
        obtain ⟨wx, hwx, hbx, hzx⟩ := ans_al w5 (.int .u64 E1.aid) (.int .i64 E1.ack) (.int .i64 E1.acs) (.int .u64 E1.act) (.int .i64 E1.acv) (.int .i64 E1.ae) (.int .u64 E1.av) (.slice A5 E1.AL.length c5)
        have HWX := hide hwx
        have HBX := hide hbx
        have HGR6 := hide ((hbx.block gr (Array.getElem?_eq_some_iff.1 HGR5.out).1).trans HGR5.out)
        have HO6 := hide (OwnL.below HO5.out hbx)
        obtain ⟨y0, y1, y2, y3, y4, y5, y6, y7⟩ := ans_at hzx (Below.refl _ _)
        have lgx := (Array.getElem?_eq_some_iff.1 hzx).1
        have HGX : Hid (w5.heap.size ≠ gr) := hide (by have := (Array.getElem?_eq_some_iff.1 HGR5.out).1; omega)
        obtain ⟨gx, hgx⟩ : ∃ gx, w5.heap.size = gx := ⟨_, rfl⟩
        rw [hgx] at y0 y1 y2 y3 y4 y5 y6 y7 lgx HGX
        have HGXE := hide hgx
        clear hwx hbx hzx hgx
        go_upto_region 15 with fail
        try rw [HWX.out]
        try rw [HGXE.out]
        rw [HD1.out.1]
        go_cut [72] (fun v W => v = .bool false ∧ wx = W)
        case first =>
          clear y0 y1 y2 y3 y4 y5 y6 y7
          cases x0 <;> cases x1
          all_goals
            go_wp2_with fail
            go_meet
            exact ⟨rfl, rfl⟩
        case rest =>
          obtain ⟨rfl, rfl⟩ := hcut
          have o0 : wx.cell? ⟨gr, 8, none⟩ = some (.int .u64 0) := (cell_of_list (o := 8) HGR6.out).trans rfl
          have o1 : wx.cell? ⟨gr, 9, none⟩ = some (.int .i64 0) := (cell_of_list (o := 9) HGR6.out).trans rfl
          have o2 : wx.cell? ⟨gr, 10, none⟩ = some (.int .i64 0) := (cell_of_list (o := 10) HGR6.out).trans rfl
          have o3 : wx.cell? ⟨gr, 11, none⟩ = some (.int .u64 0) := (cell_of_list (o := 11) HGR6.out).trans rfl
          have o4 : wx.cell? ⟨gr, 12, none⟩ = some (.int .i64 0) := (cell_of_list (o := 12) HGR6.out).trans rfl
          have o5 : wx.cell? ⟨gr, 13, none⟩ = some (.int .i64 0) := (cell_of_list (o := 13) HGR6.out).trans rfl
          have o6 : wx.cell? ⟨gr, 14, none⟩ = some (.int .u64 0) := (cell_of_list (o := 14) HGR6.out).trans rfl
          have o7 : wx.cell? ⟨gr, 15, none⟩ = some (.slice none 0 0) := (cell_of_list (o := 15) HGR6.out).trans rfl
          have of : ∀ o, wx.frozen? ⟨gr, o, none⟩ = false := fun o => by simp [World.frozen?, HGR6.out]
          have lgr : gr < wx.heap.size := (Array.getElem?_eq_some_iff.1 HGR6.out).1
          have hne : ¬ gx = gr := HGX.out
          have hne2 : ¬ gr = gx := fun e => hne e.symm
          have HNEW7 := hide ((set_of_list (o := 15) (set_of_list (o := 14) (set_of_list (o := 13) (set_of_list (o := 12) (set_of_list (o := 11) (set_of_list (o := 10) (set_of_list (o := 9) (set_of_list (o := 8) HGR6.out (.int .u64 E1.aid)) (.int .i64 E1.ack)) (.int .i64 E1.acs)) (.int .u64 E1.act)) (.int .i64 E1.acv)) (.int .i64 E1.ae)) (.int .u64 E1.av)) (.slice A5 E1.AL.length c5)))
          have hs7 : Sets (fun c => c = gr) wx ((((((((wx.setCell ⟨gr, 8, none⟩ (.int .u64 E1.aid)).setCell ⟨gr, 9, none⟩ (.int .i64 E1.ack)).setCell ⟨gr, 10, none⟩ (.int .i64 E1.acs)).setCell ⟨gr, 11, none⟩ (.int .u64 E1.act)).setCell ⟨gr, 12, none⟩ (.int .i64 E1.acv)).setCell ⟨gr, 13, none⟩ (.int .i64 E1.ae)).setCell ⟨gr, 14, none⟩ (.int .u64 E1.av)).setCell ⟨gr, 15, none⟩ (.slice A5 E1.AL.length c5)) := (((((((((Sets.refl (S := fun c => c = gr) wx).set (g := gr) (fun _ => rfl) 8 (.int .u64 E1.aid)).set (g := gr) (fun _ => rfl) 9 (.int .i64 E1.ack)).set (g := gr) (fun _ => rfl) 10 (.int .i64 E1.acs)).set (g := gr) (fun _ => rfl) 11 (.int .u64 E1.act)).set (g := gr) (fun _ => rfl) 12 (.int .i64 E1.acv)).set (g := gr) (fun _ => rfl) 13 (.int .i64 E1.ae)).set (g := gr) (fun _ => rfl) 14 (.int .u64 E1.av)).set (g := gr) (fun _ => rfl) 15 (.slice A5 E1.AL.length c5))
          have HS7 := hide hs7
          have HO7 := hide (OwnL.base_ (OwnL.sets HO6.out hs7 (fun g hg e => by have := (OwnL.lt HO6.out g hg).1; have := HGRL.out; omega)) (show gr + 1 ≤ w4.heap.size from HGRL.out))
          have HV7 := hide (OwnL.sets (OwnL.below (OwnL.below HV0.out HLN.out) HBX.out) hs7 (fun g hg e => by have := (OwnL.lt HV0.out g hg).1; omega))
          have HB7 := hide (Sets.below (below_step (below_step HBW.out HLN.out) HBX.out) hs7 (fun g e => by rw [e, ← HGRW.out]; exact Nat.le_refl _) (below_step (below_step HBW.out HLN.out) HBX.out).size)
          clear hs7
          go_wp2_with fail
          go_roundw
          case rel => exact .inr (.inr ⟨by go_num, _, _, HNEW7.out, HV7.out, HO7.out, HB7.out⟩)
          case measure => (simp [intOf] <;> omega)

      · have HH := hide (show ∃ v0 v1, wr.heap[gr]? = some (.cells [.int .u64 E0.aid, .int .i64 E0.ack, .int .i64 E0.acs, .int .u64 E0.act, .int .i64 E0.acv, .int .i64 E0.ae, .int .u64 E0.av, v0, .int .u64 E1.aid, .int .i64 E1.ack, .int .i64 E1.acs, .int .u64 E1.act, .int .i64 E1.acv, .int .i64 E1.ae, .int .u64 E1.av, v1].toArray 40 (0, 0)) ∧ Ow (gr + 1) wr v0 E0.AL ∧ Ow (gr + 1) wr v1 E1.AL ∧ Below w.heap.size w wr from ⟨v0, v1, hgr, hv0, hv1, hbw⟩)
        clear hgr hv0 hv1 hbw
        go_wp2_with fail
        go_meet
        exact HH.out
  case rest =>
  obtain ⟨v0, v1, hgr, hv0, hv1, hbw⟩ := hcut
  rw [← HAL.out] at hv1
  obtain ⟨A5, c5, rfl, hr5, _, _, _⟩ := OwnL.row It.cells_len hv0
  obtain ⟨A6, c6, rfl, hr6, _, _, _⟩ := OwnL.row It.cells_len hv1
  have lgr := (Array.getElem?_eq_some_iff.1 hgr).1
  have d5 : wc.cell? ⟨gr, 5, none⟩ = some (.int .i64 0) := by rw [← HD0.out.2]; exact (cell_of_list (o := 5) hgr).trans rfl
  have d7 : wc.cell? ⟨gr, 7, none⟩ = some (.slice A5 E0.AL.length c5) := (cell_of_list (o := 7) hgr).trans rfl
  have d13 : wc.cell? ⟨gr, 13, none⟩ = some (.int .i64 0) := by rw [← HD1.out.2]; exact (cell_of_list (o := 13) hgr).trans rfl
  have d15 : wc.cell? ⟨gr, 15, none⟩ = some (.slice A6 E0.AL.length c6) := (cell_of_list (o := 15) hgr).trans rfl
  have hal := HLE.out
  generalize E0.AL = T at *
  have HR5 := hide hr5
  have HR6 := hide hr6
  have HBW := hide hbw
  have HDD : Hid (∀ W, Below wc.heap.size wc W → W.cell? ⟨gr, 7, none⟩ = some (.slice A5 T.length c5) ∧ W.cell? ⟨gr, 15, none⟩ = some (.slice A6 T.length c6) ∧ gr < W.heap.size) := hide (fun W hW => ⟨keep_cell hW d7 lgr, keep_cell hW d15 lgr, Nat.lt_of_lt_of_le lgr hW.size⟩)
  clear hgr hv0 hv1 hr5 hr6 hbw
  go_upto_block 2 with fail
  clear d5 d7 d13 d15 lgr
  go_cut [] (fun W => Below w.heap.size w W)
  case first =>
    go_wp2_with fail
    go_loopw [16] (fun i wr => ∃ k : Nat, i = .int .i64 k ∧ k ≤ T.length ∧ Below wc.heap.size wc wr) (fun i _ => T.length - (intOf i).toNat)
    case atStart => exact ⟨0, rfl, by omega, Below.refl _ _⟩
    case round =>
      obtain ⟨k, rfl, hk, hb⟩ := hrel
      obtain ⟨d7, d15, lgr⟩ := HDD.out _ hb
      by_cases hlt : k < T.length
      · have hkI : (k : Int) < (T.length : Int) := by omega
        have hk0 : (0 : Int) ≤ (k : Int) := by omega
        obtain ⟨bl, off, rfl, hbb, z0, z1, z2, z3, z4⟩ := ItemsAt.item HR5.out hb hlt
        obtain ⟨bl2, off2, rfl, hbb2, v0, v1, v2, v3, v4⟩ := ItemsAt.item HR6.out hb hlt
        have lb1 : bl < wr.heap.size := Nat.lt_of_lt_of_le hbb hb.size
        have lb2 : bl2 < wr.heap.size := Nat.lt_of_lt_of_le hbb2 hb.size
        generalize T[k] = z at *
        have hq := run_neq_item z z
        rw [show eqI z z = true by simp [eqI]] at hq
        go_wp2_with fail
        go_quiet (fail)
        go_wp2_with fail
        go_roundw
        case rel => exact ⟨k + 1, by go_num, by omega, below_drewN hb _⟩
        case measure => (simp [intOf] <;> omega)
      · obtain rfl : k = T.length := by omega
        have hkI : ¬ (T.length : Int) < (T.length : Int) := by omega
        go_wp2_with fail
        go_meet
        exact below_step HBW.out hb
  case rest =>
    have HB2 := hide hcut
    clear hcut
    go_wp2_with fail
    refine (Calls.mono (cawake_any _) ?_); rintro e w7 ⟨rfl, hb7⟩
    have HB7 := hide (below_step HB2.out hb7)
    clear hb7
    go_wp2_with fail
    go_ret
    exact ⟨rfl, HB7.out⟩
end Go.Proofs.Ytlabpgdimhbocaa.coordTurns
