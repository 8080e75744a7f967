/- The walk of clepsydralaw24.CoordPlays: it returns true. Conditions: the arguments are readable. -/
import Derived.Test.YtlabpgdimhbocaaGreatCpM
namespace Go.Proofs.YtlabpgdimhbocaaGreat.coordPlays
set_option linter.unusedVariables false
set_option linter.unusedSimpArgs false
open Go.ChangeShapes Go.WideShapes Go.ChangeAt Go.RowKit
set_option maxRecDepth 100000 in
set_option maxHeartbeats 6400000 in
theorem bad {w : World} (n a id k s t x v : Int) (hnb : -9223372036854775808 ≤ n ∧ n ≤ 9223372036854775807) (A5 : Option Addr) (c5 : Nat) (L5 : List Mg) (tk : Int) (hgood : ¬ (1 ≤ n ∧ n ≤ 7 ∧ 0 ≤ a ∧ a < n ∧ 1 ≤ id ∧ id ≤ 1099511627776 ∧ clientB k s t x = true ∧ v ≤ 281474976710656 ∧ (v == 0) = (k == 3))) :
    Calls Tryz.prog 3 #[.int .i64 n, .int .i64 a, .int .u64 id, client4 k s t x, .int .u64 v, .slice A5 L5.length c5, .int .u64 tk] w fun e w' => e = .returned (.bool true) ∧ Below w.heap.size w w' := by
  have HB0 := hide (below_alloc (Below.refl w.heap.size w) (.cells #[.int .i64 k, .int .i64 s, .int .u64 t, .int .i64 x] 24))
  have hz0 := heap_alloc_new w (.cells #[.int .i64 k, .int .i64 s, .int .u64 t, .int .i64 x] 24)
  obtain ⟨wb, hwb⟩ : ∃ wb, w.alloc (.cells #[.int .i64 k, .int .i64 s, .int .u64 t, .int .i64 x] 24) = wb := ⟨_, rfl⟩
  rw [hwb] at HB0 hz0
  obtain ⟨gq, hgq⟩ : ∃ gq, w.heap.size = gq := ⟨_, rfl⟩
  rw [hgq] at hz0
  have HZ0 := hide hz0
  have HGQ := hide hgq
  have HWW := hide hwb
  have HCK := hide (fun W => rclok_any k s t x W)
  clear hz0 hwb hgq
  have HNB := hide (fun W => cnew_no n a id k s t x v W (by
    cases h : newB n a id k s t x v with
    | false => rfl
    | true =>
      exfalso
      apply hgood
      unfold newB nodesB at h
      simp only [Bool.and_eq_true, decide_eq_true_eq, beq_iff_eq] at h
      obtain ⟨⟨⟨⟨h1, h2, h3, h4, h5, h6⟩, hc⟩, hv⟩, hk⟩ := h
      exact ⟨h1, h2, h3, h4, h5, h6, hc, hv, hk⟩))
  obtain ⟨nd, hnd⟩ : ∃ nd, n.tdiv 2 + 1 = nd := ⟨_, rfl⟩
  have HND := hide (fun W => cneed_raw n W hnb)
  have HRN := hide (fun W => rneed_raw n W hnb)
  rw [hnd] at HND HRN
  have hnn : (nd == nd) = true := by simp
  clear hnb hnd
  go_enter Tryz.func3, Tryz.ntmps3
  go_upto_region 1 with fail
  try rw [HWW.out]
  try rw [HGQ.out]
  have lgq := (Array.getElem?_eq_some_iff.1 HZ0.out).1
  have q0 : wb.cell? ⟨gq, 0, none⟩ = some (.int .i64 k) := (cell_of_row _ _ 0 _ _ _ HZ0.out).trans rfl
  have q1 : wb.cell? ⟨gq, 1, none⟩ = some (.int .i64 s) := (cell_of_row _ _ 1 _ _ _ HZ0.out).trans rfl
  have q2 : wb.cell? ⟨gq, 2, none⟩ = some (.int .u64 t) := (cell_of_row _ _ 2 _ _ _ HZ0.out).trans rfl
  have q3 : wb.cell? ⟨gq, 3, none⟩ = some (.int .i64 x) := (cell_of_row _ _ 3 _ _ _ HZ0.out).trans rfl
  go_wp2_with fail
  refine (Calls.mono (HNB.out _) ?_); rintro e w1 ⟨rfl, hb1⟩
  have q0 := keep_cell hb1 q0 lgq
  have q1 := keep_cell hb1 q1 lgq
  have q2 := keep_cell hb1 q2 lgq
  have q3 := keep_cell hb1 q3 lgq
  have lgq := Nat.lt_of_lt_of_le lgq (Below.size hb1)
  have HLOW := hide (below_step HB0.out hb1)
  clear hb1 HNB
  go_upto_region 2 with fail
  go_cut [17] (fun v W => v = .bool false ∧ Below w1.heap.size w1 W)
  case first =>
    clear hnn
    by_cases g0 : 1 ≤ n
    · by_cases g1 : n ≤ 7
      · by_cases g2 : 0 ≤ a
        · by_cases g3 : a < n
          · by_cases g4 : 1 ≤ id
            · by_cases g5 : id ≤ 1099511627776
              · cases hcl : clientB k s t x with
                | false =>
                  rw [hcl] at HCK
                  clear hgood hcl
                  go_wp2_with fail
                  refine (Calls.mono (HCK.out _) ?_); rintro e w2 ⟨rfl, hb2⟩
                  have HB2 := hide hb2
                  have q0 := keep_cell hb2 q0 lgq
                  clear hb2
                  go_wp2_with fail
                  go_meet
                  exact ⟨rfl, HB2.out⟩
                | true =>
                  rw [hcl] at HCK
                  by_cases gv : v ≤ 281474976710656
                  · have hqq : ¬ ((v == 0) = (k == 3)) := fun e => hgood ⟨g0, g1, g2, g3, g4, g5, hcl, gv, e⟩
                    clear hgood hcl
                    cases hv0 : (v == 0) with
                    | true =>
                      cases hk3 : (k == 3) with
                      | true => exact absurd (hv0.trans hk3.symm) hqq
                      | false =>
                        clear hqq
                        go_wp2_with fail
                        refine (Calls.mono (HCK.out _) ?_); rintro e w2 ⟨rfl, hb2⟩
                        have HB2 := hide hb2
                        have q0 := keep_cell hb2 q0 lgq
                        clear hb2
                        go_wp2_with fail
                        go_meet
                        exact ⟨rfl, HB2.out⟩
                    | false =>
                      cases hk3 : (k == 3) with
                      | false => exact absurd (hv0.trans hk3.symm) hqq
                      | true =>
                        clear hqq
                        go_wp2_with fail
                        refine (Calls.mono (HCK.out _) ?_); rintro e w2 ⟨rfl, hb2⟩
                        have HB2 := hide hb2
                        have q0 := keep_cell hb2 q0 lgq
                        clear hb2
                        go_wp2_with fail
                        go_meet
                        exact ⟨rfl, HB2.out⟩
                  · clear hgood hcl
                    go_wp2_with fail
                    refine (Calls.mono (HCK.out _) ?_); rintro e w2 ⟨rfl, hb2⟩
                    have HB2 := hide hb2
                    have q0 := keep_cell hb2 q0 lgq
                    clear hb2
                    go_wp2_with fail
                    go_meet
                    exact ⟨rfl, HB2.out⟩
              · clear hgood
                go_wp2_with fail
                go_meet
                exact ⟨rfl, Below.refl _ _⟩
            · clear hgood
              go_wp2_with fail
              go_meet
              exact ⟨rfl, Below.refl _ _⟩
          · clear hgood
            go_wp2_with fail
            go_meet
            exact ⟨rfl, Below.refl _ _⟩
        · clear hgood
          go_wp2_with fail
          go_meet
          exact ⟨rfl, Below.refl _ _⟩
      · clear hgood
        go_wp2_with fail
        go_meet
        exact ⟨rfl, Below.refl _ _⟩
    · clear hgood
      go_wp2_with fail
      go_meet
      exact ⟨rfl, Below.refl _ _⟩
  case rest =>
    obtain ⟨rfl, hb⟩ := hcut
    have HLOW := hide (below_step HLOW.out hb)
    clear hgood hb q0 q1 q2 q3 lgq
    go_wp2_with fail
    refine (Calls.mono (HND.out _) ?_); rintro e wn ⟨rfl, hbn⟩
    have HLN := hide (below_step HLOW.out hbn)
    clear hbn
    go_wp2_with fail
    refine (Calls.mono (HRN.out _) ?_); rintro e wo ⟨rfl, hbo⟩
    have HLO := hide (below_step HLN.out hbo)
    clear hbo
    go_wp2_with fail
    refine (Calls.mono (cawake_any _) ?_); rintro e w9 ⟨rfl, hb9⟩
    have HB9 := hide (below_step HLO.out hb9)
    clear hb9
    go_wp2_with fail
    go_ret
    exact ⟨rfl, HB9.out⟩
set_option maxRecDepth 100000 in
set_option maxHeartbeats 6400000 in
theorem walk {w : World} (n : Int) (w0 : (Lit.int .i64 n).wf = true) (a : Int) (w1 : (Lit.int .i64 a).wf = true) (id : Int) (w2 : (Lit.int .u64 id).wf = true) (q : Cl) (w3 : q.wf) (v : Int) (w4 : (Lit.int .u64 v).wf = true)
    (A5 : Option Addr) (c5 : Nat) (L5 : List Mg) (lc5 : L5.length ≤ c5) (cm5 : c5 ≤ maxLen) (r5 : RowAt Mg.cells 6 w A5 L5) (w5 : ∀ m ∈ L5, m.good w) (tk : Int) (w6 : (Lit.int .u64 tk).wf = true) :
    Calls Tryz.prog 3 #[.int .i64 n, .int .i64 a, .int .u64 id, q.val, .int .u64 v, .slice A5 L5.length c5, .int .u64 tk] w fun e w' => e = .returned (.bool true) ∧ Below w.heap.size w w' := by
  obtain ⟨k, s, t, x⟩ := q
  have R5 := hide r5
  have W5 := hide w5
  have b6 := bounds_u64 w6
  have bv := bounds_u64 w4
  have bn : -9223372036854775808 ≤ n ∧ n ≤ 9223372036854775807 := bounds_i64 w0
  have bt : 0 ≤ t := w3.1
  clear r5 w5 w0 w1 w2 w3 w4 w6 lc5 cm5
  by_cases hgood : 1 ≤ n ∧ n ≤ 7 ∧ 0 ≤ a ∧ a < n ∧ 1 ≤ id ∧ id ≤ 1099511627776 ∧ clientB k s t x = true ∧ v ≤ 281474976710656 ∧ (v == 0) = (k == 3)
  case neg => exact bad n a id k s t x v bn A5 c5 L5 tk hgood
  obtain ⟨g0, g1, g2, g3, g4, g5, g6, g7, g8⟩ := hgood
  obtain ⟨nn, rfl⟩ : ∃ nn : Nat, n = (nn : Int) := ⟨n.toNat, by omega⟩
  have hnn : 1 ≤ nn ∧ nn ≤ 7 := by omega
  have HNN := hide hnn
  have HNG := hide (fun W => cnew_co (nn : Int) a id k s t x v W (by
    unfold newB nodesB
    rw [g6, decide_eq_true ⟨g0, g1, g2, g3, g4, g5⟩, decide_eq_true g7, g8]
    simp))
  have HPL := hide (pl_zero (nn := nn) (a := a) (id := id) g6 g7 bv.1 bt g8)
  have HCS : Hid (0 ≤ s ∧ s ≤ 255) := hide (by
    unfold clientB at g6
    have := of_decide_eq_true g6
    exact ⟨this.1, this.2.1⟩)
  have HND := hide (fun W => cneed_any (nn : Int) W (by omega) (by omega))
  have HRN := hide (fun W => rneed_any (nn : Int) W (by omega) (by omega))
  obtain ⟨nd, hnd⟩ : ∃ nd : Int, (nn : Int) / 2 + 1 = nd := ⟨_, rfl⟩
  rw [hnd] at HND HRN
  obtain ⟨B, hvB⟩ : ∃ B, (v == 0) = B := ⟨_, rfl⟩
  have hkB : (k == 3) = B := g8.symm.trans hvB
  have HVB := hide hvB
  have HKB := hide hkB
  have HB0 := hide (below_alloc (Below.refl w.heap.size w) (.cells #[.int .i64 k, .int .i64 s, .int .u64 t, .int .i64 x] 24))
  have hz0 := heap_alloc_new w (.cells #[.int .i64 k, .int .i64 s, .int .u64 t, .int .i64 x] 24)
  obtain ⟨wb, hwb⟩ : ∃ wb, w.alloc (.cells #[.int .i64 k, .int .i64 s, .int .u64 t, .int .i64 x] 24) = wb := ⟨_, rfl⟩
  rw [hwb] at HB0 hz0
  obtain ⟨gq, hgq⟩ : ∃ gq, w.heap.size = gq := ⟨_, rfl⟩
  rw [hgq] at hz0
  have HZ0 := hide hz0
  have HGQ := hide hgq
  have HWW := hide hwb
  have HCK := hide (fun W => rclok_any k s t x W)
  clear hz0 hwb hgq
  rw [g6] at HCK
  clear hnd bn g6 g8 hvB hkB bt bv
  go_enter Tryz.func3, Tryz.ntmps3
  go_upto_region 1 with fail
  try rw [HWW.out]
  try rw [HGQ.out]
  have lgq := (Array.getElem?_eq_some_iff.1 HZ0.out).1
  have q0 : wb.cell? ⟨gq, 0, none⟩ = some (.int .i64 k) := (cell_of_row _ _ 0 _ _ _ HZ0.out).trans rfl
  have q1 : wb.cell? ⟨gq, 1, none⟩ = some (.int .i64 s) := (cell_of_row _ _ 1 _ _ _ HZ0.out).trans rfl
  have q2 : wb.cell? ⟨gq, 2, none⟩ = some (.int .u64 t) := (cell_of_row _ _ 2 _ _ _ HZ0.out).trans rfl
  have q3 : wb.cell? ⟨gq, 3, none⟩ = some (.int .i64 x) := (cell_of_row _ _ 3 _ _ _ HZ0.out).trans rfl
  go_wp2_with fail
  refine (Calls.mono (HNG.out _) ?_); rintro e w1 ⟨b, rfl, hR⟩
  have HBX := hide (show b < w1.heap.size from hR.lt)
  have HR := hide (hR.from HB0.out)
  have hb1 := hR.low
  have q0 := keep_cell hb1 q0 lgq
  have q1 := keep_cell hb1 q1 lgq
  have q2 := keep_cell hb1 q2 lgq
  have q3 := keep_cell hb1 q3 lgq
  have lgq := Nat.lt_of_lt_of_le lgq (Below.size hb1)
  clear hR HNG hb1
  go_upto_region 2 with fail
  go_cut [17] (fun v W => v = .bool true ∧ Below w1.heap.size w1 W)
  case first =>
    have hvB := HVB.out
    have hkB := HKB.out
    go_wp2_with fail
    refine (Calls.mono (HCK.out _) ?_); rintro e w2 ⟨rfl, hb2⟩
    have HB2 := hide hb2
    have q0 := keep_cell hb2 q0 lgq
    clear hb2
    cases B with
    | true =>
      go_wp2_with fail
      go_meet
      exact ⟨rfl, HB2.out⟩
    | false =>
      go_wp2_with fail
      go_meet
      exact ⟨rfl, HB2.out⟩
  case rest =>
  obtain ⟨rfl, hb⟩ := hcut
  have HR1 := hide (HR.out.below hb)
  have HBX1 := hide (Nat.lt_of_lt_of_le HBX.out hb.size)
  have q0 := keep_cell hb q0 lgq
  have q1 := keep_cell hb q1 lgq
  have q2 := keep_cell hb q2 lgq
  have q3 := keep_cell hb q3 lgq
  have lgq := Nat.lt_of_lt_of_le lgq (Below.size hb)
  clear hb HR HBX HCK g0 g1 g2 g3 g4 g5 g7
  go_wp2_with fail
  have HNC := hide (newcall_any nn a id k s t x v false w wc HR1.out.low hnn.2)
  refine (Calls.mono HNC.out ?_); rintro e w2 ⟨p, cb, rfl, hC, hb2⟩
  have HC2 : Hid (CallD w w2 (fun g => wc.heap.size ≤ g ∧ g < w2.heap.size) p cb (cs0 nn a id k s t x v false)) := hide hC
  have HR2 := hide (HR1.out.below hb2)
  have HDJ : Hid (∀ g, g = b → ¬ (wc.heap.size ≤ g ∧ g < w2.heap.size)) := hide (fun g e h => by have := HBX1.out; omega)
  clear hC hb2 HNC HR1 q0 q1 q2 q3 lgq
  go_wp2_with fail
  refine (Calls.mono (csends_any HR2.out (show 1 ≤ (nn : Int) ∧ (nn : Int) ≤ 7 by omega) HCS.out) ?_); rintro e w3 ⟨v3, N3, rfl, hm3, hN3, hb3⟩
  obtain ⟨A3, cc3, rfl, hrow3, _, _, _⟩ := OwnL.row Mg.cells_len hm3.own
  have HM3 := hide hm3
  have HN3 : Hid (N3.map Mg.bare = csendTo (co0 nn a id k s t x v) (nn : Int).toNat) := hide hN3
  have HW3 := hide hrow3
  have HC3 := hide (HC2.out.below hb3)
  have HR3 := hide (HR2.out.below hb3)
  clear hm3 hN3 hrow3 hb3 HR2 HC2
  go_wp2_with fail
  refine (Calls.mono (rdsends_go HC3.out rfl rfl hnn.2 HCS.out (fun _ => rfl)) ?_); rintro e w4 ⟨v4, N4, rfl, hm4, hN4, hb4⟩
  obtain ⟨A4, cc4, rfl, hrow4, _, _, _⟩ := OwnL.row Mg.cells_len hm4.own
  have hN4 : N4.map Mg.bare = toD (cs0 nn a id k s t x v false) nn := hN4
  have hts : toD (cs0 nn a id k s t x v false) nn = csendTo (co0 nn a id k s t x v) (nn : Int).toNat := to_same HPL.out.same HPL.out.good
  have HR4 := hide (HR3.out.below hb4)
  have HC4 := hide (HC3.out.below hb4)
  have hbd := cto_bd (co0 nn a id k s t x v) (nn : Int).toNat
  have HSM := hide (samems_eq A3 A4 cc3 cc4 N3 N4 w4 (HW3.out.below hb4) hrow4 (fun y hy => (HM3.out.rd y hy).below hb4) hm4.rd (HN3.out.trans (hN4.trans hts).symm) (by have h1 := bare_len HN3.out; omega) (fun y hy => Nat.le_trans (bare_items HN3.out hbd.2 y hy) (by omega)))
  clear hm4 hN4 hb4 hrow4 hts hbd HR3 HC3 HM3 HN3 HW3
  go_wp2_with fail
  refine (Calls.mono HSM.out ?_); rintro e w5 ⟨rfl, hb5⟩
  have HR5 := hide (HR4.out.below hb5)
  have HC5 := hide (HC4.out.below hb5)
  clear hb5 HSM HR4 HC4
  go_wp2_with fail
  go_loopw [19] (fun iv wr => ∃ (i : Nat) (R : Co) (K : Cs) (X D : Nat → Prop), iv = .int .i64 i ∧ i ≤ 60 ∧ i ≤ L5.length ∧ CoO w wr b X R ∧ CallD w wr D p cb K ∧ (∀ g, X g → ¬ D g) ∧ PlI nn i R K) (fun iv _ => 61 - (intOf iv).toNat)
  case atStart => exact ⟨0, _, _, _, _, rfl, by omega, by omega, HR5.out, HC5.out, HDJ.out, HPL.out⟩
  case round =>
    clear HR5 HC5 HPL HDJ HBX1
    obtain ⟨i, R, K, X, D, rfl, hi60, hil, hR, hC, hD, hI⟩ := hrel
    obtain ⟨wi, rfl⟩ : ∃ wi, wi = wr := ⟨_, rfl⟩
    have HR := hide hR
    have HC := hide hC
    have HI := hide hI
    have HDJ := hide hD
    have HLOW := hide hR.low
    clear hR hC hI hD
    by_cases hgo : i < L5.length ∧ i < 60
    · obtain ⟨hgo1, hgo2⟩ := hgo
      have hgI1 : (i : Int) < (L5.length : Int) := by omega
      have hgI2 : (i : Int) < 60 := by omega
      have hi0 : (0 : Int) ≤ (i : Int) := by omega
      obtain ⟨ga, oa, rfl, hga, y0, y1, y2, y3, y4, y5⟩ := mg_row R5.out HLOW.out hgo1
      have hgood := W5.out _ (List.getElem_mem hgo1)
      have hrd := hgood.rd
      generalize (L5[i]'hgo1) = z at *
      obtain ⟨mk, mf, mt, mi, mv, mA, mc, mL⟩ := z
      simp only at y0 y1 y2 y3 y4 y5
      have HRD := hide hrd
      obtain ⟨ml, hml⟩ : ∃ ml, mL.length = ml := ⟨_, rfl⟩
      have HML := hide hml
      rw [hml] at y5
      clear hgood hrd hml
      by_cases h40 : 40 < ml
      · have h40I : (40 : Int) < (ml : Int) := by omega
        go_wp2_with fail
        refine (Calls.mono (cawake_any _) ?_); rintro e w9 ⟨rfl, hb9⟩
        have HB9 := hide (below_step HLOW.out hb9)
        clear hb9
        go_wp2_with fail
        go_ret
        exact ⟨rfl, HB9.out⟩
      · have h40I : ¬ (40 : Int) < (ml : Int) := by omega
        have hga2 : ga < wi.heap.size := Nat.lt_of_lt_of_le hga HLOW.out.size
        go_upto_region 16 with fail
        obtain ⟨wm, hwm⟩ : ∃ wm, wi.alloc (.cells #[.int .i64 mk, .int .i64 mf, .int .i64 mt, .int .u64 mi, .int .u64 mv, .slice mA ml mc] 39) = wm := ⟨_, rfl⟩
        have hbm : Below wi.heap.size wi wm := by rw [← hwm]; exact below_alloc (Below.refl _ _) _
        have hzm : wm.heap[wi.heap.size]? = some (.cells #[.int .i64 mk, .int .i64 mf, .int .i64 mt, .int .u64 mi, .int .u64 mv, .slice mA ml mc] 39 (0, 0)) := by rw [← hwm]; exact heap_alloc_new wi _
        rw [hwm]
        obtain ⟨g, hg⟩ : ∃ g, wi.heap.size = g := ⟨_, rfl⟩
        rw [hg] at hzm ⊢
        have HG := hide hg
        have HGE := hide (Nat.le_of_eq hg)
        have HBM := hide hbm
        have HZM := hide hzm
        clear hwm hbm hzm hg y0 y1 y2 y3 y4 y5
        obtain ⟨q3, hq3⟩ : ∃ q3, bits .and .u64 mi 3 = q3 := ⟨_, rfl⟩
        obtain ⟨z0, z1, z2, z3, z4, z5⟩ := six_cells HZM.out
        have hgl : g < wm.heap.size := (Array.getElem?_eq_some_iff.1 HZM.out).1
        go_upto_if 138 with fail
        go_cut [] (fun W => ∃ mt' mi' : Int, W.heap[g]? = some (.cells #[.int .i64 mk, .int .i64 mf, .int .i64 mt', .int .u64 mi', .int .u64 mv, .slice mA ml mc] 39 (0, 0)) ∧ Below wi.heap.size wi W)
        case first =>
          by_cases h0 : q3 = 0
          · have h0I : (q3 == 0) = true := beq_iff_eq.2 h0
            have h0J : (q3 != 0) = false := by simp [h0]
            clear h0
            go_wp2_with fail
            go_meet
            exact ⟨mt, mi, HZM.out, HBM.out⟩
          · have h0I : (q3 == 0) = false := beq_eq_false_iff_ne.2 h0
            have h0J : (q3 != 0) = true := bne_iff_ne.2 h0
            have hf2 : wm.frozen? ⟨g, 2, none⟩ = false := by simp [World.frozen?, HZM.out]
            have hf3 : wm.frozen? ⟨g, 3, none⟩ = false := by simp [World.frozen?, HZM.out]
            have hs : Sets (fun c => c = g) wm ((wm.setCell ⟨g, 3, none⟩ (.int .u64 id)).setCell ⟨g, 2, none⟩ (.int .i64 a)) := ((Sets.refl (S := fun c => c = g) wm).set (g := g) (fun _ => rfl) 3 _).set (g := g) (fun _ => rfl) 2 _
            have HBS := hide (Sets.below HBM.out hs (fun c hc => by rw [hc]; exact HGE.out) HBM.out.size)
            have HZS : Hid (((wm.setCell ⟨g, 3, none⟩ (.int .u64 id)).setCell ⟨g, 2, none⟩ (.int .i64 a)).heap[g]? = some (.cells #[.int .i64 mk, .int .i64 mf, .int .i64 a, .int .u64 id, .int .u64 mv, .slice mA ml mc] 39 (0, 0))) := hide (set_of_list (o := 2) (set_of_list (o := 3) (l := [.int .i64 mk, .int .i64 mf, .int .i64 mt, .int .u64 mi, .int .u64 mv, .slice mA ml mc]) HZM.out (.int .u64 id)) (.int .i64 a))
            clear hs
            go_wp2_with fail
            go_meet
            exact ⟨a, id, HZS.out, HBS.out⟩
        case rest =>
          obtain ⟨mt', mi', hz, hb⟩ := hcut
          clear HZM HBM z0 z1 z2 z3 z4 z5 hgl
          have HZM := hide hz
          have HRm := hide (HR.out.below hb)
          have HCm := hide (HC.out.below hb)
          have HRDm : Hid ((⟨mk, mf, mt', mi', mv, mA, mc, mL⟩ : Mg).rd w) := hide ⟨HRD.out.1, HRD.out.2⟩
          have HGX : Hid (¬ X g ∧ ¬ D g) := hide ⟨fun e => by have := (HR.out.xs g e).2; have := HG.out; omega, fun e => by have := (HC.out.ds g e).2; have := HG.out; omega⟩
          clear hz hb HR HC hq3
          obtain ⟨hpl, hcB⟩ := on_pl HI.out (m := ⟨mk, mf, mt', mi', mv, mA, mc, mL⟩) (by show mL.length ≤ 40; rw [HML.out]; omega)
          have hlim := HI.out.lim (by omega)
          have HOK := HI.out.k hnn (by omega)
          have hgl0 := got_pl HI.out (m := ⟨mk, mf, mt', mi', mv, mA, mc, mL⟩) (by show mL.length ≤ 40; rw [HML.out]; omega) (by omega)
          have HON := hide (rd_any HCm.out ⟨mk, mf, mt', mi', mv, mA, mc, mL⟩ HRDm.out HI.out.same.rd (by rw [hlim.1]; exact hnn.2) (fun _ => by show mL.length ≤ _; rw [HML.out]; omega) hlim.2.1 hlim.2.2.1)
          obtain ⟨B2, hB2⟩ : ∃ B2, conB R ⟨mk, mf, mt', mi', mv, mA, mc, mL⟩ = B2 := ⟨_, rfl⟩
          rw [hcB, hB2] at HON
          obtain ⟨R2, hR2⟩ : ∃ R2, conR R ⟨mk, mf, mt', mi', mv, mA, mc, mL⟩ = R2 := ⟨_, rfl⟩
          obtain ⟨K2, hK2⟩ : ∃ K2, conK K ⟨mk, mf, mt', mi', mv, mA, mc, mL⟩ = K2 := ⟨_, rfl⟩
          have HRON := hide (fun (W : World) (h : CoO w W b X R) => con_x h HOK ⟨mk, mf, mt', mi', mv, mA, mc, mL⟩ HRDm.out hR2 hB2 (fun _ _ _ => citems_any hgl0.1 hgl0.2))
          rw [hK2] at HON
          rw [hR2, hK2] at hpl
          have HI2 := hide hpl
          have hBB : (B2 != B2) = false := by simp
          obtain ⟨z0, z1, z2, z3, z4, z5⟩ := six_cells HZM.out
          have hgl : g < wc.heap.size := (Array.getElem?_eq_some_iff.1 HZM.out).1
          clear hpl hcB hlim HOK hgl0 hB2 hR2 hK2
          go_wp2_with fail
          rw [← HML.out]
          refine (Calls.mono HON.out ?_); rintro e w7 ⟨rfl, hC7, hS7⟩
          have hz7 := (hS7.block g hgl (fun e => e.elim (fun e => HGX.out.2 (by rw [e]; exact HCm.out.dp)) (fun e => HGX.out.2 (by rw [e]; exact HCm.out.dc)))).trans HZM.out
          have HC7 := hide hC7
          have HR7 := hide (HRm.out.sets hS7 (fun c hc e => e.elim (fun e => HDJ.out c hc (by rw [e]; exact HCm.out.dp)) (fun e => HDJ.out c hc (by rw [e]; exact HCm.out.dc))) hC7.low)
          have HDJ7 : Hid (∀ c, X c → ¬ Xn D wc w7 c) := hide (fun c hc e => e.elim (fun e => HDJ.out c hc e) (fun e => by have := (HRm.out.xs c hc).2; omega))
          have HGX7 := hide HGX.out.1
          clear hC7 hS7 HON HRm HCm HZM HDJ HGX z0 z1 z2 z3 z4 z5 hgl
          obtain ⟨z0, z1, z2, z3, z4, z5⟩ := six_cells hz7
          have hgl : g < w7.heap.size := (Array.getElem?_eq_some_iff.1 hz7).1
          clear hz7
          obtain ⟨D7, hD7⟩ : ∃ D7, Xn D wc w7 = D7 := ⟨_, rfl⟩
          rw [hD7] at HC7 HDJ7
          clear hD7
          go_wp2_with fail
          rw [← HML.out]
          refine (Calls.mono (HRON.out _ HR7.out) ?_); rintro e w8 ⟨rfl, hR8, hS8⟩
          have HR8 := hide hR8
          have HC8 := hide (HC7.out.sets hS8 (fun c hc e => HDJ7.out c e hc) hR8.low)
          have HDJ8 : Hid (∀ c, Xn X w7 w8 c → ¬ D7 c) := hide (fun c hc e => hc.elim (fun h => HDJ7.out c h e) (fun h => by have := (HC7.out.ds c e).2; omega))
          obtain ⟨X8, hX8⟩ : ∃ X8, Xn X w7 w8 = X8 := ⟨_, rfl⟩
          rw [hX8] at HR8 HDJ8
          clear hR8 hS8 hX8 z0 z1 z2 z3 z4 z5 hgl HR7 HC7 HDJ7 HGX7 HRON
          have h63 : bits .and .i64 (i : Int) 63 = (i : Int) := by rw [and_mask_i64 (i : Int) 6 63 (by omega) (by decide)]; omega
          have hi64 : (i : Int) ≤ 64 := by omega
          obtain ⟨qb, hqb⟩ : ∃ qb, bits .and .u64 (tk / 2 ^ i) 1 = qb := ⟨_, rfl⟩
          go_upto_region 21 with fail
          go_cut [167] (fun v W => v = .bool false ∧ ∃ (R3 : Co) (K3 : Cs) (X3 D3 : Nat → Prop), CoO w W b X3 R3 ∧ CallD w W D3 p cb K3 ∧ (∀ c, X3 c → ¬ D3 c) ∧ PlI nn (i + 1) R3 K3)
          case first =>
            by_cases hq : qb = 1
            · have hqI : (qb == 1) = true := beq_iff_eq.2 hq
              clear hq
              obtain ⟨I3, e2⟩ := tick_pl HI2.out
              have HI3 := hide I3
              have HBD := hide (tickM_bd HI2.out hnn.2)
              have hok := HI2.out.k hnn (by omega)
              have hlim := HI2.out.lim (by omega)
              have HTK := hide (ctick_any HR8.out hok.n hok.cs hok.tk hok.d)
              have HRCT := hide (fun (W : World) (D : Nat → Prop) (h : CallD w W D p cb K2) => rdtick_any h HI2.out.same.rd (by rw [hlim.1]; exact hnn.2) hlim.2.2.2.1 hlim.2.2.2.2 (Nat.le_trans hlim.2.1 (by omega)) hlim.2.2.1)
              rw [e2] at HRCT
              obtain ⟨R3, hR3⟩ : ∃ R3, ctickR R2 = R3 := ⟨_, rfl⟩
              obtain ⟨K3, hK3⟩ : ∃ K3, tickD K2 = K3 := ⟨_, rfl⟩
              obtain ⟨M3, hM3⟩ : ∃ M3, ctickM R2 = M3 := ⟨_, rfl⟩
              rw [hR3, hM3] at HTK
              rw [hK3, hM3] at HRCT
              rw [hR3, hK3] at HI3
              rw [hM3] at HBD
              clear e2 I3 hR3 hK3 hM3 hok hlim
              go_wp2_with fail
              refine (Calls.mono HTK.out ?_); rintro e w9 ⟨v9, N9, rfl, hR9, hms9, hN9, hS9⟩
              have HC9 := hide (HC8.out.sets hS9 (fun c hc e => HDJ8.out c (by rw [e]; exact HR8.out.xb) hc) hR9.low)
              have HDJ9 : Hid (∀ c, Xn X8 w8 w9 c → ¬ D7 c) := hide (fun c hc e => hc.elim (fun h => HDJ8.out c h e) (fun h => by have := (HC8.out.ds c e).2; omega))
              have HR9 := hide hR9
              have HMS9 := hide hms9
              have HN9 := hide hN9
              obtain ⟨A9, c9, rfl, hrow9, hge9, _, _⟩ := OwnL.row Mg.cells_len hms9.own
              have HROW9 := hide hrow9
              have HGE9 : Hid (∀ ad, A9 = some ad → ad.block ≠ p) := hide (fun ad had e => by
                have h1 := (hge9 ad.block ad.off ad.spot (by rw [had])).1
                have h2 := HC8.out.lt.1
                omega)
              obtain ⟨X9, hX9⟩ : ∃ X9, Xn X8 w8 w9 = X9 := ⟨_, rfl⟩
              rw [hX9] at HR9 HDJ9
              clear hR9 hms9 hN9 hS9 hrow9 hge9 HTK hX9 HR8 HC8 HDJ8
              go_wp2_with fail
              refine (Calls.mono (HRCT.out _ _ HC9.out) ?_); rintro e w10 ⟨v10, N10, rfl, hms10, hN10, hC10, hS10⟩
              obtain ⟨A10, c10, rfl, hrow10, _, _, _⟩ := OwnL.row Mg.cells_len hms10.own
              have HR10 := hide (HR9.out.sets hS10 (fun c hc e => HDJ9.out c hc (by rw [e]; exact HC9.out.dp)) hC10.low)
              have HDJ10 : Hid (∀ c, X9 c → ¬ Xn D7 w9 w10 c) := hide (fun c hc e => e.elim (fun e => HDJ9.out c hc e) (fun e => by have := (HR9.out.xs c hc).2; omega))
              have HC10 := hide hC10
              have HSM := hide (samems_eq A9 A10 c9 c10 N9 N10 w10 (row_sets HROW9.out hS10 (fun a ha => HGE9.out a ha)) hrow10 (fun y hy => rd_call HC9.out (HMS9.out.rd y hy) hS10) hms10.rd (HN9.out.trans hN10.symm) (by have h1 := bare_len HN9.out; have h2 := HBD.out.1; omega) (fun y hy => Nat.le_trans (bare_items HN9.out HBD.out.2 y hy) (by omega)))
              clear hms10 hN10 hC10 hS10 hrow10 HMS9 HN9 HROW9 HGE9 HR9 HC9 HRCT HBD HDJ9
              go_wp2_with fail
              refine (Calls.mono HSM.out ?_); rintro e w11 ⟨rfl, hb11⟩
              have HR11 := hide (HR10.out.below hb11)
              have HC11 := hide (HC10.out.below hb11)
              clear hb11 HSM HR10 HC10
              go_wp2_with fail
              go_meet
              exact ⟨rfl, R3, K3, _, _, HR11.out, HC11.out, HDJ10.out, HI3.out⟩
            · have hqI : (qb == 1) = false := beq_eq_false_iff_ne.2 hq
              clear hq
              go_wp2_with fail
              go_meet
              exact ⟨rfl, R2, K2, X8, D7, HR8.out, HC8.out, HDJ8.out, HI2.out⟩
          case rest =>
            obtain ⟨rfl, R3, K3, X3, D3, hR, hC, hD, hI⟩ := hcut
            have HR := hide hR
            have HC := hide hC
            have HI := hide hI
            have HDJ := hide hD
            clear hR hC hI hD h63 hi64 hqb HR8 HC8 HDJ8 HI2 hBB
            have HDO := hide (cdone_any HR.out (by have := HI.out.AL; omega))
            go_wp2_with (go_at_call 17; refine (Calls.mono HDO.out ?_); rintro e wd ⟨vd, rfl, hod, hbd⟩; obtain ⟨Ad, cd, rfl, hrowd, _, hcd, hcmd⟩ := OwnL.row It.cells_len hod; have HROWD := hide hrowd; have HRd := hide (HR.out.below hbd); have HCd := hide (HC.out.below hbd); clear hod hbd hrowd HDO HR HC; go_upto_region 24 with fail)
            obtain ⟨dn, hdn⟩ : ∃ dn, R3.dn = dn := ⟨_, rfl⟩
            have hdd : (dn != dn) = false := by simp
            obtain ⟨l3, hl3⟩ : ∃ l3, R3.AL.length = l3 := ⟨_, rfl⟩
            obtain ⟨wa, hwa, hba, hza⟩ := ans_al wd (.int .u64 R3.aid) (.int .i64 R3.ack) (.int .i64 R3.acs) (.int .u64 R3.act) (.int .i64 R3.acv) (.int .i64 R3.ae) (.int .u64 R3.av) (.slice Ad R3.AL.length cd)
            rw [hwa, hdn]
            rw [hl3] at hza
            obtain ⟨g9, hg9⟩ : ∃ g9, wd.heap.size = g9 := ⟨_, rfl⟩
            rw [hg9] at hza ⊢
            obtain ⟨ud, hud⟩ : ∃ ud, wa.drew = ud := ⟨_, rfl⟩
            have hbu : Below wd.heap.size wd ud := by rw [← hud]; exact hba.drew
            have hzu : ud.heap[g9]? = some (.cells [.int .u64 R3.aid, .int .i64 R3.ack, .int .i64 R3.acs, .int .u64 R3.act, .int .i64 R3.acv, .int .i64 R3.ae, .int .u64 R3.av, .slice Ad l3 cd].toArray 44 (0, 0)) := by rw [← hud]; exact hza
            have HRu := hide (HRd.out.below hbu)
            have HCu := hide (HCd.out.below hbu)
            have HZU := hide hzu
            have hs := HI.out.same
            have HAA : Hid (∀ W : World, Below ud.heap.size ud W → W.cell? ⟨g9, 0, none⟩ = some (.int .u64 R3.aid) ∧ W.cell? ⟨g9, 1, none⟩ = some (.int .i64 R3.ack) ∧ W.cell? ⟨g9, 2, none⟩ = some (.int .i64 R3.acs) ∧ W.cell? ⟨g9, 3, none⟩ = some (.int .u64 R3.act) ∧ W.cell? ⟨g9, 4, none⟩ = some (.int .i64 R3.acv) ∧ W.cell? ⟨g9, 5, none⟩ = some (.int .i64 R3.ae) ∧ W.cell? ⟨g9, 6, none⟩ = some (.int .u64 R3.av) ∧ W.cell? ⟨g9, 7, none⟩ = some (.slice Ad l3 cd)) := hide (fun W hW => ans_at HZU.out hW)
            have HPA : Hid (∀ W : World, Below ud.heap.size ud W → W.cell? ⟨p, 14, none⟩ = some (.bool dn) ∧ W.cell? ⟨p, 15, none⟩ = some (.int .u64 R3.aid) ∧ W.cell? ⟨p, 16, none⟩ = some (.int .i64 R3.ack) ∧ W.cell? ⟨p, 17, none⟩ = some (.int .i64 R3.acs) ∧ W.cell? ⟨p, 18, none⟩ = some (.int .u64 R3.act) ∧ W.cell? ⟨p, 19, none⟩ = some (.int .i64 R3.acv) ∧ W.cell? ⟨p, 20, none⟩ = some (.int .i64 R3.ae) ∧ W.cell? ⟨p, 21, none⟩ = some (.int .u64 R3.av)) := hide (fun W hW => by
              obtain ⟨_, _, va, hbb, _⟩ := HCu.out.row
              have hk := (hW.block p HCu.out.lt.1).trans hbb
              rw [← hdn, ← hs.dn, ← hs.aid, ← hs.ack, ← hs.acs, ← hs.act, ← hs.acv, ← hs.ae, ← hs.av]
              exact ⟨(cell_of_list (o := 14) hk).trans rfl, (cell_of_list (o := 15) hk).trans rfl, (cell_of_list (o := 16) hk).trans rfl, (cell_of_list (o := 17) hk).trans rfl, (cell_of_list (o := 18) hk).trans rfl, (cell_of_list (o := 19) hk).trans rfl, (cell_of_list (o := 20) hk).trans rfl, (cell_of_list (o := 21) hk).trans rfl⟩)
            obtain ⟨av9, cv9, hrv, hpv⟩ : ∃ (av : Option Addr) (cv : Nat), ItemsAt ud av R3.AL ∧ ∀ W : World, Below ud.heap.size ud W → W.cell? ⟨p, 22, none⟩ = some (.slice av l3 cv) := by
              obtain ⟨_, _, va, hbb, _, _, ⟨⟨av, cv, e, hr, _, _⟩, _⟩⟩ := HCu.out.row
              refine ⟨av, cv, by rw [← hs.AL]; exact hr, fun W hW => ?_⟩
              have hk := (hW.block p HCu.out.lt.1).trans hbb
              rw [cell_of_list (o := 22) hk]
              show some va = _
              rw [e, hs.AL, hl3]
            have HPV := hide hpv
            have HSA := hide (samea_eq R3.aid R3.ack R3.acs R3.act R3.acv R3.ae R3.av Ad av9 cd cv9 R3.AL ud (HROWD.out.below hbu) hrv (by have := HI.out.AL; omega))
            rw [hl3] at HSA
            clear hpv hrv hs hwa hba hza hg9 hbu hzu HRd HCd hl3 hdn HROWD
            refine j_startD [] hud (by kernel_rfl) ?_
            clear hud
            refine' j_take (i := 0) (v := _) [] ?hi0 (by kernel_rfl) (by kernel_rfl) (by kernel_rfl) (by kernel_rfl) (by kernel_rfl) (Or.inl ⟨?hw0, ?hy0⟩) ?rest0
            case hi0 => (simp only [List.getElem?_toArray, List.getElem?_cons_succ, List.getElem?_cons_zero]; rfl)
            case hw0 => rfl
            case hy0 => (intro w' hw'; go_simp; try with_reducible rfl)
            try simp only [Act.put, List.setIfInBounds_toArray, List.set_cons_zero, List.set_cons_succ]
            refine' j_take (i := 1) (v := _) [] ?hi1 (by kernel_rfl) (by kernel_rfl) (by kernel_rfl) (by kernel_rfl) (by kernel_rfl) (Or.inl ⟨?hw1, ?hy1⟩) ?rest1
            case hi1 => (simp only [List.getElem?_toArray, List.getElem?_cons_succ, List.getElem?_cons_zero]; rfl)
            case hw1 => rfl
            case hy1 => (intro w' hw'; go_simp; try with_reducible rfl)
            try simp only [Act.put, List.setIfInBounds_toArray, List.set_cons_zero, List.set_cons_succ]
            refine' j_take (i := 2) (v := _) [] ?hi2 (by kernel_rfl) (by kernel_rfl) (by kernel_rfl) (by kernel_rfl) (by kernel_rfl) (Or.inl ⟨?hw2, ?hy2⟩) ?rest2
            case hi2 => (simp only [List.getElem?_toArray, List.getElem?_cons_succ, List.getElem?_cons_zero]; rfl)
            case hw2 => rfl
            case hy2 => (intro w' hw'; go_simp; try with_reducible rfl)
            try simp only [Act.put, List.setIfInBounds_toArray, List.set_cons_zero, List.set_cons_succ]
            refine' j_take (i := 3) (v := _) [] ?hi3 (by kernel_rfl) (by kernel_rfl) (by kernel_rfl) (by kernel_rfl) (by kernel_rfl) (Or.inl ⟨?hw3, ?hy3⟩) ?rest3
            case hi3 => (simp only [List.getElem?_toArray, List.getElem?_cons_succ, List.getElem?_cons_zero]; rfl)
            case hw3 => rfl
            case hy3 => (intro w' hw'; go_simp; try with_reducible rfl)
            try simp only [Act.put, List.setIfInBounds_toArray, List.set_cons_zero, List.set_cons_succ]
            refine' j_take (i := 4) (v := _) [] ?hi4 (by kernel_rfl) (by kernel_rfl) (by kernel_rfl) (by kernel_rfl) (by kernel_rfl) (Or.inl ⟨?hw4, ?hy4⟩) ?rest4
            case hi4 => (simp only [List.getElem?_toArray, List.getElem?_cons_succ, List.getElem?_cons_zero]; rfl)
            case hw4 => rfl
            case hy4 => (intro w' hw'; have q14 := (HPA.out _ hw').1; go_simp; try with_reducible rfl)
            try simp only [Act.put, List.setIfInBounds_toArray, List.set_cons_zero, List.set_cons_succ]
            refine' j_take (i := 5) (v := _) [] ?hi5 (by kernel_rfl) (by kernel_rfl) (by kernel_rfl) (by kernel_rfl) (by kernel_rfl) (Or.inl ⟨?hw5, ?hy5⟩) ?rest5
            case hi5 => (simp only [List.getElem?_toArray, List.getElem?_cons_succ, List.getElem?_cons_zero]; rfl)
            case hw5 => rfl
            case hy5 => (intro w' hw'; go_simp; try with_reducible rfl)
            try simp only [Act.put, List.setIfInBounds_toArray, List.set_cons_zero, List.set_cons_succ]
            refine' j_take (i := 6) (v := _) [] ?hi6 (by kernel_rfl) (by kernel_rfl) (by kernel_rfl) (by kernel_rfl) (by kernel_rfl) (Or.inl ⟨?hw6, ?hy6⟩) ?rest6
            case hi6 => (simp only [List.getElem?_toArray, List.getElem?_cons_succ, List.getElem?_cons_zero]; rfl)
            case hw6 => rfl
            case hy6 => (intro w' hw'; go_simp; try with_reducible rfl)
            try simp only [Act.put, List.setIfInBounds_toArray, List.set_cons_zero, List.set_cons_succ]
            refine' j_take (i := 7) (v := _) [] ?hi7 (by kernel_rfl) (by kernel_rfl) (by kernel_rfl) (by kernel_rfl) (by kernel_rfl) (Or.inl ⟨?hw7, ?hy7⟩) ?rest7
            case hi7 => (simp only [List.getElem?_toArray, List.getElem?_cons_succ, List.getElem?_cons_zero]; rfl)
            case hw7 => rfl
            case hy7 => (intro w' hw'; obtain ⟨q0, q1, q2, q3, q4, q5, q6, q7⟩ := HAA.out _ hw'; go_simp; try with_reducible rfl)
            try simp only [Act.put, List.setIfInBounds_toArray, List.set_cons_zero, List.set_cons_succ]
            refine' j_take (i := 8) (v := _) [] ?hi8 (by kernel_rfl) (by kernel_rfl) (by kernel_rfl) (by kernel_rfl) (by kernel_rfl) (Or.inl ⟨?hw8, ?hy8⟩) ?rest8
            case hi8 => (simp only [List.getElem?_toArray, List.getElem?_cons_succ, List.getElem?_cons_zero]; rfl)
            case hw8 => rfl
            case hy8 => (intro w' hw'; go_simp; try with_reducible rfl)
            try simp only [Act.put, List.setIfInBounds_toArray, List.set_cons_zero, List.set_cons_succ]
            refine' j_take (i := 9) (v := _) [] ?hi9 (by kernel_rfl) (by kernel_rfl) (by kernel_rfl) (by kernel_rfl) (by kernel_rfl) (Or.inl ⟨?hw9, ?hy9⟩) ?rest9
            case hi9 => (simp only [List.getElem?_toArray, List.getElem?_cons_succ, List.getElem?_cons_zero]; rfl)
            case hw9 => rfl
            case hy9 => (intro w' hw'; go_simp; try with_reducible rfl)
            try simp only [Act.put, List.setIfInBounds_toArray, List.set_cons_zero, List.set_cons_succ]
            refine' j_take (i := 10) (v := _) [] ?hi10 (by kernel_rfl) (by kernel_rfl) (by kernel_rfl) (by kernel_rfl) (by kernel_rfl) (Or.inl ⟨?hw10, ?hy10⟩) ?rest10
            case hi10 => (simp only [List.getElem?_toArray, List.getElem?_cons_succ, List.getElem?_cons_zero]; rfl)
            case hw10 => rfl
            case hy10 => (intro w' hw'; go_simp; try with_reducible rfl)
            try simp only [Act.put, List.setIfInBounds_toArray, List.set_cons_zero, List.set_cons_succ]
            refine' j_take (i := 11) (v := _) [] ?hi11 (by kernel_rfl) (by kernel_rfl) (by kernel_rfl) (by kernel_rfl) (by kernel_rfl) (Or.inl ⟨?hw11, ?hy11⟩) ?rest11
            case hi11 => (simp only [List.getElem?_toArray, List.getElem?_cons_succ, List.getElem?_cons_zero]; rfl)
            case hw11 => rfl
            case hy11 => (intro w' hw'; obtain ⟨q14, q15, q16, q17, q18, q19, q20, q21⟩ := HPA.out _ hw'; have q22 := HPV.out _ hw'; go_simp; try with_reducible rfl)
            try simp only [Act.put, List.setIfInBounds_toArray, List.set_cons_zero, List.set_cons_succ]
            refine' wpAnyJ_step (i := 12) (o := _) (by kernel_rfl) ?ho12 (fun K hK => ?step12)
            case ho12 => (simp only [List.getElem?_toArray, List.getElem?_cons_succ, List.getElem?_cons_zero]; rfl)
            go_simp
            refine (Calls.mono (HSA.out) ?_); rintro e u1 ⟨rfl, gg⟩
            have HB7 := hide gg
            refine hK.out _ _ gg (j_switch gg ?_)
            clear hK K gg
            try simp only [Act.put, List.setIfInBounds_toArray, List.set_cons_zero, List.set_cons_succ]
            refine' j_take (i := 13) (v := _) [] ?hi13 (by kernel_rfl) (by kernel_rfl) (by kernel_rfl) (by kernel_rfl) (by kernel_rfl) (Or.inl ⟨?hw13, ?hy13⟩) ?rest13
            case hi13 => (simp only [List.getElem?_toArray, List.getElem?_cons_succ, List.getElem?_cons_zero]; rfl)
            case hw13 => rfl
            case hy13 => (intro w' hw'; go_simp; try with_reducible rfl)
            try simp only [Act.put, List.setIfInBounds_toArray, List.set_cons_zero, List.set_cons_succ]
            refine' j_take (i := 14) (v := _) [] ?hi14 (by kernel_rfl) (by kernel_rfl) (by kernel_rfl) (by kernel_rfl) (by kernel_rfl) (Or.inl ⟨?hw14, ?hy14⟩) ?rest14
            case hi14 => (simp only [List.getElem?_toArray, List.getElem?_cons_succ, List.getElem?_cons_zero]; rfl)
            case hw14 => rfl
            case hy14 => (intro w' hw'; go_simp; try with_reducible rfl)
            try simp only [Act.put, List.setIfInBounds_toArray, List.set_cons_zero, List.set_cons_succ]
            refine wpAnyJ_done (by kernel_rfl) ?_ _
            refine NoPanic.normal ?_
            clear HAA HPA HPV HSA
            go_wp2_with fail
            go_roundw
            case rel => exact ⟨i + 1, R3, K3, X3, D3, by go_num, by omega, by omega, HRu.out.below HB7.out, HCu.out.below HB7.out, HDJ.out, HI.out⟩
            case measure => (simp [intOf] <;> omega)
    · have hend : ¬ ((i : Int) < (L5.length : Int)) ∨ ((i : Int) < (L5.length : Int) ∧ ¬ (i : Int) < 60) := by omega
      have hndd : (nd == nd) = true := by simp
      clear hgo
      rcases hend with e1 | ⟨e1, e2⟩
      · go_wp2_with fail
        refine (Calls.mono (HND.out _) ?_); rintro e wn ⟨rfl, hbn⟩
        have HLN := hide (below_step HLOW.out hbn)
        clear hbn
        go_wp2_with fail
        refine (Calls.mono (HRN.out _) ?_); rintro e wo ⟨rfl, hbo⟩
        have HLO := hide (below_step HLN.out hbo)
        clear hbo
        go_wp2_with fail
        refine (Calls.mono (cawake_any _) ?_); rintro e w9 ⟨rfl, hb9⟩
        have HB9 := hide (below_step HLO.out hb9)
        clear hb9
        go_wp2_with fail
        go_ret
        exact ⟨rfl, HB9.out⟩
      · go_wp2_with fail
        refine (Calls.mono (HND.out _) ?_); rintro e wn ⟨rfl, hbn⟩
        have HLN := hide (below_step HLOW.out hbn)
        clear hbn
        go_wp2_with fail
        refine (Calls.mono (HRN.out _) ?_); rintro e wo ⟨rfl, hbo⟩
        have HLO := hide (below_step HLN.out hbo)
        clear hbo
        go_wp2_with fail
        refine (Calls.mono (cawake_any _) ?_); rintro e w9 ⟨rfl, hb9⟩
        have HB9 := hide (below_step HLO.out hb9)
        clear hb9
        go_wp2_with fail
        go_ret
        exact ⟨rfl, HB9.out⟩
end Go.Proofs.YtlabpgdimhbocaaGreat.coordPlays
