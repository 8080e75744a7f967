/- The walk of clepsydralaw25.RoundPlays: it returns true. Conditions: the arguments are readable. -/
import Derived.Test.YtikecafblampeaaRcM
namespace Go.Proofs.Ytikecafblampeaa.roundPlays
set_option linter.unusedVariables false
set_option linter.unusedSimpArgs false
open Go.ChangeShapes Go.WideShapes Go.ChangeAt Go.RowKit
set_option maxRecDepth 100000 in
set_option maxHeartbeats 6400000 in
theorem bad {w : World} (n a id f : Int) (A4 : Option Addr) (c4 : Nat) (L4 : List Mg) (tk : Int) (hgood : ¬ (1 ≤ n ∧ n ≤ 7 ∧ 0 ≤ a ∧ a < n ∧ 1 ≤ id ∧ id ≤ 1099511627776 ∧ 1 ≤ f ∧ f ≤ 281474976710656)) :
    Calls Try.prog 6 #[.int .i64 n, .int .i64 a, .int .u64 id, .int .u64 f, .slice A4 L4.length c4, .int .u64 tk] w fun e w' => e = .returned (.bool true) ∧ Below w.heap.size w w' := by
  have HNB := hide (fun W => rnew_bad n a id f W (by
    by_cases h : nodesB n a id = true
    · unfold nodesB at h
      have h := of_decide_eq_true h
      right
      omega
    · exact .inl (by simpa using h)))
  go_enter Try.func6, Try.ntmps6
  go_wp2_with fail
  refine (Calls.mono (HNB.out _) ?_); rintro e w1 ⟨rfl, hb1⟩
  have HLOW := hide hb1
  clear hb1 HNB
  go_upto_region 2 with fail
  go_cut [15] (fun v W => v = .bool false ∧ w1 = W)
  case first =>
    by_cases g0 : 1 ≤ n
    · by_cases g1 : n ≤ 7
      · by_cases g2 : 0 ≤ a
        · by_cases g3 : a < n
          · by_cases g4 : 1 ≤ id
            · by_cases g5 : id ≤ 1099511627776
              · by_cases g6 : 1 ≤ f
                · by_cases g7 : f ≤ 281474976710656
                  · exact absurd ⟨g0, g1, g2, g3, g4, g5, g6, g7⟩ hgood
                  · clear hgood
                    go_wp2_with fail
                    go_meet
                    exact ⟨rfl, rfl⟩
                · clear hgood
                  go_wp2_with fail
                  go_meet
                  exact ⟨rfl, rfl⟩
              · clear hgood
                go_wp2_with fail
                go_meet
                exact ⟨rfl, rfl⟩
            · clear hgood
              go_wp2_with fail
              go_meet
              exact ⟨rfl, rfl⟩
          · clear hgood
            go_wp2_with fail
            go_meet
            exact ⟨rfl, rfl⟩
        · clear hgood
          go_wp2_with fail
          go_meet
          exact ⟨rfl, rfl⟩
      · clear hgood
        go_wp2_with fail
        go_meet
        exact ⟨rfl, rfl⟩
    · clear hgood
      go_wp2_with fail
      go_meet
      exact ⟨rfl, rfl⟩
  case rest =>
    obtain ⟨rfl, rfl⟩ := hcut
    clear hgood
    go_wp2_with fail
    refine (Calls.mono (awake25_any _) ?_); rintro e w9 ⟨rfl, hb9⟩
    have HB9 := hide (below_step HLOW.out hb9)
    clear hb9
    go_wp2_with fail
    go_ret
    exact ⟨rfl, HB9.out⟩
set_option maxRecDepth 100000 in
set_option maxHeartbeats 6400000 in
theorem walk {w : World} (n : Int) (w0 : (Lit.int .i64 n).wf = true) (a : Int) (w1 : (Lit.int .i64 a).wf = true) (id : Int) (w2 : (Lit.int .u64 id).wf = true) (f : Int) (w3 : (Lit.int .u64 f).wf = true)
    (A4 : Option Addr) (c4 : Nat) (L4 : List Mg) (lc4 : L4.length ≤ c4) (cm4 : c4 ≤ maxLen) (r4 : RowAt Mg.cells 6 w A4 L4) (w4 : ∀ m ∈ L4, m.good w) (tk : Int) (w5 : (Lit.int .u64 tk).wf = true) :
    Calls Try.prog 6 #[.int .i64 n, .int .i64 a, .int .u64 id, .int .u64 f, .slice A4 L4.length c4, .int .u64 tk] w fun e w' => e = .returned (.bool true) ∧ Below w.heap.size w w' := by
  have R4 := hide r4
  have W4 := hide w4
  have b5 := bounds_u64 w5
  clear r4 w4 w0 w1 w2 w3 w5 lc4 cm4
  by_cases hgood : 1 ≤ n ∧ n ≤ 7 ∧ 0 ≤ a ∧ a < n ∧ 1 ≤ id ∧ id ≤ 1099511627776 ∧ 1 ≤ f ∧ f ≤ 281474976710656
  · obtain ⟨g0, g1, g2, g3, g4, g5, g6, g7⟩ := hgood
    obtain ⟨nn, rfl⟩ : ∃ nn : Nat, n = (nn : Int) := ⟨n.toNat, by omega⟩
    have hnn : 1 ≤ nn ∧ nn ≤ 7 := by omega
    have HNN := hide hnn
    have HNG := hide (fun W => rnew_good (nn : Int) a id f W (by unfold nodesB; exact decide_eq_true (by omega)) g6 g7)
    go_enter Try.func6, Try.ntmps6
    go_wp2_with fail
    refine (Calls.mono (HNG.out _) ?_); rintro e w1 ⟨b, rfl, hR⟩
    have HR := hide hR
    clear hR HNG
    go_wp2_with fail
    have HNC := hide (newcall_any nn a id 0 0 0 0 f true w w1 HR.out.low hnn.2)
    refine (Calls.mono HNC.out ?_); rintro e w2 ⟨p, cb, rfl, hC, hb2⟩
    have HC : Hid (CallO w w2 w1.heap.size p cb (kR nn (rs0 nn a id f) 1)) := hide hC
    have HR2 := hide (HR.out.below hb2)
    have HBB : Hid (b < w1.heap.size) := hide HR.out.lt
    obtain ⟨base, hbase⟩ : ∃ base, w1.heap.size = base := ⟨_, rfl⟩
    rw [hbase] at HC HBB
    have HI := hide (inv_zero hnn a id f)
    clear hC hb2 HNC HR hbase g0 g1 g2 g3 g4 g5 g6 g7
    go_wp2_with fail
    go_loopw [17] (fun iv wr => ∃ (i : Nat) (R : Rs) (rp : Int) (cb : Nat), iv = .int .i64 i ∧ i ≤ 60 ∧ i ≤ L4.length ∧ RndO w wr b R ∧ CallO w wr base p cb (kR nn R rp) ∧ Inv nn R rp ∧ R.L.length ≤ 40 * i) (fun iv _ => 61 - (intOf iv).toNat)
    case atStart => exact ⟨0, _, 1, cb, rfl, by omega, by omega, HR2.out, HC.out, HI.out, by simp [rs0]⟩
    case round =>
      clear HR2 HC HI
      obtain ⟨i, R, rp, cb, rfl, hi60, hil, hR, hC, hI, hLen⟩ := hrel
      obtain ⟨wi, rfl⟩ : ∃ wi, wi = wr := ⟨_, rfl⟩
      have HR := hide hR
      have HC := hide hC
      have HI := hide hI
      have HLOW := hide hR.low
      clear hR hC hI
      by_cases hgo : i < L4.length ∧ i < 60
      · obtain ⟨hgo1, hgo2⟩ := hgo
        have hgI1 : (i : Int) < (L4.length : Int) := by omega
        have hgI2 : (i : Int) < 60 := by omega
        have hi0 : (0 : Int) ≤ (i : Int) := by omega
        obtain ⟨ga, oa, rfl, hga, y0, y1, y2, y3, y4, y5⟩ := mg_row R4.out HLOW.out hgo1
        have hgood := W4.out _ (List.getElem_mem hgo1)
        have hrd := hgood.rd
        generalize (L4[i]'hgo1) = x at *
        obtain ⟨mk, mf, mt, mi, mv, mA, mc, mL⟩ := x
        simp only at y0 y1 y2 y3 y4 y5
        have HRD := hide hrd
        obtain ⟨ml, hml⟩ : ∃ ml, mL.length = ml := ⟨_, rfl⟩
        have HML := hide hml
        rw [hml] at y5
        clear hgood hrd hml
        by_cases h40 : 40 < ml
        · have h40I : (40 : Int) < (ml : Int) := by omega
          go_wp2_with fail
          refine (Calls.mono (awake25_any _) ?_); rintro e w9 ⟨rfl, hb9⟩
          have HB9 := hide (below_step HLOW.out hb9)
          clear hb9
          go_wp2_with fail
          go_ret
          exact ⟨rfl, HB9.out⟩
        · have h40I : ¬ (40 : Int) < (ml : Int) := by omega
          have hga2 : ga < wi.heap.size := Nat.lt_of_lt_of_le hga HLOW.out.size
          go_upto_region 14 with fail
          obtain ⟨wm, hwm⟩ : ∃ wm, wi.alloc (.cells #[.int .i64 mk, .int .i64 mf, .int .i64 mt, .int .u64 mi, .int .u64 mv, .slice mA ml mc] 30) = wm := ⟨_, rfl⟩
          have hbm : Below wi.heap.size wi wm := by rw [← hwm]; exact below_alloc (Below.refl _ _) _
          have hzm : wm.heap[wi.heap.size]? = some (.cells #[.int .i64 mk, .int .i64 mf, .int .i64 mt, .int .u64 mi, .int .u64 mv, .slice mA ml mc] 30 (0, 0)) := by rw [← hwm]; exact heap_alloc_new wi _
          rw [hwm]
          obtain ⟨g, hg⟩ : ∃ g, wi.heap.size = g := ⟨_, rfl⟩
          rw [hg] at hzm ⊢
          have HG := hide hg
          have HGE := hide (Nat.le_of_eq hg)
          have HBM := hide hbm
          have HZM := hide hzm
          clear hwm hbm hzm hg y0 y1 y2 y3 y4 y5
          obtain ⟨q3, hq3⟩ : ∃ q3, bits .and .u64 mi 3 = q3 := ⟨_, rfl⟩
          go_upto_region 14 with fail
          obtain ⟨z0, z1, z2, z3, z4, z5⟩ := six_cells HZM.out
          go_upto_if 115 with fail
          go_cut [] (fun W => ∃ mt' mi' : Int, W.heap[g]? = some (.cells #[.int .i64 mk, .int .i64 mf, .int .i64 mt', .int .u64 mi', .int .u64 mv, .slice mA ml mc] 30 (0, 0)) ∧ Below wi.heap.size wi W)
          case first =>
            by_cases h0 : q3 = 0
            · have h0I : (q3 == 0) = true := beq_iff_eq.2 h0
              have h0J : (q3 != 0) = false := by simp [h0]
              clear h0
              go_wp2_with fail
              go_meet
              exact ⟨mt, mi, HZM.out, HBM.out⟩
            · have h0I : (q3 == 0) = false := beq_eq_false_iff_ne.2 h0
              have h0J : (q3 != 0) = true := bne_iff_ne.2 h0
              have hf2 : wm.frozen? ⟨g, 2, none⟩ = false := by simp [World.frozen?, HZM.out]
              have hf3 : wm.frozen? ⟨g, 3, none⟩ = false := by simp [World.frozen?, HZM.out]
              have hs : Sets (fun c => c = g) wm ((wm.setCell ⟨g, 3, none⟩ (.int .u64 id)).setCell ⟨g, 2, none⟩ (.int .i64 a)) := ((Sets.refl (S := fun c => c = g) wm).set (g := g) (fun _ => rfl) 3 _).set (g := g) (fun _ => rfl) 2 _
              have HBS := hide (Sets.below HBM.out hs (fun c hc => by rw [hc]; exact HGE.out) HBM.out.size)
              have HZS : Hid (((wm.setCell ⟨g, 3, none⟩ (.int .u64 id)).setCell ⟨g, 2, none⟩ (.int .i64 a)).heap[g]? = some (.cells #[.int .i64 mk, .int .i64 mf, .int .i64 a, .int .u64 id, .int .u64 mv, .slice mA ml mc] 30 (0, 0))) := hide (set_of_list (o := 2) (set_of_list (o := 3) (l := [.int .i64 mk, .int .i64 mf, .int .i64 mt, .int .u64 mi, .int .u64 mv, .slice mA ml mc]) HZM.out (.int .u64 id)) (.int .i64 a))
              clear hs
              go_wp2_with fail
              go_meet
              exact ⟨a, id, HZS.out, HBS.out⟩
          case rest =>
            obtain ⟨mt', mi', hz, hb⟩ := hcut
            clear HZM HBM z0 z1 z2 z3 z4 z5
            have HZM := hide hz
            have HBM := hide hb
            clear hz hb hq3
            obtain ⟨z0, z1, z2, z3, z4, z5⟩ := six_cells HZM.out
            obtain ⟨q1, hq1⟩ : ∃ q1, bits .and .u64 mv 1 = q1 := ⟨_, rfl⟩
            go_upto_region 16 with fail
            go_cut [128] (fun v W => (∃ B : Bool, v = .bool B) ∧ wc = W)
            case first =>
              by_cases h1 : q1 = 1
              · have h1I : (q1 == 1) = true := beq_iff_eq.2 h1
                by_cases h3 : mk = 3
                · have h3J : (mk != 3) = false := by simp [h3]
                  have h3I : (mk == 3) = true := beq_iff_eq.2 h3
                  clear h1 h3
                  go_wp2_with fail
                  go_meet
                  exact ⟨⟨_, rfl⟩, rfl⟩
                · have h3J : (mk != 3) = true := bne_iff_ne.2 h3
                  have h3I : (mk == 3) = false := beq_eq_false_iff_ne.2 h3
                  clear h1 h3
                  go_wp2_with fail
                  go_meet
                  exact ⟨⟨_, rfl⟩, rfl⟩
              · have h1I : (q1 == 1) = false := beq_eq_false_iff_ne.2 h1
                clear h1
                go_wp2_with fail
                go_meet
                exact ⟨⟨_, rfl⟩, rfl⟩
            case rest =>
              obtain ⟨⟨B, rfl⟩, rfl⟩ := hcut
              go_upto_if 128 with fail
              go_cut [] (fun W => ∃ mv' : Int, W.heap[g]? = some (.cells #[.int .i64 mk, .int .i64 mf, .int .i64 mt', .int .u64 mi', .int .u64 mv', .slice mA ml mc] 30 (0, 0)) ∧ Below wi.heap.size wi W)
              case first =>
                cases B with
                | false =>
                  go_wp2_with fail
                  go_meet
                  exact ⟨mv, HZM.out, HBM.out⟩
                | true =>
                  have hf4 : wc.frozen? ⟨g, 4, none⟩ = false := by simp [World.frozen?, HZM.out]
                  have hs : Sets (fun c => c = g) wc (wc.setCell ⟨g, 4, none⟩ (.int .u64 f)) := (Sets.refl (S := fun c => c = g) wc).set (g := g) (fun _ => rfl) 4 _
                  have HBS := hide (Sets.below HBM.out hs (fun c hc => by rw [hc]; exact HGE.out) HBM.out.size)
                  have HZS : Hid ((wc.setCell ⟨g, 4, none⟩ (.int .u64 f)).heap[g]? = some (.cells #[.int .i64 mk, .int .i64 mf, .int .i64 mt', .int .u64 mi', .int .u64 f, .slice mA ml mc] 30 (0, 0))) := hide (set_of_list (o := 4) (l := [.int .i64 mk, .int .i64 mf, .int .i64 mt', .int .u64 mi', .int .u64 mv, .slice mA ml mc]) HZM.out (.int .u64 f))
                  clear hs
                  go_wp2_with fail
                  go_meet
                  exact ⟨f, HZS.out, HBS.out⟩
              case rest =>
                obtain ⟨mv', hz, hb⟩ := hcut
                clear HZM HBM z0 z1 z2 z3 z4 z5 hq1
                have HZM := hide hz
                have HBM := hide hb
                have HRm := hide (HR.out.below hb)
                have HCm := hide (HC.out.below hb)
                have HRDm : Hid ((⟨mk, mf, mt', mi', mv', mA, mc, mL⟩ : Mg).rd w) := hide ⟨HRD.out.1, HRD.out.2⟩
                have HGP : Hid (g ≠ p ∧ g ≠ cb ∧ g ≠ b) := hide (by have h1 := HC.out.lt; have h2 := HR.out.lt; have h3 := HG.out; omega)
                clear hz hb HR HC
                obtain ⟨rp2, hI2, hOn⟩ := on_eq HI.out HCm.out ⟨mk, mf, mt', mi', mv', mA, mc, mL⟩ HRDm.out ⟨by omega, by show mL.length ≤ _; rw [HML.out]; omega⟩
                have HON := hide hOn
                have HI2 := hide hI2
                have HRON := hide (fun (W : World) (h : RndO w W b R) => ron_s h (HI.out.k (by omega)) ⟨mk, mf, mt', mi', mv', mA, mc, mL⟩ HRDm.out rfl rfl)
                have hbd := onM_bd (R := R) (by have := HI.out.rn; have := HNN.out; omega) ⟨mk, mf, mt', mi', mv', mA, mc, mL⟩
                have hlq := onR_L R ⟨mk, mf, mt', mi', mv', mA, mc, mL⟩
                have hml2 : (⟨mk, mf, mt', mi', mv', mA, mc, mL⟩ : Mg).L.length = ml := HML.out
                rw [hml2] at hbd hlq
                obtain ⟨R2, hR2⟩ : ∃ R2, onR R ⟨mk, mf, mt', mi', mv', mA, mc, mL⟩ = R2 := ⟨_, rfl⟩
                obtain ⟨M2, hM2⟩ : ∃ M2, onM R ⟨mk, mf, mt', mi', mv', mA, mc, mL⟩ = M2 := ⟨_, rfl⟩
                rw [hR2, hM2] at HON HRON
                rw [hR2] at HI2 hlq
                rw [hM2] at hbd
                have HBD := hide hbd
                have hLen2 : R2.L.length ≤ 40 * (i + 1) := by omega
                obtain ⟨z0, z1, z2, z3, z4, z5⟩ := six_cells HZM.out
                clear hOn hI2 hbd hlq hml2 hR2 hM2
                go_wp2_with fail
                rw [← HML.out]
                refine (Calls.mono HON.out ?_); rintro e w5 ⟨ok, A5, c5, N5, cb2, rfl, hst5, hN5, hC5, hS5⟩
                have hz5 := (hS5.block g (Array.getElem?_eq_some_iff.1 HZM.out).1 (by have := HGP.out; omega)).trans HZM.out
                have HST5 := hide hst5
                have HC5 := hide hC5
                have HN5 := hide hN5
                have HR5 := hide (HRm.out.call HCm.out HBB.out hS5)
                clear z0 z1 z2 z3 z4 z5 hst5 hN5 hC5 hS5 HON HRm HCm HZM HBM
                obtain ⟨z0, z1, z2, z3, z4, z5⟩ := six_cells hz5
                clear hz5
                go_wp2_with fail
                rw [← HML.out]
                refine (Calls.mono (HRON.out _ HR5.out) ?_); rintro e w6 ⟨⟨A6, c6, N6, rfl, hR6, hms6, hN6, hrow6⟩, hS6⟩
                have hst6 := HST5.out w6 (hS6.weak (fun g h => by rw [h]; exact HBB.out))
                have HC6 := hide (HC5.out.sets hS6 (fun g h => by rw [h]; exact HBB.out) hR6.low)
                have HR6 := hide hR6
                have HSM := hide (samems_eq A6 A5 c6 c5 N6 N5 w6 hrow6 hst6.1 hms6.rd hst6.2 (hN6.trans HN5.out.symm) (by have h1 := bare_len hN6; have h2 := HBD.out.1; omega) (fun x hx => Nat.le_trans (bare_items hN6 HBD.out.2 x hx) (by omega)))
                clear z0 z1 z2 z3 z4 z5 hst6 hR6 hms6 hN6 hrow6 hS6 HST5 HC5 HN5 HR5 HRON HBD
                go_wp2_with fail
                refine (Calls.mono HSM.out ?_); rintro e w7 ⟨rfl, hb7⟩
                have HR7 := hide (HR6.out.below hb7)
                have HC7 := hide (HC6.out.below hb7)
                clear hb7 HSM HR6 HC6
                have h63 : bits .and .i64 (i : Int) 63 = (i : Int) := by rw [and_mask_i64 (i : Int) 6 63 (by omega) (by decide)]; omega
                have hi64 : (i : Int) ≤ 64 := by omega
                obtain ⟨qb, hqb⟩ : ∃ qb, bits .and .u64 (tk / 2 ^ i) 1 = qb := ⟨_, rfl⟩
                go_upto_region 21 with fail
                go_cut [156] (fun v W => v = .bool false ∧ ∃ (R3 : Rs) (rp3 : Int), RndO w W b R3 ∧ CallO w W base p cb2 (kR nn R3 rp3) ∧ Inv nn R3 rp3 ∧ R3.L.length ≤ 40 * (i + 1))
                case first =>
                  by_cases hq : qb = 1
                  · have hqI : (qb == 1) = true := beq_iff_eq.2 hq
                    clear hq
                    obtain ⟨rp3, e1, e2, I3⟩ := tick_eq HI2.out
                    have HI3 := hide I3
                    have htl := tickR_L R2
                    have HBD := hide (tickM_bd (R := R2) (by have := HI2.out.rn; have := HNN.out; omega))
                    have HTK := hide (rtick_any HR7.out (by omega) HI2.out.ph (by have := HI2.out.rn; have := HNN.out; omega) (by have := HI2.out.tk; omega))
                    have HRCT := hide (fun (W : World) (h : CallO w W base p cb2 (kR nn R2 rp2)) => rctick_any h rfl hnn.2 (by have := HI2.out.tk; exact ⟨this.1, by show R2.tk ≤ 1000000; omega⟩))
                    rw [e1, e2] at HRCT
                    obtain ⟨R3, hR3⟩ : ∃ R3, tickR R2 = R3 := ⟨_, rfl⟩
                    obtain ⟨M3, hM3⟩ : ∃ M3, tickM R2 = M3 := ⟨_, rfl⟩
                    rw [hR3, hM3] at HTK HRCT
                    rw [hR3] at HI3 htl
                    rw [hM3] at HBD
                    have HTL := hide htl
                    clear e1 e2 I3 htl hR3 hM3
                    go_wp2_with fail
                    refine (Calls.mono HTK.out ?_); rintro e w8 ⟨v8, N8, rfl, hR8, hms8, hN8, hS8⟩
                    have HC8 := hide (HC7.out.sets hS8 (fun g h => by rw [h]; exact HBB.out) hR8.low)
                    have HR8 := hide hR8
                    have HMS8 := hide hms8
                    have HN8 := hide hN8
                    obtain ⟨A8, c8, rfl, hrow8, hge8, _, _⟩ := OwnL.row Mg.cells_len hms8.own
                    have HROW8 := hide hrow8
                    have HGE8 : Hid (∀ ad, A8 = some ad → ad.block ≠ p) := hide (fun ad had e => by
                      have h1 := (hge8 ad.block ad.off ad.spot (by rw [had])).1
                      have h2 := HC7.out.lt.1
                      omega)
                    clear hR8 hms8 hN8 hS8 hrow8 hge8 HTK
                    go_wp2_with fail
                    refine (Calls.mono (HRCT.out _ HC8.out) ?_); rintro e w9 ⟨A9, c9, N9, rfl, hst9, hN9, hC9, hS9⟩
                    have HR9 := hide (HR8.out.call HC8.out HBB.out (hS9.weak (fun g h => .inl h)))
                    have HC9 := hide hC9
                    have HSM := hide (samems_eq A8 A9 c8 c9 N8 N9 w9 (row_sets HROW8.out hS9 (fun a ha => HGE8.out a ha)) hst9.at_.1 (fun x hx => rd_call HC8.out (HMS8.out.rd x hx) hS9) hst9.at_.2 (HN8.out.trans hN9.symm) (by have h1 := bare_len HN8.out; have h2 := HBD.out.1; omega) (fun x hx => Nat.le_trans (bare_items HN8.out HBD.out.2 x hx) (by omega)))
                    clear hst9 hN9 hC9 hS9 HMS8 HN8 HROW8 HGE8 HR8 HC8 HRCT HBD
                    go_wp2_with fail
                    refine (Calls.mono HSM.out ?_); rintro e w10 ⟨rfl, hb10⟩
                    have HR10 := hide (HR9.out.below hb10)
                    have HC10 := hide (HC9.out.below hb10)
                    clear hb10 HSM HR9 HC9
                    go_wp2_with fail
                    go_meet
                    exact ⟨rfl, R3, rp3, HR10.out, HC10.out, HI3.out, by rw [HTL.out]; exact hLen2⟩
                  · have hqI : (qb == 1) = false := beq_eq_false_iff_ne.2 hq
                    clear hq
                    go_wp2_with fail
                    go_meet
                    exact ⟨rfl, R2, rp2, HR7.out, HC7.out, HI2.out, hLen2⟩
                case rest =>
                  obtain ⟨rfl, R3, rp3, hR, hC, hI, hLen3⟩ := hcut
                  have HR := hide hR
                  have HC := hide hC
                  have HI := hide hI
                  clear hR hC hI h63 hi64 hqb HR7 HC7 HI2 hLen2
                  obtain ⟨Ai, ci, hit, hcl⟩ := HC.out.cells
                  have c9 : wc.cell? ⟨p, 9, none⟩ = some (.int .i64 rp3) := (hcl wc (Below.refl _ _)).c9
                  have c14 : wc.cell? ⟨p, 14, none⟩ = some (.bool (R3.ph == 3)) := (hcl wc (Below.refl _ _)).c14
                  clear hit hcl
                  obtain ⟨dn, hdn⟩ : ∃ dn, (R3.ph == 3) = dn := ⟨_, rfl⟩
                  rw [hdn] at c14
                  have HDN := hide hdn
                  clear hdn
                  go_upto_if 164 with fail
                  go_cut [21] (fun v W => v = .int .i64 R3.ph ∧ wc = W)
                  case first =>
                    cases dn with
                    | true =>
                      have h3 : R3.ph = 3 := by have := HDN.out; simpa using this
                      have H3 := hide h3
                      clear h3
                      go_wp2_with fail
                      go_meet
                      exact ⟨by rw [H3.out], rfl⟩
                    | false =>
                      have h3 : R3.ph ≠ 3 := by have := HDN.out; simpa using this
                      have H3 := hide (HI.out.on h3).1
                      clear h3
                      go_wp2_with fail
                      go_meet
                      exact ⟨by rw [H3.out], rfl⟩
                  case rest =>
                    obtain ⟨rfl, rfl⟩ := hcut
                    clear c9 c14
                    have HDO := hide (rdone_any HR.out)
                    rw [HDN.out] at HDO
                    go_wp2_with fail
                    refine (Calls.mono HDO.out ?_); rintro e wd ⟨rfl, hbd⟩
                    have HRd := hide (HR.out.below hbd)
                    have HCd := hide (HC.out.below hbd)
                    clear hbd HDO HR HC
                    go_upto_region 27 with fail
                    obtain ⟨wa, hwa, hba, hza⟩ := ans_al wd (.int .u64 R3.aid) (.int .i64 0) (.int .i64 0) (.int .u64 0) (.int .i64 0) (.int .i64 R3.ae) (.int .u64 R3.av) (.slice none 0 0)
                    rw [hwa]
                    obtain ⟨g9, hg9⟩ : ∃ g9, wd.heap.size = g9 := ⟨_, rfl⟩
                    rw [hg9] at hza ⊢
                    obtain ⟨ud, hud⟩ : ∃ ud, wa.drew = ud := ⟨_, rfl⟩
                    have hbu : Below wd.heap.size wd ud := by rw [← hud]; exact hba.drew
                    have hzu : ud.heap[g9]? = some (.cells [.int .u64 R3.aid, .int .i64 0, .int .i64 0, .int .u64 0, .int .i64 0, .int .i64 R3.ae, .int .u64 R3.av, .slice none 0 0].toArray 47 (0, 0)) := by rw [← hud]; exact hza
                    have HRu := hide (HRd.out.below hbu)
                    have HCu := hide (HCd.out.below hbu)
                    have HLu := hide HRu.out.low
                    have HZU := hide hzu
                    obtain ⟨Ai, ci, hit, hcl⟩ := HCu.out.cells
                    have HIT := hide hit
                    obtain ⟨l3, hl3⟩ : ∃ l3, R3.L.length = l3 := ⟨_, rfl⟩
                    have HL3 := hide hl3
                    have HCC : Hid (∀ W : World, Below ud.heap.size ud W → W.cell? ⟨p, 14, none⟩ = some (.bool dn) ∧ W.cell? ⟨p, 11, none⟩ = some (.slice Ai l3 ci)) := hide (fun W hW => ⟨by rw [← HDN.out]; exact (hcl W hW).c14, by rw [← hl3]; exact (hcl W hW).c11⟩)
                    have HAA : Hid (∀ W : World, Below ud.heap.size ud W → W.cell? ⟨g9, 0, none⟩ = some (.int .u64 R3.aid) ∧ W.cell? ⟨g9, 1, none⟩ = some (.int .i64 0) ∧ W.cell? ⟨g9, 2, none⟩ = some (.int .i64 0) ∧ W.cell? ⟨g9, 3, none⟩ = some (.int .u64 0) ∧ W.cell? ⟨g9, 4, none⟩ = some (.int .i64 0) ∧ W.cell? ⟨g9, 5, none⟩ = some (.int .i64 R3.ae) ∧ W.cell? ⟨g9, 6, none⟩ = some (.int .u64 R3.av) ∧ W.cell? ⟨g9, 7, none⟩ = some (.slice none 0 0)) := hide (fun W hW => ans_at HZU.out hW)
                    have HPA : Hid (∀ W : World, Below ud.heap.size ud W → W.cell? ⟨p, 15, none⟩ = some (.int .u64 R3.aid) ∧ W.cell? ⟨p, 16, none⟩ = some (.int .i64 0) ∧ W.cell? ⟨p, 17, none⟩ = some (.int .i64 0) ∧ W.cell? ⟨p, 18, none⟩ = some (.int .u64 0) ∧ W.cell? ⟨p, 19, none⟩ = some (.int .i64 0) ∧ W.cell? ⟨p, 20, none⟩ = some (.int .i64 R3.ae) ∧ W.cell? ⟨p, 21, none⟩ = some (.int .u64 R3.av)) := hide (fun W hW => by
                      obtain ⟨_, _, va, hbb, _⟩ := HCu.out.row
                      have hk := (hW.block p HCu.out.lt.1).trans hbb
                      exact ⟨(cell_of_list (o := 15) hk).trans rfl, (cell_of_list (o := 16) hk).trans rfl, (cell_of_list (o := 17) hk).trans rfl, (cell_of_list (o := 18) hk).trans rfl, (cell_of_list (o := 19) hk).trans rfl, (cell_of_list (o := 20) hk).trans rfl, (cell_of_list (o := 21) hk).trans rfl⟩)
                    obtain ⟨av9, cv9, hcv9, hpv⟩ : ∃ (av : Option Addr) (cv : Nat), cv ≤ maxLen ∧ ∀ W : World, Below ud.heap.size ud W → W.cell? ⟨p, 22, none⟩ = some (.slice av 0 cv) := by
                      obtain ⟨_, _, va, hbb, _, _, ⟨⟨av, cv, e, _, _, hcv⟩, _⟩⟩ := HCu.out.row
                      refine ⟨av, cv, hcv, fun W hW => ?_⟩
                      have hk := (hW.block p HCu.out.lt.1).trans hbb
                      rw [cell_of_list (o := 22) hk]
                      show some va = _
                      rw [e]
                      rfl
                    have HPV := hide hpv
                    have HSA := hide (fun W => sameans_two R3.aid R3.ae R3.av av9 cv9 hcv9 W)
                    clear hpv hcv9
                    have HPH : Hid (Calls Try.prog 11 #[.pointer (some ⟨b, 0, none⟩)] ud fun e w' => e = .returned (.int .i64 R3.ph) ∧ Below ud.heap.size ud w') := hide (Calls.mono (rphase_any HRu.out) (by rintro e w' ⟨rfl, rfl⟩; exact ⟨rfl, Below.refl _ _⟩))
                    have HKK := hide (HI.out.k (by omega))
                    clear hwa hba hza hg9 hbu hzu hit hcl hl3 HRd HCd
                    refine j_startD [] hud (by kernel_rfl) ?_
                    clear hud
                    refine' j_take (i := 0) (v := _) [] ?hi0 (by kernel_rfl) (by kernel_rfl) (by kernel_rfl) (by kernel_rfl) (by kernel_rfl) (Or.inl ⟨?hw0, ?hy0⟩) ?rest0
                    case hi0 => (simp only [List.getElem?_toArray, List.getElem?_cons_succ, List.getElem?_cons_zero]; rfl)
                    case hw0 => rfl
                    case hy0 => (intro w' hw'; go_simp; try with_reducible rfl)
                    try simp only [Act.put, List.setIfInBounds_toArray, List.set_cons_zero, List.set_cons_succ]
                    refine' j_take (i := 2) (v := _) [] ?hi2 (by kernel_rfl) (by kernel_rfl) (by kernel_rfl) (by kernel_rfl) (by kernel_rfl) (Or.inl ⟨?hw2, ?hy2⟩) ?rest2
                    case hi2 => (simp only [List.getElem?_toArray, List.getElem?_cons_succ, List.getElem?_cons_zero]; rfl)
                    case hw2 => rfl
                    case hy2 => (intro w' hw'; go_simp; try with_reducible rfl)
                    try simp only [Act.put, List.setIfInBounds_toArray, List.set_cons_zero, List.set_cons_succ]
                    refine' wpAnyJ_step (i := 1) (o := _) (by kernel_rfl) ?ho1 (fun K hK => ?step1)
                    case ho1 => (simp only [List.getElem?_toArray, List.getElem?_cons_succ, List.getElem?_cons_zero]; rfl)
                    go_simp
                    refine (Calls.mono (HPH.out) ?_); rintro e u1 ⟨rfl, gg⟩
                    have HB1 := hide gg
                    refine hK.out _ _ gg (j_switch gg ?_)
                    clear hK K gg
                    try simp only [Act.put, List.setIfInBounds_toArray, List.set_cons_zero, List.set_cons_succ]
                    refine' j_take (i := 3) (v := _) [] ?hi3 (by kernel_rfl) (by kernel_rfl) (by kernel_rfl) (by kernel_rfl) (by kernel_rfl) (Or.inl ⟨?hw3, ?hy3⟩) ?rest3
                    case hi3 => (simp only [List.getElem?_toArray, List.getElem?_cons_succ, List.getElem?_cons_zero]; rfl)
                    case hw3 => rfl
                    case hy3 => (intro w' hw'; go_simp; try with_reducible rfl)
                    try simp only [Act.put, List.setIfInBounds_toArray, List.set_cons_zero, List.set_cons_succ]
                    refine' j_take (i := 4) (v := _) [] ?hi4 (by kernel_rfl) (by kernel_rfl) (by kernel_rfl) (by kernel_rfl) (by kernel_rfl) (Or.inl ⟨?hw4, ?hy4⟩) ?rest4
                    case hi4 => (simp only [List.getElem?_toArray, List.getElem?_cons_succ, List.getElem?_cons_zero]; rfl)
                    case hw4 => rfl
                    case hy4 => (intro w' hw'; go_simp; try with_reducible rfl)
                    try simp only [Act.put, List.setIfInBounds_toArray, List.set_cons_zero, List.set_cons_succ]
                    refine' j_take (i := 5) (v := _) [] ?hi5 (by kernel_rfl) (by kernel_rfl) (by kernel_rfl) (by kernel_rfl) (by kernel_rfl) (Or.inl ⟨?hw5, ?hy5⟩) ?rest5
                    case hi5 => (simp only [List.getElem?_toArray, List.getElem?_cons_succ, List.getElem?_cons_zero]; rfl)
                    case hw5 => rfl
                    case hy5 => (intro w' hw'; go_simp; try with_reducible rfl)
                    try simp only [Act.put, List.setIfInBounds_toArray, List.set_cons_zero, List.set_cons_succ]
                    refine' j_take (i := 6) (v := _) [] ?hi6 (by kernel_rfl) (by kernel_rfl) (by kernel_rfl) (by kernel_rfl) (by kernel_rfl) (Or.inl ⟨?hw6, ?hy6⟩) ?rest6
                    case hi6 => (simp only [List.getElem?_toArray, List.getElem?_cons_succ, List.getElem?_cons_zero]; rfl)
                    case hw6 => rfl
                    case hy6 => (intro w' hw'; go_simp; try with_reducible rfl)
                    try simp only [Act.put, List.setIfInBounds_toArray, List.set_cons_zero, List.set_cons_succ]
                    refine' j_take (i := 7) (v := _) [] ?hi7 (by kernel_rfl) (by kernel_rfl) (by kernel_rfl) (by kernel_rfl) (by kernel_rfl) (Or.inl ⟨?hw7, ?hy7⟩) ?rest7
                    case hi7 => (simp only [List.getElem?_toArray, List.getElem?_cons_succ, List.getElem?_cons_zero]; rfl)
                    case hw7 => rfl
                    case hy7 => (intro w' hw'; go_simp; try with_reducible rfl)
                    try simp only [Act.put, List.setIfInBounds_toArray, List.set_cons_zero, List.set_cons_succ]
                    refine' j_take (i := 8) (v := _) [] ?hi8 (by kernel_rfl) (by kernel_rfl) (by kernel_rfl) (by kernel_rfl) (by kernel_rfl) (Or.inl ⟨?hw8, ?hy8⟩) ?rest8
                    case hi8 => (simp only [List.getElem?_toArray, List.getElem?_cons_succ, List.getElem?_cons_zero]; rfl)
                    case hw8 => rfl
                    case hy8 => (intro w' hw'; go_simp; try with_reducible rfl)
                    try simp only [Act.put, List.setIfInBounds_toArray, List.set_cons_zero, List.set_cons_succ]
                    refine' j_take (i := 9) (v := _) [] ?hi9 (by kernel_rfl) (by kernel_rfl) (by kernel_rfl) (by kernel_rfl) (by kernel_rfl) (Or.inl ⟨?hw9, ?hy9⟩) ?rest9
                    case hi9 => (simp only [List.getElem?_toArray, List.getElem?_cons_succ, List.getElem?_cons_zero]; rfl)
                    case hw9 => rfl
                    case hy9 => (intro w' hw'; have q14 := (HCC.out _ (below_step HB1.out hw')).1; go_simp; try with_reducible rfl)
                    try simp only [Act.put, List.setIfInBounds_toArray, List.set_cons_zero, List.set_cons_succ]
                    refine' j_take (i := 10) (v := _) [] ?hi10 (by kernel_rfl) (by kernel_rfl) (by kernel_rfl) (by kernel_rfl) (by kernel_rfl) (Or.inl ⟨?hw10, ?hy10⟩) ?rest10
                    case hi10 => (simp only [List.getElem?_toArray, List.getElem?_cons_succ, List.getElem?_cons_zero]; rfl)
                    case hw10 => rfl
                    case hy10 => (intro w' hw'; go_simp; try with_reducible rfl)
                    try simp only [Act.put, List.setIfInBounds_toArray, List.set_cons_zero, List.set_cons_succ]
                    refine' j_take (i := 11) (v := _) [] ?hi11 (by kernel_rfl) (by kernel_rfl) (by kernel_rfl) (by kernel_rfl) (by kernel_rfl) (Or.inl ⟨?hw11, ?hy11⟩) ?rest11
                    case hi11 => (simp only [List.getElem?_toArray, List.getElem?_cons_succ, List.getElem?_cons_zero]; rfl)
                    case hw11 => rfl
                    case hy11 => (intro w' hw'; go_simp; try with_reducible rfl)
                    try simp only [Act.put, List.setIfInBounds_toArray, List.set_cons_zero, List.set_cons_succ]
                    refine' j_take (i := 12) (v := _) [] ?hi12 (by kernel_rfl) (by kernel_rfl) (by kernel_rfl) (by kernel_rfl) (by kernel_rfl) (Or.inl ⟨?hw12, ?hy12⟩) ?rest12
                    case hi12 => (simp only [List.getElem?_toArray, List.getElem?_cons_succ, List.getElem?_cons_zero]; rfl)
                    case hw12 => rfl
                    case hy12 => (intro w' hw'; go_simp; try with_reducible rfl)
                    try simp only [Act.put, List.setIfInBounds_toArray, List.set_cons_zero, List.set_cons_succ]
                    refine' j_take (i := 13) (v := _) [] ?hi13 (by kernel_rfl) (by kernel_rfl) (by kernel_rfl) (by kernel_rfl) (by kernel_rfl) (Or.inl ⟨?hw13, ?hy13⟩) ?rest13
                    case hi13 => (simp only [List.getElem?_toArray, List.getElem?_cons_succ, List.getElem?_cons_zero]; rfl)
                    case hw13 => rfl
                    case hy13 => (intro w' hw'; obtain ⟨q0, q1, q2, q3, q4, q5, q6, q7⟩ := HAA.out _ (below_step HB1.out hw'); go_simp; try with_reducible rfl)
                    try simp only [Act.put, List.setIfInBounds_toArray, List.set_cons_zero, List.set_cons_succ]
                    refine' j_take (i := 14) (v := _) [] ?hi14 (by kernel_rfl) (by kernel_rfl) (by kernel_rfl) (by kernel_rfl) (by kernel_rfl) (Or.inl ⟨?hw14, ?hy14⟩) ?rest14
                    case hi14 => (simp only [List.getElem?_toArray, List.getElem?_cons_succ, List.getElem?_cons_zero]; rfl)
                    case hw14 => rfl
                    case hy14 => (intro w' hw'; go_simp; try with_reducible rfl)
                    try simp only [Act.put, List.setIfInBounds_toArray, List.set_cons_zero, List.set_cons_succ]
                    refine' j_take (i := 15) (v := _) [] ?hi15 (by kernel_rfl) (by kernel_rfl) (by kernel_rfl) (by kernel_rfl) (by kernel_rfl) (Or.inl ⟨?hw15, ?hy15⟩) ?rest15
                    case hi15 => (simp only [List.getElem?_toArray, List.getElem?_cons_succ, List.getElem?_cons_zero]; rfl)
                    case hw15 => rfl
                    case hy15 => (intro w' hw'; go_simp; try with_reducible rfl)
                    try simp only [Act.put, List.setIfInBounds_toArray, List.set_cons_zero, List.set_cons_succ]
                    refine' j_take (i := 16) (v := _) [] ?hi16 (by kernel_rfl) (by kernel_rfl) (by kernel_rfl) (by kernel_rfl) (by kernel_rfl) (Or.inl ⟨?hw16, ?hy16⟩) ?rest16
                    case hi16 => (simp only [List.getElem?_toArray, List.getElem?_cons_succ, List.getElem?_cons_zero]; rfl)
                    case hw16 => rfl
                    case hy16 => (intro w' hw'; go_simp; try with_reducible rfl)
                    try simp only [Act.put, List.setIfInBounds_toArray, List.set_cons_zero, List.set_cons_succ]
                    refine' j_take (i := 17) (v := _) [] ?hi17 (by kernel_rfl) (by kernel_rfl) (by kernel_rfl) (by kernel_rfl) (by kernel_rfl) (Or.inl ⟨?hw17, ?hy17⟩) ?rest17
                    case hi17 => (simp only [List.getElem?_toArray, List.getElem?_cons_succ, List.getElem?_cons_zero]; rfl)
                    case hw17 => rfl
                    case hy17 => (intro w' hw'; obtain ⟨q15, q16, q17, q18, q19, q20, q21⟩ := HPA.out _ (below_step HB1.out hw'); have q22 := HPV.out _ (below_step HB1.out hw'); go_simp; try with_reducible rfl)
                    try simp only [Act.put, List.setIfInBounds_toArray, List.set_cons_zero, List.set_cons_succ]
                    refine' wpAnyJ_step (i := 18) (o := _) (by kernel_rfl) ?ho18 (fun K hK => ?step18)
                    case ho18 => (simp only [List.getElem?_toArray, List.getElem?_cons_succ, List.getElem?_cons_zero]; rfl)
                    go_simp
                    refine (Calls.mono (HSA.out _) ?_); rintro e u2 ⟨rfl, gg⟩
                    have HB2 := hide (below_step HB1.out gg)
                    refine hK.out _ _ gg (j_switch gg ?_)
                    clear hK K gg
                    try simp only [Act.put, List.setIfInBounds_toArray, List.set_cons_zero, List.set_cons_succ]
                    refine' j_take (i := 19) (v := _) [] ?hi19 (by kernel_rfl) (by kernel_rfl) (by kernel_rfl) (by kernel_rfl) (by kernel_rfl) (Or.inl ⟨?hw19, ?hy19⟩) ?rest19
                    case hi19 => (simp only [List.getElem?_toArray, List.getElem?_cons_succ, List.getElem?_cons_zero]; rfl)
                    case hw19 => rfl
                    case hy19 => (intro w' hw'; go_simp; try with_reducible rfl)
                    try simp only [Act.put, List.setIfInBounds_toArray, List.set_cons_zero, List.set_cons_succ]
                    refine' j_take (i := 20) (v := _) [] ?hi20 (by kernel_rfl) (by kernel_rfl) (by kernel_rfl) (by kernel_rfl) (by kernel_rfl) (Or.inl ⟨?hw20, ?hy20⟩) ?rest20
                    case hi20 => (simp only [List.getElem?_toArray, List.getElem?_cons_succ, List.getElem?_cons_zero]; rfl)
                    case hw20 => rfl
                    case hy20 => (intro w' hw'; go_simp; try with_reducible rfl)
                    try simp only [Act.put, List.setIfInBounds_toArray, List.set_cons_zero, List.set_cons_succ]
                    refine' j_take (i := 21) (v := _) [] ?hi21 (by kernel_rfl) (by kernel_rfl) (by kernel_rfl) (by kernel_rfl) (by kernel_rfl) (Or.inl ⟨?hw21, ?hy21⟩) ?rest21
                    case hi21 => (simp only [List.getElem?_toArray, List.getElem?_cons_succ, List.getElem?_cons_zero]; rfl)
                    case hw21 => rfl
                    case hy21 => (intro w' hw'; go_simp; try with_reducible rfl)
                    try simp only [Act.put, List.setIfInBounds_toArray, List.set_cons_zero, List.set_cons_succ]
                    refine' j_take (i := 22) (v := _) [] ?hi22 (by kernel_rfl) (by kernel_rfl) (by kernel_rfl) (by kernel_rfl) (by kernel_rfl) (Or.inl ⟨?hw22, ?hy22⟩) ?rest22
                    case hi22 => (simp only [List.getElem?_toArray, List.getElem?_cons_succ, List.getElem?_cons_zero]; rfl)
                    case hw22 => rfl
                    case hy22 => (intro w' hw'; go_simp; try with_reducible rfl)
                    try simp only [Act.put, List.setIfInBounds_toArray, List.set_cons_zero, List.set_cons_succ]
                    refine' j_take (i := 24) (v := _) [] ?hi24 (by kernel_rfl) (by kernel_rfl) (by kernel_rfl) (by kernel_rfl) (by kernel_rfl) (Or.inl ⟨?hw24, ?hy24⟩) ?rest24
                    case hi24 => (simp only [List.getElem?_toArray, List.getElem?_cons_succ, List.getElem?_cons_zero]; rfl)
                    case hw24 => rfl
                    case hy24 => (intro w' hw'; go_simp; try with_reducible rfl)
                    try simp only [Act.put, List.setIfInBounds_toArray, List.set_cons_zero, List.set_cons_succ]
                    refine' wpAnyJ_step (i := 23) (o := _) (by kernel_rfl) ?ho23 (fun K hK => ?step23)
                    case ho23 => (simp only [List.getElem?_toArray, List.getElem?_cons_succ, List.getElem?_cons_zero]; rfl)
                    go_simp
                    refine (Calls.mono ((rsends_b (HRu.out.below HB2.out) HKK.out rfl)) ?_); rintro e u3 ⟨⟨A33, c33, N33, rfl, hR33, hms33, hN33, hrow33⟩, gg⟩
                    have HB3 := hide (below_step HB2.out gg)
                    have HRO3 := hide hrow33
                    have HRD3 := hide hms33.rd
                    have HN3 := hide hN33
                    clear hR33 hms33 hN33 hrow33
                    refine hK.out _ _ gg (j_switch gg ?_)
                    clear hK K gg
                    try simp only [Act.put, List.setIfInBounds_toArray, List.set_cons_zero, List.set_cons_succ]
                    refine' wpAnyJ_step (i := 25) (o := _) (by kernel_rfl) ?ho25 (fun K hK => ?step25)
                    case ho25 => (simp only [List.getElem?_toArray, List.getElem?_cons_succ, List.getElem?_cons_zero]; rfl)
                    go_simp
                    refine (Calls.mono ((rcsends_any (HCu.out.below HB3.out) rfl hnn.2)) ?_); rintro e u4 ⟨A44, c44, N44, rfl, hst44, hN44, gg⟩
                    have HB4 := hide (below_step HB3.out gg)
                    have HST4 := hide hst44
                    have HN4 := hide hN44
                    have HGG4 := hide gg
                    clear hst44 hN44
                    have HSM := hide (samems_eq A33 A44 c33 c44 N33 N44 u4 (HRO3.out.below HGG4.out) HST4.out.at_.1 (fun x hx => (HRD3.out x hx).below HGG4.out) HST4.out.at_.2 (HN3.out.trans ((send_eq HI.out true).symm.trans HN4.out.symm)) (by have h1 := bare_len HN3.out; have h2 := (sendR_bd (R := R3) (by have := HI.out.rn; have := HNN.out; omega) true).1; omega) (fun x hx => Nat.le_trans (bare_items HN3.out (sendR_bd (R := R3) (by have := HI.out.rn; have := HNN.out; omega) true).2 x hx) (by omega)))
                    refine hK.out _ _ gg (j_switch gg ?_)
                    clear hK K gg
                    try simp only [Act.put, List.setIfInBounds_toArray, List.set_cons_zero, List.set_cons_succ]
                    refine' wpAnyJ_step (i := 26) (o := _) (by kernel_rfl) ?ho26 (fun K hK => ?step26)
                    case ho26 => (simp only [List.getElem?_toArray, List.getElem?_cons_succ, List.getElem?_cons_zero]; rfl)
                    go_simp
                    refine (Calls.mono (HSM.out) ?_); rintro e u5 ⟨rfl, gg⟩
                    have HB5 := hide (below_step HB4.out gg)
                    refine hK.out _ _ gg (j_switch gg ?_)
                    clear hK K gg
                    try simp only [Act.put, List.setIfInBounds_toArray, List.set_cons_zero, List.set_cons_succ]
                    refine' j_take (i := 27) (v := _) [] ?hi27 (by kernel_rfl) (by kernel_rfl) (by kernel_rfl) (by kernel_rfl) (by kernel_rfl) (Or.inl ⟨?hw27, ?hy27⟩) ?rest27
                    case hi27 => (simp only [List.getElem?_toArray, List.getElem?_cons_succ, List.getElem?_cons_zero]; rfl)
                    case hw27 => rfl
                    case hy27 => (intro w' hw'; go_simp; try with_reducible rfl)
                    try simp only [Act.put, List.setIfInBounds_toArray, List.set_cons_zero, List.set_cons_succ]
                    refine' j_take (i := 28) (v := _) [] ?hi28 (by kernel_rfl) (by kernel_rfl) (by kernel_rfl) (by kernel_rfl) (by kernel_rfl) (Or.inl ⟨?hw28, ?hy28⟩) ?rest28
                    case hi28 => (simp only [List.getElem?_toArray, List.getElem?_cons_succ, List.getElem?_cons_zero]; rfl)
                    case hw28 => rfl
                    case hy28 => (intro w' hw'; go_simp; try with_reducible rfl)
                    try simp only [Act.put, List.setIfInBounds_toArray, List.set_cons_zero, List.set_cons_succ]
                    refine' j_take (i := 29) (v := _) [] ?hi29 (by kernel_rfl) (by kernel_rfl) (by kernel_rfl) (by kernel_rfl) (by kernel_rfl) (Or.inl ⟨?hw29, ?hy29⟩) ?rest29
                    case hi29 => (simp only [List.getElem?_toArray, List.getElem?_cons_succ, List.getElem?_cons_zero]; rfl)
                    case hw29 => rfl
                    case hy29 => (intro w' hw'; go_simp; try with_reducible rfl)
                    try simp only [Act.put, List.setIfInBounds_toArray, List.set_cons_zero, List.set_cons_succ]
                    refine' j_take (i := 30) (v := _) [] ?hi30 (by kernel_rfl) (by kernel_rfl) (by kernel_rfl) (by kernel_rfl) (by kernel_rfl) (Or.inl ⟨?hw30, ?hy30⟩) ?rest30
                    case hi30 => (simp only [List.getElem?_toArray, List.getElem?_cons_succ, List.getElem?_cons_zero]; rfl)
                    case hw30 => rfl
                    case hy30 => (intro w' hw'; go_simp; try with_reducible rfl)
                    try simp only [Act.put, List.setIfInBounds_toArray, List.set_cons_zero, List.set_cons_succ]
                    refine' j_take (i := 32) (v := _) [] ?hi32 (by kernel_rfl) (by kernel_rfl) (by kernel_rfl) (by kernel_rfl) (by kernel_rfl) (Or.inl ⟨?hw32, ?hy32⟩) ?rest32
                    case hi32 => (simp only [List.getElem?_toArray, List.getElem?_cons_succ, List.getElem?_cons_zero]; rfl)
                    case hw32 => rfl
                    case hy32 => (intro w' hw'; go_simp; try with_reducible rfl)
                    try simp only [Act.put, List.setIfInBounds_toArray, List.set_cons_zero, List.set_cons_succ]
                    refine' j_take (i := 33) (v := _) [] ?hi33 (by kernel_rfl) (by kernel_rfl) (by kernel_rfl) (by kernel_rfl) (by kernel_rfl) (Or.inl ⟨?hw33, ?hy33⟩) ?rest33
                    case hi33 => (simp only [List.getElem?_toArray, List.getElem?_cons_succ, List.getElem?_cons_zero]; rfl)
                    case hw33 => rfl
                    case hy33 => (intro w' hw'; go_simp; try with_reducible rfl)
                    try simp only [Act.put, List.setIfInBounds_toArray, List.set_cons_zero, List.set_cons_succ]
                    refine' j_take (i := 34) (v := _) [] ?hi34 (by kernel_rfl) (by kernel_rfl) (by kernel_rfl) (by kernel_rfl) (by kernel_rfl) (Or.inl ⟨?hw34, ?hy34⟩) ?rest34
                    case hi34 => (simp only [List.getElem?_toArray, List.getElem?_cons_succ, List.getElem?_cons_zero]; rfl)
                    case hw34 => rfl
                    case hy34 => (intro w' hw'; go_simp; try with_reducible rfl)
                    try simp only [Act.put, List.setIfInBounds_toArray, List.set_cons_zero, List.set_cons_succ]
                    refine' j_take (i := 35) (v := _) [] ?hi35 (by kernel_rfl) (by kernel_rfl) (by kernel_rfl) (by kernel_rfl) (by kernel_rfl) (Or.inl ⟨?hw35, ?hy35⟩) ?rest35
                    case hi35 => (simp only [List.getElem?_toArray, List.getElem?_cons_succ, List.getElem?_cons_zero]; rfl)
                    case hw35 => rfl
                    case hy35 => (intro w' hw'; have q11 := (HCC.out _ (below_step HB5.out hw')).2; go_simp; try with_reducible rfl)
                    try simp only [Act.put, List.setIfInBounds_toArray, List.set_cons_zero, List.set_cons_succ]
                    refine' wpAnyJ_step (i := 31) (o := _) (by kernel_rfl) ?ho31 (fun K hK => ?step31)
                    case ho31 => (simp only [List.getElem?_toArray, List.getElem?_cons_succ, List.getElem?_cons_zero]; rfl)
                    go_simp
                    refine (Calls.mono ((ritems_any (HRu.out.below HB5.out) (by omega))) ?_); rintro e u6 ⟨v66, rfl, ho66, gg⟩
                    have HB6 := hide (below_step HB5.out gg)
                    have HV6 := hide (Ow.sl ho66)
                    clear ho66
                    have HEQ : Hid (Calls Try.prog 13 #[v66, .slice Ai l3 ci] u6 fun e w' => e = .returned (.bool true) ∧ Below u6.heap.size u6 w') := hide (by rw [← HL3.out]; exact reqs_sl HV6.out ⟨Ai, ci, rfl, HIT.out.1.below HB6.out, HIT.out.2.1, HIT.out.2.2⟩ (by omega))
                    refine hK.out _ _ gg (j_switch gg ?_)
                    clear hK K gg
                    try simp only [Act.put, List.setIfInBounds_toArray, List.set_cons_zero, List.set_cons_succ]
                    refine' wpAnyJ_step (i := 36) (o := _) (by kernel_rfl) ?ho36 (fun K hK => ?step36)
                    case ho36 => (simp only [List.getElem?_toArray, List.getElem?_cons_succ, List.getElem?_cons_zero]; rfl)
                    go_simp
                    refine (Calls.mono (HEQ.out) ?_); rintro e u7 ⟨rfl, gg⟩
                    have HB7 := hide (below_step HB6.out gg)
                    refine hK.out _ _ gg (j_switch gg ?_)
                    clear hK K gg
                    try simp only [Act.put, List.setIfInBounds_toArray, List.set_cons_zero, List.set_cons_succ]
                    refine' j_take (i := 37) (v := _) [] ?hi37 (by kernel_rfl) (by kernel_rfl) (by kernel_rfl) (by kernel_rfl) (by kernel_rfl) (Or.inl ⟨?hw37, ?hy37⟩) ?rest37
                    case hi37 => (simp only [List.getElem?_toArray, List.getElem?_cons_succ, List.getElem?_cons_zero]; rfl)
                    case hw37 => rfl
                    case hy37 => (intro w' hw'; go_simp; try with_reducible rfl)
                    try simp only [Act.put, List.setIfInBounds_toArray, List.set_cons_zero, List.set_cons_succ]
                    refine' j_take (i := 38) (v := _) [] ?hi38 (by kernel_rfl) (by kernel_rfl) (by kernel_rfl) (by kernel_rfl) (by kernel_rfl) (Or.inl ⟨?hw38, ?hy38⟩) ?rest38
                    case hi38 => (simp only [List.getElem?_toArray, List.getElem?_cons_succ, List.getElem?_cons_zero]; rfl)
                    case hw38 => rfl
                    case hy38 => (intro w' hw'; go_simp; try with_reducible rfl)
                    try simp only [Act.put, List.setIfInBounds_toArray, List.set_cons_zero, List.set_cons_succ]
                    refine wpAnyJ_done (by kernel_rfl) ?_ _
                    refine NoPanic.normal ?_
                    clear HCC HAA HPA HPV HSA HPH HSM HEQ HST4 HRO3 HRD3 HN3 HN4
                    go_wp2_with fail
                    go_roundw
                    case rel => exact ⟨i + 1, R3, rp3, cb2, by go_num, by omega, by omega, HRu.out.below HB7.out, HCu.out.below HB7.out, HI.out, hLen3⟩
                    case measure => (simp [intOf] <;> omega)
      · have hend : ¬ ((i : Int) < (L4.length : Int)) ∨ ((i : Int) < (L4.length : Int) ∧ ¬ (i : Int) < 60) := by omega
        clear hgo
        rcases hend with e1 | ⟨e1, e2⟩
        · go_wp2_with fail
          refine (Calls.mono (awake25_any _) ?_); rintro e w9 ⟨rfl, hb9⟩
          have HB9 := hide (below_step HLOW.out hb9)
          clear hb9
          go_wp2_with fail
          go_ret
          exact ⟨rfl, HB9.out⟩
        · go_wp2_with fail
          refine (Calls.mono (awake25_any _) ?_); rintro e w9 ⟨rfl, hb9⟩
          have HB9 := hide (below_step HLOW.out hb9)
          clear hb9
          go_wp2_with fail
          go_ret
          exact ⟨rfl, HB9.out⟩
  · exact bad n a id f A4 c4 L4 tk hgood
end Go.Proofs.Ytikecafblampeaa.roundPlays
