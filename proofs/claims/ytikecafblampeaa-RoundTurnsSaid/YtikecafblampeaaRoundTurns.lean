/- The walk of clepsydralaw25.RoundTurns: it returns true. Conditions: the arguments are readable. -/
import Derived.Test.YtikecafblampeaaRoundTurnsP
namespace Go.Proofs.Ytikecafblampeaa.roundTurns
set_option linter.unusedVariables false
set_option linter.unusedSimpArgs false
open Go.ChangeShapes Go.WideShapes Go.ChangeAt Go.RowKit
set_option maxRecDepth 100000 in
set_option maxHeartbeats 6400000 in
theorem walk {w : World} (A0 : Option Addr) (c0 : Nat) (L0 : List (Sv It)) (lc0 : L0.length ≤ c0) (cm0 : c0 ≤ maxLen) (r0 : RowAt (fun s => [s.val]) 1 w A0 L0) (w0 : ∀ s ∈ L0, Sv.good It.cells 5 It.wf w s)
    (a1 : Int) (w1 : (Lit.int .i64 a1).wf = true) (a2 : Bool) :
    Calls Try.prog 3 #[.slice A0 L0.length c0, .int .i64 a1, .bool a2] w fun e w' => e = .returned (.bool true) ∧ Below w.heap.size w w' := by
  have R0 := hide r0
  have W0 := hide w0
  obtain ⟨t, ht, ht2⟩ : ∃ t : Nat, bits .and .i64 a1 255 = (t : Int) ∧ t ≤ 255 := ⟨(a1 % 256).toNat, by rw [and_mask_i64 a1 8 255 (by omega) (by decide)]; omega, by omega⟩
  obtain ⟨s1, hs1, hs1'⟩ : ∃ s1 : Nat, t % 3 = s1 ∧ s1 < 3 := ⟨_, rfl, Nat.mod_lt _ (by omega)⟩
  have HS1 := hide hs1
  have HNG := hide (fun W => rnew_good 3 1 9 140737488355328 W (by decide) (by omega) (by omega))
  clear r0 w0 w1 lc0 cm0 hs1
  obtain ⟨E, hE⟩ : ∃ E, effE L0 = E := ⟨_, rfl⟩
  have HE := hide hE
  have HEL : Hid (∀ j, (E j).length ≤ 1000) := hide (by rw [← hE]; exact effE_len L0)
  have HEG : Hid (∀ j, (E j).all goodB = true) := hide (by rw [← hE]; exact effE_good L0)
  obtain ⟨JF, hJF⟩ : ∃ JF, JL E 3 0 3 = JF := ⟨_, rfl⟩
  have HJF := hide hJF
  have HJS : Hid (IsState JF) := hide (by rw [← hJF]; exact JL_state E 3 0 3)
  have hJl : JF.length ≤ 3000 := by have := JL_len HEL.out 3 0 3; rw [hJF] at this; omega
  clear hE hJF
  go_enter Try.func3, Try.ntmps3
  go_wp2_with fail
  go_loopw [7, 8] (fun fv kv wr => ∃ k : Nat, kv = .int .i64 k ∧ k ≤ 2 ∧ Below w.heap.size w wr ∧ (k = 0 ∨ Sl wr fv JF)) (fun _ kv _ => 2 - (intOf kv).toNat)
  case atStart => exact ⟨0, rfl, by omega, Below.refl _ _, .inl rfl⟩
  case round =>
    obtain ⟨k, rfl, hk, hB, hF⟩ := hrel
    have HB := hide hB
    have HF := hide hF
    clear hB hF
    by_cases hk2 : k < 2
    · have hkI : (k : Int) < 2 := by omega
      obtain ⟨s, hs, hs3, hs0⟩ : ∃ s : Nat, s = (if k = 1 then s1 else 0) ∧ s < 3 ∧ (k = 0 → s = 0) := ⟨_, rfl, by split <;> omega, fun h => by rw [if_neg (by omega)]⟩
      have HS := hide hs
      have HS0 := hide hs0
      obtain ⟨wo, rfl⟩ : ∃ wo, wo = wr := ⟨_, rfl⟩
      clear hs hs0
      go_wp2_with fail
      refine (Calls.mono (HNG.out _) ?_); rintro e wn ⟨b, rfl, hR⟩
      have hR : RndO wo wn b (RS E 3 1 140737488355328 s 0) := by rw [RS_zero hs3]; exact hR
      have HR := hide hR
      clear hR
      go_wp2_with fail
      have HWN := hide HR.out.low
      go_loopw [11] (fun iv wr => ∃ i : Nat, iv = .int .i64 i ∧ i ≤ 3 ∧ RndO wo wr b (RS E 3 1 140737488355328 s i)) (fun iv _ => 3 - (intOf iv).toNat)
      case atStart => exact ⟨0, rfl, by omega, HR.out⟩
      case round =>
        clear HR HWN
        obtain ⟨i, rfl, hi, hR⟩ := hrel
        have HR := hide hR
        clear hR
        obtain ⟨wi, rfl⟩ : ∃ wi, wi = wr := ⟨_, rfl⟩
        by_cases hi3 : i < 3
        · have hiI : (i : Int) < 3 := by omega
          obtain ⟨fr, hfr, hfr3⟩ : ∃ fr, rot 3 s i = fr ∧ fr < 3 := ⟨_, rfl, rot_lt hs3 hi3⟩
          have HFR := hide hfr
          have hwi : IntKind.i64.wrap ((i : Int) + (t : Int)) = (i : Int) + (t : Int) := by rw [IntKind.wrap_i64]; omega
          have hw0 : (0 : Int) ≤ (i : Int) + (t : Int) := by omega
          clear hfr
          go_upto_if 36 with fail
          go_cut [12] (fun v W => v = .int .i64 (fr : Nat) ∧ wi = W)
          case first =>
            by_cases hk1 : k = 1
            · have hk1I : (k : Int) = 1 := by omega
              have hfe : ((i : Int) + (t : Int)) % 3 = (fr : Int) := by
                have h := rot_eq (n := 3) t hi3
                rw [HS1.out] at h
                have h2 := HS.out
                rw [if_pos hk1] at h2
                rw [← h2, HFR.out] at h
                omega
              clear hk1
              go_wp2_with fail
              go_meet
              exact ⟨by rw [hfe], rfl⟩
            · have hk1I : ¬ (k : Int) = 1 := by omega
              have hfe : i = fr := by
                have h0 := HS0.out (by omega)
                have h := HFR.out
                rw [h0, rot_zero hi3] at h
                exact h
              subst hfe
              clear hk1 hwi hw0
              go_wp2_with fail
              go_meet
              exact ⟨rfl, rfl⟩
          case rest =>
            obtain ⟨rfl, rfl⟩ := hcut
            clear hwi hw0
            have HRi := HR
            clear HR
            go_upto_region 15 with fail
            obtain ⟨wm, hwm⟩ : ∃ wm, wi.alloc (.cells #[.int .i64 7, .int .i64 fr, .int .i64 1, .int .u64 9, .int .u64 140737488355328, .slice none 0 0] 30) = wm := ⟨_, rfl⟩
            have hbm : Below wi.heap.size wi wm := by rw [← hwm]; exact below_alloc (Below.refl _ _) _
            have hzm : wm.heap[wi.heap.size]? = some (.cells #[.int .i64 7, .int .i64 fr, .int .i64 1, .int .u64 9, .int .u64 140737488355328, .slice none 0 0] 30 (0, 0)) := by rw [← hwm]; exact heap_alloc_new wi _
            rw [hwm]
            obtain ⟨g, hg⟩ : ∃ g, wi.heap.size = g := ⟨_, rfl⟩
            have HG := hide hg
            rw [hg] at hzm ⊢
            have hgle : wi.heap.size ≤ g := by omega
            have HGLE := hide hgle
            have HM := hide hzm
            have HBM := hide hbm
            have HWM := hide (below_step HB.out (below_step HRi.out.low hbm))
            clear hwm hbm hzm hg hgle
            by_cases hlt : fr < L0.length
            · have hltI : (fr : Int) < (L0.length : Int) := by omega
              have hfr0 : (0 : Int) ≤ (fr : Int) := by omega
              have hEE : E fr = effL (L0[fr]'hlt).L := by rw [← HE.out]; unfold effE; rw [dif_pos hlt]
              have HEE := hide hEE
              obtain ⟨b0, off, rfl, hbb, hcr⟩ := R0.out.at_ hlt
              have hgood := W0.out (L0[fr]'hlt) (List.getElem_mem hlt)
              have hc0 : w.cell? ⟨b0, off + fr, none⟩ = some (L0[fr]'hlt).val := by simpa using hcr fr hlt 0 _ rfl
              clear hEE
              generalize (L0[fr]'hlt) = sv at *
              obtain ⟨Ai, ci, Li⟩ := sv
              obtain ⟨hlc, hcm, hrow, _⟩ := hgood
              simp only at hlc hcm hrow
              have hc1 : w.cell? ⟨b0, off + fr, none⟩ = some (.slice Ai Li.length ci) := hc0
              have HC : Hid (∀ V : World, Below w.heap.size w V → V.cell? ⟨b0, off + fr, none⟩ = some (.slice Ai Li.length ci)) := hide (fun V hV => (hV.cell (p := ⟨b0, _, none⟩) hbb).trans hc1)
              have HLI := hide hrow
              have HLC := hide (And.intro hlc hcm)
              clear hcr hc0 hc1 hrow hlc hcm
              have hcw := HC.out _ HWM.out
              by_cases h30 : Li.length ≤ 30
              · have h30I : (Li.length : Int) ≤ 30 := by omega
                go_wp2_with fail
                go_loopw [14, 15] (fun gv jv wq => ∃ j : Nat, jv = .int .i64 j ∧ j ≤ Li.length ∧ gv = .bool ((Li.take j).all goodB) ∧ Below wm.heap.size wm wq) (fun _ jv _ => 31 - (intOf jv).toNat)
                case atStart => exact ⟨0, rfl, by omega, rfl, Below.refl _ _⟩
                case round =>
                  clear hcw
                  obtain ⟨j, rfl, hj, rfl, hbq⟩ := hrel
                  obtain ⟨wq, rfl⟩ : ∃ wq, wq = wr := ⟨_, rfl⟩
                  have HBQ := hide hbq
                  have HLQ := hide (below_step HWM.out hbq)
                  have hcw := HC.out _ HLQ.out
                  clear hbq
                  by_cases hjl : j < Li.length
                  · have hjI : (j : Int) < (Li.length : Int) := by omega
                    obtain ⟨bi, oi, hAi, hbi, y0, y1, y2, y3, y4⟩ := ItemsAt.item HLI.out HLQ.out hjl
                    subst hAi
                    have hft : (Li.take (j + 1)).all goodB = ((Li.take j).all goodB && goodB (Li[j]'hjl)) := by
                      rw [List.take_succ_eq_append_getElem hjl, List.all_append]
                      simp
                    have HFT := hide hft
                    have HOKY := hide (fun V => rgood_any (Li[j]'hjl) V)
                    clear hft
                    generalize (Li[j]'hjl) = y at *
                    cases hg1 : (Li.take j).all goodB with
                    | true =>
                      rw [hg1] at HFT
                      clear hg1
                      cases hg2 : goodB y with
                      | true =>
                        rw [hg2] at HFT HOKY
                        clear hg2
                        go_wp2_with fail
                        refine (Calls.mono (HOKY.out _) ?_); rintro e w2 ⟨rfl, hb2⟩
                        have HB2 := hide (below_step HBQ.out hb2)
                        clear hb2
                        go_wp2_with fail
                        go_roundw
                        case rel => exact ⟨j + 1, by go_num, by omega, by rw [HFT.out]; rfl, HB2.out⟩
                        case measure => (simp [intOf] <;> omega)
                      | false =>
                        rw [hg2] at HFT HOKY
                        clear hg2
                        go_wp2_with fail
                        refine (Calls.mono (HOKY.out _) ?_); rintro e w2 ⟨rfl, hb2⟩
                        have HB2 := hide (below_step HBQ.out hb2)
                        clear hb2
                        go_wp2_with fail
                        go_roundw
                        case rel => exact ⟨j + 1, by go_num, by omega, by rw [HFT.out]; rfl, HB2.out⟩
                        case measure => (simp [intOf] <;> omega)
                    | false =>
                      rw [hg1] at HFT
                      clear hg1 y0 y1 y2 y3 y4
                      go_wp2_with fail
                      go_roundw
                      case rel => exact ⟨j + 1, by go_num, by omega, by rw [HFT.out]; rfl, HBQ.out⟩
                      case measure => (simp [intOf] <;> omega)
                  · obtain rfl : j = Li.length := by omega
                    have hjI : ¬ (Li.length : Int) < (Li.length : Int) := by omega
                    rw [List.take_length]
                    have HMq := hide ((HBQ.out.block g (Array.getElem?_eq_some_iff.1 HM.out).1).trans HM.out)
                    have HRq := hide ((HRi.out.below HBM.out).below HBQ.out)
                    cases hgd : Li.all goodB with
                    | true =>
                      have HEN : Hid (Li = E fr) := hide (by rw [HEE.out]; unfold effL; rw [if_pos ⟨h30, hgd⟩])
                      have HGD := hide hgd
                      have hst : Sets (fun c => c = g) wq (wq.setCell ⟨g, 5, none⟩ (.slice Ai Li.length ci)) := (Sets.refl (S := fun c => c = g) wq).set (g := g) (fun _ => rfl) 5 _
                      have hbst : Below wi.heap.size wi (wq.setCell ⟨g, 5, none⟩ (.slice Ai Li.length ci)) := Sets.below (below_step HBM.out HBQ.out) hst (fun c hc => by rw [hc]; exact HGLE.out) (Nat.le_trans HBM.out.size HBQ.out.size)
                      have HRW := hide (HRi.out.below hbst)
                      have hMW : (wq.setCell ⟨g, 5, none⟩ (.slice Ai Li.length ci)).heap[g]? = some (.cells #[.int .i64 7, .int .i64 fr, .int .i64 1, .int .u64 9, .int .u64 140737488355328, .slice Ai Li.length ci] 30 (0, 0)) := by
                        simp [World.setCell, Array.getElem?_modify, HMq.out]
                      obtain ⟨y0, y1, y2, y3, y4, y5⟩ := six_cells HMq.out
                      have hfz : ∀ o, wq.frozen? ⟨g, o, none⟩ = false := fun o => by simp [World.frozen?, HMq.out]
                      obtain ⟨W, hW⟩ : ∃ W, wq.setCell ⟨g, 5, none⟩ (.slice Ai Li.length ci) = W := ⟨_, rfl⟩
                      rw [hW] at HRW hMW
                      have HWE := hide hW
                      have HRDM := hide (show (mE fr Ai ci Li).rd wo from ⟨HLI.out.below HB.out, HLC.out.1, HLC.out.2⟩)
                      clear HM HRq
                      have HM := hide hMW
                      clear hgd hst hbst hMW hW
                      go_upto_region 23 with fail
                      rw [HWE.out]
                      clear hcw y0 y1 y2 y3 y4 y5 hfz HWE
                      have HON := hide (ron_s HRW.out (RS_k (by omega) HEL.out (by omega)) (mE fr Ai ci Li) HRDM.out (RS_on hs3 hi3 rfl (mE_ok (by omega) (by omega) HGD.out) rfl rfl rfl (by rw [HFR.out]) (HEN.out.trans (congrArg E HFR.out.symm))).1 rfl)
                      obtain ⟨x0, x1, x2, x3, x4, x5⟩ := six_cells HM.out
                      have hgb : g ≠ b := by have h1 := HRi.out.lt; have h2 := HGLE.out; omega
                      by_cases htw : a2 = true ∧ k = 1
                      · obtain ⟨ha2, hk1⟩ := htw
                        subst ha2
                        have hk1I : ((k : Int) == 1) = true := beq_iff_eq.2 (by omega)
                        clear hk1
                        go_wp2_with fail
                        refine (Calls.mono HON.out ?_); rintro e w2 ⟨⟨A2, c2, N2, rfl, hR2, _, _, _⟩, hS2⟩
                        have HR2 := hide hR2
                        have HM2 := hide ((hS2.block g (Array.getElem?_eq_some_iff.1 HM.out).1 hgb).trans HM.out)
                        have HON2 := hide (ron_s HR2.out (RS_k (by omega) HEL.out (by omega)) (mE fr Ai ci Li) HRDM.out (RS_twice hs3 hi3 rfl (by rw [HFR.out])).1 rfl)
                        clear x0 x1 x2 x3 x4 x5 hR2 hS2 HON HR2
                        obtain ⟨x0, x1, x2, x3, x4, x5⟩ := six_cells HM2.out
                        go_wp2_with fail
                        refine (Calls.mono HON2.out ?_); rintro e w3 ⟨⟨A3, c3, N3, rfl, hR3, _, _, _⟩, _⟩
                        have HR3 := hide hR3
                        clear x0 x1 x2 x3 x4 x5 hR3 HON2
                        go_wp2_with fail
                        go_roundw
                        case rel => exact ⟨i + 1, by go_num, by omega, HR3.out⟩
                        case measure => (simp [intOf] <;> omega)
                      · cases a2 with
                        | true =>
                          have hk1I : ¬ (k : Int) = 1 := by simp at htw; omega
                          clear htw
                          go_wp2_with fail
                          refine (Calls.mono HON.out ?_); rintro e w2 ⟨⟨A2, c2, N2, rfl, hR2, _, _, _⟩, _⟩
                          have HR2 := hide hR2
                          clear x0 x1 x2 x3 x4 x5 hR2 HON
                          go_wp2_with fail
                          go_roundw
                          case rel => exact ⟨i + 1, by go_num, by omega, HR2.out⟩
                          case measure => (simp [intOf] <;> omega)
                        | false =>
                          clear htw
                          go_wp2_with fail
                          refine (Calls.mono HON.out ?_); rintro e w2 ⟨⟨A2, c2, N2, rfl, hR2, _, _, _⟩, _⟩
                          have HR2 := hide hR2
                          clear x0 x1 x2 x3 x4 x5 hR2 HON
                          go_wp2_with fail
                          go_roundw
                          case rel => exact ⟨i + 1, by go_num, by omega, HR2.out⟩
                          case measure => (simp [intOf] <;> omega)
                    | false =>
                      have HEN : Hid (([] : List It) = E fr) := hide (by rw [HEE.out]; unfold effL; rw [if_neg (by simp [hgd])])
                      clear HM
                      have HM := HMq
                      have HRW := HRq
                      clear hgd
                      go_upto_region 23 with fail
                      clear hcw
                      have HON := hide (ron_s HRW.out (RS_k (by omega) HEL.out (by omega)) (mE fr none 0 []) ⟨RowAt.nil_, by simp, by simp [maxLen]⟩ (RS_on hs3 hi3 rfl (mE_ok (by omega) (by simp) rfl) rfl rfl rfl (by rw [HFR.out]) (HEN.out.trans (congrArg E HFR.out.symm))).1 rfl)
                      obtain ⟨x0, x1, x2, x3, x4, x5⟩ := six_cells HM.out
                      have hgb : g ≠ b := by have h1 := HRi.out.lt; have h2 := HGLE.out; omega
                      by_cases htw : a2 = true ∧ k = 1
                      · obtain ⟨ha2, hk1⟩ := htw
                        subst ha2
                        have hk1I : ((k : Int) == 1) = true := beq_iff_eq.2 (by omega)
                        clear hk1
                        go_wp2_with fail
                        refine (Calls.mono HON.out ?_); rintro e w2 ⟨⟨A2, c2, N2, rfl, hR2, _, _, _⟩, hS2⟩
                        have HR2 := hide hR2
                        have HM2 := hide ((hS2.block g (Array.getElem?_eq_some_iff.1 HM.out).1 hgb).trans HM.out)
                        have HON2 := hide (ron_s HR2.out (RS_k (by omega) HEL.out (by omega)) (mE fr none 0 []) ⟨RowAt.nil_, by simp, by simp [maxLen]⟩ (RS_twice hs3 hi3 rfl (by rw [HFR.out])).1 rfl)
                        clear x0 x1 x2 x3 x4 x5 hR2 hS2 HON HR2
                        obtain ⟨x0, x1, x2, x3, x4, x5⟩ := six_cells HM2.out
                        go_wp2_with fail
                        refine (Calls.mono HON2.out ?_); rintro e w3 ⟨⟨A3, c3, N3, rfl, hR3, _, _, _⟩, _⟩
                        have HR3 := hide hR3
                        clear x0 x1 x2 x3 x4 x5 hR3 HON2
                        go_wp2_with fail
                        go_roundw
                        case rel => exact ⟨i + 1, by go_num, by omega, HR3.out⟩
                        case measure => (simp [intOf] <;> omega)
                      · cases a2 with
                        | true =>
                          have hk1I : ¬ (k : Int) = 1 := by simp at htw; omega
                          clear htw
                          go_wp2_with fail
                          refine (Calls.mono HON.out ?_); rintro e w2 ⟨⟨A2, c2, N2, rfl, hR2, _, _, _⟩, _⟩
                          have HR2 := hide hR2
                          clear x0 x1 x2 x3 x4 x5 hR2 HON
                          go_wp2_with fail
                          go_roundw
                          case rel => exact ⟨i + 1, by go_num, by omega, HR2.out⟩
                          case measure => (simp [intOf] <;> omega)
                        | false =>
                          clear htw
                          go_wp2_with fail
                          refine (Calls.mono HON.out ?_); rintro e w2 ⟨⟨A2, c2, N2, rfl, hR2, _, _, _⟩, _⟩
                          have HR2 := hide hR2
                          clear x0 x1 x2 x3 x4 x5 hR2 HON
                          go_wp2_with fail
                          go_roundw
                          case rel => exact ⟨i + 1, by go_num, by omega, HR2.out⟩
                          case measure => (simp [intOf] <;> omega)
              · have h30I : ¬ (Li.length : Int) ≤ 30 := by omega
                have HEN : Hid (([] : List It) = E fr) := hide (by rw [HEE.out]; unfold effL; rw [if_neg (fun h => h30 h.1)])
                have HRW := hide (HRi.out.below HBM.out)
                go_upto_region 23 with fail
                clear hcw
                have HON := hide (ron_s HRW.out (RS_k (by omega) HEL.out (by omega)) (mE fr none 0 []) ⟨RowAt.nil_, by simp, by simp [maxLen]⟩ (RS_on hs3 hi3 rfl (mE_ok (by omega) (by simp) rfl) rfl rfl rfl (by rw [HFR.out]) (HEN.out.trans (congrArg E HFR.out.symm))).1 rfl)
                obtain ⟨x0, x1, x2, x3, x4, x5⟩ := six_cells HM.out
                have hgb : g ≠ b := by have h1 := HRi.out.lt; have h2 := HGLE.out; omega
                by_cases htw : a2 = true ∧ k = 1
                · obtain ⟨ha2, hk1⟩ := htw
                  subst ha2
                  have hk1I : ((k : Int) == 1) = true := beq_iff_eq.2 (by omega)
                  clear hk1
                  go_wp2_with fail
                  refine (Calls.mono HON.out ?_); rintro e w2 ⟨⟨A2, c2, N2, rfl, hR2, _, _, _⟩, hS2⟩
                  have HR2 := hide hR2
                  have HM2 := hide ((hS2.block g (Array.getElem?_eq_some_iff.1 HM.out).1 hgb).trans HM.out)
                  have HON2 := hide (ron_s HR2.out (RS_k (by omega) HEL.out (by omega)) (mE fr none 0 []) ⟨RowAt.nil_, by simp, by simp [maxLen]⟩ (RS_twice hs3 hi3 rfl (by rw [HFR.out])).1 rfl)
                  clear x0 x1 x2 x3 x4 x5 hR2 hS2 HON HR2
                  obtain ⟨x0, x1, x2, x3, x4, x5⟩ := six_cells HM2.out
                  go_wp2_with fail
                  refine (Calls.mono HON2.out ?_); rintro e w3 ⟨⟨A3, c3, N3, rfl, hR3, _, _, _⟩, _⟩
                  have HR3 := hide hR3
                  clear x0 x1 x2 x3 x4 x5 hR3 HON2
                  go_wp2_with fail
                  go_roundw
                  case rel => exact ⟨i + 1, by go_num, by omega, HR3.out⟩
                  case measure => (simp [intOf] <;> omega)
                · cases a2 with
                  | true =>
                    have hk1I : ¬ (k : Int) = 1 := by simp at htw; omega
                    clear htw
                    go_wp2_with fail
                    refine (Calls.mono HON.out ?_); rintro e w2 ⟨⟨A2, c2, N2, rfl, hR2, _, _, _⟩, _⟩
                    have HR2 := hide hR2
                    clear x0 x1 x2 x3 x4 x5 hR2 HON
                    go_wp2_with fail
                    go_roundw
                    case rel => exact ⟨i + 1, by go_num, by omega, HR2.out⟩
                    case measure => (simp [intOf] <;> omega)
                  | false =>
                    clear htw
                    go_wp2_with fail
                    refine (Calls.mono HON.out ?_); rintro e w2 ⟨⟨A2, c2, N2, rfl, hR2, _, _, _⟩, _⟩
                    have HR2 := hide hR2
                    clear x0 x1 x2 x3 x4 x5 hR2 HON
                    go_wp2_with fail
                    go_roundw
                    case rel => exact ⟨i + 1, by go_num, by omega, HR2.out⟩
                    case measure => (simp [intOf] <;> omega)
            · have hltI : ¬ (fr : Int) < (L0.length : Int) := by omega
              have HEN : Hid (([] : List It) = E fr) := hide (by rw [← HE.out]; unfold effE; rw [dif_neg hlt])
              have HRW := hide (HRi.out.below HBM.out)
              go_upto_region 23 with fail
              have HON := hide (ron_s HRW.out (RS_k (by omega) HEL.out (by omega)) (mE fr none 0 []) ⟨RowAt.nil_, by simp, by simp [maxLen]⟩ (RS_on hs3 hi3 rfl (mE_ok (by omega) (by simp) rfl) rfl rfl rfl (by rw [HFR.out]) (HEN.out.trans (congrArg E HFR.out.symm))).1 rfl)
              obtain ⟨x0, x1, x2, x3, x4, x5⟩ := six_cells HM.out
              have hgb : g ≠ b := by have h1 := HRi.out.lt; have h2 := HGLE.out; omega
              by_cases htw : a2 = true ∧ k = 1
              · obtain ⟨ha2, hk1⟩ := htw
                subst ha2
                have hk1I : ((k : Int) == 1) = true := beq_iff_eq.2 (by omega)
                clear hk1
                go_wp2_with fail
                refine (Calls.mono HON.out ?_); rintro e w2 ⟨⟨A2, c2, N2, rfl, hR2, _, _, _⟩, hS2⟩
                have HR2 := hide hR2
                have HM2 := hide ((hS2.block g (Array.getElem?_eq_some_iff.1 HM.out).1 hgb).trans HM.out)
                have HON2 := hide (ron_s HR2.out (RS_k (by omega) HEL.out (by omega)) (mE fr none 0 []) ⟨RowAt.nil_, by simp, by simp [maxLen]⟩ (RS_twice hs3 hi3 rfl (by rw [HFR.out])).1 rfl)
                clear x0 x1 x2 x3 x4 x5 hR2 hS2 HON HR2
                obtain ⟨x0, x1, x2, x3, x4, x5⟩ := six_cells HM2.out
                go_wp2_with fail
                refine (Calls.mono HON2.out ?_); rintro e w3 ⟨⟨A3, c3, N3, rfl, hR3, _, _, _⟩, _⟩
                have HR3 := hide hR3
                clear x0 x1 x2 x3 x4 x5 hR3 HON2
                go_wp2_with fail
                go_roundw
                case rel => exact ⟨i + 1, by go_num, by omega, HR3.out⟩
                case measure => (simp [intOf] <;> omega)
              · cases a2 with
                | true =>
                  have hk1I : ¬ (k : Int) = 1 := by simp at htw; omega
                  clear htw
                  go_wp2_with fail
                  refine (Calls.mono HON.out ?_); rintro e w2 ⟨⟨A2, c2, N2, rfl, hR2, _, _, _⟩, _⟩
                  have HR2 := hide hR2
                  clear x0 x1 x2 x3 x4 x5 hR2 HON
                  go_wp2_with fail
                  go_roundw
                  case rel => exact ⟨i + 1, by go_num, by omega, HR2.out⟩
                  case measure => (simp [intOf] <;> omega)
                | false =>
                  clear htw
                  go_wp2_with fail
                  refine (Calls.mono HON.out ?_); rintro e w2 ⟨⟨A2, c2, N2, rfl, hR2, _, _, _⟩, _⟩
                  have HR2 := hide hR2
                  clear x0 x1 x2 x3 x4 x5 hR2 HON
                  go_wp2_with fail
                  go_roundw
                  case rel => exact ⟨i + 1, by go_num, by omega, HR2.out⟩
                  case measure => (simp [intOf] <;> omega)
        · obtain rfl : i = 3 := by omega
          have hiI : ¬ ((3 : Nat) : Int) < 3 := by omega
          rw [RS_end] at HR
          rw [JL_turn E (s := s) (t := 0) hs3 (by omega), HJF.out] at HR
          go_wp2_with fail
          refine (Calls.mono (rphase_any HR.out) ?_); rintro e w3 ⟨rfl, rfl⟩
          rw [show (stG 3 1 9 140737488355328 2 (fun _ => false) JF 0).ph = 2 from rfl]
          have HI := hide (ritems_any HR.out (show JF.length ≤ 1099511627776 by omega))
          by_cases hk0 : k = 0
          · have hk0I : (k : Int) = 0 := by omega
            go_wp2_with fail
            refine (Calls.mono HI.out ?_); rintro e w4 ⟨v, rfl, hv, hb4⟩
            have HV := hide (Ow.sl hv)
            have HB4 := hide (below_step (below_step HB.out HR.out.low) hb4)
            clear hv hb4
            go_wp2_with fail
            go_roundw
            case rel => exact ⟨k + 1, by go_num, by omega, HB4.out, .inr HV.out⟩
            case measure => (simp [intOf] <;> omega)
          · have hk0I : ¬ (k : Int) = 0 := by omega
            have HF1 : Hid (Sl wo u7 JF) := hide (by
              rcases HF.out with h | h
              · exact absurd h hk0
              · exact h)
            go_wp2_with fail
            refine (Calls.mono HI.out ?_); rintro e w4 ⟨v, rfl, hv, hb4⟩
            have HV := hide (Ow.sl hv)
            have HF4 := hide ((HF1.out.below HR.out.low).below hb4)
            have HB4 := hide (below_step (below_step HB.out HR.out.low) hb4)
            clear hv hb4
            go_wp2_with fail
            refine (Calls.mono (reqs_sl HF4.out HV.out (by omega)) ?_); rintro e w5 ⟨rfl, hb5⟩
            have HF5 := hide (HF4.out.below hb5)
            have HB5 := hide (below_step HB4.out hb5)
            clear hb5
            have hst := rstate_sl HF5.out (by omega)
            rw [stateB_true HJS.out] at hst
            have HST := hide hst
            clear hst
            go_wp2_with fail
            refine (Calls.mono HST.out ?_); rintro e w6 ⟨rfl, hb6⟩
            have HF6 := hide (HF5.out.below hb6)
            have HB6 := hide (below_step HB5.out hb6)
            clear hb6
            go_wp2_with fail
            go_roundw
            case rel => exact ⟨k + 1, by go_num, by omega, HB6.out, .inr HF6.out⟩
            case measure => (simp [intOf] <;> omega)
    · obtain rfl : k = 2 := by omega
      have hkI : ¬ ((2 : Nat) : Int) < 2 := by omega
      go_wp2_with fail
      refine (Calls.mono (awake25_any _) ?_); rintro e w7 ⟨rfl, hb7⟩
      have HB7 := hide (below_step HB.out hb7)
      clear hb7
      go_wp2_with fail
      go_ret
      exact ⟨rfl, HB7.out⟩
end Go.Proofs.Ytikecafblampeaa.roundTurns
