/- The walk of clepsydralaw25.RoundEnds: it returns true. Conditions: the arguments are numbers. -/
import Derived.Test.YtikecafblampeaaRoundEndsP
import Derived.Test.YtikecafblampeaaRndF
import Derived.Test.YtikecafblampeaaBits
namespace Go.Proofs.Ytikecafblampeaa.roundEnds
set_option linter.unusedVariables false
set_option linter.unusedSimpArgs false
open Go.ChangeShapes Go.WideShapes Go.ChangeAt Go.RowKit
set_option maxRecDepth 100000 in
set_option maxHeartbeats 6400000 in
theorem walk {w : World} (a0 : Int) (w0 : (Lit.int .i64 a0).wf = true) (a1 : Int) (w1 : (Lit.int .i64 a1).wf = true) (a2 a3 : Bool) (a4 : Int) (w4 : (Lit.int .u64 a4).wf = true) :
    Calls Try.prog 7 #[.int .i64 a0, .int .i64 a1, .bool a2, .bool a3, .int .u64 a4] w fun e w' => e = .returned (.bool true) ∧ Below w.heap.size w w' := by
  have b4 := bounds_u64 w4
  obtain ⟨q, hq, hq2⟩ : ∃ q : Nat, bits .and .i64 a0 255 = (q : Int) ∧ q ≤ 255 := ⟨(a0 % 256).toNat, by rw [and_mask_i64 a0 8 255 (by omega) (by decide)]; omega, by omega⟩
  obtain ⟨n, hn, hn1, hn2⟩ : ∃ n : Nat, (q : Int) % 6 + 2 = (n : Int) ∧ 2 ≤ n ∧ n ≤ 7 := ⟨q % 6 + 2, by omega, by omega, by omega⟩
  have hwn : IntKind.i64.wrap ((q : Int) % 6 + 2) = (n : Int) := by rw [IntKind.wrap_i64]; omega
  obtain ⟨r, hr, hr2⟩ : ∃ r : Nat, bits .and .i64 a1 255 = (r : Int) ∧ r ≤ 255 := ⟨(a1 % 256).toNat, by rw [and_mask_i64 a1 8 255 (by omega) (by decide)]; omega, by omega⟩
  have hn0 : (n : Int) ≠ 0 := by omega
  obtain ⟨l, hl, hln⟩ : ∃ l : Nat, (r : Int) % (n : Int) = (l : Int) ∧ l < n := ⟨r % n, by omega, Nat.mod_lt _ (by omega)⟩
  obtain ⟨fl, hfl, hf0, hf1⟩ : ∃ fl : Int, bits .and .u64 a4 65535 = fl ∧ 0 ≤ fl ∧ fl ≤ 65535 := ⟨a4 % 65536, by rw [and_mask a4 16 65535 (by omega) (by decide) (by omega) (by omega)]; rfl, by omega, by omega⟩
  have HNG := hide (fun W => rnew_good (n : Int) 1 9 77 W (by unfold nodesB; exact decide_eq_true (by omega)) (by omega) (by omega))
  have HNN := hide (show 2 ≤ n ∧ n ≤ 7 from ⟨hn1, hn2⟩)
  have HLN := hide hln
  clear w0 w1 w4 b4 hn
  go_enter Try.func7, Try.ntmps7
  go_wp2_with fail
  refine (Calls.mono (HNG.out _) ?_); rintro e w1 ⟨b, rfl, hR⟩
  rw [rs0_stG] at hR
  have HR : Hid (RndO w w1 b (RA a2 n l 0)) := hide (by
    have e : RA a2 n l 0 = stG n 1 9 77 1 (fun _ => false) [] 0 := by
      unfold RA
      rw [if_neg (by omega), upC_zero]
    rw [e]
    exact hR)
  rw [hl]
  clear hR HNG hq hr hl hwn
  go_wp2_with fail
  go_loopw [13] (fun i wr => ∃ k : Nat, i = .int .i64 k ∧ k ≤ n ∧ RndO w wr b (RA a2 n l k)) (fun i _ => 8 - (intOf i).toNat)
  case atStart => exact ⟨0, rfl, by omega, HR.out⟩
  case round =>
    clear HR
    obtain ⟨k, rfl, hk, hR⟩ := hrel
    have HR := hide hR
    clear hR
    by_cases hkn : k < n
    · have hkI : (k : Int) < (n : Int) := by omega
      by_cases hgo : k ≠ l ∨ a2 = true
      · have HS := hide (ron_to HR.out (RA_k HNN.out hk) (mS k) (mg_rd _ _ rfl rfl rfl) (RA_on HNN.out HLN.out hkn hgo) rfl)
        by_cases hkl : k = l
        · obtain rfl : a2 = true := by
            rcases hgo with h | h
            · exact absurd hkl h
            · exact h
          subst hkl
          go_wp2_with fail
          refine (Calls.mono HS.out ?_); rintro e w2 ⟨A, c, N, rfl, hR, _⟩
          have HR2 := hide hR
          clear hR HS hgo
          go_wp2_with fail
          go_roundw
          case rel => exact ⟨k + 1, by go_num, by omega, HR2.out⟩
          case measure => (simp [intOf] <;> omega)
        · have hklI : ¬ (k : Int) = (l : Int) := by omega
          go_wp2_with fail
          refine (Calls.mono HS.out ?_); rintro e w2 ⟨A, c, N, rfl, hR, _⟩
          have HR2 := hide hR
          clear hR HS hgo
          go_wp2_with fail
          go_roundw
          case rel => exact ⟨k + 1, by go_num, by omega, HR2.out⟩
          case measure => (simp [intOf] <;> omega)
      · obtain rfl : k = l := by omega
        obtain rfl : a2 = false := by
          cases a2
          · rfl
          · exact absurd (.inr rfl) hgo
        have HR2 := hide ((RA_skip (n := n)) ▸ HR.out)
        clear hgo
        go_wp2_with fail
        go_roundw
        case rel => exact ⟨k + 1, by go_num, by omega, HR2.out⟩
        case measure => (simp [intOf] <;> omega)
    · obtain rfl : n = k := by omega
      have hkI : ¬ (n : Int) < (n : Int) := by omega
      have HR2 : Hid (RndO w wr b (RB a2 n l 0)) := hide (RA_RB ▸ HR.out)
      clear HR
      go_upto_block 2 with fail
      go_cut [] (fun W => RndO w W b (stG n 1 9 77 (if a2 = true then 2 else 1) (upC n l) [] 0))
      case first =>
        go_wp2_with fail
        go_loopw [14] (fun i wr => ∃ k : Nat, i = .int .i64 k ∧ k ≤ n ∧ RndO w wr b (RB a2 n l k)) (fun i _ => 8 - (intOf i).toNat)
        case atStart => exact ⟨0, rfl, by omega, HR2.out⟩
        case round =>
          clear HR2 hkI hk
          obtain ⟨k, rfl, hk, hR⟩ := hrel
          have HR := hide hR
          clear hR
          by_cases hgo : k < n ∧ a2 = true
          · obtain ⟨hkn, rfl⟩ := hgo
            have hkI : (k : Int) < (n : Int) := by omega
            by_cases hkl : k = l
            · subst hkl
              have HR2 := hide ((RB_skip (n := n)) ▸ HR.out)
              clear HR
              go_wp2_with fail
              go_roundw
              case rel => exact ⟨k + 1, by go_num, by omega, HR2.out⟩
              case measure => (simp [intOf] <;> omega)
            · have hklI : ¬ (k : Int) = (l : Int) := by omega
              have HS := hide (ron_to HR.out (RB_k HNN.out) (mF k) (mg_rd _ _ rfl rfl rfl) (RB_on HNN.out HLN.out hkn hkl) rfl)
              go_wp2_with fail
              refine (Calls.mono HS.out ?_); rintro e w2 ⟨A, c, N, rfl, hR, _⟩
              have HR2 := hide hR
              clear hR HS HR
              go_wp2_with fail
              go_roundw
              case rel => exact ⟨k + 1, by go_num, by omega, HR2.out⟩
              case measure => (simp [intOf] <;> omega)
          · have hee : k = n ∨ a2 = false := by
              cases a2
              · exact .inr rfl
              · exact .inl (by simp at hgo; omega)
            have HE : Hid (RndO w wr b (stG n 1 9 77 (if a2 = true then 2 else 1) (upC n l) [] 0)) := hide ((RB_end hee) ▸ HR.out)
            clear HR hgo
            by_cases hkn : k < n
            · obtain rfl : a2 = false := by
                rcases hee with h | h
                · exact absurd h (by omega)
                · exact h
              clear hee
              have hkI : (k : Int) < (n : Int) := by omega
              go_wp2_with fail
              go_meet
              exact HE.out
            · clear hee
              have hkI : ¬ (k : Int) < (n : Int) := by omega
              go_wp2_with fail
              go_meet
              exact HE.out
      case rest =>
        have HR3 := hide hcut
        obtain ⟨p, hp, hp2⟩ : ∃ p : Int, (if a2 = true then (2 : Int) else 1) = p ∧ (p = 1 ∨ p = 2) := ⟨_, rfl, by cases a2 <;> simp⟩
        rw [hp] at HR3
        clear hcut hp HR2 hkI hk
        cases a3 with
        | true =>
          have HS := hide (ron_to HR3.out (stG_k ⟨by omega, by omega⟩ hp2 (by simp) (by omega)) (mO l fl) (mg_rd _ _ rfl rfl rfl) (on_eld (by omega) rfl (mO_ok (by omega) hf1) rfl rfl rfl hln).1 (on_eld (by omega) rfl (mO_ok (by omega) hf1) rfl rfl rfl hln).2)
          go_wp2_with fail
          refine (Calls.mono HS.out ?_); rintro e w2 ⟨A, c, N, rfl, hR, _, hN, _⟩
          obtain rfl := told_nil hN
          have HR := hide hR
          clear hN hR HS
          go_wp2_with fail
          refine (Calls.mono (rdone_end HR.out) ?_); rintro e w3 ⟨rfl, hb3⟩
          have HRa := hide (HR.out.below hb3)
          clear hb3 HR
          go_upto_region 20 with fail
          obtain ⟨wa, hwa, hba, hza⟩ := ans_al w3 (.int .u64 9) (.int .i64 0) (.int .i64 0) (.int .u64 0) (.int .i64 0) (.int .i64 21) (.int .u64 fl) (.slice none 0 0)
          rw [hwa]
          have HR := hide (HRa.out.below hba)
          obtain ⟨-, -, -, -, -, x5, x6, -⟩ := ans_at hza (Below.refl wa.heap.size wa)
          clear hwa hba hza HRa
          generalize w3.heap.size = g at *
          have hke := endG_k (n := n) (a := 1) (id := 9) (f := 77) (C := upC n l) (L := []) (tk := 0) (e := 21) (v := fl) ⟨by omega, by omega⟩ (by simp) (by omega)
          have HTK := hide (rtick_to HR.out hke (tick_end rfl).1 (tick_end rfl).2)
          clear hfl
          go_wp2_with fail
          refine (Calls.mono HTK.out ?_); rintro e w4 ⟨A4, c4, N4, rfl, hR, _, hN, _⟩
          obtain rfl := told_nil hN
          have HR4 := hide hR
          clear hN hR HTK HR x5 x6
          have HSD := hide (rsends_to HR4.out hke (send_end rfl true))
          go_wp2_with fail
          refine (Calls.mono HSD.out ?_); rintro e w5 ⟨A5, c5, N5, rfl, hR, _, hN, _⟩
          obtain rfl := told_nil hN
          have HR5 := hide hR
          clear hN hR HSD HR4 hke
          go_wp2_with fail
          refine (Calls.mono (rphase_any HR5.out) ?_); rintro e w6 ⟨rfl, rfl⟩
          rw [show (endG n 1 9 77 (upC n l) [] 0 21 fl).ph = 3 from rfl]
          go_wp2_with fail
          refine (Calls.mono (awake25_any _) ?_); rintro e w7 ⟨rfl, hb7⟩
          have HB7 := hide (below_step HR5.out.low hb7)
          clear hb7
          go_wp2_with fail
          go_ret
          exact ⟨rfl, HB7.out⟩
        | false =>
          rw [← RT_one p n l] at HR3
          have HR1 := HR3
          clear HR3 hfl
          go_wp2_with fail
          go_loopw [18] (fun i wr => ∃ t : Nat, i = .int .i64 t ∧ 1 ≤ t ∧ t ≤ 41 ∧ RndO w wr b (RT p n l t)) (fun i _ => 42 - (intOf i).toNat)
          case atStart => exact ⟨1, rfl, by omega, by omega, HR1.out⟩
          case round =>
            clear HR1
            obtain ⟨t, rfl, ht1, ht41, hR⟩ := hrel
            have HR := hide hR
            have HP := hide hp2
            clear hR hp2
            by_cases ht : t ≤ 40
            · have htI : (t : Int) ≤ 40 := by omega
              have HD := hide (rdone_st ((RT_st (p := p) (n := n) (l := l) ht) ▸ HR.out) (by have := HP.out; omega))
              go_wp2_with fail
              refine (Calls.mono HD.out ?_); rintro e w3 ⟨rfl, hb3⟩
              have HRa := hide (HR.out.below hb3)
              clear hb3 HR HD
              go_upto_region 25 with fail
              obtain ⟨wa, hwa, hba, hza⟩ := ans_al w3 (.int .u64 0) (.int .i64 0) (.int .i64 0) (.int .u64 0) (.int .i64 0) (.int .i64 0) (.int .u64 0) (.slice none 0 0)
              rw [hwa]
              have HR := hide (HRa.out.below hba)
              clear hwa hba hza HRa
              generalize w3.heap.size = g at *
              go_wp2_with fail
              obtain ⟨x, hx, hm⟩ := RT_msgs (p := p) (n := n) (l := l) (t := t) hln HP.out ⟨ht1, ht⟩
              by_cases h3 : t % 3 = 0 ∧ t < 40
              · rw [if_pos h3] at hm
                have HTK := hide (rtick_to HR.out (RT_k HNN.out HP.out ⟨ht1, ht41⟩) (RT_tick HP.out ⟨ht1, ht⟩) hm)
                have h3I : (t : Int) % 3 = 0 := by omega
                have h4I : (t : Int) < 40 := by omega
                clear hm h3
                refine (Calls.mono HTK.out ?_); rintro e w4 ⟨A4, c4, N4, rfl, hR, _, hN, hrow⟩
                obtain ⟨y, rfl, hy⟩ := told_one hN
                obtain ⟨g4, o4, rfl, _, hc4⟩ := hrow.at_ (k := 0) (by simp)
                have hz : w4.cell? ⟨g4, o4 + 2, none⟩ = some (.int .i64 l) := by
                  have h0 := hc4 0 (by simp) 2 _ rfl
                  have hyt : y.t = (l : Int) := by rw [← hx, ← hy]; rfl
                  rw [← hyt]
                  simpa using h0
                have HR4 := hide hR
                clear hN hR HTK HR hrow hc4 hx hy
                go_wp2_with fail
                go_roundw
                case rel => exact ⟨t + 1, by go_num, by omega, by omega, HR4.out⟩
                case measure => (simp [intOf] <;> omega)
              · rw [if_neg h3] at hm
                have HTK := hide (rtick_to HR.out (RT_k HNN.out HP.out ⟨ht1, ht41⟩) (RT_tick HP.out ⟨ht1, ht⟩) hm)
                clear hm
                refine (Calls.mono HTK.out ?_); rintro e w4 ⟨A4, c4, N4, rfl, hR, _, hN, hrow⟩
                obtain rfl := told_nil hN
                have HR4 := hide hR
                clear hN hR HTK HR hrow
                by_cases h30 : t % 3 = 0
                · exfalso
                  omega
                · have h3I : ¬ (t : Int) % 3 = 0 := by omega
                  clear h3 h30
                  go_wp2_with fail
                  go_roundw
                  case rel => exact ⟨t + 1, by go_num, by omega, by omega, HR4.out⟩
                  case measure => (simp [intOf] <;> omega)
            · obtain rfl : t = 41 := by omega
              have htI : ¬ ((41 : Nat) : Int) ≤ 40 := by omega
              have HR2 := hide ((RT_end p n l) ▸ HR.out)
              have hke := endG_k (n := n) (a := 1) (id := 9) (f := 77) (C := upC n l) (L := []) (tk := 40) (e := 20) (v := 77) ⟨by omega, by omega⟩ (by simp) (by omega)
              clear HR ht ht1 ht41
              go_wp2_with fail
              refine (Calls.mono (rdone_end HR2.out) ?_); rintro e w3 ⟨rfl, hb3⟩
              have HRa := hide (HR2.out.below hb3)
              clear hb3 HR2
              go_upto_region 34 with fail
              obtain ⟨wa, hwa, hba, hza⟩ := ans_al w3 (.int .u64 9) (.int .i64 0) (.int .i64 0) (.int .u64 0) (.int .i64 0) (.int .i64 20) (.int .u64 77) (.slice none 0 0)
              rw [hwa]
              have HR := hide (HRa.out.below hba)
              obtain ⟨-, -, -, -, -, x5, x6, -⟩ := ans_at hza (Below.refl wa.heap.size wa)
              clear hwa hba hza HRa
              generalize w3.heap.size = g at *
              go_wp2_with fail
              refine (Calls.mono (rphase_any HR.out) ?_); rintro e w6 ⟨rfl, rfl⟩
              rw [show (endG n 1 9 77 (upC n l) [] 40 20 77).ph = 3 from rfl]
              have HSD := hide (rsends_to HR.out hke (send_end rfl true))
              go_wp2_with fail
              refine (Calls.mono HSD.out ?_); rintro e w5 ⟨A5, c5, N5, rfl, hR, _, hN, _⟩
              obtain rfl := told_nil hN
              have HR5 := hide hR
              clear hN hR HSD HR hke x5 x6
              go_wp2_with fail
              refine (Calls.mono (awake25_any _) ?_); rintro e w7 ⟨rfl, hb7⟩
              have HB7 := hide (below_step HR5.out.low hb7)
              clear hb7
              go_wp2_with fail
              go_ret
              exact ⟨rfl, HB7.out⟩
end Go.Proofs.Ytikecafblampeaa.roundEnds
