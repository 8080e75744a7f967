/- The walk of clepsydralaw25.RoundAsks: it returns true. Conditions: the arguments are numbers. -/
import Derived.Test.YtikecafblampeaaRoundAsksP
namespace Go.Proofs.Ytikecafblampeaa.roundAsks
set_option linter.unusedVariables false
set_option linter.unusedSimpArgs false
open Go.ChangeShapes Go.WideShapes Go.ChangeAt Go.RowKit
set_option maxRecDepth 100000 in
set_option maxHeartbeats 6400000 in
theorem walk {w : World} (a0 : Int) (w0 : (Lit.int .i64 a0).wf = true) (a1 : Int) (w1 : (Lit.int .u64 a1).wf = true) (a2 : Bool) :
    Calls Try.prog 5 #[.int .i64 a0, .int .u64 a1, .bool a2] w fun e w' => e = .returned (.bool true) ∧ Below w.heap.size w w' := by
  have b1 := bounds_u64 w1
  obtain ⟨q, hq, hq2⟩ : ∃ q : Nat, bits .and .i64 a0 255 = (q : Int) ∧ q ≤ 255 := ⟨(a0 % 256).toNat, by rw [and_mask_i64 a0 8 255 (by omega) (by decide)]; omega, by omega⟩
  obtain ⟨n, hn, hn1, hn2⟩ : ∃ n : Nat, (q : Int) % 6 + 2 = (n : Int) ∧ 2 ≤ n ∧ n ≤ 7 := ⟨q % 6 + 2, by omega, by omega, by omega⟩
  have hwn : IntKind.i64.wrap ((q : Int) % 6 + 2) = (n : Int) := by rw [IntKind.wrap_i64]; omega
  have hn0 : (0 : Int) ≤ (n : Int) := by omega
  have hn64 : (n : Int) ≤ 64 := by omega
  obtain ⟨M, hM, hM2, hMu⟩ : ∃ M : Nat, M = 2 ^ n - 1 ∧ (3 ≤ M ∧ M ≤ 127) ∧ (2 : Int) ^ n = (M : Int) + 1 := by
    rcases (by omega : n = 2 ∨ n = 3 ∨ n = 4 ∨ n = 5 ∨ n = 6 ∨ n = 7) with rfl | rfl | rfl | rfl | rfl | rfl <;> exact ⟨_, rfl, by decide, by decide⟩
  have hs1 : IntKind.u64.wrap (2 ^ n) = (M : Int) + 1 := by rw [hMu, IntKind.wrap_u64]; omega
  have hs2 : IntKind.u64.wrap (1 * 2 ^ n) = (M : Int) + 1 := by rw [Int.one_mul, hMu, IntKind.wrap_u64]; omega
  have hs3 : IntKind.u64.wrap ((M : Int) + 1 - 1) = (M : Int) := by rw [IntKind.wrap_u64]; omega
  have hs4 : IntKind.u64.wrap (M : Int) = (M : Int) := by rw [IntKind.wrap_u64]; omega
  have hs5 : (M : Int) + 1 - 1 = (M : Int) := by omega
  obtain ⟨x, hx, hx2⟩ : ∃ x : Nat, bits .and .u64 a1 (M : Int) = (x : Int) ∧ x ≤ M := by
    have h := and_mask a1 n (M : Int) (by omega) (by omega) b1.1 (by omega)
    rw [hMu] at h
    have h2 := Int.emod_nonneg a1 (b := (M : Int) + 1) (by omega)
    have h3 := Int.emod_lt_of_pos a1 (b := (M : Int) + 1) (by omega)
    exact ⟨(a1 % ((M : Int) + 1)).toNat, by omega, by omega⟩
  obtain ⟨y, hy, hy2⟩ : ∃ y : Nat, (if x = M then 1 else x) = y ∧ y < M := ⟨_, rfl, by split <;> omega⟩
  have HY := hide (some_lacks (y := y) (n := n) (by omega))
  have hy256 : y < 256 := by omega
  have HNG := hide (fun W => rnew_good (n : Int) 0 9 77 W (by unfold nodesB; exact decide_eq_true (by omega)) (by omega) (by omega))
  have HNN := hide (show 2 ≤ n ∧ n ≤ 7 from ⟨hn1, hn2⟩)
  have HXY := hide hy
  clear w0 w1 b1 hn hM hMu hy hy2
  go_enter Try.func5, Try.ntmps5
  go_upto_if 29 with fail
  go_cut [1] (fun v W => v = .int .u64 (y : Int) ∧ w = W)
  case first =>
    by_cases hxM : x = M
    · have hxI : (x : Int) = (M : Int) := by omega
      have hyy : (1 : Int) = (y : Int) := by have := HXY.out; rw [if_pos hxM] at this; omega
      have HYY := hide hyy
      subst hxM
      clear hxI hyy
      go_wp2_with fail
      go_meet
      exact ⟨by rw [← HYY.out], rfl⟩
    · have hxI : ¬ (x : Int) = (M : Int) := by omega
      have hyy : x = y := by have := HXY.out; rw [if_neg hxM] at this; omega
      subst hyy
      clear HXY hxM
      go_wp2_with fail
      go_meet
      exact ⟨rfl, rfl⟩
  case rest =>
    obtain ⟨rfl, rfl⟩ := hcut
    clear HXY hx hs1 hs2 hs3 hs4 hs5 hx2 hM2
    go_wp2_with fail
    refine (Calls.mono (HNG.out _) ?_); rintro e w1 ⟨b, rfl, hR⟩
    rw [rs0_stG] at hR
    have HR := hide hR
    clear hR HNG hq hwn
    obtain ⟨p, hp, hp2⟩ : ∃ p : Int, (if a2 = true then (2 : Int) else 1) = p ∧ (p = 1 ∨ p = 2) := ⟨_, rfl, by cases a2 <;> simp⟩
    have HP := hide hp2
    have HPE := hide hp
    obtain ⟨kd, hkd⟩ : ∃ kd : Int, (if p = 2 then (9 : Int) else 7) = kd := ⟨_, rfl⟩
    obtain ⟨wt, hwt⟩ : ∃ wt : Int, (if p = 2 then (8 : Int) else 6) = wt := ⟨_, rfl⟩
    have HKD := hide hkd
    have HWT := hide hwt
    clear hp hp2 hkd hwt
    go_upto_if 41 with fail
    go_cut [9, 10] (fun v u W => v = .int .i64 kd ∧ u = .int .i64 wt ∧ RndO w W b (stG n 0 9 77 p (fun _ => false) [] 0))
    case first =>
      cases a2 with
      | false =>
        obtain rfl : (1 : Int) = p := HPE.out
        obtain rfl : (7 : Int) = kd := HKD.out
        obtain rfl : (6 : Int) = wt := HWT.out
        go_wp2_with fail
        go_meet
        exact ⟨rfl, rfl, HR.out⟩
      | true =>
        obtain rfl : (2 : Int) = p := HPE.out
        obtain rfl : (9 : Int) = kd := HKD.out
        obtain rfl : (8 : Int) = wt := HWT.out
        rw [← SA_zero (by omega)] at HR
        go_wp2_with fail
        go_loopw [11] (fun i wr => ∃ k : Nat, i = .int .i64 k ∧ k ≤ n ∧ RndO w wr b (SA n k)) (fun i _ => 8 - (intOf i).toNat)
        case atStart => exact ⟨0, rfl, by omega, HR.out⟩
        case round =>
          clear HR
          obtain ⟨k, rfl, hk, hR⟩ := hrel
          have HR := hide hR
          clear hR
          by_cases hkn : k < n
          · have hkI : (k : Int) < (n : Int) := by omega
            have HS := hide (ron_to HR.out (SA_k HNN.out) (mK 7 k) (mg0_rd _ _ rfl rfl rfl) (SA_on HNN.out hkn) rfl)
            go_wp2_with fail
            refine (Calls.mono HS.out ?_); rintro e w2 ⟨A, c, N, rfl, hR, _⟩
            have HR2 := hide hR
            clear hR HS HR
            go_wp2_with fail
            go_roundw
            case rel => exact ⟨k + 1, by go_num, by omega, HR2.out⟩
            case measure => (simp [intOf] <;> omega)
          · obtain rfl : n = k := by omega
            have hkI : ¬ (n : Int) < (n : Int) := by omega
            rw [SA_end] at HR
            go_wp2_with fail
            go_meet
            exact ⟨rfl, rfl, HR.out⟩
    case rest =>
      obtain ⟨rfl, rfl, hR⟩ := hcut
      rw [← dnC_zero y] at hR
      have HR := hide hR
      clear hR HPE
      go_upto_block 2 with fail
      go_cut [12] (fun v W => v = .int .i64 (leftN y n : Nat) ∧ RndO w W b (stG n 0 9 77 p (dnC y n) [] 0))
      case first =>
        go_wp2_with fail
        go_loopw [12, 13] (fun lf i wr => ∃ k : Nat, i = .int .i64 k ∧ lf = .int .i64 (leftN y k : Nat) ∧ k ≤ n ∧ RndO w wr b (stG n 0 9 77 p (dnC y k) [] 0)) (fun _ i _ => 8 - (intOf i).toNat)
        case atStart => exact ⟨0, rfl, rfl, by omega, HR.out⟩
        case round =>
          clear HR
          obtain ⟨k, rfl, rfl, hk, hR⟩ := hrel
          have HR := hide hR
          clear hR
          by_cases hkn : k < n
          · have hkI : (k : Int) < (n : Int) := by omega
            have hk0 : (0 : Int) ≤ (k : Int) := by omega
            have hk64 : (k : Int) ≤ 64 := by omega
            have hbt := bit_of y k hy256
            obtain ⟨lk, hlk, hlk2⟩ : ∃ lk : Nat, leftN y k = lk ∧ lk ≤ 7 := ⟨_, rfl, by have := leftN_le y k; omega⟩
            have HLK := hide hlk
            rw [hlk]
            clear hlk
            by_cases hb : y.testBit k = true
            · have e1 := dn_on HNN.out HP.out HY.out hkn hb
              rw [HKD.out] at e1
              have HS := hide (ron_to HR.out (stG_k ⟨by omega, by omega⟩ HP.out (by simp) (by omega)) (mK kd k) (mg0_rd _ _ rfl rfl rfl) e1 rfl)
              have HB := hide hb
              rw [if_pos hb] at hbt
              clear hb HR e1
              go_wp2_with fail
              refine (Calls.mono HS.out ?_); rintro e w2 ⟨A, c, N, rfl, hR, _⟩
              have HR2 := hide hR
              clear hR HS hbt
              go_wp2_with fail
              go_roundw
              case rel => exact ⟨k + 1, by go_num, by rw [leftN_yes HB.out, HLK.out], by omega, HR2.out⟩
              case measure => (simp [intOf] <;> omega)
            · rw [if_neg hb] at hbt
              have hb2 : y.testBit k = false := by simpa using hb
              have HB := hide hb2
              rw [← dnC_skip hb2] at HR
              clear hb hb2
              go_wp2_with fail
              go_roundw
              case rel => exact ⟨k + 1, by go_num, by rw [leftN_no HB.out, HLK.out]; go_num, by omega, HR.out⟩
              case measure => (simp [intOf] <;> omega)
          · obtain rfl : n = k := by omega
            have hkI : ¬ (n : Int) < (n : Int) := by omega
            go_wp2_with fail
            go_meet
            exact ⟨rfl, HR.out⟩
      case rest =>
        obtain ⟨rfl, hR⟩ := hcut
        have HR0 := hide hR
        clear hR HR
        obtain ⟨lk, hlk, hlk2⟩ : ∃ lk : Nat, leftN y n = lk ∧ lk ≤ 7 := ⟨_, rfl, by have := leftN_le y n; omega⟩
        have HLK := hide hlk
        rw [hlk]
        clear hlk
        have HT1 := hide (rtick_to HR0.out (stG_k ⟨by omega, by omega⟩ HP.out (by simp) (by omega)) (dn_t1 HP.out).1 (dn_t1 HP.out).2)
        go_wp2_with fail
        refine (Calls.mono HT1.out ?_); rintro e w2 ⟨A, c, N, rfl, hR, _, hN, _⟩
        obtain rfl := told_nil hN
        have HR1 := hide hR
        clear hR hN HT1 HR0
        have HT2 := hide (rtick_to HR1.out (stG_k ⟨by omega, by omega⟩ HP.out (by simp) (by omega)) (dn_t2 HP.out).1 (dn_t2 HP.out).2)
        go_wp2_with fail
        refine (Calls.mono HT2.out ?_); rintro e w3 ⟨A3, c3, N3, rfl, hR, _, hN, _⟩
        obtain rfl := told_nil hN
        have HR2 := hide hR
        clear hR hN HT2 HR1
        have HT3 := hide (rtick_to HR2.out (stG_k ⟨by omega, by omega⟩ HP.out (by simp) (by omega)) (dn_t3 HP.out).1 (dn_t3 HP.out).2)
        go_wp2_with fail
        refine (Calls.mono HT3.out ?_); rintro e w4 ⟨A4, c4, N4, rfl, hR, _, hN, hrow⟩
        have HR3 := hide hR
        have HN := hide hN
        have HROW := hide hrow
        have hlen : N4.length = lk := by
          have h := congrArg List.length hN
          rw [List.length_map, asks_len, HLK.out] at h
          exact h
        have HLN := hide hlen
        rw [hlen]
        clear hR hN hrow HT3 HR2 hlen
        obtain ⟨MS, hMS, hMS2⟩ := dn_all (y := y) (n := n) hn1 HP.out
        have HSD := hide (rsends_b HR3.out (stG_k ⟨by omega, by omega⟩ HP.out (by simp) (by omega)) hMS)
        clear hMS
        go_wp2_with fail
        refine (Calls.mono HSD.out ?_); rintro e w5 ⟨⟨A5, c5, N5, rfl, hR, _, hN, _⟩, hb5⟩
        obtain ⟨s5, hs5, hs6⟩ : ∃ s5 : Nat, N5.length = s5 ∧ 2 ≤ s5 := ⟨_, rfl, by rw [← hN, List.length_map] at hMS2; exact hMS2⟩
        rw [hs5]
        have hs7 : ¬ (s5 : Int) = 0 := by omega
        have HLOW := hide hR.low
        have HC : Hid (∀ k : Nat, k < lk → ∃ g off j, A4 = some ⟨g, off, none⟩ ∧ j < n ∧ y.testBit j = false ∧ w5.cell? ⟨g, off + k * 6, none⟩ = some (.int .i64 wt) ∧ w5.cell? ⟨g, off + k * 6 + 1, none⟩ = some (.int .i64 0) ∧ w5.cell? ⟨g, off + k * 6 + 2, none⟩ = some (.int .i64 (j : Nat)) ∧
            w5.cell? ⟨g, off + k * 6 + 3, none⟩ = some (.int .u64 9) ∧ w5.cell? ⟨g, off + k * 6 + 4, none⟩ = some (.int .u64 77)) := hide (by
          intro k hk
          have hk2 : k < N4.length := by rw [HLN.out]; exact hk
          obtain ⟨g, off, e, _, c0, c1, c2, c3, c4, _⟩ := msg_row HROW.out hb5 hk2
          obtain ⟨j, hj, hjb, e0, e1, e2, e3, e4⟩ := asks_at HN.out hk2
          rw [e0, HWT.out] at c0
          rw [e1] at c1
          rw [e2] at c2
          rw [e3] at c3
          rw [e4] at c4
          exact ⟨g, off, j, e, hj, hjb, c0, c1, c2, c3, c4⟩)
        clear hR hN HSD hMS2 hs5 hb5 HR3 HROW HN
        go_wp2_with fail
        go_loopw [15] (fun i wr => ∃ k : Nat, i = .int .i64 k ∧ k ≤ lk ∧ w5 = wr) (fun i _ => 8 - (intOf i).toNat)
        case atStart => exact ⟨0, rfl, by omega, rfl⟩
        case round =>
          obtain ⟨k, rfl, hk, rfl⟩ := hrel
          by_cases hkn : k < lk
          · have hkI : (k : Int) < (lk : Int) := by omega
            have hk0 : (0 : Int) ≤ (k : Int) := by omega
            obtain ⟨g, off, j, rfl, hj, hjb, c0, c1, c2, c3, c4⟩ := HC.out k hkn
            have hj0 : (0 : Int) ≤ (j : Int) := by omega
            have hj64 : (j : Int) ≤ 64 := by omega
            have hbt := bit_of y j hy256
            rw [if_neg (by simp [hjb])] at hbt
            clear hjb
            go_wp2_with fail
            go_roundw
            case rel => exact ⟨k + 1, by go_num, by omega, trivial⟩
            case measure => (simp [intOf] <;> omega)
          · obtain rfl : lk = k := by omega
            have hkI : ¬ (lk : Int) < (lk : Int) := by omega
            go_wp2_with fail
            refine (Calls.mono (awake25_any _) ?_); rintro e w7 ⟨rfl, hb7⟩
            have HB7 := hide (below_step HLOW.out hb7)
            clear hb7
            go_wp2_with fail
            go_ret
            exact ⟨rfl, HB7.out⟩
end Go.Proofs.Ytikecafblampeaa.roundAsks
