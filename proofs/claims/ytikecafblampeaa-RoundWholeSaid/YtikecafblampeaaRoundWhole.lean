/- The walk of clepsydralaw25.RoundWhole: it returns true. Conditions: the arguments are readable. -/
import Derived.Test.YtikecafblampeaaRoundWholeP
namespace Go.Proofs.Ytikecafblampeaa.roundWhole
set_option linter.unusedVariables false
set_option linter.unusedSimpArgs false
open Go.ChangeShapes Go.WideShapes Go.ChangeAt Go.RowKit
set_option maxRecDepth 100000 in
set_option maxHeartbeats 6400000 in
theorem walk {w : World} (a0 : Int) (w0 : (Lit.int .i64 a0).wf = true) (A0 : Option Addr) (c0 : Nat) (L0 : List (Sv It)) (lc0 : L0.length ≤ c0) (cm0 : c0 ≤ maxLen) (r0 : RowAt (fun s => [s.val]) 1 w A0 L0) (w1 : ∀ s ∈ L0, Sv.good It.cells 5 It.wf w s)
    (a2 : Int) (w2 : (Lit.int .i64 a2).wf = true) :
    Calls Try.prog 4 #[.int .i64 a0, .slice A0 L0.length c0, .int .i64 a2] w fun e w' => e = .returned (.bool true) ∧ Below w.heap.size w w' := by
  have R0 := hide r0
  have W0 := hide w1
  obtain ⟨q, hq, hq2⟩ : ∃ q : Nat, bits .and .i64 a0 255 = (q : Int) ∧ q ≤ 255 := ⟨(a0 % 256).toNat, by rw [and_mask_i64 a0 8 255 (by omega) (by decide)]; omega, by omega⟩
  obtain ⟨n, hn, hn1, hn2⟩ : ∃ n : Nat, (q : Int) % 7 + 1 = (n : Int) ∧ 1 ≤ n ∧ n ≤ 7 := ⟨q % 7 + 1, by omega, by omega, by omega⟩
  have hwn : IntKind.i64.wrap ((q : Int) % 7 + 1) = (n : Int) := by rw [IntKind.wrap_i64]; omega
  obtain ⟨t, ht, ht2⟩ : ∃ t : Nat, bits .and .i64 a2 255 = (t : Int) ∧ t ≤ 255 := ⟨(a2 % 256).toNat, by rw [and_mask_i64 a2 8 255 (by omega) (by decide)]; omega, by omega⟩
  obtain ⟨s, hs, hs2⟩ : ∃ s : Nat, t % n = s ∧ s < n := ⟨_, rfl, Nat.mod_lt _ (by omega)⟩
  have HNN := hide (show 1 ≤ n ∧ n ≤ 7 from ⟨hn1, hn2⟩)
  have HTS : Hid (∀ i, i < n → ((i : Int) + (t : Int)) % (n : Int) = ((rot n s i : Nat) : Int)) := hide (fun i hi => by
    have h := rot_eq (n := n) t hi
    rw [hs] at h
    exact_mod_cast h)
  have hn0 : (n : Int) ≠ 0 := by omega
  have HNG := hide (fun W => rnew_good (n : Int) 0 9 140737488355328 W (by unfold nodesB; exact decide_eq_true (by omega)) (by omega) (by omega))
  clear r0 w0 w1 w2 lc0 cm0 hs hn
  obtain ⟨E, hE⟩ : ∃ E, effE L0 = E := ⟨_, rfl⟩
  have HE := hide hE
  have HEL : Hid (∀ j, (E j).length ≤ 1000) := hide (by rw [← hE]; exact effE_len L0)
  have HEG : Hid (∀ j, (E j).all goodB = true) := hide (by rw [← hE]; exact effE_good L0)
  have HJ : Hid (∀ i, i ≤ n → (JL E n s i).length ≤ 7000) := hide (fun i hi => by have := JL_len HEL.out n s i; omega)
  clear hE
  go_enter Try.func4, Try.ntmps4
  go_wp2_with fail
  refine (Calls.mono (HNG.out _) ?_); rintro e wn ⟨b, rfl, hR⟩
  have hR : RndO w wn b (RS E n 0 140737488355328 s 0) := by rw [RS_zero hs2]; rw [rs0_stG] at hR; exact hR
  have HR := hide hR
  clear hR HNG hq hwn
  go_wp2_with fail
  go_loopw [9, 10] (fun av iv wr => ∃ i : Nat, iv = .int .i64 i ∧ i ≤ n ∧ RndO w wr b (RS E n 0 140737488355328 s i) ∧ Sl wr av (JL E n s i) ∧ av.ownBlock ≠ some b) (fun _ iv _ => 8 - (intOf iv).toNat)
  case atStart => exact ⟨0, rfl, by omega, HR.out, Sl.nil_ _, by simp [Value.ownBlock]⟩
  case round =>
    clear HR
    obtain ⟨i, rfl, hi, hR, hA, hAb⟩ := hrel
    have HRi := hide hR
    have HA := hide hA
    have HAB := hide hAb
    clear hR hA hAb
    obtain ⟨wi, rfl⟩ : ∃ wi, wi = wr := ⟨_, rfl⟩
    by_cases hin : i < n
    · have hiI : (i : Int) < (n : Int) := by omega
      have hwi : IntKind.i64.wrap ((i : Int) + (t : Int)) = (i : Int) + (t : Int) := by rw [IntKind.wrap_i64]; omega
      have hw0 : (0 : Int) ≤ (i : Int) + (t : Int) := by omega
      obtain ⟨fr, hfr, hfrn⟩ : ∃ fr, rot n s i = fr ∧ fr < n := ⟨_, rfl, rot_lt hs2 hin⟩
      have HFR := hide hfr
      have hfe := HTS.out i hin
      rw [hfr] at hfe
      clear hfr
      go_upto_region 11 with fail
      try rw [hfe]
      clear hwi hw0 hfe
      obtain ⟨wm, hwm⟩ : ∃ wm, wi.alloc (.cells #[.int .i64 7, .int .i64 fr, .int .i64 0, .int .u64 9, .int .u64 140737488355328, .slice none 0 0] 30) = wm := ⟨_, rfl⟩
      have hbm : Below wi.heap.size wi wm := by rw [← hwm]; exact below_alloc (Below.refl _ _) _
      have hzm : wm.heap[wi.heap.size]? = some (.cells #[.int .i64 7, .int .i64 fr, .int .i64 0, .int .u64 9, .int .u64 140737488355328, .slice none 0 0] 30 (0, 0)) := by rw [← hwm]; exact heap_alloc_new wi _
      rw [hwm]
      obtain ⟨g, hg⟩ : ∃ g, wi.heap.size = g := ⟨_, rfl⟩
      rw [hg] at hzm ⊢
      have HGLE := hide (show wi.heap.size ≤ g by omega)
      have HM := hide hzm
      have HBM := hide hbm
      have HWM := hide (below_step HRi.out.low hbm)
      have hgb : g ≠ b := by have := HRi.out.lt; omega
      clear hwm hbm hzm hg
      obtain ⟨B, L1, hBL⟩ : ∃ (B : Bool) (L1 : List It), (B = true → ∃ h : fr < L0.length, L1 = (L0[fr]'h).L) ∧ (B = decide (∃ h : fr < L0.length, (L0[fr]'h).L.length ≤ 40)) ∧ (B = false → L1 = []) ∧ L1.length ≤ 40 ∧ E fr = if L1.all goodB = true then L1 else [] := by
        by_cases h : ∃ h : fr < L0.length, (L0[fr]'h).L.length ≤ 40
        · obtain ⟨h1, h2⟩ := h
          refine ⟨true, (L0[fr]'h1).L, fun _ => ⟨h1, rfl⟩, (decide_eq_true ⟨h1, h2⟩).symm, (fun h => by cases h), h2, ?_⟩
          rw [← HE.out]
          unfold effE effL
          rw [dif_pos h1]
          by_cases hg : (L0[fr]'h1).L.all goodB = true
          · rw [if_pos ⟨h2, hg⟩, if_pos hg]
          · rw [if_neg (fun h => hg h.2), if_neg hg]
        · refine ⟨false, [], (fun h => by cases h), (decide_eq_false h).symm, fun _ => rfl, by simp, ?_⟩
          rw [← HE.out]
          unfold effE effL
          by_cases h1 : fr < L0.length
          · rw [dif_pos h1, if_neg (fun hx => h ⟨h1, hx.1⟩)]; simp
          · rw [dif_neg h1]; simp
      obtain ⟨hB1, hB2, hB3, hB4, hB5⟩ := hBL
      have HB1 := hide hB1
      have HB3 := hide hB3
      have HB5 := hide hB5
      have HB4 := hide hB4
      have hfr0 : (0 : Int) ≤ (fr : Int) := by omega
      clear hB1 hB3 hB5 hB4
      have HRD : Hid (∀ h : fr < L0.length, ∃ b0 off, A0 = some ⟨b0, off, none⟩ ∧ (∀ V : World, Below w.heap.size w V → V.cell? ⟨b0, off + fr, none⟩ = some (.slice (L0[fr]'h).A (L0[fr]'h).L.length (L0[fr]'h).c)) ∧ ItemsAt w (L0[fr]'h).A (L0[fr]'h).L ∧ (L0[fr]'h).L.length ≤ (L0[fr]'h).c ∧ (L0[fr]'h).c ≤ maxLen) := hide (fun h => by
        obtain ⟨b0, off, e, hbb, hcr⟩ := R0.out.at_ h
        have hgood := W0.out (L0[fr]'h) (List.getElem_mem h)
        have hc0 : w.cell? ⟨b0, off + fr, none⟩ = some (L0[fr]'h).val := by simpa using hcr fr h 0 _ rfl
        exact ⟨b0, off, e, fun V hV => (hV.cell (p := ⟨b0, _, none⟩) hbb).trans hc0, hgood.row, hgood.lc, hgood.cm⟩)
      go_cut [61] (fun v W => v = .bool B ∧ wm = W)
      case first =>
        by_cases hlt : fr < L0.length
        · have hltI : (fr : Int) < (L0.length : Int) := by omega
          obtain ⟨b0, off, rfl, hc, _⟩ := HRD.out hlt
          have hcw := hc _ HWM.out
          clear hc HRD HB1 R0 W0
          by_cases h40 : (L0[fr]'hlt).L.length ≤ 40
          · have hBt : B = true := by rw [hB2]; exact decide_eq_true ⟨hlt, h40⟩
            clear hB2
            generalize (L0[fr]'hlt) = sv at *
            obtain ⟨Ai, ci, Li⟩ := sv
            simp only at hcw h40
            have h40I : (Li.length : Int) ≤ 40 := by omega
            subst hBt
            go_wp2_with fail
            go_meet
            exact ⟨rfl, rfl⟩
          · have hBt : B = false := by rw [hB2]; exact decide_eq_false (fun ⟨_, h⟩ => h40 h)
            clear hB2
            generalize (L0[fr]'hlt) = sv at *
            obtain ⟨Ai, ci, Li⟩ := sv
            simp only at hcw h40
            have h40I : ¬ (Li.length : Int) ≤ 40 := by omega
            subst hBt
            go_wp2_with fail
            go_meet
            exact ⟨rfl, rfl⟩
        · have hltI : ¬ (fr : Int) < (L0.length : Int) := by omega
          have hBt : B = false := by rw [hB2]; exact decide_eq_false (fun ⟨h, _⟩ => hlt h)
          clear hB2
          subst hBt
          go_wp2_with fail
          go_meet
          exact ⟨rfl, rfl⟩
      case rest =>
        obtain ⟨rfl, rfl⟩ := hcut
        clear hB2
        go_upto_if 61 with fail
        go_cut [] (fun W => ∃ A c, W.heap[g]? = some (.cells #[.int .i64 7, .int .i64 fr, .int .i64 0, .int .u64 9, .int .u64 140737488355328, .slice A L1.length c] 30 (0, 0)) ∧ (mW 7 fr A c L1).rd w ∧ Below wi.heap.size wi W)
        case first =>
          cases B with
          | false =>
            have h1 := HB3.out rfl
            subst h1
            clear HB1 HB3 HRD
            go_wp2_with fail
            go_meet
            exact ⟨none, 0, HM.out, ⟨RowAt.nil_, by simp, by simp [maxLen]⟩, HBM.out⟩
          | true =>
            obtain ⟨hlt, hL1⟩ := HB1.out rfl
            have hltI : (fr : Int) < (L0.length : Int) := by omega
            obtain ⟨b0, off, rfl, hc, hia, hlc, hcm⟩ := HRD.out hlt
            have hcw := hc _ HWM.out
            clear hc HRD HB1 R0 W0 HB3
            generalize (L0[fr]'hlt) = sv at *
            obtain ⟨Ai, ci, Li⟩ := sv
            simp only at hcw hL1 hia hlc hcm
            subst hL1
            have HPO := hide (show (mW 7 fr Ai ci L1).rd w from ⟨hia, hlc, hcm⟩)
            have hst : Sets (fun c => c = g) wm (wm.setCell ⟨g, 5, none⟩ (.slice Ai L1.length ci)) := (Sets.refl (S := fun c => c = g) wm).set (g := g) (fun _ => rfl) 5 _
            have HBS := hide (Sets.below HBM.out hst (fun c hc => by rw [hc]; exact HGLE.out) HBM.out.size)
            have hMW : (wm.setCell ⟨g, 5, none⟩ (.slice Ai L1.length ci)).heap[g]? = some (.cells #[.int .i64 7, .int .i64 fr, .int .i64 0, .int .u64 9, .int .u64 140737488355328, .slice Ai L1.length ci] 30 (0, 0)) := by
              simp [World.setCell, Array.getElem?_modify, HM.out]
            have HMW := hide hMW
            obtain ⟨y0, y1, y2, y3, y4, y5⟩ := six_cells HM.out
            have hfz : ∀ o, wm.frozen? ⟨g, o, none⟩ = false := fun o => by simp [World.frozen?, HM.out]
            clear hst hMW hia hlc hcm
            generalize L1.length = l1 at *
            go_wp2_with fail
            go_meet
            exact ⟨Ai, ci, HMW.out, HPO.out, HBS.out⟩
        case rest =>
          obtain ⟨A1, c1, hM1, hPO, hB1⟩ := hcut
          clear HM HBM HWM HB1 HB3 HRD
          have HM := hide hM1
          have HPO := hide hPO
          have HBM := hide hB1
          have HWM := hide (below_step HRi.out.low hB1)
          clear hM1 hPO hB1
          have HMOK : Hid (∀ W : World, Below w.heap.size w W → Calls Try.prog 16 #[.agg #[.int .i64 7, .int .i64 fr, .int .i64 0, .int .u64 9, .int .u64 140737488355328, .slice A1 L1.length c1]] W fun e w' => e = .returned (.bool (L1.all goodB)) ∧ Below W.heap.size W w') := hide (fun W hW => by
            have h := rmok_any (mW 7 fr A1 c1 L1) W (HPO.out.1.below hW)
            rw [mW_ok (by omega) (by have := HB4.out; omega)] at h
            exact h)
          obtain ⟨x0, x1, x2, x3, x4, x5⟩ := six_cells HM.out
          obtain ⟨l1, hl1⟩ : ∃ l1, L1.length = l1 := ⟨_, rfl⟩
          have HL1 := hide hl1
          rw [hl1] at x5 HM HMOK
          obtain ⟨G, hG⟩ : ∃ G, L1.all goodB = G := ⟨_, rfl⟩
          have HG := hide hG
          rw [hG] at HMOK
          clear hl1 hG
          go_wp2_with fail
          refine (Calls.mono (HMOK.out _ HWM.out) ?_); rintro e w3 ⟨rfl, hb3⟩
          have HM3 := hide ((hb3.block g (Array.getElem?_eq_some_iff.1 HM.out).1).trans HM.out)
          have HBM3 := hide (below_step HBM.out hb3)
          clear hb3 HMOK HM HBM HWM x0 x1 x2 x3 x4 x5
          go_upto_if 69 with fail
          go_cut [] (fun W => ∃ A c, W.heap[g]? = some (.cells #[.int .i64 7, .int .i64 fr, .int .i64 0, .int .u64 9, .int .u64 140737488355328, .slice A (E fr).length c] 30 (0, 0)) ∧ (mW 7 fr A c (E fr)).rd w ∧ Below wi.heap.size wi W)
          case first =>
            cases G with
            | true =>
              have he : E fr = L1 := by rw [HB5.out, if_pos HG.out]
              have HE1 := hide he
              clear he
              go_wp2_with fail
              go_meet
              exact ⟨A1, c1, by rw [HE1.out, HL1.out]; exact HM3.out, by rw [HE1.out]; exact HPO.out, HBM3.out⟩
            | false =>
              have he : E fr = [] := by rw [HB5.out, if_neg (by rw [HG.out]; simp)]
              have HE1 := hide he
              have hst : Sets (fun c => c = g) w3 (w3.setCell ⟨g, 5, none⟩ (.slice none 0 0)) := (Sets.refl (S := fun c => c = g) w3).set (g := g) (fun _ => rfl) 5 _
              have HBS := hide (Sets.below HBM3.out hst (fun c hc => by rw [hc]; exact HGLE.out) HBM3.out.size)
              have hMW : (w3.setCell ⟨g, 5, none⟩ (.slice none 0 0)).heap[g]? = some (.cells #[.int .i64 7, .int .i64 fr, .int .i64 0, .int .u64 9, .int .u64 140737488355328, .slice none 0 0] 30 (0, 0)) := by
                simp [World.setCell, Array.getElem?_modify, HM3.out]
              have HMW := hide hMW
              obtain ⟨y0, y1, y2, y3, y4, y5⟩ := six_cells HM3.out
              have hfz : ∀ o, w3.frozen? ⟨g, o, none⟩ = false := fun o => by simp [World.frozen?, HM3.out]
              clear hst hMW he
              go_wp2_with fail
              go_meet
              exact ⟨none, 0, by rw [HE1.out]; exact HMW.out, by rw [HE1.out]; exact ⟨RowAt.nil_, by simp, by simp [maxLen]⟩, HBS.out⟩
          case rest =>
            obtain ⟨A2, c2, hM1, hPO, hB1⟩ := hcut
            clear HM3 HBM3 HPO HL1 HG HB5 HB4
            have HM := hide hM1
            have HPO := hide hPO
            have HBM := hide hB1
            have HRm := hide (HRi.out.below hB1)
            have HAm := hide (HA.out.below hB1)
            clear hM1 hPO hB1
            obtain ⟨x0, x1, x2, x3, x4, x5⟩ := six_cells HM.out
            have HSL := hide (Sl.mk_ (HPO.out.1.below HRm.out.low) HPO.out.2.1 HPO.out.2.2)
            have hel : (E fr).length ≤ 274877906944 := by have := HEL.out fr; omega
            have hjl : (JL E n s i).length ≤ 274877906944 := by have := HJ.out i (by omega); omega
            have HJN := hide (rjoin_al HAm.out HSL.out hjl hel)
            have hje : joinL (JL E n s i) (E fr) = JL E n s (i + 1) := by rw [← HFR.out]; rfl
            rw [hje] at HJN
            have HON := hide (RS_on (E := E) (n := n) (s := s) (i := i) (a := 0) (f := 140737488355328) (m := mW 7 fr A2 c2 (E fr)) hs2 hin rfl (by rw [mW_ok (by omega) (HEL.out _)]; exact HEG.out fr) rfl rfl rfl (by rw [HFR.out]) (by rw [HFR.out]))
            have HTW := hide (RS_twice (E := E) (n := n) (s := s) (i := i) (a := 0) (f := 140737488355328) (m := mW 7 fr A2 c2 (E fr)) hs2 hin rfl (by rw [HFR.out]))
            have HOS := hide (fun (W : World) (h : RndO w W b (RS E n 0 140737488355328 s i)) => ron_s h (RS_k HNN.out HEL.out (by omega)) (mW 7 fr A2 c2 (E fr)) HPO.out HON.out.1 HON.out.2)
            have HOT := hide (fun (W : World) (h : RndO w W b (RS E n 0 140737488355328 s (i + 1))) => ron_s h (RS_k HNN.out HEL.out (by omega)) (mW 7 fr A2 c2 (E fr)) HPO.out HTW.out.1 HTW.out.2)
            clear HON HTW
            obtain ⟨le, hle⟩ : ∃ le, (E fr).length = le := ⟨_, rfl⟩
            rw [hle] at x5
            have HLE := hide hle
            clear hle hel hjl hje
            go_wp2_with fail
            rw [← HLE.out]
            refine (Calls.mono HJN.out ?_); rintro e w4 ⟨va, rfl, hsl, hb4, hal⟩
            have hM4 := (hb4.block g (Array.getElem?_eq_some_iff.1 HM.out).1).trans HM.out
            have HM4 := hide hM4
            have HR4 := hide (HRm.out.below hb4)
            have HA4 := hide hsl
            have HVB : Hid (va.ownBlock ≠ some b) := hide (by
              rcases hal with h | h
              · rw [h]; exact HAB.out
              · intro h2
                have h3 := h b h2
                have h4 := HRm.out.lt
                omega)
            clear x0 x1 x2 x3 x4 x5 hsl hb4 hal hM4 HJN HM HRm HAm HSL HA
            obtain ⟨x0, x1, x2, x3, x4, x5⟩ := six_cells HM4.out
            have HO1 := hide (HOS.out _ HR4.out)
            rw [HLE.out] at x5
            clear HOS
            go_wp2_with fail
            rw [← HLE.out]
            refine (Calls.mono HO1.out ?_); rintro e w5 ⟨⟨A5, c5, N5, rfl, hR5, hms5, hN5, hrow5⟩, hS5⟩
            have HR5 := hide hR5
            have HA5 := hide (Sl.sets HA4.out hS5 (fun gg h1 h2 => HVB.out (by rw [h1, h2])))
            have hM5 := (hS5.block g (Array.getElem?_eq_some_iff.1 HM4.out).1 hgb).trans HM4.out
            have HM5 := hide hM5
            have HRD5 := hide hms5.rd
            have HROW5 := hide hrow5
            have HN5 := hide hN5
            clear x0 x1 x2 x3 x4 x5 hR5 hms5 hN5 hrow5 hS5 hM5 HR4 HA4 HM4 HO1
            have hwi1 : IntKind.i64.wrap ((i : Int) + 1) = (i : Int) + 1 := by rw [IntKind.wrap_i64]; omega
            by_cases hlast : i + 1 = n
            · have hlI : ¬ (i : Int) + 1 < (n : Int) := by omega
              have hre := RS_end (E := E) (n := n) (s := s) (a := 0) (f := 140737488355328)
              have hN := HN5.out
              rw [if_pos hlast, hre] at hN
              obtain ⟨hlen, hat⟩ := fills_at (n := n) rfl rfl hN
              have HAT := hide hat
              have HLN := hide hlen
              rw [hlast] at HA5 HR5
              rw [hre] at HR5
              rw [hlen]
              clear hN hlen hat hre HN5
              go_wp2_with fail
              refine (Calls.mono (rphase_any HR5.out) ?_); rintro e w6 ⟨rfl, rfl⟩
              rw [show (stG n 0 9 140737488355328 2 (fun _ => false) (JL E n s n) 0).ph = 2 from rfl]
              go_wp2_with fail
              go_loopw [14] (fun jv wr => ∃ j : Nat, jv = .int .i64 j ∧ j ≤ n ∧ Below w6.heap.size w6 wr) (fun jv _ => 8 - (intOf jv).toNat)
              case atStart => exact ⟨0, rfl, by omega, Below.refl _ _⟩
              case round =>
                obtain ⟨j, rfl, hj, hbj⟩ := hrel
                have HBJ := hide hbj
                clear hbj
                by_cases hjn : j < n
                · have hjI : (j : Int) < (n : Int) := by omega
                  have hj0 : (0 : Int) ≤ (j : Int) := by omega
                  have hj5 : j < N5.length := by rw [HLN.out]; exact hjn
                  obtain ⟨g5, o5, rfl, -, z0, z1, z2, z3, z4, z5⟩ := mg_row HROW5.out HBJ.out hj5
                  have hrd := HRD5.out _ (List.getElem_mem hj5)
                  obtain ⟨e1, e2, e3⟩ := HAT.out j hj5
                  generalize N5[j] = y at *
                  rw [e1] at z0
                  rw [e2] at z2
                  have hsl : Sl w6 (.slice y.A y.L.length y.c) (JL E n s n) := by
                    have h := Sl.mk_ hrd.1 hrd.2.1 hrd.2.2
                    rw [show (stG n 0 9 140737488355328 2 (fun _ => false) (JL E n s n) 0).L = JL E n s n from rfl] at e3
                    rw [e3] at h ⊢
                    exact h
                  have HEQ := hide (reqs_sl (hsl.below HBJ.out) (HA5.out.below HBJ.out) (by have := HJ.out n (by omega); omega))
                  obtain ⟨yl, hyl⟩ : ∃ yl, y.L.length = yl := ⟨_, rfl⟩
                  rw [hyl] at z5 HEQ
                  obtain ⟨yA, hyA⟩ : ∃ yA, y.A = yA := ⟨_, rfl⟩
                  obtain ⟨yc, hyc⟩ : ∃ yc, y.c = yc := ⟨_, rfl⟩
                  rw [hyA, hyc] at z5 HEQ
                  clear e1 e2 e3 hrd hsl hyl hyA hyc z1 z3 z4
                  go_wp2_with fail
                  refine (Calls.mono HEQ.out ?_); rintro e w8 ⟨rfl, hb8⟩
                  have HB8 := hide (below_step HBJ.out hb8)
                  clear hb8 HEQ z0 z2 z5
                  go_wp2_with fail
                  go_roundw
                  case rel => exact ⟨j + 1, by go_num, by omega, HB8.out⟩
                  case measure => (simp [intOf] <;> omega)
                · obtain rfl : n = j := by omega
                  have hjI : ¬ (n : Int) < (n : Int) := by omega
                  go_wp2_with fail
                  go_roundw
                  case rel => exact ⟨i + 1, by go_num, by omega, by rw [hlast, RS_end]; exact HR5.out.below HBJ.out, by rw [hlast]; exact HA5.out.below HBJ.out, HVB.out⟩
                  case measure => (simp [intOf] <;> omega)
            · have hlI : (i : Int) + 1 < (n : Int) := by omega
              have hN := HN5.out
              rw [if_neg hlast] at hN
              obtain rfl := told_nil hN
              have HO2 := hide (HOT.out _ HR5.out)
              obtain ⟨x0, x1, x2, x3, x4, x5⟩ := six_cells HM5.out
              rw [HLE.out] at x5
              have hph : (RS E n 0 140737488355328 s (i + 1)).ph = 1 := by unfold RS; rw [if_neg hlast]; rfl
              clear hN HN5 HRD5 HROW5
              go_wp2_with fail
              refine (Calls.mono (rphase_any HR5.out) ?_); rintro e w6 ⟨rfl, rfl⟩
              rw [hph]
              go_wp2_with fail
              rw [← HLE.out]
              refine (Calls.mono HO2.out ?_); rintro e w7 ⟨⟨A7, c7, N7, rfl, hR7, hms7, hN7, hrow7⟩, hS7⟩
              obtain rfl := told_nil hN7
              have HR7 := hide hR7
              have HA7 := hide (Sl.sets HA5.out hS7 (fun gg h1 h2 => HVB.out (by rw [h1, h2])))
              clear x0 x1 x2 x3 x4 x5 hR7 hms7 hN7 hrow7 hS7 HO2 hph
              go_wp2_with fail
              go_roundw
              case rel => exact ⟨i + 1, by go_num, by omega, HR7.out, HA7.out, HVB.out⟩
              case measure => (simp [intOf] <;> omega)
    · obtain rfl : n = i := by omega
      have hiI : ¬ (n : Int) < (n : Int) := by omega
      rw [RS_end, ← RF_zero hn1 hs2] at HRi
      clear HA HAB R0 W0 HE HEG hi hin
      go_wp2_with fail
      go_loopw [15] (fun iv wr => ∃ i : Nat, iv = .int .i64 i ∧ i ≤ n ∧ RndO w wr b (RF E n s i)) (fun iv _ => 8 - (intOf iv).toNat)
      case atStart => exact ⟨0, rfl, by omega, HRi.out⟩
      case round =>
        clear HRi
        obtain ⟨i, rfl, hi, hR⟩ := hrel
        have HR := hide hR
        clear hR
        by_cases hin : i < n
        · have hiI2 : (i : Int) < (n : Int) := by omega
          have hwi : IntKind.i64.wrap ((i : Int) + (t : Int)) = (i : Int) + (t : Int) := by rw [IntKind.wrap_i64]; omega
          have hw0 : (0 : Int) ≤ (i : Int) + (t : Int) := by omega
          have hwi1 : IntKind.i64.wrap ((i : Int) + 1) = (i : Int) + 1 := by rw [IntKind.wrap_i64]; omega
          obtain ⟨h1, M, h2, h3, h4⟩ := RF_on (E := E) hn2 hs2 hin
          obtain ⟨fr, hfr, hfrn⟩ : ∃ fr, rot n s i = fr ∧ fr < n := ⟨_, rfl, rot_lt hs2 hin⟩
          have hfe := HTS.out i hin
          rw [hfr] at hfe h1 h2
          have HO := hide (ron_to HR.out (RF_k HNN.out HEL.out) (mW 9 fr none 0 []) (mg0_rd _ _ rfl rfl rfl) h1 h2)
          have HFE := hide hfe
          clear hfr h1 h2 hfe
          go_upto_region 31 with fail
          rw [HFE.out]
          clear hwi hw0
          go_wp2_with fail
          refine (Calls.mono HO.out ?_); rintro e w3 ⟨A3, c3, N3, rfl, hR3, hms3, hN3, hrow3⟩
          have HR3 := hide hR3
          have HROW3 := hide hrow3
          clear hR3 hms3 hrow3 HO HR
          by_cases hlast : i + 1 = n
          · have hlI : (i : Int) + 1 = (n : Int) := by omega
            have hlen : N3.length = n := by
              have h := congrArg List.length hN3
              rw [List.length_map, (h4 hlast).1] at h
              exact h
            have h0 : 0 < N3.length := by omega
            have hk0 : (N3[0]'h0).k = 10 := by
              have h : (N3[0]'h0).bare ∈ M := by rw [← hN3]; exact List.mem_map.2 ⟨_, List.getElem_mem h0, rfl⟩
              have h9 := (h4 hlast).2 _ h
              exact h9
            rw [hlast, RF_end] at HR3
            rw [hlen]
            have HK0 := hide hk0
            clear hN3 h3 h4 hlen hk0
            go_wp2_with fail
            refine (Calls.mono (rdone_end HR3.out) ?_); rintro e w4 ⟨rfl, hb4⟩
            have HR4 := hide (HR3.out.below hb4)
            have HB4 := hide hb4
            clear hb4 HR3
            go_upto_region 33 with fail
            obtain ⟨wa, hwa, hba, hza⟩ := ans_al w4 (.int .u64 9) (.int .i64 0) (.int .i64 0) (.int .u64 0) (.int .i64 0) (.int .i64 0) (.int .u64 140737488355328) (.slice none 0 0)
            rw [hwa]
            have HR5 := hide (HR4.out.below hba)
            obtain ⟨g3, o3, rfl, -, z0, -⟩ := mg_row HROW3.out (below_step HB4.out hba) h0
            rw [HK0.out] at z0
            have z0' : wa.cell? ⟨g3, o3, none⟩ = some (.int .i64 10) := by simpa using z0
            clear hwa hba hza HR4 HB4 z0 HROW3 HK0
            generalize w4.heap.size = g4 at *
            clear h0
            go_wp2_with fail
            go_roundw
            case rel => exact ⟨i + 1, by go_num, by omega, by rw [hlast, RF_end]; exact HR5.out⟩
            case measure => (simp [intOf] <;> omega)
          · have hlI : ¬ (i : Int) + 1 = (n : Int) := by omega
            rw [h3 (by omega)] at hN3
            obtain rfl := told_nil hN3
            rw [RF_st hlast] at HR3
            clear hN3 h3 h4 HROW3
            go_wp2_with fail
            refine (Calls.mono (rdone_st HR3.out (by omega)) ?_); rintro e w4 ⟨rfl, hb4⟩
            have HR4 := hide (HR3.out.below hb4)
            clear hb4 HR3
            go_upto_region 33 with fail
            obtain ⟨wa, hwa, hba, hza⟩ := ans_al w4 (.int .u64 0) (.int .i64 0) (.int .i64 0) (.int .u64 0) (.int .i64 0) (.int .i64 0) (.int .u64 0) (.slice none 0 0)
            rw [hwa]
            have HR5 := hide (HR4.out.below hba)
            clear hwa hba hza HR4
            generalize w4.heap.size = g4 at *
            go_wp2_with fail
            go_roundw
            case rel => exact ⟨i + 1, by go_num, by omega, by rw [RF_st hlast]; exact HR5.out⟩
            case measure => (simp [intOf] <;> omega)
        · obtain rfl : n = i := by omega
          rw [RF_end] at HR
          go_wp2_with fail
          refine (Calls.mono (rdone_end HR.out) ?_); rintro e w3 ⟨rfl, hb3⟩
          have HRa := hide (HR.out.below hb3)
          clear hb3 HR
          go_upto_region 36 with fail
          obtain ⟨wa, hwa, hba, hza⟩ := ans_al w3 (.int .u64 9) (.int .i64 0) (.int .i64 0) (.int .u64 0) (.int .i64 0) (.int .i64 0) (.int .u64 140737488355328) (.slice none 0 0)
          rw [hwa]
          have HR := hide (HRa.out.below hba)
          obtain ⟨-, -, -, -, -, x5, x6, -⟩ := ans_at hza (Below.refl wa.heap.size wa)
          clear hwa hba hza HRa
          generalize w3.heap.size = g at *
          go_wp2_with fail
          refine (Calls.mono (rphase_any HR.out) ?_); rintro e w6 ⟨rfl, rfl⟩
          rw [show (endG n 0 9 140737488355328 (rotC n s n) (JL E n s n) 0 0 140737488355328).ph = 3 from rfl]
          go_wp2_with fail
          refine (Calls.mono (awake25_any _) ?_); rintro e w7 ⟨rfl, hb7⟩
          have HB7 := hide (below_step HR.out.low hb7)
          clear hb7
          go_wp2_with fail
          go_ret
          exact ⟨rfl, HB7.out⟩
end Go.Proofs.Ytikecafblampeaa.roundWhole
