/- The walk of clepsydralaw27.AxiomParts: it returns true. No condition. -/
import Derived.Test.YtebnifpclebliaaAxPl
import Derived.Test.YtebnifpclebliaaAxW
import Derived.Test.YtebnifpclebliaaS6Sl
import Derived.Test.YtebnifpclebliaaApart
import Derived.Test.YtebnifpclebliaaAxParts
namespace Go.Proofs.Ytebnifpclebliaa.axiomParts
set_option linter.unusedVariables false
set_option linter.unusedSimpArgs false
open Go.ChangeShapes Go.WideShapes Go.ChangeAt Go.RowKit

theorem infoU64 : (Try.prog.info? 23).map (fun i => (i.zero, i.size, i.bytes)) = some (some (.int .u64 0), 1, 8) := by kernel_rfl
set_option maxHeartbeats 8000000 in
set_option maxRecDepth 100000 in
theorem walk {w : World} (A0 : Option Addr) (c0 : Nat) (L0 : List Int) (lc0 : L0.length ≤ c0) (cm0 : c0 ≤ maxLen) (r0 : RowAt (fun a => [.int .i64 a]) 1 w A0 L0) (w0 : ∀ a ∈ L0, (Lit.int .i64 a).wf = true)
    (a1 : Int) (w1 : (Lit.int .u64 a1).wf = true) (a3 : Int) (w3 : (Lit.int .i64 a3).wf = true) :
    Calls Try.prog 7 #[.slice A0 L0.length c0, .int .u64 a1, .int .i64 a3] w fun e w' => e = .returned (.bool true) ∧ Below w.heap.size w w' := by
  have hl0 : L0.length ≤ 9223372036854775807 := by simp only [maxLen] at cm0; omega
  have HP := hide (puts_any A0 c0 L0 w r0 hl0)
  have hb1 := bounds_u64 w1
  have hs3 : bits .and .i64 a3 1 = a3 % 2 := and_mask_i64 a3 1 1 (by omega) (by decide)
  have HBA := hide (bit_and hb1.1 hb1.2)
  clear r0 w0 w1 w3 lc0 cm0 hb1
  obtain ⟨N, hN⟩ : ∃ N, min L0.length 30 = N := ⟨_, rfl⟩
  rw [hN] at HP
  have hN30 : N ≤ 30 := by omega
  clear hN
  obtain ⟨s, hs⟩ : ∃ s, a3 % 2 = s := ⟨_, rfl⟩
  rw [hs] at hs3
  clear hs
  obtain ⟨p, hp⟩ : ∃ p : Nat → Bool, p = fun i => decide (L0.getD i 0 % 2 = s) := ⟨_, rfl⟩
  have HPP : Hid (∀ i, p i = decide (L0.getD i 0 % 2 = s)) := hide (fun i => by rw [hp])
  clear hp
  go_enter Try.func7, Try.ntmps7
  go_wp2_with fail
  refine (Calls.mono HP.out ?_); rintro e w1 ⟨⟨v1, rfl, ho1⟩, hg1⟩
  obtain ⟨A, c, rfl, hA, _, hAc, hAm⟩ := OwnL.row An.cells_len ho1
  have hlen := putsN_len L0 N
  obtain ⟨I, hI⟩ : ∃ I, putsN L0 N = I := ⟨_, rfl⟩
  rw [hI] at hA hlen hAc
  have HA : Hid (AnsAt w1 A I) := hide hA
  have HI := hide hI
  have HIL := hide hlen
  have HG1 := hide hg1
  rw [hI, hlen]
  rw [hlen] at hAc
  clear ho1 hg1 hA hI hlen HP
  go_wp2_with fail
  go_loopw [8, 9, 10] (fun kv pv i wr => ∃ k : Nat, k ≤ N ∧ i = .int .i64 k ∧ OwnL (one1 u64v) 1 23 w1.heap.size wr kv (ackA (bitB a1) k) ∧ OwnL An.cells 8 41 w1.heap.size wr pv (partA L0 p k) ∧ ApartV kv pv ∧ Below w1.heap.size w1 wr) (fun _ _ i _ => N - (intOf i).toNat)
  case atStart => exact ⟨0, by omega, rfl, OwnL.nil_ _ _ _ _ _, OwnL.nil_ _ _ _ _ _, apart_nil _, Below.refl _ _⟩
  case round =>
    obtain ⟨k, hk, rfl, ho1, ho2, hap, hb⟩ := hrel
    have HAP := hide hap
    have HO1 := hide ho1
    have HO2 := hide ho2
    have HB := hide hb
    clear ho1 ho2 hap
    by_cases hlt : k < N
    · have hkd : (k : Int) < (N : Int) := by omega
      have hk0 : ¬ (k : Int) < 0 := by omega
      have hkI : k < I.length := by have := HIL.out; omega
      obtain ⟨bl, off, rfl, hbb, cl, y0, y1, y2, y3, y4, y5, y6, y7⟩ := AnsAt.item HA.out hb hkI
      have HYA : Hid (∀ W, Below w1.heap.size w1 W → AnAt W bl (off + k * 8) (I[k]'hkI)) := hide (fun W hW => by
        obtain ⟨b', off', e, _, h⟩ := AnsAt.item HA.out hW hkI
        injection e with e
        injection e with e1 e2 _
        subst e1 e2
        exact h)
      have hyk : I[k]'hkI = putA k (L0.getD k 0) := by
        have := HI.out
        subst this
        simp [putsN]
      have hyv : (I[k]'hkI).v = 8 * (k : Int) + 9 := by rw [hyk]; unfold putA; split <;> rfl
      have hA1 := partA_len L0 p k
      have hA2 := ackA_len (bitB a1) k
      have hA1b : (partA L0 p k).length ≤ 30 := by omega
      have hA2b : (ackA (bitB a1) k).length ≤ 30 := by omega
      have HYK := hide hyk
      have HYV := hide hyv
      have hd1 := HBA.out k
      have hq1 : ((I[k]'hkI).s == s) = p k := by
        rw [HPP.out k, hyk, Bool.eq_iff_iff, beq_iff_eq, decide_eq_true_eq]
        unfold putA
        split <;> rfl
      have P1 : Hid (∀ b, p k = b → partA L0 p (k + 1) = if b then partA L0 p k ++ [I[k]'hkI] else partA L0 p k) := hide (fun b hb => by
        cases b
        · exact partA_out hb
        · rw [partA_in hb, HYK.out]; rfl)
      have P2 : Hid (∀ b, bitB a1 k = b → ackA (bitB a1) (k + 1) = if b then ackA (bitB a1) k ++ [(I[k]'hkI).v] else ackA (bitB a1) k) := hide (fun b hb => by
        cases b
        · exact ackA_out hb
        · rw [ackA_in hb, HYV.out]; rfl)
      clear hyk hyv HYK HYV hb hA1 hA2
      generalize I[k]'hkI = y at *
      generalize partA L0 p k = MP at *
      generalize ackA (bitB a1) k = MK at *
      cases hD : bitB a1 k
      · rw [hD] at hd1
        have P2' := hide (P2.out _ hD)
        cases hE : p k
        · rw [hE] at hq1
          have P1' := hide (P1.out _ hE)
          clear hD hE P1 P2
          go_wp2_with fail
          go_roundw
          case rel => exact ⟨k + 1, by omega, by go_num, by rw [P2'.out]; exact HO1.out, by rw [P1'.out]; exact HO2.out, HAP.out, HB.out⟩
          case measure => simp [intOf]; omega
        · rw [hE] at hq1
          have P1' := hide (P1.out _ hE)
          clear hD hE P1 P2
          go_wp2_with (at_builtin; refine wpList_append_el rfl (.tmp 44) (.tmp 49) 26 41 _ 8 80 rfl Try.underlying26 Try.infoAns rfl (by decide) An.cells_len An.cells_one (by decide) w1.heap.size w1.heap.size w1 wr _ u9 MP y rfl wr.heap.size rfl rfl rfl HO2.out HB.out (Nat.le_refl _) HB.out.size (by omega) ?_; intro v3 x3 ho3 hb3 hg3 hm3)
          go_roundw
          case rel => exact ⟨k + 1, by omega, by go_num, by rw [P2'.out]; exact (HAP.out.symm).keep HO1.out hg3, by rw [P1'.out]; exact ho3, ((HAP.out.symm).moved (fun g hg => (OwnL.lt HO1.out g hg).2) hm3).symm, hb3⟩
          case measure => simp [intOf]; omega
      · rw [hD] at hd1
        have P2' := hide (P2.out _ hD)
        cases hE : p k
        all_goals
          rw [hE] at hq1
          have P1' := hide (P1.out _ hE)
          clear hD hE P1 P2
          go_upto_region 10 with (at_builtin; refine wpList_append_el rfl (.tmp 28) (.tmp 34) 34 23 _ 1 8 rfl Try.underlying34 infoU64 rfl (by decide) (fun _ => rfl) (fun a u hu => by simp [one1] at hu; subst hu; rfl) (by decide) w1.heap.size w1.heap.size w1 wr _ u8 MK y.v rfl wr.heap.size rfl rfl rfl HO1.out HB.out (Nat.le_refl _) HB.out.size (by omega) ?_; intro v3 x3 ho3 hb3 hg3 hm3; have O1 := hide ho3; have O2 := hide (HAP.out.keep HO2.out hg3); have AP := hide (HAP.out.moved (fun g hg => (OwnL.lt HO2.out g hg).2) hm3); have B3 := hide hb3; clear ho3 hb3 hg3 hm3)
          obtain ⟨cl', z0, z1, z2, z3, z4, z5, z6, z7⟩ := HYA.out _ B3.out
          clear cl y0 y1 y2 y3 y4 y5 y6 y7 hbb
        · go_wp2_with fail
          go_roundw
          case rel => exact ⟨k + 1, by omega, by go_num, by rw [P2'.out]; exact O1.out, by rw [P1'.out]; exact O2.out, AP.out, B3.out⟩
          case measure => simp [intOf]; omega
        · go_wp2_with (at_builtin; refine wpList_append_el rfl (.tmp 44) (.tmp 49) 26 41 _ 8 80 rfl Try.underlying26 Try.infoAns rfl (by decide) An.cells_len An.cells_one (by decide) w1.heap.size w1.heap.size w1 x3 _ u9 MP y rfl x3.heap.size rfl rfl rfl O2.out B3.out (Nat.le_refl _) B3.out.size (by omega) ?_; intro v4 x4 ho4 hb4 hg4 hm4)
          go_roundw
          case rel => exact ⟨k + 1, by omega, by go_num, by rw [P2'.out]; exact (AP.out.symm).keep O1.out hg4, by rw [P1'.out]; exact ho4, ((AP.out.symm).moved (fun g hg => (OwnL.lt O1.out g hg).2) hm4).symm, hb4⟩
          case measure => simp [intOf]; omega
    · obtain rfl : k = N := by omega
      have hkd : ¬ (k : Int) < (k : Int) := by omega
      clear HAP HBA
      have hPl := partA_len L0 p k
      have hKl := ackA_len (bitB a1) k
      obtain ⟨Ap, cp, e1, hPA, _, hPc, hPm⟩ := OwnL.row An.cells_len HO2.out
      obtain ⟨Ak, ck, e2, hKA, hKc, hKm⟩ := OwnL.vals HO1.out
      subst e1 e2
      -- the plain words
      have hIP : I = partA L0 (fun _ => true) k := by rw [← HI.out]; exact putsN_part L0 k
      have hgI : ∀ z ∈ itemsL I, It.good z := by rw [hIP]; exact part_good hN30
      have hgP := part_good (L := L0) (p := p) hN30
      have hIff : ∀ z, z ∈ itemsL (partA L0 p k) ↔ z ∈ itemsL I ∧ z.s = s := by rw [hIP]; exact fun z => part_series hN30 HPP.out
      have HR1 := hide (parts_none (K := ackA (bitB a1) k) hIff)
      have HEQ := hide (parts_fold hgI hgP hIff)
      have HR2 := hide (parts_read (K := ackA (bitB a1) k) hgP (fun z hz => ((hIff z).1 hz).2))
      have HR3 := hide (gone_ok (I := partA L0 p k) rfl (fun z hz => (fold_there hgP).1 hz))
      have hlI := itemsL_len I
      have hlP := itemsL_len (partA L0 p k)
      have hfI := ofL_len (itemsL I)
      have hfP := ofL_len (itemsL (partA L0 p k))
      have hIl := HIL.out
      have HPA : Hid (AnsAt wr Ap (partA L0 p k)) := hide hPA
      have HKA := hide hKA
      clear hPA hKA hIP hgI hgP hIff HI HIL HO1 HO2 HPP
      generalize partA L0 p k = PP at *
      generalize ackA (bitB a1) k = KK at *
      have hEQ := HEQ.out
      have hB0 := HB.out
      have HB0 := hide (below_step HG1.out hB0)
      have HAI := hide (RowAt.below HA.out hB0)
      have hF1 := fold_any A c I wr HAI.out (by omega)
      rw [hIl] at hF1
      have HF1 := hide hF1
      generalize hLS : ofL (itemsL PP) = LS at *
      have HLS := hide hLS
      have HLQ := hide hEQ
      clear hLS hEQ hb hB0 hF1 HA HB HG1 HEQ
      go_wp2_with fail
      refine (Calls.mono HF1.out ?_); rintro e x1 ⟨v1, rfl, ho1, hg1⟩
      have S1 := hide (Og.sl ho1)
      have HB1 := hide (below_step HB0.out hg1)
      have HPA := hide (RowAt.below HPA.out hg1)
      have HKA := hide (RowAt.below HKA.out hg1)
      have HAI := hide (RowAt.below HAI.out hg1)
      clear ho1 hg1 HF1 HB0
      go_wp2_with fail
      refine (Calls.mono (rseries_sl S1.out s (by omega)) ?_); rintro e x2 ⟨v2, rfl, ho2, hg2⟩
      rw [HLQ.out] at ho2
      have SA := hide (Ow.sl ho2)
      have HB2 := hide (below_step HB1.out hg2)
      have HPA := hide (RowAt.below HPA.out hg2)
      have HKA := hide (RowAt.below HKA.out hg2)
      have HAI := hide (RowAt.below HAI.out hg2)
      clear hg2 HB1
      clear ho2 S1
      obtain ⟨r, hr0⟩ : ∃ r, readL (itemsL PP) KK [] s = r := ⟨_, rfl⟩
      have HR1b := hide (HR1.out.trans hr0)
      have HR1c := hide hr0
      clear hr0
      go_wp2_with fail
      have hr := read_any (vg := .slice none 0 0) (got := []) A c I Ak ck KK s HAI.out HKA.out (Sl.nil_ _) (by omega) (by omega) (by simp)
      rw [hIl, HR1b.out] at hr
      refine (Calls.mono hr ?_); rintro e x3 ⟨rfl, hg3⟩
      clear hr
      have HB3 := hide (below_step HB2.out hg3)
      have HPA := hide (RowAt.below HPA.out hg3)
      have HKA := hide (RowAt.below HKA.out hg3)
      have HAI := hide (RowAt.below HAI.out hg3)
      have SA := hide (Sl.below SA.out hg3)
      clear hg3 HB2
      go_wp2_with fail
      have hr := read_any (vg := .slice none 0 0) (got := []) Ap cp PP Ak ck KK s HPA.out HKA.out (Sl.nil_ _) (by omega) (by omega) (by simp)
      rw [HR1c.out] at hr
      refine (Calls.mono hr ?_); rintro e x4 ⟨rfl, hg4⟩
      clear hr
      have HB4 := hide (below_step HB3.out hg4)
      have HPA := hide (RowAt.below HPA.out hg4)
      have HKA := hide (RowAt.below HKA.out hg4)
      have HAI := hide (RowAt.below HAI.out hg4)
      have SA := hide (Sl.below SA.out hg4)
      clear hg4 HB3
      clear HR1 HR1b HR1c
      go_wp2_with fail
      refine (Calls.mono (fold_any Ap cp PP _ HPA.out (by omega)) ?_); rintro e x5 ⟨v5, rfl, ho5, hg5⟩
      rw [HLS.out] at ho5
      have S5 := hide (Og.sl ho5)
      have HB5 := hide (below_step HB4.out hg5)
      have HPA := hide (RowAt.below HPA.out hg5)
      have HKA := hide (RowAt.below HKA.out hg5)
      have HAI := hide (RowAt.below HAI.out hg5)
      have SA := hide (Sl.below SA.out hg5)
      clear hg5 HB4
      clear ho5
      go_wp2_with fail
      have hr := requal_sl SA.out S5.out (by omega) (by omega)
      rw [eqL_self] at hr
      refine (Calls.mono hr ?_); rintro e x6 ⟨rfl, hg6⟩
      clear hr
      have HB6 := hide (below_step HB5.out hg6)
      have HPA := hide (RowAt.below HPA.out hg6)
      have HKA := hide (RowAt.below HKA.out hg6)
      have HAI := hide (RowAt.below HAI.out hg6)
      have SA := hide (Sl.below SA.out hg6)
      clear hg6 HB5
      clear S5
      go_wp2_with fail
      have hr := read_any Ap cp PP Ak ck KK s HPA.out HKA.out SA.out (by omega) (by omega) (by omega)
      rw [HR2.out] at hr
      refine (Calls.mono hr ?_); rintro e x7 ⟨rfl, hg7⟩
      clear hr
      have HB7 := hide (below_step HB6.out hg7)
      have HPA := hide (RowAt.below HPA.out hg7)
      have HKA := hide (RowAt.below HKA.out hg7)
      have HAI := hide (RowAt.below HAI.out hg7)
      have SA := hide (Sl.below SA.out hg7)
      clear hg7 HB6
      go_wp2_with fail
      have hr := gone_any Ap cp PP HPA.out SA.out (by omega) (by omega)
      rw [HR3.out] at hr
      refine (Calls.mono hr ?_); rintro e x8 ⟨rfl, hg8⟩
      clear hr
      have HB8 := hide (below_step HB7.out hg8)
      clear hg8 HB7
      go_wp2_with fail
      refine (Calls.mono (awake27_any _) ?_); rintro e x9 ⟨rfl, hg9⟩
      have HB9 := hide (below_step HB8.out hg9)
      clear hg9
      go_wp2_with fail
      go_ret
      exact ⟨rfl, HB9.out⟩
end Go.Proofs.Ytebnifpclebliaa.axiomParts
