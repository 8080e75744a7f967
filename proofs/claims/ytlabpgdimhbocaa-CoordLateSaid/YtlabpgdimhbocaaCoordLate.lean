/- The walk of clepsydralaw24.CoordLate: it returns true. Conditions: the arguments are numbers. -/
import Derived.Test.YtlabpgdimhbocaaCoL
import Derived.Test.YtlabpgdimhbocaaBits
import Derived.Test.YtlabpgdimhbocaaDecCl
namespace Go.Proofs.Ytlabpgdimhbocaa.coordLate
set_option linter.unusedVariables false
set_option linter.unusedSimpArgs false
open Go.ChangeShapes Go.WideShapes Go.ChangeAt Go.RowKit
/-- A message of kind kd from node i. -/
abbrev mC (kd : Int) (i : Nat) : Mg := ⟨kd, (i : Int), 0, 5, 0, none, 0, []⟩
theorem mC_ok {kd : Int} (hk : kd = 2 ∨ kd = 5) {i : Nat} (h : i < 7) : mokB (mC kd i) = true := by
  rcases hk with rfl | rfl <;> (unfold mokB nodeB; simp; omega)
theorem bit_any (a : Int) (h0 : 0 ≤ a) (h1 : a < 18446744073709551616) (i : Nat) : bits .and .u64 (a / 2 ^ i) 1 = 0 ∨ bits .and .u64 (a / 2 ^ i) 1 = 1 := by
  have hp : (0 : Int) < 2 ^ i := Int.pow_pos (by omega)
  have e1 : 0 ≤ a / 2 ^ i := Int.ediv_nonneg h0 (by omega)
  have e2 : a / 2 ^ i ≤ a := Int.ediv_le_self _ h0
  rw [and_mask _ 1 1 (by omega) (by decide) (by omega) (by omega)]
  omega
/-- Behind T - 1 Ticks. -/
def RT (n : Nat) (k s t x v : Int) (C : Nat → Bool) (G : List Gt) (T : Nat) : Co := if T ≤ 20 then coG n 0 5 k s t x v C G ((T : Int) - 1) else end1C (coG n 0 5 k s t x v C G 20) 20 v []
theorem RT_step {n : Nat} {k s t x v : Int} {C : Nat → Bool} {G : List Gt} {T : Nat} (h1 : 1 ≤ T) (h : T ≤ 20) : ctickR (coG n 0 5 k s t x v C G ((T : Int) - 1)) = RT n k s t x v C G (T + 1) := by
  unfold RT
  by_cases e : T = 20
  · subst e
    rw [ctick_late (by omega), if_neg (by omega)]
    rfl
  · rw [ctick_more (by omega), if_pos (by omega)]
    congr 1
    omega
theorem cdone_st {w0 w : World} {b n : Nat} {k s t x v tk : Int} {C : Nat → Bool} {G : List Gt} (h : CoE w0 w b (coG n 0 5 k s t x v C G tk)) : Calls Try.prog 10 #[.pointer (some ⟨b, 0, none⟩)] w fun e w' => ∃ A c, e = .returned (.tuple #[.agg #[.int .u64 0, .int .i64 0, .int .i64 0, .int .u64 0, .int .i64 0, .int .i64 0, .int .u64 0, .slice A (0 : Nat) c], .bool false]) ∧ Below w.heap.size w w' := by
  refine Calls.mono (cdone_e h (by simp [coG])) ?_
  rintro e w' ⟨A, c, rfl, _, _, hb⟩
  exact ⟨A, c, rfl, hb⟩
theorem cdone_end {w0 w : World} {b n : Nat} {k s t x v tk ee ver : Int} {C : Nat → Bool} {G : List Gt} (h : CoE w0 w b (end1C (coG n 0 5 k s t x v C G tk) ee ver [])) : Calls Try.prog 10 #[.pointer (some ⟨b, 0, none⟩)] w fun e w' => ∃ A c, e = .returned (.tuple #[.agg #[.int .u64 5, .int .i64 k, .int .i64 s, .int .u64 t, .int .i64 x, .int .i64 ee, .int .u64 ver, .slice A (0 : Nat) c], .bool true]) ∧ Below w.heap.size w w' := by
  have hA : (end1C (coG n 0 5 k s t x v C G tk) ee ver []).AL = [] := by show endA ee [] = []; unfold endA; split <;> rfl
  refine Calls.mono (cdone_e h (by rw [hA]; simp)) ?_
  rintro e w' ⟨A, c, he, _, _, hb⟩
  rw [hA] at he
  exact ⟨A, c, he, hb⟩
set_option maxRecDepth 100000 in
set_option maxHeartbeats 6400000 in
theorem walk {w : World} (a0 : Int) (w0 : (Lit.int .i64 a0).wf = true) (q : Cl) (w1 : q.wf) (a2 : Int) (w2 : (Lit.int .u64 a2).wf = true) (a3 : Int) (w3 : (Lit.int .u64 a3).wf = true) :
    Calls Try.prog 6 #[.int .i64 a0, q.val, .int .u64 a2, .int .u64 a3] w fun e w' => e = .returned (.bool true) ∧ Below w.heap.size w w' := by
  obtain ⟨k, s, t, x⟩ := q
  have b3 := bounds_u64 w3
  have b2 := bounds_u64 w2
  obtain ⟨q, hq, hq2⟩ : ∃ q : Nat, bits .and .i64 a0 255 = (q : Int) ∧ q ≤ 255 := ⟨(a0 % 256).toNat, by rw [and_mask_i64 a0 8 255 (by omega) (by decide)]; omega, by omega⟩
  obtain ⟨n, hn, hn1, hn2⟩ : ∃ n : Nat, (q : Int) % 7 + 1 = (n : Int) ∧ 1 ≤ n ∧ n ≤ 7 := ⟨q % 7 + 1, by omega, by omega, by omega⟩
  have hwn : IntKind.i64.wrap ((q : Int) % 7 + 1) = (n : Int) := by rw [IntKind.wrap_i64]; omega
  have hn0 : (0 : Int) ≤ (n : Int) := by omega
  obtain ⟨V, hV, hV2⟩ : ∃ V : Int, bits .and .u64 a2 281474976710655 = V ∧ 0 ≤ V ∧ V ≤ 281474976710655 := by
    have h := and_mask a2 48 281474976710655 (by omega) (by decide) b2.1 (by omega)
    have h2 : (2 : Int) ^ 48 = 281474976710656 := by decide
    rw [h2] at h
    exact ⟨_, h, by omega, by omega⟩
  obtain ⟨V1, hV1⟩ : ∃ V1, V + 1 = V1 := ⟨_, rfl⟩
  have hVw : IntKind.u64.wrap (V + 1) = V1 := by rw [IntKind.wrap_u64]; omega
  have HWB : Hid (0 ≤ a3 ∧ a3 < 18446744073709551616) := hide ⟨b3.1, by omega⟩
  have HCK := hide (fun W => rclok_any k s t x W)
  have HNN := hide (show 1 ≤ n ∧ n ≤ 7 from ⟨hn1, hn2⟩)
  have HB0 := hide (below_alloc (Below.refl w.heap.size w) (.cells #[.int .i64 k, .int .i64 s, .int .u64 t, .int .i64 x] 24))
  have hz0 := heap_alloc_new w (.cells #[.int .i64 k, .int .i64 s, .int .u64 t, .int .i64 x] 24)
  obtain ⟨wb, hwb⟩ : ∃ wb, w.alloc (.cells #[.int .i64 k, .int .i64 s, .int .u64 t, .int .i64 x] 24) = wb := ⟨_, rfl⟩
  rw [hwb] at HB0 hz0
  obtain ⟨gq, hgq⟩ : ∃ gq, w.heap.size = gq := ⟨_, rfl⟩
  rw [hgq] at hz0
  have HZ0 := hide hz0
  have HGQ := hide hgq
  have HWW := hide hwb
  have HVV := hide (And.intro hV2 hV1)
  clear w0 w1 w2 w3 b2 b3 hn hz0 hwb hgq hV2 hV1
  go_enter Try.func6, Try.ntmps6
  go_upto_region 2 with fail
  try rw [HWW.out]
  try rw [HGQ.out]
  have lgq := (Array.getElem?_eq_some_iff.1 HZ0.out).1
  have q0 := (cell_of_row _ _ 0 _ _ _ HZ0.out).trans rfl
  have q1 := (cell_of_row _ _ 1 _ _ _ HZ0.out).trans rfl
  have q2 := (cell_of_row _ _ 2 _ _ _ HZ0.out).trans rfl
  have q3 := (cell_of_row _ _ 3 _ _ _ HZ0.out).trans rfl
  have q0 : wb.cell? ⟨gq, 0, none⟩ = some (.int .i64 k) := q0
  have q1 : wb.cell? ⟨gq, 1, none⟩ = some (.int .i64 s) := q1
  have q2 : wb.cell? ⟨gq, 2, none⟩ = some (.int .u64 t) := q2
  have q3 : wb.cell? ⟨gq, 3, none⟩ = some (.int .i64 x) := q3
  go_wp2_with fail
  refine (Calls.mono (HCK.out _) ?_); rintro e wc ⟨rfl, hbc⟩
  have HBC := hide (below_step HB0.out hbc)
  have q0 := keep_cell hbc q0 lgq
  have q1 := keep_cell hbc q1 lgq
  have q2 := keep_cell hbc q2 lgq
  have q3 := keep_cell hbc q3 lgq
  have lgc : gq < wc.heap.size := Nat.lt_of_lt_of_le lgq hbc.size
  clear hbc lgq HCK
  cases hcl : clientB k s t x with
  | false =>
    clear hcl
    go_wp2_with fail
    refine (Calls.mono (cawake_any _) ?_); rintro e w7 ⟨rfl, hb7⟩
    have HB7 := hide (below_step HBC.out hb7)
    clear hb7
    go_wp2_with fail
    go_ret
    exact ⟨rfl, HB7.out⟩
  | true =>
  have HCLI := hide hcl
  have hcs : 0 ≤ s ∧ s ≤ 255 := by
    unfold clientB at hcl
    have := of_decide_eq_true hcl
    exact ⟨this.1, this.2.1⟩
  have HCS := hide hcs
  clear hcl hcs
  obtain ⟨ver, hver⟩ : ∃ ver : Int, (if k = 3 then 0 else V1) = ver := ⟨_, rfl⟩
  obtain ⟨kd, hkd⟩ : ∃ kd : Int, (if k = 3 then (5 : Int) else 2) = kd := ⟨_, rfl⟩
  have hne0 : 1 ≤ V1 ∧ V1 ≤ 281474976710656 := by have := HVV.out; omega
  have hnew : newB n 0 5 k s t x ver = true := by
    unfold newB nodesB
    rw [HCLI.out]
    rw [decide_eq_true (by have := HNN.out; omega)]
    by_cases h3 : k = 3
    · rw [if_pos h3] at hver
      subst hver
      simp [h3]
    · rw [if_neg h3] at hver
      subst hver
      have e1 : (V1 == 0) = false := beq_eq_false_iff_ne.2 (by omega)
      have e2 : (k == 3) = false := beq_eq_false_iff_ne.2 h3
      rw [e1, e2, decide_eq_true (by omega)]
      rfl
  have HNEW := hide (fun W => cnew_co n 0 5 k s t x ver W hnew)
  have HKD : Hid ((k = 3 ∧ (mC kd 0).k = 5) ∨ (¬ k = 3 ∧ (mC kd 0).k = 2)) := hide (by
    by_cases h3 : k = 3
    · rw [if_pos h3] at hkd; exact .inl ⟨h3, hkd.symm⟩
    · rw [if_neg h3] at hkd; exact .inr ⟨h3, hkd.symm⟩)
  have HKD2 : Hid (kd = 2 ∨ kd = 5) := hide (by by_cases h3 : k = 3; · rw [if_pos h3] at hkd; exact .inr hkd.symm
                                                · rw [if_neg h3] at hkd; exact .inl hkd.symm)
  have HVER := hide hver
  have HKDE := hide hkd
  clear hver hkd hne0 hnew
  go_upto_if 34 with fail
  go_cut [2, 9] (fun v u W => v = .int .u64 ver ∧ u = .int .i64 kd ∧ wc = W)
  case first =>
    by_cases h3 : k = 3
    · have e1 := HVER.out
      have e2 := HKDE.out
      rw [if_pos h3] at e1 e2
      subst e1 e2
      have hkI : (k == 3) = true := beq_iff_eq.2 h3
      clear HVER HKDE h3
      go_wp2_with fail
      go_meet
      exact ⟨rfl, rfl, rfl⟩
    · have e1 := HVER.out
      have e2 := HKDE.out
      rw [if_neg h3] at e1 e2
      subst e1 e2
      have hkI : (k == 3) = false := beq_eq_false_iff_ne.2 h3
      clear HVER HKDE h3
      go_wp2_with fail
      go_meet
      exact ⟨rfl, rfl, rfl⟩
  case rest =>
  obtain ⟨rfl, rfl, rfl⟩ := hcut
  go_wp2_with fail
  refine (Calls.mono (HNEW.out _) ?_); rintro e w1 ⟨b, rfl, hR⟩
  rw [co0_coG] at hR
  have HR : Hid (CoE w w1 b (coG n 0 5 k s t x ver (fun _ => false) [] 0)) := hide ⟨_, hR.from HBC.out⟩
  clear hR HNEW q0 q1 q2 q3 lgc
  obtain ⟨nd, hnd⟩ : ∃ nd : Nat, n / 2 + 1 = nd := ⟨_, rfl⟩
  have HNDN := hide hnd
  have hnd1 : 1 ≤ nd ∧ nd ≤ 4 := by omega
  have HND : Hid (∀ W, Calls Try.prog 8 #[.int .i64 (n : Int)] W fun e w' => e = .returned (.int .i64 (nd : Int)) ∧ Below W.heap.size W w') := hide (fun W => by
    have h := cneed_any (n : Int) W (by omega) (by omega)
    rw [show (n : Int) / 2 + 1 = (nd : Int) by omega] at h
    exact h)
  clear hnd
  go_upto_block 0 with fail
  go_cut [12] (fun v W => ∃ (C : Nat → Bool) (G : List Gt), v = .int .i64 (cntC C n : Nat) ∧ cntC C n < nd ∧ G.length ≤ cntC C n ∧ CoE w W b (coG n 0 5 k s t x ver C G 0))
  case first =>
    go_wp2_with fail
    go_loopw [12, 13] (fun sd i wr => ∃ (K : Nat) (C : Nat → Bool) (G : List Gt), i = .int .i64 K ∧ sd = .int .i64 (cntC C n : Nat) ∧ K ≤ n ∧ cntC C n < nd ∧ (∀ j, K ≤ j → C j = false) ∧ G.length ≤ cntC C n ∧ CoE w wr b (coG n 0 5 k s t x ver C G 0)) (fun _ i _ => 8 - (intOf i).toNat)
    case atStart => exact ⟨0, fun _ => false, [], rfl, by rw [cntC_none]; rfl, by omega, by rw [cntC_none]; omega, fun _ _ => rfl, by simp, HR.out⟩
    case round =>
      clear HR
      obtain ⟨K, C, G, rfl, rfl, hK, hcn, hCf, hGl, hR⟩ := hrel
      obtain ⟨sd, hsd⟩ : ∃ sd : Nat, cntC C n = sd := ⟨_, rfl⟩
      have hsd4 : sd < nd := by omega
      have HSD := hide hsd
      have HCF := hide hCf
      have HGL : Hid (G.length ≤ sd) := hide (by omega)
      have HR := hide hR
      rw [hsd]
      clear hR hcn hCf hGl hsd
      obtain ⟨s1, hs1⟩ : ∃ s1 : Nat, s1 = sd + 1 := ⟨_, rfl⟩
      have HS0 := hide hs1
      have hsw : IntKind.i64.wrap ((sd : Int) + 1) = (s1 : Int) := by rw [IntKind.wrap_i64]; omega
      by_cases hKn : K < n
      · have hkI : (K : Int) < (n : Int) := by omega
        have hK7 : K < n := by omega
        by_cases hq : s1 < nd
        · have hqI : (s1 : Int) < (nd : Int) := by omega
          have HQ := hide hs1
          clear hs1
          have hk0 : (0 : Int) ≤ (K : Int) := by omega
          have hk64 : (K : Int) ≤ 64 := by omega
          rcases bit_any a3 HWB.out.1 HWB.out.2 K with hbt | hbt
          · go_wp2_with (go_at_call 8; refine (Calls.mono (HND.out _) ?_); rintro e w2 ⟨rfl, hb2⟩; have HR2 := hide (HR.out.below hb2); clear hb2)
            go_roundw
            case rel => exact ⟨K + 1, C, G, by go_num, by rw [HSD.out], by omega, by rw [HSD.out]; omega, fun j hj => HCF.out j (by omega), by rw [HSD.out]; exact HGL.out, HR2.out⟩
            case measure => (simp [intOf] <;> omega)
          · have HM := hide (con_more (n := n) (a := 0) (id := 5) (k := k) (s := s) (t := t) (x := x) (v := ver) (C := C) (G := G) (tk := 0) (m := mC kd K) (i := K) HKD.out (mC_ok HKD2.out (by omega)) rfl rfl rfl (by omega) (HCF.out K (Nat.le_refl _)) (by rw [HSD.out]; have := HNDN.out; have := HS0.out; omega))
            have HS1 := hide (fun (W : World) (hW : CoE w W b (coG n 0 5 k s t x ver C G 0)) => con_e hW (coG_k HNN.out HCS.out (by omega) (by have := HGL.out; omega)) (mC kd K) (mg0_rd _ _ rfl rfl rfl) HM.out.1 HM.out.2 (fun _ e => absurd (show ((cntC C n : Nat) : Int) + 1 = (n : Int) / 2 + 1 from e) (by rw [HSD.out]; have := HNDN.out; have := HS0.out; omega)))
            have HCN : Hid (cntC (setC C K) n = s1) := hide (by rw [cntC_set (by omega) (HCF.out K (Nat.le_refl _)), HSD.out, ← HS0.out])
            have HG2 : Hid ((gotL k G (mC kd K)).length ≤ s1) := hide (by have := gotL_len (k := k) (G := G) (m := mC kd K); have := HGL.out; have := HS0.out; omega)
            have HM2 := hide (con_twice (n := n) (a := 0) (id := 5) (k := k) (s := s) (t := t) (x := x) (v := ver) (C := setC C K) (G := gotL k G (mC kd K)) (tk := 0) (m := mC kd K) (i := K) rfl (by unfold setC; rw [if_pos rfl]))
            have HS2 := hide (fun (W : World) (hW : CoE w W b (coG n 0 5 k s t x ver (setC C K) (gotL k G (mC kd K)) 0)) => con_e hW (coG_k HNN.out HCS.out (by omega) (by have := HG2.out; omega)) (mC kd K) (mg0_rd _ _ rfl rfl rfl) HM2.out.1 HM2.out.2 (fun e => by rw [refC_twice (i := K) rfl (by unfold setC; rw [if_pos rfl])] at e; cases e))
            go_wp2_with (go_at_call 8; refine (Calls.mono (HND.out _) ?_); rintro e w2 ⟨rfl, hb2⟩; have HR2 := hide (HR.out.below hb2); clear hb2)
            refine (Calls.mono (HS1.out _ HR2.out) ?_); rintro e w3 ⟨rfl, hR3⟩
            have HR3 := hide hR3
            clear hR3 HS1 HR2 HR
            go_wp2_with fail
            refine (Calls.mono (HS2.out _ HR3.out) ?_); rintro e w4 ⟨rfl, hR4⟩
            have HR4 := hide hR4
            clear hR4 HS2 HR3
            go_wp2_with fail
            go_roundw
            case rel => exact ⟨K + 1, setC C K, gotL k G (mC kd K), by go_num, by rw [HCN.out], by omega, by rw [HCN.out]; omega, fun j hj => by unfold setC; rw [if_neg (by omega)]; exact HCF.out j (by omega), by rw [HCN.out]; exact HG2.out, HR4.out⟩
            case measure => (simp [intOf] <;> omega)
        · have hqI : ¬ (s1 : Int) < (nd : Int) := by omega
          clear hs1
          go_wp2_with (go_at_call 8; refine (Calls.mono (HND.out _) ?_); rintro e w2 ⟨rfl, hb2⟩; have HR2 := hide (HR.out.below hb2); clear hb2)
          go_meet
          exact ⟨C, G, by rw [HSD.out], by rw [HSD.out]; omega, by rw [HSD.out]; exact HGL.out, HR2.out⟩
      · obtain rfl : n = K := by omega
        have hkI : ¬ (n : Int) < (n : Int) := by omega
        clear hs1 hsw
        go_wp2_with fail
        go_meet
        exact ⟨C, G, by rw [HSD.out], by rw [HSD.out]; omega, by rw [HSD.out]; exact HGL.out, HR.out⟩
  case rest =>
  clear HR
  obtain ⟨C, G, rfl, hcn, hGl, hR⟩ := hcut
  obtain ⟨sd, hsd⟩ : ∃ sd : Nat, cntC C n = sd := ⟨_, rfl⟩
  have hsd4 : sd < nd := by omega
  have hsn : sd ≤ n := by have := HNDN.out; omega
  have HSD := hide hsd
  have HGL : Hid (G.length ≤ 10) := hide (by omega)
  rw [hsd]
  have HR : Hid (CoE w wc b (RT n k s t x ver C G 1)) := hide hR
  clear hR hcn hGl hsd
  go_upto_block 2 with fail
  go_cut [] (fun W => CoE w W b (end1C (coG n 0 5 k s t x ver C G 20) 20 ver []))
  case first =>
    go_wp2_with fail
    go_loopw [14] (fun i wr => ∃ T : Nat, i = .int .i64 T ∧ 1 ≤ T ∧ T ≤ 21 ∧ CoE w wr b (RT n k s t x ver C G T)) (fun i _ => 22 - (intOf i).toNat)
    case atStart => exact ⟨1, rfl, by omega, by omega, HR.out⟩
    case round =>
      clear HR
      obtain ⟨T, rfl, hT1, hT2, hR⟩ := hrel
      by_cases hT : T ≤ 20
      · have hTI : (T : Int) ≤ 20 := by omega
        have hT0 : (0 : Int) ≤ (T : Int) := by omega
        rw [show RT n k s t x ver C G T = coG n 0 5 k s t x ver C G ((T : Int) - 1) by unfold RT; rw [if_pos hT]] at hR
        have HR := hide hR
        clear hR
        have HD := hide (cdone_st HR.out)
        obtain ⟨wl, hwl⟩ : ∃ wl : Nat, (ctickM (coG n 0 5 k s t x ver C G ((T : Int) - 1))).length = wl := ⟨_, rfl⟩
        have HWL := hide hwl
        have HTK := hide (fun (W : World) (hW : CoE w W b (coG n 0 5 k s t x ver C G ((T : Int) - 1))) => ctick_e hW (coG_k HNN.out HCS.out (by omega) (by have := HGL.out; omega)) (RT_step hT1 hT) rfl)
        rw [ctick_len, HSD.out] at hwl
        go_wp2_with fail
        refine (Calls.mono HD.out ?_); rintro e w2 ⟨A2, c2, rfl, hb2⟩
        have HR2 := hide (HR.out.below hb2)
        clear hb2 HD HR
        obtain ⟨wa, hwa, hba, hza⟩ := ans_al w2 (.int .u64 0) (.int .i64 0) (.int .i64 0) (.int .u64 0) (.int .i64 0) (.int .i64 0) (.int .u64 0) (.slice A2 (0 : Nat) c2)
        have HRA := hide (HR2.out.below hba)
        have HWA := hide hwa
        clear hwa hba hza HR2
        go_upto_region 24 with fail
        try rw [HWA.out]
        go_wp2_with fail
        refine (Calls.mono (HTK.out _ HRA.out) ?_); rintro e w4 ⟨A4, c4, N, rfl, hR4, hN⟩
        have hlen : N.length = wl := by
          have h := congrArg List.length hN
          rw [List.length_map, HWL.out] at h
          exact h
        rw [hlen]
        have HR4 := hide hR4
        clear hR4 hN hlen HTK HRA HWL
        by_cases h3 : (T : Int) % 3 = 0
        · have h3I : ((T : Int) % 3 == 0) = true := beq_iff_eq.2 h3
          by_cases h20 : T < 20
          · have h20I : (T : Int) < 20 := by omega
            rw [if_pos ⟨by omega, by omega⟩] at hwl
            have hw2 : IntKind.i64.wrap ((n : Int) - (sd : Int)) = (wl : Int) := by rw [IntKind.wrap_i64]; omega
            clear hwl h3
            go_wp2_with fail
            go_roundw
            case rel => exact ⟨T + 1, by go_num, by omega, by omega, HR4.out⟩
            case measure => (simp [intOf] <;> omega)
          · have h20I : ¬ (T : Int) < 20 := by omega
            rw [if_neg (by omega)] at hwl
            subst hwl
            clear h3
            go_wp2_with fail
            go_roundw
            case rel => exact ⟨T + 1, by go_num, by omega, by omega, HR4.out⟩
            case measure => (simp [intOf] <;> omega)
        · have h3I : ((T : Int) % 3 == 0) = false := beq_eq_false_iff_ne.2 h3
          rw [if_neg (by omega)] at hwl
          subst hwl
          clear h3
          go_wp2_with fail
          go_roundw
          case rel => exact ⟨T + 1, by go_num, by omega, by omega, HR4.out⟩
          case measure => (simp [intOf] <;> omega)
      · obtain rfl : T = 21 := by omega
        rw [show RT n k s t x ver C G 21 = end1C (coG n 0 5 k s t x ver C G 20) 20 ver [] by unfold RT; rw [if_neg (by omega)]] at hR
        have HR := hide hR
        clear hR
        go_wp2_with fail
        go_meet
        exact HR.out
  case rest =>
    have HR := hide hcut
    clear hcut
    have hkE : CoK (end1C (coG n 0 5 k s t x ver C G 20) 20 ver []) := by
      have h := coG_k (n := n) (a := 0) (id := 5) (k := k) (s := s) (t := t) (x := x) (v := ver) (C := C) (G := G) (tk := 20) HNN.out HCS.out (by omega) (by have := HGL.out; omega)
      exact ⟨h.n, h.cs, h.cnt, h.tk, fun e => (by cases e), h.G⟩
    have HKE := hide hkE
    clear hkE
    have HD := hide (cdone_end HR.out)
    go_wp2_with fail
    refine (Calls.mono HD.out ?_); rintro e w2 ⟨A2, c2, rfl, hb2⟩
    have HR2 := hide (HR.out.below hb2)
    clear hb2 HD HR
    obtain ⟨wa, hwa, hba, hza⟩ := ans_al w2 (.int .u64 5) (.int .i64 k) (.int .i64 s) (.int .u64 t) (.int .i64 x) (.int .i64 20) (.int .u64 ver) (.slice A2 (0 : Nat) c2)
    have HRA := hide (HR2.out.below hba)
    have HWA := hide hwa
    obtain ⟨y0, y1, y2, y3, y4, y5, y6, y7⟩ := ans_at hza (Below.refl _ _)
    obtain ⟨ga, hga⟩ : ∃ ga, w2.heap.size = ga := ⟨_, rfl⟩
    rw [hga] at y0 y1 y2 y3 y4 y5 y6 y7
    have HGA := hide hga
    clear hwa hba hza HR2 hga
    have HT := hide (ctick_e HRA.out HKE.out (ctick_over rfl).1 (ctick_over rfl).2)
    have HO := hide (fun (W : World) (hW : CoE w W b (end1C (coG n 0 5 k s t x ver C G 20) 20 ver [])) => con_e hW HKE.out (mC kd 0) (mg0_rd _ _ rfl rfl rfl) (con_over rfl).1 (con_over rfl).2 (fun e => by rw [refC_over rfl] at e; cases e))
    go_upto_region 33 with fail
    try rw [HWA.out]
    try rw [HGA.out]
    go_wp2_with fail
    refine (Calls.mono HT.out ?_); rintro e w4 ⟨A4, c4, N, rfl, hR4, hN⟩
    have hlen : N.length = 0 := by
      have h := congrArg List.length hN
      rw [List.length_map] at h
      exact h
    rw [hlen]
    have HR4 := hide hR4
    clear hR4 hN hlen HT HRA y0 y1 y2 y3 y4 y5 y6 y7
    go_wp2_with fail
    refine (Calls.mono (HO.out _ HR4.out) ?_); rintro e w5 ⟨rfl, hR5⟩
    have HLOW := hide hR5.low
    clear hR5 HO HR4
    go_wp2_with fail
    refine (Calls.mono (cawake_any _) ?_); rintro e w7 ⟨rfl, hb7⟩
    have HB7 := hide (below_step HLOW.out hb7)
    clear hb7
    go_wp2_with fail
    go_ret
    exact ⟨rfl, HB7.out⟩
end Go.Proofs.Ytlabpgdimhbocaa.coordLate
