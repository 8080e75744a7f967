/- The walk of clepsydralaw24.CoordOld: it returns true. Conditions: the arguments are numbers. -/
import Derived.Test.YtlabpgdimhbocaaCoL
import Derived.Test.YtlabpgdimhbocaaBits
namespace Go.Proofs.Ytlabpgdimhbocaa.coordOld
set_option linter.unusedVariables false
set_option linter.unusedSimpArgs false
open Go.ChangeShapes Go.WideShapes Go.ChangeAt Go.RowKit
/-- A message of kind kd from node i. -/
abbrev mC (kd : Int) (i : Nat) : Mg := ⟨kd, (i : Int), 0, 5, 0, none, 0, []⟩
theorem mC_ok {kd : Int} (hk : kd = 2 ∨ kd = 5) {i : Nat} (h : i < 7) : mokB (mC kd i) = true := by
  rcases hk with rfl | rfl <;> (unfold mokB nodeB; simp; omega)
theorem bit_any (a : Int) (h0 : 0 ≤ a) (h1 : a < 18446744073709551616) (i : Nat) : bits .and .u64 (a / 2 ^ i) 1 = 0 ∨ bits .and .u64 (a / 2 ^ i) 1 = 1 := by
  have hp : (0 : Int) < 2 ^ i := Int.pow_pos (by omega)
  have e1 : 0 ≤ a / 2 ^ i := Int.ediv_nonneg h0 (by omega)
  have e2 : a / 2 ^ i ≤ a := Int.ediv_le_self _ h0
  rw [and_mask _ 1 1 (by omega) (by decide) (by omega) (by omega)]
  omega
theorem cdone_st {w0 w : World} {b n : Nat} {k s t x v tk : Int} {C : Nat → Bool} {G : List Gt} (h : CoE w0 w b (coG n 0 5 k s t x v C G tk)) : Calls Try.prog 10 #[.pointer (some ⟨b, 0, none⟩)] w fun e w' => ∃ A c, e = .returned (.tuple #[.agg #[.int .u64 0, .int .i64 0, .int .i64 0, .int .u64 0, .int .i64 0, .int .i64 0, .int .u64 0, .slice A (0 : Nat) c], .bool false]) ∧ Below w.heap.size w w' := by
  refine Calls.mono (cdone_e h (by simp [coG])) ?_
  rintro e w' ⟨A, c, rfl, _, _, hb⟩
  exact ⟨A, c, rfl, hb⟩
theorem cdone_end {w0 w : World} {b n : Nat} {k s t x v tk ee ver : Int} {C : Nat → Bool} {G : List Gt} (h : CoE w0 w b (end1C (coG n 0 5 k s t x v C G tk) ee ver [])) : Calls Try.prog 10 #[.pointer (some ⟨b, 0, none⟩)] w fun e w' => ∃ A c, e = .returned (.tuple #[.agg #[.int .u64 5, .int .i64 k, .int .i64 s, .int .u64 t, .int .i64 x, .int .i64 ee, .int .u64 ver, .slice A (0 : Nat) c], .bool true]) ∧ Below w.heap.size w w' := by
  have hA : (end1C (coG n 0 5 k s t x v C G tk) ee ver []).AL = [] := by show endA ee [] = []; unfold endA; split <;> rfl
  refine Calls.mono (cdone_e h (by rw [hA]; simp)) ?_
  rintro e w' ⟨A, c, he, _, _, hb⟩
  rw [hA] at he
  exact ⟨A, c, he, hb⟩
/-- The message that says: old. -/
abbrev mOld (i : Nat) (F : Int) : Mg := ⟨3, (i : Int), 0, 5, F, none, 0, []⟩
theorem mOld_ok {F : Int} (hF : 0 ≤ F ∧ F ≤ 1099511627775) {i : Nat} (h : i < 7) : mokB (mOld i F) = true := by
  unfold mokB nodeB; simp; omega
set_option maxRecDepth 100000 in
set_option maxHeartbeats 6400000 in
theorem walk {w : World} (a0 : Int) (w0 : (Lit.int .i64 a0).wf = true) (a1 : Int) (w1 : (Lit.int .u64 a1).wf = true) (a2 : Int) (w2 : (Lit.int .u64 a2).wf = true) (a3 : Bool) :
    Calls Try.prog 3 #[.int .i64 a0, .int .u64 a1, .int .u64 a2, .bool a3] w fun e w' => e = .returned (.bool true) ∧ Below w.heap.size w w' := by
  have b1 := bounds_u64 w1
  have b2 := bounds_u64 w2
  obtain ⟨q, hq, hq2⟩ : ∃ q : Nat, bits .and .i64 a0 255 = (q : Int) ∧ q ≤ 255 := ⟨(a0 % 256).toNat, by rw [and_mask_i64 a0 8 255 (by omega) (by decide)]; omega, by omega⟩
  obtain ⟨n, hn, hn1, hn2⟩ : ∃ n : Nat, (q : Int) % 6 + 2 = (n : Int) ∧ 2 ≤ n ∧ n ≤ 7 := ⟨q % 6 + 2, by omega, by omega, by omega⟩
  have hwn : IntKind.i64.wrap ((q : Int) % 6 + 2) = (n : Int) := by rw [IntKind.wrap_i64]; omega
  have hn0 : (0 : Int) ≤ (n : Int) := by omega
  obtain ⟨m1, hm1⟩ : ∃ m1 : Nat, n = m1 + 1 := ⟨n - 1, by omega⟩
  have hwm : IntKind.i64.wrap ((n : Int) - 1) = (m1 : Int) := by rw [IntKind.wrap_i64]; omega
  have HM1 := hide hm1
  obtain ⟨F, hF, hF2⟩ : ∃ F : Int, bits .and .u64 a2 1099511627775 = F ∧ 0 ≤ F ∧ F ≤ 1099511627775 := by
    have h := and_mask a2 40 1099511627775 (by omega) (by decide) b2.1 (by omega)
    have h2 : (2 : Int) ^ 40 = 1099511627776 := by decide
    rw [h2] at h
    exact ⟨_, h, by omega, by omega⟩
  have HFF := hide hF2
  have HWB : Hid (0 ≤ a1 ∧ a1 < 18446744073709551616) := hide ⟨b1.1, by omega⟩
  have HNN : Hid (1 ≤ n ∧ n ≤ 7) := hide ⟨by omega, hn2⟩
  clear w0 w1 w2 b1 b2 hn hF2 hm1
  obtain ⟨k, s, t, x, ver, kd, hall⟩ : ∃ k s t x ver kd : Int, (a3 = true ∧ k = 3 ∧ s = 1 ∧ t = 0 ∧ x = 0 ∧ ver = 0 ∧ kd = 5) ∨ (a3 = false ∧ k = 1 ∧ s = 1 ∧ t = 2 ∧ x = 3 ∧ ver = 88 ∧ kd = 2) := by
    cases a3
    · exact ⟨1, 1, 2, 3, 88, 2, .inr ⟨rfl, rfl, rfl, rfl, rfl, rfl, rfl⟩⟩
    · exact ⟨3, 1, 0, 0, 0, 5, .inl ⟨rfl, rfl, rfl, rfl, rfl, rfl, rfl⟩⟩
  have HALL := hide hall
  have HKD : Hid ((k = 3 ∧ (mC kd 0).k = 5) ∨ (¬ k = 3 ∧ (mC kd 0).k = 2)) := hide (by
    rcases hall with ⟨_, h, _, _, _, _, h2⟩ | ⟨_, h, _, _, _, _, h2⟩
    · exact .inl ⟨h, h2⟩
    · exact .inr ⟨by omega, h2⟩)
  have HKD2 : Hid (kd = 2 ∨ kd = 5) := hide (by omega)
  have HCS : Hid (0 ≤ s ∧ s ≤ 255) := hide (by omega)
  have HNEW : Hid (∀ W, Calls Try.prog 7 #[.int .i64 n, .int .i64 0, .int .u64 5, client4 k s t x, .int .u64 ver] W fun e w' => ∃ b, e = .returned (.tuple #[.pointer (some ⟨b, 0, none⟩), .int .i64 0]) ∧ CoO W w' b (fun g => g = b) (co0 n 0 5 k s t x ver)) := hide (fun W => cnew_co n 0 5 k s t x ver W (by
    unfold newB nodesB
    rw [decide_eq_true (by have := HNN.out; omega)]
    rcases hall with ⟨_, rfl, rfl, rfl, rfl, rfl, rfl⟩ | ⟨_, rfl, rfl, rfl, rfl, rfl, rfl⟩ <;> rfl))
  clear hall
  go_enter Try.func3, Try.ntmps3
  go_upto_if 24 with fail
  go_cut [10, 11] (fun v u W => v = .int .u64 ver ∧ u = .int .i64 kd ∧ W.heap[w.heap.size]? = some (.cells #[.int .i64 k, .int .i64 s, .int .u64 t, .int .i64 x] 24 (0, 0)) ∧ Below w.heap.size w W)
  case first =>
    have hz := heap_alloc_new w (.cells #[.int .i64 1, .int .i64 1, .int .u64 2, .int .i64 3] 24)
    have hb := below_alloc (Below.refl w.heap.size w) (.cells #[.int .i64 1, .int .i64 1, .int .u64 2, .int .i64 3] 24)
    rcases HALL.out with ⟨e0, e1, e2, e3, e4, e5, e6⟩ | ⟨e0, e1, e2, e3, e4, e5, e6⟩
    · subst e0 e1 e2 e3 e4 e5 e6
      obtain ⟨wb, hwb⟩ : ∃ wb, w.alloc (.cells #[.int .i64 1, .int .i64 1, .int .u64 2, .int .i64 3] 24) = wb := ⟨_, rfl⟩
      rw [hwb] at hz hb
      try rw [hwb]
      obtain ⟨gq, hgq⟩ : ∃ gq, w.heap.size = gq := ⟨_, rfl⟩
      rw [hgq] at hz
      try rw [hgq]
      have hs : Sets (fun c => c = gq) wb ((((wb.setCell ⟨gq, 0, none⟩ (.int .i64 3)).setCell ⟨gq, 1, none⟩ (.int .i64 1)).setCell ⟨gq, 2, none⟩ (.int .u64 0)).setCell ⟨gq, 3, none⟩ (.int .i64 0)) := ((((Sets.refl (S := fun c => c = gq) wb).set (g := gq) (fun _ => rfl) 0 _).set (g := gq) (fun _ => rfl) 1 _).set (g := gq) (fun _ => rfl) 2 _).set (g := gq) (fun _ => rfl) 3 _
      have HS := hide hs
      have hz1 : wb.heap[gq]? = some (.cells [.int .i64 1, .int .i64 1, .int .u64 2, .int .i64 3].toArray 24 (0, 0)) := hz
      have HZ2 := hide (set_of_list (o := 3) (set_of_list (o := 2) (set_of_list (o := 1) (set_of_list (o := 0) hz1 (.int .i64 3)) (.int .i64 1)) (.int .u64 0)) (.int .i64 0))
      have HBB := hide hb
      have HGQ := hide hgq
      have c0 : wb.cell? ⟨gq, 0, none⟩ = some (.int .i64 1) := (cell_of_list (o := 0) hz1).trans rfl
      have c1 : wb.cell? ⟨gq, 1, none⟩ = some (.int .i64 1) := (cell_of_list (o := 1) hz1).trans rfl
      have c2 : wb.cell? ⟨gq, 2, none⟩ = some (.int .u64 2) := (cell_of_list (o := 2) hz1).trans rfl
      have c3 : wb.cell? ⟨gq, 3, none⟩ = some (.int .i64 3) := (cell_of_list (o := 3) hz1).trans rfl
      have cf : ∀ o, wb.frozen? ⟨gq, o, none⟩ = false := fun o => by simp [World.frozen?, hz1]
      clear hs hz hz1 hb hwb hgq HALL
      go_wp2_with fail
      have hgq2 := HGQ.out
      subst hgq2
      go_meet
      exact ⟨rfl, rfl, HZ2.out, Sets.below HBB.out HS.out (fun c e => by rw [e]; exact Nat.le_refl _) HBB.out.size⟩
    · subst e0 e1 e2 e3 e4 e5 e6
      have HZ := hide hz
      have HB := hide hb
      clear hz hb HALL
      go_wp2_with fail
      go_meet
      exact ⟨rfl, rfl, HZ.out, HB.out⟩
  case rest =>
  obtain ⟨rfl, rfl, hz, hbw⟩ := hcut
  obtain ⟨gq, hgq⟩ : ∃ gq, w.heap.size = gq := ⟨_, rfl⟩
  rw [hgq] at hz
  try rw [hgq]
  have HBC := hide hbw
  have HZ0 := hide hz
  have HGQ := hide hgq
  clear hgq hz hbw
  have lgq := (Array.getElem?_eq_some_iff.1 HZ0.out).1
  have q0 : wc.cell? ⟨gq, 0, none⟩ = some (.int .i64 k) := (cell_of_row _ _ 0 _ _ _ HZ0.out).trans rfl
  have q1 : wc.cell? ⟨gq, 1, none⟩ = some (.int .i64 s) := (cell_of_row _ _ 1 _ _ _ HZ0.out).trans rfl
  have q2 : wc.cell? ⟨gq, 2, none⟩ = some (.int .u64 t) := (cell_of_row _ _ 2 _ _ _ HZ0.out).trans rfl
  have q3 : wc.cell? ⟨gq, 3, none⟩ = some (.int .i64 x) := (cell_of_row _ _ 3 _ _ _ HZ0.out).trans rfl
  go_wp2_with fail
  refine (Calls.mono (HNEW.out _) ?_); rintro e w1 ⟨b, rfl, hR⟩
  rw [co0_coG] at hR
  have HLC := hide hR.low
  have HR : Hid (CoE wc w1 b (coG n 0 5 k s t x ver (fun _ => false) [] 0)) := hide ⟨_, hR⟩
  clear hR HNEW q0 q1 q2 q3 lgq
  obtain ⟨nd, hnd⟩ : ∃ nd : Nat, n / 2 + 1 = nd := ⟨_, rfl⟩
  have HNDN := hide hnd
  have hnd1 : 1 ≤ nd ∧ nd ≤ 4 := by omega
  have HND : Hid (∀ W, Calls Try.prog 8 #[.int .i64 (n : Int)] W fun e w' => e = .returned (.int .i64 (nd : Int)) ∧ Below W.heap.size W w') := hide (fun W => by
    have h := cneed_any (n : Int) W (by omega) (by omega)
    rw [show (n : Int) / 2 + 1 = (nd : Int) by omega] at h
    exact h)
  clear hnd
  have hm17 : m1 < n := by have := HM1.out; omega
  go_upto_block 0 with fail
  go_cut [14] (fun v W => ∃ (C : Nat → Bool) (G : List Gt), v = .int .i64 (cntC C n : Nat) ∧ cntC C n < nd ∧ G.length ≤ cntC C n ∧ C m1 = false ∧ CoE wc W b (coG n 0 5 k s t x ver C G 0))
  case first =>
    go_wp2_with fail
    go_loopw [14, 15] (fun sd i wr => ∃ (K : Nat) (C : Nat → Bool) (G : List Gt), i = .int .i64 K ∧ sd = .int .i64 (cntC C n : Nat) ∧ K ≤ m1 ∧ cntC C n < nd ∧ (∀ j, K ≤ j → C j = false) ∧ G.length ≤ cntC C n ∧ CoE wc wr b (coG n 0 5 k s t x ver C G 0)) (fun _ i _ => 8 - (intOf i).toNat)
    case atStart => exact ⟨0, fun _ => false, [], rfl, by rw [cntC_none]; rfl, by omega, by rw [cntC_none]; omega, fun _ _ => rfl, by simp, HR.out⟩
    case round =>
      clear HR
      obtain ⟨K, C, G, rfl, rfl, hK, hcn, hCf, hGl, hR⟩ := hrel
      obtain ⟨sd, hsd⟩ : ∃ sd : Nat, cntC C n = sd := ⟨_, rfl⟩
      have hsd4 : sd < nd := by omega
      have HSD := hide hsd
      have HCF := hide hCf
      have HGL : Hid (G.length ≤ sd) := hide (by omega)
      have HR := hide hR
      rw [hsd]
      clear hR hcn hCf hGl hsd
      obtain ⟨s1, hs1⟩ : ∃ s1 : Nat, s1 = sd + 1 := ⟨_, rfl⟩
      have HS0 := hide hs1
      have hsw : IntKind.i64.wrap ((sd : Int) + 1) = (s1 : Int) := by rw [IntKind.wrap_i64]; omega
      by_cases hKn : K < m1
      · have hkI : (K : Int) < (m1 : Int) := by omega
        have hK7 : K < n := by omega
        by_cases hq : s1 < nd
        · have hqI : (s1 : Int) < (nd : Int) := by omega
          have HQ := hide hs1
          clear hs1
          have hk0 : (0 : Int) ≤ (K : Int) := by omega
          have hk64 : (K : Int) ≤ 64 := by omega
          rcases bit_any a1 HWB.out.1 HWB.out.2 K with hbt | hbt
          · go_wp2_with (go_at_call 8; refine (Calls.mono (HND.out _) ?_); rintro e w2 ⟨rfl, hb2⟩; have HR2 := hide (HR.out.below hb2); clear hb2)
            go_roundw
            case rel => exact ⟨K + 1, C, G, by go_num, by rw [HSD.out], by omega, by rw [HSD.out]; omega, fun j hj => HCF.out j (by omega), by rw [HSD.out]; exact HGL.out, HR2.out⟩
            case measure => (simp [intOf] <;> omega)
          · have HM := hide (con_more (n := n) (a := 0) (id := 5) (k := k) (s := s) (t := t) (x := x) (v := ver) (C := C) (G := G) (tk := 0) (m := mC kd K) (i := K) HKD.out (mC_ok HKD2.out (by omega)) rfl rfl rfl (by omega) (HCF.out K (Nat.le_refl _)) (by rw [HSD.out]; have := HNDN.out; have := HS0.out; omega))
            have HS1 := hide (fun (W : World) (hW : CoE wc W b (coG n 0 5 k s t x ver C G 0)) => con_e hW (coG_k HNN.out HCS.out (by omega) (by have := HGL.out; omega)) (mC kd K) (mg0_rd _ _ rfl rfl rfl) HM.out.1 HM.out.2 (fun _ _ e => absurd (show ((cntC C n : Nat) : Int) + 1 = (n : Int) / 2 + 1 from e) (by rw [HSD.out]; have := HNDN.out; have := HS0.out; omega)))
            have HCN : Hid (cntC (setC C K) n = s1) := hide (by rw [cntC_set (by omega) (HCF.out K (Nat.le_refl _)), HSD.out, ← HS0.out])
            have HG2 : Hid ((gotL k G (mC kd K)).length ≤ s1) := hide (by have := gotL_len (k := k) (G := G) (m := mC kd K); have := HGL.out; have := HS0.out; omega)
            go_wp2_with (go_at_call 8; refine (Calls.mono (HND.out _) ?_); rintro e w2 ⟨rfl, hb2⟩; have HR2 := hide (HR.out.below hb2); clear hb2)
            refine (Calls.mono (HS1.out _ HR2.out) ?_); rintro e w3 ⟨rfl, hR3⟩
            have HR4 := hide hR3
            clear hR3 HS1 HR2 HR
            go_wp2_with fail
            go_roundw
            case rel => exact ⟨K + 1, setC C K, gotL k G (mC kd K), by go_num, by rw [HCN.out], by omega, by rw [HCN.out]; omega, fun j hj => by unfold setC; rw [if_neg (by omega)]; exact HCF.out j (by omega), by rw [HCN.out]; exact HG2.out, HR4.out⟩
            case measure => (simp [intOf] <;> omega)
        · have hqI : ¬ (s1 : Int) < (nd : Int) := by omega
          clear hs1
          go_wp2_with (go_at_call 8; refine (Calls.mono (HND.out _) ?_); rintro e w2 ⟨rfl, hb2⟩; have HR2 := hide (HR.out.below hb2); clear hb2)
          go_meet
          exact ⟨C, G, by rw [HSD.out], by rw [HSD.out]; omega, by rw [HSD.out]; exact HGL.out, HCF.out m1 (by omega), HR2.out⟩
      · obtain rfl : m1 = K := by omega
        have hkI : ¬ (m1 : Int) < (m1 : Int) := by omega
        clear hs1 hsw
        go_wp2_with fail
        go_meet
        exact ⟨C, G, by rw [HSD.out], by rw [HSD.out]; omega, by rw [HSD.out]; exact HGL.out, HCF.out m1 (by omega), HR.out⟩
  case rest =>
  clear HR
  obtain ⟨C, G, rfl, hcn, hGl, hcm, hR⟩ := hcut
  obtain ⟨sd, hsd⟩ : ∃ sd : Nat, cntC C n = sd := ⟨_, rfl⟩
  have HSD := hide hsd
  have HGL : Hid (G.length ≤ 10) := hide (by omega)
  have HCN : Hid (sd < nd) := hide (by omega)
  rw [hsd]
  have HR := hide hR
  have HCM := hide hcm
  clear hR hcn hGl hsd hcm
  have hkG := coG_k (n := n) (a := 0) (id := 5) (k := k) (s := s) (t := t) (x := x) (v := ver) (C := C) (G := G) (tk := 0) HNN.out HCS.out (by omega) (by have := HGL.out; omega)
  have HKG := hide hkG
  clear hkG
  rcases HALL.out with ⟨e0, e1, e2, e3, e4, e5, e6⟩ | ⟨e0, e1, e2, e3, e4, e5, e6⟩
  · subst e0 e1 e2 e3 e4 e5 e6
    have HM := hide (con_else (n := n) (a := 0) (id := 5) (k := 3) (s := 1) (t := 0) (x := 0) (v := 0) (C := C) (G := G) (tk := 0) (m := mOld m1 F) (fun h => h.elim (fun e => absurd (show (3 : Int) = 5 from e.2) (by decide)) (fun e => e.1 rfl)) (fun h => h.1 rfl))
    have HO := hide (con_e HR.out HKG.out (mOld m1 F) (mg0_rd _ _ rfl rfl rfl) HM.out.1 HM.out.2 (fun _ hh => by rcases hh with ⟨_, e⟩ | ⟨_, e⟩ <;> exact absurd (show (3 : Int) = _ from e) (by decide)))
    clear HALL
    go_wp2_with fail
    refine (Calls.mono HO.out ?_); rintro e w2 ⟨rfl, hR2⟩
    have HR2 := hide hR2
    clear hR2 HO HR
    have HD := hide (cdone_st HR2.out)
    go_wp2_with fail
    refine (Calls.mono HD.out ?_); rintro e w3 ⟨A2, c2, rfl, hb3⟩
    have HR3 := hide (HR2.out.below hb3)
    clear hb3 HD HR2
    obtain ⟨wa, hwa, hba, hza⟩ := ans_al w3 (.int .u64 0) (.int .i64 0) (.int .i64 0) (.int .u64 0) (.int .i64 0) (.int .i64 0) (.int .u64 0) (.slice A2 (0 : Nat) c2)
    have HRA := hide (HR3.out.below hba)
    have HWA := hide hwa
    clear hwa hba hza HR3
    go_upto_region 20 with fail
    try rw [HWA.out]
    go_wp2_with fail
    refine (Calls.mono (cawake_any _) ?_); rintro e w7 ⟨rfl, hb7⟩
    have HB8 := hide (below_step (below_step HBC.out HRA.out.low) hb7)
    clear hb7
    go_wp2_with fail
    go_ret
    exact ⟨rfl, HB8.out⟩
  · subst e0 e1 e2 e3 e4 e5 e6
    have HM := hide (con_aged (n := n) (a := 0) (id := 5) (k := 1) (s := 1) (t := 2) (x := 3) (v := 88) (C := C) (G := G) (tk := 0) (m := mOld m1 F) (i := m1) (by omega) rfl (mOld_ok HFF.out (by omega)) rfl rfl rfl hm17 HCM.out)
    have HO := hide (con_e HR.out HKG.out (mOld m1 F) (mg0_rd _ _ rfl rfl rfl) HM.out.1 HM.out.2 (fun _ hh => by rcases hh with ⟨_, e⟩ | ⟨_, e⟩ <;> exact absurd (show (3 : Int) = _ from e) (by decide)))
    clear HALL
    go_wp2_with fail
    refine (Calls.mono HO.out ?_); rintro e w2 ⟨rfl, hR2⟩
    have HR2 := hide hR2
    clear hR2 HO HR
    have hkE : CoK (end1C (coG n 0 5 1 1 2 3 88 C G 0) 21 F []) := ⟨HKG.out.n, HKG.out.cs, HKG.out.cnt, HKG.out.tk, fun e => (by cases e), HKG.out.G⟩
    have HKE := hide hkE
    clear hkE
    have HD := hide (cdone_end HR2.out)
    go_wp2_with fail
    refine (Calls.mono HD.out ?_); rintro e w3 ⟨A2, c2, rfl, hb3⟩
    have HR3 := hide (HR2.out.below hb3)
    clear hb3 HD HR2
    obtain ⟨wa, hwa, hba, hza⟩ := ans_al w3 (.int .u64 5) (.int .i64 1) (.int .i64 1) (.int .u64 2) (.int .i64 3) (.int .i64 21) (.int .u64 F) (.slice A2 (0 : Nat) c2)
    have HRA := hide (HR3.out.below hba)
    have HWA := hide hwa
    obtain ⟨y0, y1, y2, y3, y4, y5, y6, y7⟩ := ans_at hza (Below.refl _ _)
    have lga := (Array.getElem?_eq_some_iff.1 hza).1
    have hzq := (HRA.out.low.block gq (Array.getElem?_eq_some_iff.1 HZ0.out).1).trans HZ0.out
    have lgq := (Array.getElem?_eq_some_iff.1 hzq).1
    have q0 : wa.cell? ⟨gq, 0, none⟩ = some (.int .i64 1) := (cell_of_row _ _ 0 _ _ _ hzq).trans rfl
    have q1 : wa.cell? ⟨gq, 1, none⟩ = some (.int .i64 1) := (cell_of_row _ _ 1 _ _ _ hzq).trans rfl
    have q2 : wa.cell? ⟨gq, 2, none⟩ = some (.int .u64 2) := (cell_of_row _ _ 2 _ _ _ hzq).trans rfl
    have q3 : wa.cell? ⟨gq, 3, none⟩ = some (.int .i64 3) := (cell_of_row _ _ 3 _ _ _ hzq).trans rfl
    obtain ⟨ga, hga⟩ : ∃ ga, w3.heap.size = ga := ⟨_, rfl⟩
    rw [hga] at y0 y1 y2 y3 y4 y5 y6 y7 lga
    have HGA := hide hga
    clear hwa hba hza HR3 hga hzq
    have HOO := hide (con_e HRA.out HKE.out (mC 2 0) (mg0_rd _ _ rfl rfl rfl) (con_over rfl).1 (con_over rfl).2 (fun e => by rw [refC_over rfl] at e; cases e))
    go_upto_region 21 with fail
    try rw [HWA.out]
    try rw [HGA.out]
    go_wp2_with fail
    refine (Calls.mono HOO.out ?_); rintro e w5 ⟨rfl, hR5⟩
    have HLOW := hide (below_step HBC.out hR5.low)
    clear hR5 HOO HRA y0 y1 y2 y3 y4 y5 y6 y7 q0 q1 q2 q3
    go_wp2_with fail
    refine (Calls.mono (cawake_any _) ?_); rintro e w7 ⟨rfl, hb7⟩
    have HB7 := hide (below_step HLOW.out hb7)
    clear hb7
    go_wp2_with fail
    go_ret
    exact ⟨rfl, HB7.out⟩
end Go.Proofs.Ytlabpgdimhbocaa.coordOld
