/- The walk of clepsydralaw24.CoordReads: it returns true. Conditions: the arguments are readable. -/
import Derived.Test.YtlabpgdimhbocaaCrM
namespace Go.Proofs.Ytlabpgdimhbocaa.coordReads
set_option linter.unusedVariables false
set_option linter.unusedSimpArgs false
open Go.ChangeShapes Go.WideShapes Go.ChangeAt Go.RowKit
abbrev mR (f n : Int) (A : Option Addr) (c : Nat) (L : List It) : Mg := ⟨5, f, 0, 5, n, A, c, L⟩
set_option maxRecDepth 100000 in
set_option maxHeartbeats 6400000 in
theorem walk {w : World} (A0 : Option Addr) (c0 : Nat) (L0 : List It) (lc0 : L0.length ≤ c0) (cm0 : c0 ≤ maxLen) (r0 : RowAt It.cells 5 w A0 L0) (w0 : ∀ x ∈ L0, It.wf x)
    (A1 : Option Addr) (c1 : Nat) (L1 : List It) (lc1 : L1.length ≤ c1) (cm1 : c1 ≤ maxLen) (r1 : RowAt It.cells 5 w A1 L1) (w1 : ∀ x ∈ L1, It.wf x)
    (a2 : Int) (w2 : (Lit.int .u64 a2).wf = true) (a3 : Int) (w3 : (Lit.int .u64 a3).wf = true) (a4 : Int) (w4 : (Lit.int .i64 a4).wf = true) (a5 : Bool) :
    Calls Try.prog 5 #[.slice A0 L0.length c0, .slice A1 L1.length c1, .int .u64 a2, .int .u64 a3, .int .i64 a4, .bool a5] w fun e w' => e = .returned (.bool true) ∧ Below w.heap.size w w' := by
  have b2 := bounds_u64 w2
  have b3 := bounds_u64 w3
  obtain ⟨s, hs, hs2⟩ : ∃ s : Int, bits .and .i64 a4 255 = s ∧ 0 ≤ s ∧ s ≤ 255 := ⟨_, and_mask_i64 a4 8 255 (by omega) (by decide), by omega, by omega⟩
  obtain ⟨X, hX⟩ : ∃ X : Int, bits .and .u64 a2 255 = X := ⟨_, rfl⟩
  obtain ⟨Y, hY⟩ : ∃ Y : Int, bits .and .u64 a3 255 = Y := ⟨_, rfl⟩
  have HS255 := hide hs2
  have HM0 : Hid ((mR 1 X A0 c0 L0).rd w) := hide ⟨r0, lc0, cm0⟩
  have HM1 : Hid ((mR 2 Y A1 c1 L1).rd w) := hide ⟨r1, lc1, cm1⟩
  have HNEW := hide (fun W => cnew_co 3 0 5 3 s 0 0 0 W (by unfold newB nodesB clientB; simp; exact HS255.out))
  clear w0 w1 w2 w3 w4 r0 r1 lc0 lc1 cm0 cm1 hs2 b2 b3
  -- the two boxes
  have hz1 := heap_alloc_new w (.cells #[.int .i64 5, .int .i64 1, .int .i64 0, .int .u64 5, .int .u64 X, .slice A0 L0.length c0] 33)
  have hb1 := below_alloc (Below.refl w.heap.size w) (.cells #[.int .i64 5, .int .i64 1, .int .i64 0, .int .u64 5, .int .u64 X, .slice A0 L0.length c0] 33)
  obtain ⟨wa, hwa⟩ : ∃ wa, w.alloc (.cells #[.int .i64 5, .int .i64 1, .int .i64 0, .int .u64 5, .int .u64 X, .slice A0 L0.length c0] 33) = wa := ⟨_, rfl⟩
  rw [hwa] at hz1 hb1
  obtain ⟨g1, hg1⟩ : ∃ g1, w.heap.size = g1 := ⟨_, rfl⟩
  rw [hg1] at hz1
  have hz2 := heap_alloc_new wa (.cells #[.int .i64 5, .int .i64 2, .int .i64 0, .int .u64 5, .int .u64 Y, .slice A1 L1.length c1] 33)
  have hb2 := below_alloc (Below.refl wa.heap.size wa) (.cells #[.int .i64 5, .int .i64 2, .int .i64 0, .int .u64 5, .int .u64 Y, .slice A1 L1.length c1] 33)
  obtain ⟨wb, hwb⟩ : ∃ wb, wa.alloc (.cells #[.int .i64 5, .int .i64 2, .int .i64 0, .int .u64 5, .int .u64 Y, .slice A1 L1.length c1] 33) = wb := ⟨_, rfl⟩
  rw [hwb] at hz2 hb2
  obtain ⟨g2, hg2⟩ : ∃ g2, wa.heap.size = g2 := ⟨_, rfl⟩
  rw [hg2] at hz2
  have HWA := hide hwa
  have HWB := hide hwb
  have HG1 := hide hg1
  have HG2 := hide hg2
  have HBW := hide (below_step hb1 hb2)
  have HZ1 := hide ((hb2.block g1 (Array.getElem?_eq_some_iff.1 hz1).1).trans hz1)
  have HZ2 := hide hz2
  have HNE : Hid (g1 ≠ g2) := hide (by have := (Array.getElem?_eq_some_iff.1 hz1).1; omega)
  obtain ⟨x1, hx1⟩ : ∃ x1, mokB (mR 1 X A0 c0 L0) = x1 := ⟨_, rfl⟩
  obtain ⟨x2, hx2⟩ : ∃ x2, mokB (mR 2 Y A1 c1 L1) = x2 := ⟨_, rfl⟩
  have HK1 : Hid (∀ W : World, Below w.heap.size w W → Calls Try.prog 12 #[.agg #[.int .i64 5, .int .i64 1, .int .i64 0, .int .u64 5, .int .u64 X, .slice A0 L0.length c0]] W fun e w' => e = .returned (.bool x1) ∧ Below W.heap.size W w') := hide (fun W hW => by rw [← hx1]; exact rmok_any (mR 1 X A0 c0 L0) W (HM0.out.1.below hW))
  have HK2 : Hid (∀ W : World, Below w.heap.size w W → Calls Try.prog 12 #[.agg #[.int .i64 5, .int .i64 2, .int .i64 0, .int .u64 5, .int .u64 Y, .slice A1 L1.length c1]] W fun e w' => e = .returned (.bool x2) ∧ Below W.heap.size W w') := hide (fun W hW => by rw [← hx2]; exact rmok_any (mR 2 Y A1 c1 L1) W (HM1.out.1.below hW))
  have HX1 := hide hx1
  have HX2 := hide hx2
  clear hz1 hz2 hb1 hb2 hwa hwb hg1 hg2 hx1 hx2
  go_enter Try.func5, Try.ntmps5
  go_upto_region 3 with fail
  try rw [HWA.out]
  try rw [HG1.out]
  go_upto_region 4 with fail
  try rw [HWB.out]
  try rw [HG2.out]
  have l1 := (Array.getElem?_eq_some_iff.1 HZ1.out).1
  have l2 := (Array.getElem?_eq_some_iff.1 HZ2.out).1
  obtain ⟨p0, p1, p2, p3, p4, p5⟩ := six_cells HZ1.out
  obtain ⟨q0, q1, q2, q3, q4, q5⟩ := six_cells HZ2.out
  by_cases h0 : L0.length ≤ 40
  case neg =>
    have hI : (40 : Int) < (L0.length : Int) := by omega
    clear h0
    go_wp2_with fail
    refine (Calls.mono (cawake_any _) ?_); rintro e w7 ⟨rfl, hb7⟩
    have HB7 := hide (below_step HBW.out hb7)
    clear hb7
    go_wp2_with fail
    go_ret
    exact ⟨rfl, HB7.out⟩
  by_cases h1 : L1.length ≤ 40
  case neg =>
    have hI : ¬ (40 : Int) < (L0.length : Int) := by omega
    have hI1 : (40 : Int) < (L1.length : Int) := by omega
    clear h1
    go_wp2_with fail
    refine (Calls.mono (cawake_any _) ?_); rintro e w7 ⟨rfl, hb7⟩
    have HB7 := hide (below_step HBW.out hb7)
    clear hb7
    go_wp2_with fail
    go_ret
    exact ⟨rfl, HB7.out⟩
  have hI : ¬ (40 : Int) < (L0.length : Int) := by omega
  have hI1 : ¬ (40 : Int) < (L1.length : Int) := by omega
  have HL0 := hide h0
  have HL1 := hide h1
  clear h0 h1
  go_wp2_with fail
  refine (Calls.mono (HK1.out _ HBW.out) ?_); rintro e wd ⟨rfl, hbd⟩
  have HBD := hide (below_step HBW.out hbd)
  have HZ1 := hide ((hbd.block g1 l1).trans HZ1.out)
  have HZ2 := hide ((hbd.block g2 l2).trans HZ2.out)
  clear hbd p0 p1 p2 p3 p4 p5 q0 q1 q2 q3 q4 q5 l1 l2
  have l1 := (Array.getElem?_eq_some_iff.1 HZ1.out).1
  have l2 := (Array.getElem?_eq_some_iff.1 HZ2.out).1
  obtain ⟨q0, q1, q2, q3, q4, q5⟩ := six_cells HZ2.out
  cases x1 with
  | false =>
    go_wp2_with fail
    refine (Calls.mono (cawake_any _) ?_); rintro e w7 ⟨rfl, hb7⟩
    have HB7 := hide (below_step HBD.out hb7)
    clear hb7
    go_wp2_with fail
    go_ret
    exact ⟨rfl, HB7.out⟩
  | true =>
  go_wp2_with fail
  refine (Calls.mono (HK2.out _ HBD.out) ?_); rintro e we ⟨rfl, hbd⟩
  have HBC := hide (below_step HBD.out hbd)
  have HZ1 := hide ((hbd.block g1 l1).trans HZ1.out)
  have HZ2 := hide ((hbd.block g2 l2).trans HZ2.out)
  clear hbd q0 q1 q2 q3 q4 q5 l1 l2
  cases x2 with
  | false =>
    go_wp2_with fail
    refine (Calls.mono (cawake_any _) ?_); rintro e w7 ⟨rfl, hb7⟩
    have HB7 := hide (below_step HBC.out hb7)
    clear hb7
    go_wp2_with fail
    go_ret
    exact ⟨rfl, HB7.out⟩
  | true =>
  have l1 := (Array.getElem?_eq_some_iff.1 HZ1.out).1
  have l2 := (Array.getElem?_eq_some_iff.1 HZ2.out).1
  go_wp2_with fail
  refine (Calls.mono (HNEW.out _) ?_); rintro e w1 ⟨b, rfl, hR⟩
  rw [show co0 3 0 5 3 s 0 0 0 = g3 0 s (fun _ => false) [] from co0_coG 3 0 5 3 s 0 0 0] at hR
  have HLE : Hid (we.heap.size ≤ b) := hide (hR.xs b rfl).1
  have HR1 := hide (hR.from HBC.out)
  have HBE := hide hR.low
  have HLG : Hid (g1 < we.heap.size ∧ g2 < we.heap.size) := hide ⟨l1, l2⟩
  clear hR
  have HNC := hide (newcall_any 3 0 5 3 s 0 0 0 false w w1 HR1.out.low (by omega))
  go_wp2_with fail
  refine (Calls.mono HNC.out ?_); rintro e w2 ⟨p, cb, rfl, hK, hb2⟩
  have hb12 := below_step HBE.out hb2
  have HK0 := hide hK
  have HR2 := hide (HR1.out.below hb2)
  have HZ1 := hide ((hb12.block g1 l1).trans HZ1.out)
  have HZ2 := hide ((hb12.block g2 l2).trans HZ2.out)
  have HLB : Hid (b < w1.heap.size) := hide HR1.out.lt
  have HLP : Hid (w1.heap.size ≤ p ∧ w1.heap.size ≤ cb) := hide ⟨hK.dp.1, hK.dc.1⟩
  clear hK hb2 hb12 HNC HNEW HK1 HK2
  -- which comes first
  obtain ⟨P, Q, hPQ⟩ : ∃ P Q : Mg, (a5 = false ∧ P = mR 1 X A0 c0 L0 ∧ Q = mR 2 Y A1 c1 L1) ∨ (a5 = true ∧ P = mR 2 Y A1 c1 L1 ∧ Q = mR 1 X A0 c0 L0) := by
    cases a5
    · exact ⟨_, _, .inl ⟨rfl, rfl, rfl⟩⟩
    · exact ⟨_, _, .inr ⟨rfl, rfl, rfl⟩⟩
  obtain ⟨i, j, hPF⟩ : ∃ i j : Nat, (P.k = 5 ∧ P.t = 0 ∧ P.id = 5 ∧ P.f = (i : Int) ∧ i < 3) ∧ (Q.k = 5 ∧ Q.t = 0 ∧ Q.id = 5 ∧ Q.f = (j : Int) ∧ j < 3) ∧ i ≠ j ∧ (P.L.length ≤ 40 ∧ Q.L.length ≤ 40) ∧ (mokB P = true ∧ mokB Q = true) ∧ (P.rd w ∧ Q.rd w) ∧ ∀ x, x ∈ P.L ∨ x ∈ Q.L → x ∈ L0 ∨ x ∈ L1 := by
    rcases hPQ with ⟨_, rfl, rfl⟩ | ⟨_, rfl, rfl⟩
    · exact ⟨1, 2, ⟨rfl, rfl, rfl, rfl, by omega⟩, ⟨rfl, rfl, rfl, rfl, by omega⟩, by omega, ⟨HL0.out, HL1.out⟩, ⟨HX1.out, HX2.out⟩, ⟨HM0.out, HM1.out⟩, fun x h => h⟩
    · exact ⟨2, 1, ⟨rfl, rfl, rfl, rfl, by omega⟩, ⟨rfl, rfl, rfl, rfl, by omega⟩, by omega, ⟨HL1.out, HL0.out⟩, ⟨HX2.out, HX1.out⟩, ⟨HM1.out, HM0.out⟩, fun x h => h.symm⟩
  have HPF := hide hPF
  have HPQ := hide hPQ
  clear hPQ l1 l2 hPF
  go_upto_if 68 with fail
  go_cut [] (fun W => W.heap[g1]? = some (.cells #[.int .i64 P.k, .int .i64 P.f, .int .i64 P.t, .int .u64 P.id, .int .u64 P.n, .slice P.A P.L.length P.c] 33 (0, 0)) ∧ W.heap[g2]? = some (.cells #[.int .i64 Q.k, .int .i64 Q.f, .int .i64 Q.t, .int .u64 Q.id, .int .u64 Q.n, .slice Q.A Q.L.length Q.c] 33 (0, 0)) ∧ Sets (fun g => g = g1 ∨ g = g2) w2 W)
  case first =>
    rcases HPQ.out with ⟨e0, e1, e2⟩ | ⟨e0, e1, e2⟩
    · subst e0 e1 e2
      go_wp2_with fail
      go_meet
      exact ⟨HZ1.out, HZ2.out, Sets.refl _⟩
    · subst e0 e1 e2
      have l1 := (Array.getElem?_eq_some_iff.1 HZ1.out).1
      have l2 := (Array.getElem?_eq_some_iff.1 HZ2.out).1
      obtain ⟨p0, p1, p2, p3, p4, p5⟩ := six_cells HZ1.out
      obtain ⟨q0, q1, q2, q3, q4, q5⟩ := six_cells HZ2.out
      have f1 : ∀ o, w2.frozen? ⟨g1, o, none⟩ = false := fun o => by simp [World.frozen?, HZ1.out]
      have f2 : ∀ o, w2.frozen? ⟨g2, o, none⟩ = false := fun o => by simp [World.frozen?, HZ2.out]
      have hne : ¬ g1 = g2 := HNE.out
      have hne2 : ¬ g2 = g1 := fun e => hne e.symm
      have k1 := put6m (.int .i64 5) (.int .i64 2) (.int .i64 0) (.int .u64 5) (.int .u64 Y) (.slice A1 L1.length c1) HZ1.out
      have s1 := Sets.set6r (S := fun c => c = g1) (Sets.refl w2) (g := g1) (fun _ => rfl) (.int .i64 5) (.int .i64 2) (.int .i64 0) (.int .u64 5) (.int .u64 Y) (.slice A1 L1.length c1)
      have k2 := (s1.block g2 l2 hne2).trans HZ2.out
      obtain ⟨wy, hwy⟩ : ∃ wy, (((((w2.setCell ⟨g1, 0, none⟩ (.int .i64 5)).setCell ⟨g1, 1, none⟩ (.int .i64 2)).setCell ⟨g1, 2, none⟩ (.int .i64 0)).setCell ⟨g1, 3, none⟩ (.int .u64 5)).setCell ⟨g1, 4, none⟩ (.int .u64 Y)).setCell ⟨g1, 5, none⟩ (.slice A1 L1.length c1) = wy := ⟨_, rfl⟩
      rw [hwy] at k1 s1 k2
      have k3 := put6m (.int .i64 5) (.int .i64 1) (.int .i64 0) (.int .u64 5) (.int .u64 X) (.slice A0 L0.length c0) k2
      have s2 := Sets.set6r (S := fun c => c = g2) (Sets.refl wy) (g := g2) (fun _ => rfl) (.int .i64 5) (.int .i64 1) (.int .i64 0) (.int .u64 5) (.int .u64 X) (.slice A0 L0.length c0)
      have K4 := hide ((s2.block g1 (Array.getElem?_eq_some_iff.1 k1).1 hne).trans k1)
      have K3 := hide k3
      have KS := hide ((s1.trans (T := fun c => c = g1) (Sets.refl _) (fun _ _ h => h) |> fun k => (⟨k.os, k.tape, k.output, k.size, fun g hg hn => k.block g hg (fun e => hn (.inl e))⟩ : Sets (fun g => g = g1 ∨ g = g2) w2 wy)).trans s2 (fun _ _ e => .inr e))
      rw [← hwy] at K4 K3 KS
      clear k1 s1 k2 hwy k3 s2
      go_wp2_with fail
      go_meet
      exact ⟨K4.out, K3.out, KS.out⟩
  case rest =>
  obtain ⟨hz1, hz2, hss⟩ := hcut
  have hsz := hss.size
  have hX2 : ∀ g, g = b → ¬ (g = g1 ∨ g = g2) := fun g e h => by have h1 := HLE.out; have h2 := HLG.out; omega
  have hD2 : ∀ g, (w1.heap.size ≤ g ∧ g < w2.heap.size) → ¬ (g = g1 ∨ g = g2) := fun g e h => by have h1 := HLB.out; have h2 := HLG.out; have h3 := HLE.out; omega
  have hg12 : w.heap.size ≤ g1 ∧ w.heap.size ≤ g2 := ⟨by rw [← HG1.out]; exact Nat.le_refl _, by rw [← HG2.out, ← HWA.out]; simp⟩
  have hlow : Below w.heap.size w wc := Sets.below HR2.out.low hss (fun g e => e.elim (fun e => by rw [e]; exact hg12.1) (fun e => by rw [e]; exact hg12.2)) HR2.out.low.size
  have HRc := hide (HR2.out.sets hss hX2 hlow)
  have HKc := hide (HK0.out.sets hss hD2 hlow)
  have HZ1c := hide hz1
  have HZ2c := hide hz2
  have HSZ := hide hsz
  clear hz1 hz2 hss hsz hX2 hD2 hlow HZ1 HZ2
  obtain ⟨E, hE⟩ : ∃ E, two 0 s P Q = E := ⟨_, rfl⟩
  obtain ⟨K1, hK1⟩ : ∃ K1, conK (cs0 3 0 5 3 s 0 0 0 false) P = K1 := ⟨_, rfl⟩
  obtain ⟨K2, hK2⟩ : ∃ K2, conK K1 Q = K2 := ⟨_, rfl⟩
  obtain ⟨⟨Pk, Pt, Pi, Pf, hi3⟩, ⟨Qk, Qt, Qi, Qf, hj3⟩, hij, ⟨PL, QL⟩, ⟨Pm, Qm⟩, ⟨Prd, Qrd⟩, hmem⟩ := HPF.out
  have hS0 : SameC (g3 0 s (fun _ => false) []) (cs0 3 0 5 3 s 0 0 0 false) := by
    have h := same_new 3 0 5 3 s 0 0 0
    rw [co0_coG] at h
    exact h
  have hS1 : SameC (one 0 s P) K1 := by rw [← hK1]; exact (same_on hS0 P).2
  have hS2 : SameC E K2 := by rw [← hK2, ← hE]; exact (same_on hS1 Q).2
  have hk1 := one_k (a := 0) (s := s) HS255.out Pk Pt Pi Pf hi3
  have hlim1 := same_lim hS1 (a := 900) (b := 1000000) (by omega) (fun g hg => by have := hk1.2.2.1 g hg; omega)
  have h2e := two_eq (a := 0) (s := s) Pk Pt Pi Pf hi3 Qk Qt Qi Qf hj3 hij
  rw [Pm, Qm, hE] at h2e
  have h1e := (one_eq (a := 0) (s := s) Pk Pt Pi Pf hi3).2
  rw [Pm] at h1e
  have HDN : Hid (E.dn = true) := hide h2e.2.1
  have HAL : Hid (E.AL = itemsC [gB P.n P.L, gB Q.n Q.L] s) := hide (by rw [h2e.2.2.2]; exact if_pos ⟨rfl, rfl⟩)
  have HALL : Hid (E.AL.length ≤ 80) := hide (by rw [← hE]; exact two_len PL QL Pk Pt Pi Pf hi3 Qk Qt Qi Qf hj3 hij)
  have HS2 := hide hS2
  have HRP := hide (fun (W : World) (D : Nat → Prop) (h : CallD w W D p cb (cs0 3 0 5 3 s 0 0 0 false)) => rd_any h P Prd rfl (show 3 ≤ 7 by omega) (fun _ => by omega) (show ([] : List Mg).length ≤ 900 by simp) (fun g hg => (by cases hg)))
  have HRQ := hide (fun (W : World) (D : Nat → Prop) (h : CallD w W D p cb K1) => rd_any h Q Qrd hS1.rd (by have h3 := hS1.n; have h4 : (one 0 s P).n = 3 := (by rw [(one_eq (a := 0) (s := s) Pk Pt Pi Pf hi3).1]; split <;> rfl); omega) (fun _ => by omega) hlim1.1 hlim1.2)
  rw [hK1] at HRP
  rw [hK2] at HRQ
  have hgl0 := got_lim (R := g3 0 s (fun _ => false) []) (m := P) (by simp [coG]) (fun g hg => by simp [coG] at hg) PL
  have hgl1 := got_lim (R := one 0 s P) (m := Q) hk1.2.1 (fun g hg => Nat.le_trans (hk1.2.2.1 g hg) PL) QL
  have HCP := hide (fun (W : World) (X : Nat → Prop) (h : CoO w W b X (g3 0 s (fun _ => false) [])) => con_x h (g3_k HS255.out (by simp)) P Prd (rfl : conR _ P = one 0 s P) h1e (fun _ _ _ => citems_any hgl0.1 hgl0.2))
  have HCQ := hide (fun (W : World) (X : Nat → Prop) (h : CoO w W b X (one 0 s P)) => con_x h hk1.1 Q Qrd (show conR (one 0 s P) Q = E from hE) h2e.1 (fun _ _ _ => by rw [hk1.2.2.2.1]; exact citems_any hgl1.1 hgl1.2))
  have HMEM : Hid (∀ x ∈ E.AL, (x ∈ L0 ∨ x ∈ L1) ∧ x.s = s) := hide (fun x hx => by
    rw [HAL.out] at hx
    have h := items_mem2 (mokB_goods Pm) hx
    exact ⟨hmem x h.1, h.2⟩)
  clear hE hK1 hK2 Pk Pt Pi Pf hi3 Qk Qt Qi Qf hj3 hij PL QL Pm Qm Prd Qrd hmem hS0 hS1 hS2 hk1 hlim1 h2e h1e hgl0 hgl1
  have l1 := (Array.getElem?_eq_some_iff.1 HZ1c.out).1
  obtain ⟨p0, p1, p2, p3, p4, p5⟩ := six_cells HZ1c.out
  -- the document's On, twice
  go_wp2_with fail
  refine (Calls.mono (HRP.out _ _ HKc.out) ?_); rintro e w3 ⟨rfl, hK3, hs3⟩
  have hpp : p ≠ g1 ∧ p ≠ g2 ∧ cb ≠ g1 ∧ cb ≠ g2 ∧ b ≠ p ∧ b ≠ cb := by have h1 := HLP.out; have h2 := HLB.out; have h3 := HLE.out; have h4 := HLG.out; omega
  have HPP := hide hpp
  have HK3 := hide hK3
  have HR3 := hide (HRc.out.sets hs3 (fun g e h => by subst e; exact h.elim hpp.2.2.2.2.1 hpp.2.2.2.2.2) hK3.low)
  have HZ13 := hide ((hs3.block g1 l1 (fun h => h.elim (fun e => hpp.1 e.symm) (fun e => hpp.2.2.1 e.symm))).trans HZ1c.out)
  have HZ23 := hide ((hs3.block g2 (Array.getElem?_eq_some_iff.1 HZ2c.out).1 (fun h => h.elim (fun e => hpp.2.1 e.symm) (fun e => hpp.2.2.2.1 e.symm))).trans HZ2c.out)
  clear hK3 hs3 hpp p0 p1 p2 p3 p4 p5 l1 HZ1c HZ2c HRc HKc HRP
  have l2 := (Array.getElem?_eq_some_iff.1 HZ23.out).1
  obtain ⟨p0, p1, p2, p3, p4, p5⟩ := six_cells HZ23.out
  go_wp2_with fail
  refine (Calls.mono (HRQ.out _ _ HK3.out) ?_); rintro e w4 ⟨rfl, hK4, hs4⟩
  have hpp := HPP.out
  have HK4 := hide hK4
  have HR4 := hide (HR3.out.sets hs4 (fun g e h => by subst e; exact h.elim hpp.2.2.2.2.1 hpp.2.2.2.2.2) hK4.low)
  have HZ14 := hide ((hs4.block g1 (Array.getElem?_eq_some_iff.1 HZ13.out).1 (fun h => h.elim (fun e => hpp.1 e.symm) (fun e => hpp.2.2.1 e.symm))).trans HZ13.out)
  have HZ24 := hide ((hs4.block g2 l2 (fun h => h.elim (fun e => hpp.2.1 e.symm) (fun e => hpp.2.2.2.1 e.symm))).trans HZ23.out)
  have HD4 : Hid (∀ g, Xn (Xn (fun g => w1.heap.size ≤ g ∧ g < w2.heap.size) wc w3) w3 w4 g → g ≠ b ∧ g < w4.heap.size) := hide (fun g hg => by
    refine ⟨fun e => ?_, (hK4.ds g hg).2⟩
    subst e
    have h1 := HLB.out
    have h2 := HR3.out.lt
    have h3 := HSZ.out
    have h4 := HR2.out.lt
    rcases hg with (hg | hg) | hg
    · omega
    · omega
    · omega)
  clear hK4 hs4 hpp p0 p1 p2 p3 p4 p5 l2 HZ13 HZ23 HR3 HK3 HRQ
  have l1 := (Array.getElem?_eq_some_iff.1 HZ14.out).1
  obtain ⟨p0, p1, p2, p3, p4, p5⟩ := six_cells HZ14.out
  have HC1 := hide (HCP.out _ _ HR4.out)
  -- the program's, twice
  go_wp2_with fail
  refine (Calls.mono HC1.out ?_); rintro e w5 ⟨rfl, hR5, hs5⟩
  have HR5 := hide hR5
  have HK5 := hide (HK4.out.sets hs5 (fun g hg e => (HD4.out g hg).1 e) hR5.low)
  have HZ25 := hide ((hs5.block g2 (Array.getElem?_eq_some_iff.1 HZ24.out).1 (fun e => by have h1 := HLG.out; have h2 := HLE.out; omega)).trans HZ24.out)
  clear hR5 hs5 HC1 HCP HR4 HK4 p0 p1 p2 p3 p4 p5 l1 HZ14
  have l2 := (Array.getElem?_eq_some_iff.1 HZ25.out).1
  obtain ⟨p0, p1, p2, p3, p4, p5⟩ := six_cells HZ25.out
  have HC2 := hide (HCQ.out _ _ HR5.out)
  go_wp2_with fail
  refine (Calls.mono HC2.out ?_); rintro e w6 ⟨rfl, hR6, hs6⟩
  have HR6 := hide hR6
  have HK6 := hide (HK5.out.sets hs6 (fun g hg e => by
    have h1 := HD4.out g hg
    rcases e with e | e
    · exact h1.1 e
    · omega) hR6.low)
  clear hR6 hs6 HC2 HCQ HR5 HK5 p0 p1 p2 p3 p4 p5 l2 HZ25 HZ24
  have hal80 := HALL.out
  have HD := hide (cdone_any HR6.out (by omega))
  go_wp2_with fail
  refine (Calls.mono HD.out ?_); rintro e w7 ⟨v7, rfl, ho7, hb7⟩
  rw [HDN.out]
  obtain ⟨A7, c7, rfl, hr7, _, _, _⟩ := OwnL.row It.cells_len ho7
  have HK7 := hide (HK6.out.below hb7)
  have HR7i := hide hr7
  clear ho7 hb7 HD HR6 HK6 hr7
  obtain ⟨wx, hwx, hbx, hzx⟩ := ans_al w7 (.int .u64 E.aid) (.int .i64 E.ack) (.int .i64 E.acs) (.int .u64 E.act) (.int .i64 E.acv) (.int .i64 E.ae) (.int .u64 E.av) (.slice A7 E.AL.length c7)
  have HKX := hide (HK7.out.below hbx)
  have HRX := hide (HR7i.out.below hbx)
  have HWX := hide hwx
  obtain ⟨y0, y1, y2, y3, y4, y5, y6, y7⟩ := ans_at hzx (Below.refl _ _)
  have lgx := (Array.getElem?_eq_some_iff.1 hzx).1
  obtain ⟨gx, hgx⟩ : ∃ gx, w7.heap.size = gx := ⟨_, rfl⟩
  rw [hgx] at y0 y1 y2 y3 y4 y5 y6 y7 lgx
  have HGX := hide hgx
  clear hwx hbx hzx hgx HK7 HR7i
  obtain ⟨vi, vg, va, hkb, _, _, hka, _⟩ := HKX.out.row
  rw [HS2.out.AL] at hka
  obtain ⟨A8, c8, rfl, hr8, _, _⟩ := hka
  have hpl := HKX.out.lt.1
  have z0 : wx.cell? ⟨p, 15, none⟩ = some (.int .u64 E.aid) := by rw [← HS2.out.aid]; exact (cell_of_list (o := 15) hkb).trans rfl
  have z1 : wx.cell? ⟨p, 16, none⟩ = some (.int .i64 E.ack) := by rw [← HS2.out.ack]; exact (cell_of_list (o := 16) hkb).trans rfl
  have z2 : wx.cell? ⟨p, 17, none⟩ = some (.int .i64 E.acs) := by rw [← HS2.out.acs]; exact (cell_of_list (o := 17) hkb).trans rfl
  have z3 : wx.cell? ⟨p, 18, none⟩ = some (.int .u64 E.act) := by rw [← HS2.out.act]; exact (cell_of_list (o := 18) hkb).trans rfl
  have z4 : wx.cell? ⟨p, 19, none⟩ = some (.int .i64 E.acv) := by rw [← HS2.out.acv]; exact (cell_of_list (o := 19) hkb).trans rfl
  have z5 : wx.cell? ⟨p, 20, none⟩ = some (.int .i64 E.ae) := by rw [← HS2.out.ae]; exact (cell_of_list (o := 20) hkb).trans rfl
  have z6 : wx.cell? ⟨p, 21, none⟩ = some (.int .u64 E.av) := by rw [← HS2.out.av]; exact (cell_of_list (o := 21) hkb).trans rfl
  have z7 : wx.cell? ⟨p, 22, none⟩ = some (.slice A8 E.AL.length c8) := (cell_of_list (o := 22) hkb).trans rfl
  have HLOWX := hide HKX.out.low
  have HSA : Hid (∀ s' : Near wx, Calls Try.prog 15 #[.agg #[.int .u64 E.aid, .int .i64 E.ack, .int .i64 E.acs, .int .u64 E.act, .int .i64 E.acv, .int .i64 E.ae, .int .u64 E.av, .slice A7 E.AL.length c7], .agg #[.int .u64 E.aid, .int .i64 E.ack, .int .i64 E.acs, .int .u64 E.act, .int .i64 E.acv, .int .i64 E.ae, .int .u64 E.av, .slice A8 E.AL.length c8]] s'.at_ fun e w' => e = .returned (.bool true) ∧ Below s'.at_.heap.size s'.at_ w') := hide (fun s' => samea_eq _ _ _ _ _ _ _ A7 A8 c7 c8 E.AL s'.at_ (HRX.out.below s'.is) (hr8.below s'.is) (by omega))
  have HMM := hide HMEM.out
  clear hkb hr8 HS2 HKX HMEM HAL HPF HPQ
  generalize E.AL = T at *
  go_upto_region 17 with fail
  try rw [HWX.out]
  try rw [HGX.out]
  have ny0 := fun s' : Near wx => s'.cell y0 lgx
  have nz0 := fun s' : Near wx => s'.cell z0 hpl
  have ny1 := fun s' : Near wx => s'.cell y1 lgx
  have nz1 := fun s' : Near wx => s'.cell z1 hpl
  have ny2 := fun s' : Near wx => s'.cell y2 lgx
  have nz2 := fun s' : Near wx => s'.cell z2 hpl
  have ny3 := fun s' : Near wx => s'.cell y3 lgx
  have nz3 := fun s' : Near wx => s'.cell z3 hpl
  have ny4 := fun s' : Near wx => s'.cell y4 lgx
  have nz4 := fun s' : Near wx => s'.cell z4 hpl
  have ny5 := fun s' : Near wx => s'.cell y5 lgx
  have nz5 := fun s' : Near wx => s'.cell z5 hpl
  have ny6 := fun s' : Near wx => s'.cell y6 lgx
  have nz6 := fun s' : Near wx => s'.cell z6 hpl
  have ny7 := fun s' : Near wx => s'.cell y7 lgx
  have nz7 := fun s' : Near wx => s'.cell z7 hpl
  clear y0 y1 y2 y3 y4 y5 y6 z0 z1 z2 z3 z4 z5 z6 z7
  refine wp_region_near (by kernel_rfl) (by kernel_rfl) ?_
  repeat (go_big_quiet_step ((first | (go_at_call 15; exact near_of (HSA.out _)))))
  refine wpQuiet_nil ?_
  intro _ hw'
  obtain ⟨s9, rfl⟩ := hw'
  have y7 := keep_cell s9.is y7 lgx
  have HRT := hide (HRX.out.below s9.is)
  have HB9 := hide (below_step HLOWX.out s9.is)
  have lgx := Nat.lt_of_lt_of_le lgx s9.is.size
  obtain ⟨u, hu⟩ : ∃ u, s9.at_ = u := ⟨_, rfl⟩
  rw [hu] at y7 HRT HB9 lgx
  rw [hu]
  clear hu ny0 nz0 ny1 nz1 ny2 nz2 ny3 nz3 ny4 nz4 ny5 nz5 ny6 nz6 ny7 nz7 HSA hpl HRX
  have HCU : Hid (∀ W, Below u.heap.size u W → W.cell? ⟨gx, 7, none⟩ = some (.slice A7 T.length c7) ∧ gx < W.heap.size) := hide (fun W hW => ⟨keep_cell hW y7 lgx, Nat.lt_of_lt_of_le lgx hW.size⟩)
  go_upto_block 0 with fail
  clear y7 lgx
  go_cut [] (fun W => Below w.heap.size w W)
  case first =>
    go_wp2_with fail
    go_loopw [20] (fun i wr => ∃ k : Nat, i = .int .i64 k ∧ k ≤ T.length ∧ Below u.heap.size u wr) (fun i _ => T.length - (intOf i).toNat)
    case atStart => exact ⟨0, rfl, by omega, Below.refl _ _⟩
    case round =>
      obtain ⟨k, rfl, hk, hb⟩ := hrel
      have HB := hide hb
      obtain ⟨y7, lgx⟩ := HCU.out _ hb
      clear hb
      by_cases hlt : k < T.length
      · have hkI : (k : Int) < (T.length : Int) := by omega
        have hk0 : (0 : Int) ≤ (k : Int) := by omega
        obtain ⟨bl, off, rfl, hbb, t0, t1, t2, t3, t4⟩ := ItemsAt.item HRT.out HB.out hlt
        have HTT : Hid (∀ W, Below u.heap.size u W → W.cell? ⟨bl, off + k * 5, none⟩ = some (.int .i64 T[k].s) ∧ W.cell? ⟨bl, off + k * 5 + 1, none⟩ = some (.int .i64 T[k].k) ∧ W.cell? ⟨bl, off + k * 5 + 2, none⟩ = some (.int .u64 T[k].t) ∧ W.cell? ⟨bl, off + k * 5 + 3, none⟩ = some (.int .u64 T[k].v) ∧ W.cell? ⟨bl, off + k * 5 + 4, none⟩ = some (.int .i64 T[k].x) ∧ bl < W.heap.size) := hide (fun W hW => by
          obtain ⟨bl', off', e, hbb', t0, t1, t2, t3, t4⟩ := ItemsAt.item HRT.out hW hlt
          injection e with e
          injection e with e1 e2 _
          subst e1 e2
          exact ⟨t0, t1, t2, t3, t4, Nat.lt_of_lt_of_le hbb' hW.size⟩)
        have HTM := hide (HMM.out T[k] (List.getElem_mem _))
        generalize T[k] = z at *
        clear t0 t1 t2 t3 t4
        obtain ⟨wo, rfl⟩ : ∃ wo, wo = wr := ⟨_, rfl⟩
        go_upto_block 2 with fail
        clear y7 lgx
        go_cut [21] (fun v W => v = .bool (inB L0 z L0.length) ∧ Below u.heap.size u W)
        case first =>
          go_wp2_with fail
          go_loopw [21, 22] (fun v j wr => ∃ q : Nat, j = .int .i64 q ∧ q ≤ L0.length ∧ v = .bool (inB L0 z q) ∧ Below u.heap.size u wr) (fun _ j _ => L0.length - (intOf j).toNat)
          case atStart => exact ⟨0, rfl, by omega, by rw [inB_zero], HB.out⟩
          case round =>
            obtain ⟨q, rfl, hq, rfl, hbq⟩ := hrel
            have HBQ := hide hbq
            obtain ⟨y7, lgx⟩ := HCU.out _ hbq
            obtain ⟨t0, t1, t2, t3, t4, lbl⟩ := HTT.out _ hbq
            clear hbq
            by_cases hql : q < L0.length
            · have hqI : (q : Int) < (L0.length : Int) := by omega
              have hq0 : (0 : Int) ≤ (q : Int) := by omega
              obtain ⟨bm, ofm, hAe, hbm, v0, v1, v2, v3, v4⟩ := ItemsAt.item HM0.out.1 (below_step HB9.out HBQ.out) hql
              have hAe : A0 = some ⟨bm, ofm, none⟩ := hAe
              have HIS := hide (inB_snoc (z := z) hql)
              have lbm : bm < wr.heap.size := Nat.lt_of_lt_of_le hbm (below_step HB9.out HBQ.out).size
              generalize L0[q] = y at *
              obtain ⟨ff, hff⟩ : ∃ ff, (inB L0 z q) = ff := ⟨_, rfl⟩
              have HFF := hide hff
              rw [hff]
              clear hff
              have hqq := run_eql_item y z
              have HNX : Hid ((inB L0 z (q + 1)) = (ff || eqI y z)) := hide (by rw [HIS.out, ← HFF.out])
              try rw [hAe]
              clear HIS
              cases ff with
              | true =>
                have HNT : Hid ((inB L0 z (q + 1)) = true) := hide (by rw [HNX.out]; rfl)
                go_wp2_with fail
                go_quiet (fail)
                go_wp2_with fail
                go_roundw
                case rel => exact ⟨q + 1, by go_num, by omega, by rw [HNT.out], below_drewN HBQ.out _⟩
                case measure => (simp [intOf] <;> omega)
              | false =>
                obtain ⟨fe, hfe⟩ : ∃ fe, eqI y z = fe := ⟨_, rfl⟩
                rw [hfe] at hqq
                have HNT : Hid ((inB L0 z (q + 1)) = fe) := hide (by rw [HNX.out, hfe]; rfl)
                clear hfe
                cases fe
                all_goals
                  go_wp2_with fail
                  go_quiet (fail)
                  go_wp2_with fail
                  go_roundw
                  case rel => exact ⟨q + 1, by go_num, by omega, by rw [HNT.out], below_drewN HBQ.out _⟩
                  case measure => (simp [intOf] <;> omega)
            · obtain rfl : q = L0.length := by omega
              have hqI : ¬ (L0.length : Int) < (L0.length : Int) := by omega
              go_wp2_with fail
              go_meet
              exact ⟨rfl, HBQ.out⟩
        case rest =>
        obtain ⟨rfl, hbq⟩ := hcut
        have HB := hide hbq
        clear hbq
        obtain ⟨f0, hf0⟩ : ∃ f0, inB L0 z L0.length = f0 := ⟨_, rfl⟩
        have HF0 := hide hf0
        rw [hf0]
        clear hf0
        go_upto_block 4 with fail
        go_cut [21] (fun v W => v = .bool (f0 || inB L1 z L1.length) ∧ Below u.heap.size u W)
        case first =>
          go_wp2_with fail
          go_loopw [21, 23] (fun v j wr => ∃ q : Nat, j = .int .i64 q ∧ q ≤ L1.length ∧ v = .bool (f0 || inB L1 z q) ∧ Below u.heap.size u wr) (fun _ j _ => L1.length - (intOf j).toNat)
          case atStart => exact ⟨0, rfl, by omega, by rw [inB_zero]; simp, HB.out⟩
          case round =>
            obtain ⟨q, rfl, hq, rfl, hbq⟩ := hrel
            have HBQ := hide hbq
            obtain ⟨y7, lgx⟩ := HCU.out _ hbq
            obtain ⟨t0, t1, t2, t3, t4, lbl⟩ := HTT.out _ hbq
            clear hbq
            by_cases hql : q < L1.length
            · have hqI : (q : Int) < (L1.length : Int) := by omega
              have hq0 : (0 : Int) ≤ (q : Int) := by omega
              obtain ⟨bm, ofm, hAe, hbm, v0, v1, v2, v3, v4⟩ := ItemsAt.item HM1.out.1 (below_step HB9.out HBQ.out) hql
              have hAe : A1 = some ⟨bm, ofm, none⟩ := hAe
              have HIS := hide (inB_snoc (z := z) hql)
              have lbm : bm < wr.heap.size := Nat.lt_of_lt_of_le hbm (below_step HB9.out HBQ.out).size
              generalize L1[q] = y at *
              obtain ⟨ff, hff⟩ : ∃ ff, (f0 || inB L1 z q) = ff := ⟨_, rfl⟩
              have HFF := hide hff
              rw [hff]
              clear hff
              have hqq := run_eql_item y z
              have HNX : Hid ((f0 || inB L1 z (q + 1)) = (ff || eqI y z)) := hide (by rw [HIS.out, ← HFF.out]; simp [Bool.or_assoc])
              try rw [hAe]
              clear HIS
              cases ff with
              | true =>
                have HNT : Hid ((f0 || inB L1 z (q + 1)) = true) := hide (by rw [HNX.out]; rfl)
                go_wp2_with fail
                go_quiet (fail)
                go_wp2_with fail
                go_roundw
                case rel => exact ⟨q + 1, by go_num, by omega, by rw [HNT.out], below_drewN HBQ.out _⟩
                case measure => (simp [intOf] <;> omega)
              | false =>
                obtain ⟨fe, hfe⟩ : ∃ fe, eqI y z = fe := ⟨_, rfl⟩
                rw [hfe] at hqq
                have HNT : Hid ((f0 || inB L1 z (q + 1)) = fe) := hide (by rw [HNX.out, hfe]; rfl)
                clear hfe
                cases fe
                all_goals
                  go_wp2_with fail
                  go_quiet (fail)
                  go_wp2_with fail
                  go_roundw
                  case rel => exact ⟨q + 1, by go_num, by omega, by rw [HNT.out], below_drewN HBQ.out _⟩
                  case measure => (simp [intOf] <;> omega)
            · obtain rfl : q = L1.length := by omega
              have hqI : ¬ (L1.length : Int) < (L1.length : Int) := by omega
              go_wp2_with fail
              go_meet
              exact ⟨rfl, HBQ.out⟩
        case rest =>
        obtain ⟨rfl, hbq⟩ := hcut
        have HB := hide hbq
        obtain ⟨y7, lgx⟩ := HCU.out _ hbq
        obtain ⟨t0, t1, t2, t3, t4, lbl⟩ := HTT.out _ hbq
        clear hbq
        have hin : (f0 || inB L1 z L1.length) = true := by
          rcases HTM.out.1 with h | h
          · rw [← HF0.out, inB_mem h]; rfl
          · rw [inB_mem h]; simp
        rw [hin]
        have hzs : (z.s != s) = false := by simp [HTM.out.2]
        clear hin
        go_wp2_with fail
        go_roundw
        case rel => exact ⟨k + 1, by go_num, by omega, HB.out⟩
        case measure => (simp [intOf] <;> omega)
      · obtain rfl : k = T.length := by omega
        have hkI : ¬ (T.length : Int) < (T.length : Int) := by omega
        go_wp2_with fail
        go_meet
        exact below_step HB9.out HB.out
  case rest =>
    have HB2 := hide hcut
    clear hcut
    go_wp2_with fail
    refine (Calls.mono (cawake_any _) ?_); rintro e w7 ⟨rfl, hb7⟩
    have HB7 := hide (below_step HB2.out hb7)
    clear hb7
    go_wp2_with fail
    go_ret
    exact ⟨rfl, HB7.out⟩
end Go.Proofs.Ytlabpgdimhbocaa.coordReads
