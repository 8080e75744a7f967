/- clepsydraref26.Call of a client's call: On: contracts. Conditions: the call as it lies; lengths. -/
import Derived.Test.YtlabpgdimhbocaaGreatCdE
import Derived.Test.YtlabpgdimhbocaaGreatMsg2
import Derived.Test.YtlabpgdimhbocaaGreatSsE
namespace Go.Proofs.YtlabpgdimhbocaaGreat
set_option linter.unusedVariables false
set_option linter.unusedSimpArgs false
open Go.ChangeShapes Go.WideShapes Go.ChangeAt Go.RowKit
/-- What a call passes over. -/
def refD (K : Cs) (m : Mg) : Bool := K.dn || !mokB m || !(m.t == K.at_) || !(m.id == K.id) || decide ((K.n : Int) ≤ m.f) || K.C m.f.toNat
/-- What On leaves, and tells. -/
def RdP (w0 w : World) (D : Nat → Prop) (p cb : Nat) (K : Cs) (B : Bool) (e : Ending) (w' : World) : Prop := e = .returned (.tuple #[.bool B, .slice none 0 0]) ∧ CallD w0 w' (Xn D w w') p cb K ∧ Sets (fun g => g = p ∨ g = cb) w w'
theorem xn_more {w0 w w1 w' : World} {D : Nat → Prop} {p cb : Nat} {K : Cs} (h : CallD w0 w' (Xn D w1 w') p cb K) (hs : w.heap.size ≤ w1.heap.size) (h0 : w0.heap.size ≤ w.heap.size) (hd : ∀ g, D g → w0.heap.size ≤ g ∧ g < w'.heap.size) : CallD w0 w' (Xn D w w') p cb K :=
  h.more (fun g hg => hg.imp id (fun k => ⟨Nat.le_trans hs k.1, k.2⟩)) (fun g hg => hg.elim (fun k => hd g k) (fun k => ⟨Nat.le_trans h0 k.1, k.2⟩))
theorem rowm_grown {w w' : World} {row : Option Nat} {b : Nat} {M : List Mg} (h : RowAt Mg.cells 6 w (some ⟨b, 0, none⟩) M) (hg : w.grownBy w' row) (hn : row ≠ some b) : RowAt Mg.cells 6 w' (some ⟨b, 0, none⟩) M := fun hM => by
  obtain ⟨b', off, e, hlt, hc⟩ := h hM
  obtain ⟨rfl, rfl⟩ : b = b' ∧ 0 = off := by injection e with h; injection h; exact ⟨by assumption, by assumption⟩
  exact ⟨b, 0, rfl, Nat.lt_of_lt_of_le hlt hg.size, fun i hi j u hu => (World.cell?_of_block (hg.block b hlt (fun e => hn e.symm))).trans (hc i hi j u hu)⟩
theorem nem_moved {v v' : Value} {u : World} {b : Nat} (hm : v'.ownBlock = v.ownBlock ∨ v'.ownBlock = some u.heap.size) (hn : v.ownBlock ≠ some b) (hb : b < u.heap.size) : v'.ownBlock ≠ some b := fun e => by
  rcases hm with h | h
  · exact hn (h ▸ e)
  · rw [h] at e
    have := Option.some.inj e
    omega
set_option maxRecDepth 100000 in
set_option maxHeartbeats 800000 in
theorem rd_ref {w0 w : World} {D : Nat → Prop} {p cb : Nat} {K : Cs} (h : CallD w0 w D p cb K) (m : Mg) (hm : m.rd w0) (hr : K.rd = false) (href : refD K m = true) :
    Calls Tryz.prog 13 #[.pointer (some ⟨p, 0, none⟩), m.val] w (RdP w0 w D p cb K false) := by
  have hmw := hm.below h.low
  have hba := below_alloc (Below.refl w.heap.size w) (.cells #[.int .i64 m.k, .int .i64 m.f, .int .i64 m.t, .int .u64 m.id, .int .u64 m.n, .slice m.A m.L.length m.c] 39)
  have hz := heap_alloc_new w (.cells #[.int .i64 m.k, .int .i64 m.f, .int .i64 m.t, .int .u64 m.id, .int .u64 m.n, .slice m.A m.L.length m.c] 39)
  obtain ⟨w1, hw1⟩ : ∃ w1, w.alloc (.cells #[.int .i64 m.k, .int .i64 m.f, .int .i64 m.t, .int .u64 m.id, .int .u64 m.n, .slice m.A m.L.length m.c] 39) = w1 := ⟨_, rfl⟩
  rw [hw1] at hba hz
  obtain ⟨gm, hgm⟩ : ∃ gm, w.heap.size = gm := ⟨_, rfl⟩
  rw [hgm] at hz
  have h1 := h.below hba
  obtain ⟨Ai, ci, _, hcl⟩ := h1.cells
  have HMOK : Hid (∀ W : World, Below w1.heap.size w1 W → Calls Tryz.prog 24 #[m.val] W fun e w' => e = .returned (.bool (mokB m)) ∧ Below W.heap.size W w') := hide (fun W hW => rmok_any m W ((hmw.1.below hba).below hW))
  unfold Mg.val at HMOK
  have HCL := hide hcl
  have H1 := hide h1
  have HBA := hide hba
  have HZ := hide hz
  have HW1 := hide hw1
  have HGM := hide hgm
  have HM := hide hm
  have hpl := h1.lt.1
  have hcbl := h1.lt.2
  have hgl := (Array.getElem?_eq_some_iff.1 hz).1
  have HH := hide h
  clear hcl h1 h hba hz hw1 hgm hm hmw
  go_enter Tryz.func13, Tryz.ntmps13
  go_upto_region 1 with fail
  rw [HW1.out, HGM.out]
  clear HW1
  obtain ⟨m0, m1, m2, m3, m4, m5⟩ := six_cells HZ.out
  obtain ⟨c0, c1, c2, c3, c4, c5, c6, c7, c8, c9, c10, c11, c13, c14, cc⟩ := HCL.out w1 (Below.refl _ _)
  rw [hr] at c3
  have r0 := fun s : Near w1 => s.cell c0 hpl
  have r1 := fun s : Near w1 => s.cell c1 hpl
  have r2 := fun s : Near w1 => s.cell c2 hpl
  have q0 := fun s : Near w1 => s.cell m0 hgl
  have q1 := fun s : Near w1 => s.cell m1 hgl
  have q2 := fun s : Near w1 => s.cell m2 hgl
  have q3 := fun s : Near w1 => s.cell m3 hgl
  have q4 := fun s : Near w1 => s.cell m4 hgl
  have q5 := fun s : Near w1 => s.cell m5 hgl
  by_cases hA : K.dn = true
  · rw [hA] at c14
    have r14 := fun s : Near w1 => s.cell c14 hpl
    clear href hA
    clear c0 c1 c2 c3 c4 c5 c6 c7 c8 c9 c10 c11 c13 cc m0 m1 m2 m3 m4 m5 c14
    refine wp_region_near (by kernel_rfl) (by kernel_rfl) ?_
    repeat (go_big_quiet_step ((first | (go_at_call 24; exact near_of (HMOK.out _ (Near.is _))))))
    refine wpQuiet_nil ?_
    intro _ hw'
    obtain ⟨s4, rfl⟩ := hw'
    clear r0 r1 r2 r14 q0 q1 q2 q3 q4 q5
    have HF := hide (HH.out.wide (below_step HBA.out s4.is))
    have HB4 := hide (below_step HBA.out s4.is)
    obtain ⟨w4, hw4⟩ : ∃ w4, s4.at_ = w4 := ⟨_, rfl⟩
    rw [hw4] at HF HB4
    rw [hw4]
    clear hw4
    go_wp2_with fail
    refine bodyPost_ret (v := .tuple #[.bool false, .slice none 0 0]) (by simp [results, Tryz.results13]) rfl ?_
    exact ⟨rfl, HF.out, Sets.of HB4.out⟩
  · have hA : K.dn = false := by simpa using hA
    by_cases hB : mokB m = false
    · rw [hB] at HMOK
      rw [hA] at c14
      have r14 := fun s : Near w1 => s.cell c14 hpl
      clear href hA hB
      clear c0 c1 c2 c3 c4 c5 c6 c7 c8 c9 c10 c11 c13 cc m0 m1 m2 m3 m4 m5 c14
      refine wp_region_near (by kernel_rfl) (by kernel_rfl) ?_
      repeat (go_big_quiet_step ((first | (go_at_call 24; exact near_of (HMOK.out _ (Near.is _))))))
      refine wpQuiet_nil ?_
      intro _ hw'
      obtain ⟨s4, rfl⟩ := hw'
      clear r0 r1 r2 r14 q0 q1 q2 q3 q4 q5
      have HF := hide (HH.out.wide (below_step HBA.out s4.is))
      have HB4 := hide (below_step HBA.out s4.is)
      obtain ⟨w4, hw4⟩ : ∃ w4, s4.at_ = w4 := ⟨_, rfl⟩
      rw [hw4] at HF HB4
      rw [hw4]
      clear hw4
      go_wp2_with fail
      refine bodyPost_ret (v := .tuple #[.bool false, .slice none 0 0]) (by simp [results, Tryz.results13]) rfl ?_
      exact ⟨rfl, HF.out, Sets.of HB4.out⟩
    · have hB : mokB m = true := by simpa using hB
      by_cases hC : m.t = K.at_
      · have dC : (m.t != K.at_) = false := by simp [hC]
        by_cases hD : m.id = K.id
        · have dD : (m.id != K.id) = false := by simp [hD]
          by_cases hE : (K.n : Int) ≤ m.f
          · have dE : (K.n : Int) ≤ m.f := hE
            rw [hA] at c14
            have r14 := fun s : Near w1 => s.cell c14 hpl
            rw [hB] at HMOK
            clear href hA hB hC hD 
            clear c0 c1 c2 c3 c4 c5 c6 c7 c8 c9 c10 c11 c13 cc m0 m1 m2 m3 m4 m5 c14
            refine wp_region_near (by kernel_rfl) (by kernel_rfl) ?_
            repeat (go_big_quiet_step ((first | (go_at_call 24; exact near_of (HMOK.out _ (Near.is _))))))
            refine wpQuiet_nil ?_
            intro _ hw'
            obtain ⟨s4, rfl⟩ := hw'
            clear r0 r1 r2 r14 q0 q1 q2 q3 q4 q5
            have HF := hide (HH.out.wide (below_step HBA.out s4.is))
            have HB4 := hide (below_step HBA.out s4.is)
            obtain ⟨w4, hw4⟩ : ∃ w4, s4.at_ = w4 := ⟨_, rfl⟩
            rw [hw4] at HF HB4
            rw [hw4]
            clear hw4
            go_wp2_with fail
            refine bodyPost_ret (v := .tuple #[.bool false, .slice none 0 0]) (by simp [results, Tryz.results13]) rfl ?_
            exact ⟨rfl, HF.out, Sets.of HB4.out⟩
          · have dE : ¬ (K.n : Int) ≤ m.f := hE
            have hF : K.C m.f.toNat = true := by
              have h9 := href
              unfold refD at h9
              simpa [hA, hB, hC, hD, hE] using h9
            clear href dC dD dE
            have hmf := mokBf hB
            obtain ⟨i, hi⟩ : ∃ i : Nat, m.f = (i : Int) := ⟨m.f.toNat, by omega⟩
            have hi7 : i < K.n := by omega
            have hit : m.f.toNat = i := by omega
            rw [hit] at hF
            rw [hB] at HMOK
            rw [hA] at c14
            have dC : (m.t != K.at_) = false := by simp [hC]
            have dD : (m.id != K.id) = false := by simp [hD]
            have dE : ¬ (K.n : Int) ≤ (i : Int) := by omega
            have hi0 : (0 : Int) ≤ (i : Int) := by omega
            have hiI : (i : Int) < (K.n : Int) := by omega
            have r14 := fun s : Near w1 => s.cell c14 hpl
            rw [hi] at HMOK m1 HZ q1
            have HIT := hide hit
            have HII := hide hi
            have HCC := hide cc
            have HMF := hide hmf
            clear hA hB hC hD hE hit hmf hi c0 c1 c2 c3 c4 c5 c6 c7 c8 c9 c10 c11 c13 c14 cc m0 m1 m2 m3 m4 m5
            refine wp_region_near (by kernel_rfl) (by kernel_rfl) ?_
            repeat (go_big_quiet_step ((first | (go_at_call 24; exact near_of (HMOK.out _ (Near.is _))))))
            refine wpQuiet_nil ?_
            intro _ hw'
            obtain ⟨s4, rfl⟩ := hw'
            clear r0 r1 r2 r14 q0 q1 q2 q3 q4 q5
            have H4 := hide (H1.out.below s4.is)
            have HB4 := hide (below_step HBA.out s4.is)
            have HS41 := hide s4.is
            have HZ4 := hide ((s4.is.block gm hgl).trans HZ.out)
            obtain ⟨w4, hw4⟩ : ∃ w4, s4.at_ = w4 := ⟨_, rfl⟩
            rw [hw4] at H4 HB4 HZ4 HS41
            rw [hw4]
            clear hw4
            obtain ⟨m0, m1, m2, m3, m4, m5⟩ := six_cells HZ4.out
            obtain ⟨c0, c1, c2, c3, c4, c5, c6, c7, c8, c9, c10, c11, c13, c14, cc⟩ := HCL.out w4 HS41.out
            rw [hr] at c3
            have cci := cc i hi7
            rw [hF] at cci
            have hpl := H4.out.lt.1
            have hcbl := H4.out.lt.2
            have hgl := (Array.getElem?_eq_some_iff.1 HZ4.out).1
            clear c0 c1 c2 c5 c6 c7 c8 c9 c11 c13 c14 cc hF
            go_upto_region 5 with fail
            have r10 := fun s : Near w4 => s.cell c10 hpl
            have q1 := fun s : Near w4 => s.cell m1 hgl
            have rci := fun s : Near w4 => s.cell cci hcbl
            clear c3 c10 m1 cci
            refine wp_region_near (by kernel_rfl) (by kernel_rfl) ?_
            repeat (go_big_quiet_step (fail))
            refine wpQuiet_nil ?_
            intro _ hw'
            obtain ⟨s5, rfl⟩ := hw'
            clear r10 q1 rci
            have H5 := hide (H4.out.below s5.is)
            have HB5 := hide (below_step HB4.out s5.is)
            have HZ5 := hide ((s5.is.block gm hgl).trans HZ4.out)
            have c4 := keep_cell s5.is c4 hpl
            have HS51 := hide (below_step HS41.out s5.is)
            obtain ⟨w5, hw5⟩ : ∃ w5, s5.at_ = w5 := ⟨_, rfl⟩
            rw [hw5] at H5 HB5 HZ5 c4 HS51
            rw [hw5]
            clear hw5 m0 m2 m3 m4 m5
            obtain ⟨m0, m1, m2, m3, m4, m5⟩ := six_cells HZ5.out
            have hpl := H5.out.lt.1
            have hcbl := H5.out.lt.2
            have hgl := (Array.getElem?_eq_some_iff.1 HZ5.out).1
            have HF := hide (HH.out.wide HB5.out)
            go_wp2_with fail
            refine bodyPost_ret (v := .tuple #[.bool false, .slice none 0 0]) (by simp [results, Tryz.results13]) rfl ?_
            exact ⟨rfl, HF.out, Sets.of HB5.out⟩
        · have dD : (m.id != K.id) = true := by simp [hD]
          rw [hA] at c14
          have r14 := fun s : Near w1 => s.cell c14 hpl
          rw [hB] at HMOK
          clear href hA hB hC hD
          clear c0 c1 c2 c3 c4 c5 c6 c7 c8 c9 c10 c11 c13 cc m0 m1 m2 m3 m4 m5 c14
          refine wp_region_near (by kernel_rfl) (by kernel_rfl) ?_
          repeat (go_big_quiet_step ((first | (go_at_call 24; exact near_of (HMOK.out _ (Near.is _))))))
          refine wpQuiet_nil ?_
          intro _ hw'
          obtain ⟨s4, rfl⟩ := hw'
          clear r0 r1 r2 r14 q0 q1 q2 q3 q4 q5
          have HF := hide (HH.out.wide (below_step HBA.out s4.is))
          have HB4 := hide (below_step HBA.out s4.is)
          obtain ⟨w4, hw4⟩ : ∃ w4, s4.at_ = w4 := ⟨_, rfl⟩
          rw [hw4] at HF HB4
          rw [hw4]
          clear hw4
          go_wp2_with fail
          refine bodyPost_ret (v := .tuple #[.bool false, .slice none 0 0]) (by simp [results, Tryz.results13]) rfl ?_
          exact ⟨rfl, HF.out, Sets.of HB4.out⟩
      · have dC : (m.t != K.at_) = true := by simp [hC]
        rw [hA] at c14
        have r14 := fun s : Near w1 => s.cell c14 hpl
        rw [hB] at HMOK
        clear href hA hB hC
        clear c0 c1 c2 c3 c4 c5 c6 c7 c8 c9 c10 c11 c13 cc m0 m1 m2 m3 m4 m5 c14
        refine wp_region_near (by kernel_rfl) (by kernel_rfl) ?_
        repeat (go_big_quiet_step ((first | (go_at_call 24; exact near_of (HMOK.out _ (Near.is _))))))
        refine wpQuiet_nil ?_
        intro _ hw'
        obtain ⟨s4, rfl⟩ := hw'
        clear r0 r1 r2 r14 q0 q1 q2 q3 q4 q5
        have HF := hide (HH.out.wide (below_step HBA.out s4.is))
        have HB4 := hide (below_step HBA.out s4.is)
        obtain ⟨w4, hw4⟩ : ∃ w4, s4.at_ = w4 := ⟨_, rfl⟩
        rw [hw4] at HF HB4
        rw [hw4]
        clear hw4
        go_wp2_with fail
        refine bodyPost_ret (v := .tuple #[.bool false, .slice none 0 0]) (by simp [results, Tryz.results13]) rfl ?_
        exact ⟨rfl, HF.out, Sets.of HB4.out⟩
set_option maxRecDepth 100000 in
set_option maxHeartbeats 800000 in
theorem rd_old {w0 w : World} {D : Nat → Prop} {p cb : Nat} {K : Cs} (h : CallD w0 w D p cb K) (m : Mg) (hm : m.rd w0) (hr : K.rd = false) (href : refD K m = false) (hk : ¬ K.ck = 3) (hk3 : m.k = 3) (hG : K.G.length ≤ 900) (hL : ∀ g ∈ K.G, g.L.length ≤ 1000000) :
    Calls Tryz.prog 13 #[.pointer (some ⟨p, 0, none⟩), m.val] w (RdP w0 w D p cb (endM K 21 m.n) true) := by
  have HKK := hide hk
  have HK3 := hide hk3
  clear hk hk3
  have hmw := hm.below h.low
  have hba := below_alloc (Below.refl w.heap.size w) (.cells #[.int .i64 m.k, .int .i64 m.f, .int .i64 m.t, .int .u64 m.id, .int .u64 m.n, .slice m.A m.L.length m.c] 39)
  have hz := heap_alloc_new w (.cells #[.int .i64 m.k, .int .i64 m.f, .int .i64 m.t, .int .u64 m.id, .int .u64 m.n, .slice m.A m.L.length m.c] 39)
  obtain ⟨w1, hw1⟩ : ∃ w1, w.alloc (.cells #[.int .i64 m.k, .int .i64 m.f, .int .i64 m.t, .int .u64 m.id, .int .u64 m.n, .slice m.A m.L.length m.c] 39) = w1 := ⟨_, rfl⟩
  rw [hw1] at hba hz
  obtain ⟨gm, hgm⟩ : ∃ gm, w.heap.size = gm := ⟨_, rfl⟩
  rw [hgm] at hz
  have h1 := h.below hba
  obtain ⟨Ai, ci, _, hcl⟩ := h1.cells
  have HMOK : Hid (∀ W : World, Below w1.heap.size w1 W → Calls Tryz.prog 24 #[m.val] W fun e w' => e = .returned (.bool (mokB m)) ∧ Below W.heap.size W w') := hide (fun W hW => rmok_any m W ((hmw.1.below hba).below hW))
  unfold Mg.val at HMOK
  have HCL := hide hcl
  have H1 := hide h1
  have HBA := hide hba
  have HZ := hide hz
  have HW1 := hide hw1
  have HGM := hide hgm
  have HM := hide hm
  have hpl := h1.lt.1
  have hcbl := h1.lt.2
  have hgl := (Array.getElem?_eq_some_iff.1 hz).1
  have HH := hide h
  clear hcl h1 h hba hz hw1 hgm hm hmw
  go_enter Tryz.func13, Tryz.ntmps13
  go_upto_region 1 with fail
  rw [HW1.out, HGM.out]
  clear HW1
  obtain ⟨m0, m1, m2, m3, m4, m5⟩ := six_cells HZ.out
  obtain ⟨c0, c1, c2, c3, c4, c5, c6, c7, c8, c9, c10, c11, c13, c14, cc⟩ := HCL.out w1 (Below.refl _ _)
  rw [hr] at c3
  have r0 := fun s : Near w1 => s.cell c0 hpl
  have r1 := fun s : Near w1 => s.cell c1 hpl
  have r2 := fun s : Near w1 => s.cell c2 hpl
  have q0 := fun s : Near w1 => s.cell m0 hgl
  have q1 := fun s : Near w1 => s.cell m1 hgl
  have q2 := fun s : Near w1 => s.cell m2 hgl
  have q3 := fun s : Near w1 => s.cell m3 hgl
  have q4 := fun s : Near w1 => s.cell m4 hgl
  have q5 := fun s : Near w1 => s.cell m5 hgl
  have h9 := href
  unfold refD at h9
  simp only [Bool.or_eq_false_iff, Bool.not_eq_false', beq_iff_eq, decide_eq_false_iff_not] at h9
  obtain ⟨⟨⟨⟨⟨hA, hB⟩, hC⟩, hD⟩, hE⟩, hF⟩ := h9
  clear href
  have hmf := mokBf hB
  obtain ⟨i, hi⟩ : ∃ i : Nat, m.f = (i : Int) := ⟨m.f.toNat, by omega⟩
  have hi7 : i < K.n := by omega
  have hit : m.f.toNat = i := by omega
  rw [hit] at hF
  rw [hB] at HMOK
  rw [hA] at c14
  have dC : (m.t != K.at_) = false := by simp [hC]
  have dD : (m.id != K.id) = false := by simp [hD]
  have dE : ¬ (K.n : Int) ≤ (i : Int) := by omega
  have hi0 : (0 : Int) ≤ (i : Int) := by omega
  have hiI : (i : Int) < (K.n : Int) := by omega
  have r14 := fun s : Near w1 => s.cell c14 hpl
  rw [hi] at HMOK m1 HZ q1
  have HIT := hide hit
  have HII := hide hi
  have HCC := hide cc
  have HMF := hide hmf
  clear hA hB hC hD hE hit hmf hi c0 c1 c2 c3 c4 c5 c6 c7 c8 c9 c10 c11 c13 c14 cc m0 m1 m2 m3 m4 m5
  refine wp_region_near (by kernel_rfl) (by kernel_rfl) ?_
  repeat (go_big_quiet_step ((first | (go_at_call 24; exact near_of (HMOK.out _ (Near.is _))))))
  refine wpQuiet_nil ?_
  intro _ hw'
  obtain ⟨s4, rfl⟩ := hw'
  clear r0 r1 r2 r14 q0 q1 q2 q3 q4 q5
  have H4 := hide (H1.out.below s4.is)
  have HB4 := hide (below_step HBA.out s4.is)
  have HS41 := hide s4.is
  have HZ4 := hide ((s4.is.block gm hgl).trans HZ.out)
  obtain ⟨w4, hw4⟩ : ∃ w4, s4.at_ = w4 := ⟨_, rfl⟩
  rw [hw4] at H4 HB4 HZ4 HS41
  rw [hw4]
  clear hw4
  obtain ⟨m0, m1, m2, m3, m4, m5⟩ := six_cells HZ4.out
  obtain ⟨c0, c1, c2, c3, c4, c5, c6, c7, c8, c9, c10, c11, c13, c14, cc⟩ := HCL.out w4 HS41.out
  rw [hr] at c3
  have cci := cc i hi7
  rw [hF] at cci
  have hpl := H4.out.lt.1
  have hcbl := H4.out.lt.2
  have hgl := (Array.getElem?_eq_some_iff.1 HZ4.out).1
  clear c0 c1 c2 c5 c6 c7 c8 c9 c11 c13 c14 cc hF
  go_upto_region 5 with fail
  have r10 := fun s : Near w4 => s.cell c10 hpl
  have q1 := fun s : Near w4 => s.cell m1 hgl
  have rci := fun s : Near w4 => s.cell cci hcbl
  clear c3 c10 m1 cci
  refine wp_region_near (by kernel_rfl) (by kernel_rfl) ?_
  repeat (go_big_quiet_step (fail))
  refine wpQuiet_nil ?_
  intro _ hw'
  obtain ⟨s5, rfl⟩ := hw'
  clear r10 q1 rci
  have H5 := hide (H4.out.below s5.is)
  have HB5 := hide (below_step HB4.out s5.is)
  have HZ5 := hide ((s5.is.block gm hgl).trans HZ4.out)
  have c4 := keep_cell s5.is c4 hpl
  have HS51 := hide (below_step HS41.out s5.is)
  obtain ⟨w5, hw5⟩ : ∃ w5, s5.at_ = w5 := ⟨_, rfl⟩
  rw [hw5] at H5 HB5 HZ5 c4 HS51
  rw [hw5]
  clear hw5 m0 m2 m3 m4 m5
  obtain ⟨m0, m1, m2, m3, m4, m5⟩ := six_cells HZ5.out
  have hpl := H5.out.lt.1
  have hcbl := H5.out.lt.2
  have hgl := (Array.getElem?_eq_some_iff.1 HZ5.out).1
  have hkI : (K.ck == 3) = false := beq_eq_false_iff_ne.2 HKK.out
  rw [HK3.out] at m0
  have HE := hide (rcend_any H5.out hr 21 m.n (by omega) hL)
  clear hG hL m1 m2 m3 m5 hi7 hiI hi0 dC dD dE
  go_wp2_with fail
  refine (Calls.mono HE.out ?_); rintro e w6 ⟨rfl, h6, hs6⟩
  have HF := hide (xn_more h6 HB5.out.size HH.out.low.size (fun g hg => h6.ds g (.inl hg)))
  have HS6 := hide ((Sets.of (S := fun g => g = p ∨ g = cb) HB5.out).trans hs6 (fun _ _ e => .inl e))
  clear h6 hs6 HE
  go_wp2_with fail
  refine bodyPost_ret (v := .tuple #[.bool true, .slice none 0 0]) (by simp [results, Tryz.results13]) rfl ?_
  exact ⟨rfl, HF.out, HS6.out⟩
set_option maxRecDepth 100000 in
set_option maxHeartbeats 800000 in
theorem rd_none_get {w0 w : World} {D : Nat → Prop} {p cb : Nat} {K : Cs} (h : CallD w0 w D p cb K) (m : Mg) (hm : m.rd w0) (hr : K.rd = false) (href : refD K m = false) (hk : K.ck = 3) (hk5 : ¬ m.k = 5) :
    Calls Tryz.prog 13 #[.pointer (some ⟨p, 0, none⟩), m.val] w (RdP w0 w D p cb K false) := by
  have HKK := hide hk
  have HK5 := hide hk5
  clear hk hk5
  have hmw := hm.below h.low
  have hba := below_alloc (Below.refl w.heap.size w) (.cells #[.int .i64 m.k, .int .i64 m.f, .int .i64 m.t, .int .u64 m.id, .int .u64 m.n, .slice m.A m.L.length m.c] 39)
  have hz := heap_alloc_new w (.cells #[.int .i64 m.k, .int .i64 m.f, .int .i64 m.t, .int .u64 m.id, .int .u64 m.n, .slice m.A m.L.length m.c] 39)
  obtain ⟨w1, hw1⟩ : ∃ w1, w.alloc (.cells #[.int .i64 m.k, .int .i64 m.f, .int .i64 m.t, .int .u64 m.id, .int .u64 m.n, .slice m.A m.L.length m.c] 39) = w1 := ⟨_, rfl⟩
  rw [hw1] at hba hz
  obtain ⟨gm, hgm⟩ : ∃ gm, w.heap.size = gm := ⟨_, rfl⟩
  rw [hgm] at hz
  have h1 := h.below hba
  obtain ⟨Ai, ci, _, hcl⟩ := h1.cells
  have HMOK : Hid (∀ W : World, Below w1.heap.size w1 W → Calls Tryz.prog 24 #[m.val] W fun e w' => e = .returned (.bool (mokB m)) ∧ Below W.heap.size W w') := hide (fun W hW => rmok_any m W ((hmw.1.below hba).below hW))
  unfold Mg.val at HMOK
  have HCL := hide hcl
  have H1 := hide h1
  have HBA := hide hba
  have HZ := hide hz
  have HW1 := hide hw1
  have HGM := hide hgm
  have HM := hide hm
  have hpl := h1.lt.1
  have hcbl := h1.lt.2
  have hgl := (Array.getElem?_eq_some_iff.1 hz).1
  have HH := hide h
  clear hcl h1 h hba hz hw1 hgm hm hmw
  go_enter Tryz.func13, Tryz.ntmps13
  go_upto_region 1 with fail
  rw [HW1.out, HGM.out]
  clear HW1
  obtain ⟨m0, m1, m2, m3, m4, m5⟩ := six_cells HZ.out
  obtain ⟨c0, c1, c2, c3, c4, c5, c6, c7, c8, c9, c10, c11, c13, c14, cc⟩ := HCL.out w1 (Below.refl _ _)
  rw [hr] at c3
  have r0 := fun s : Near w1 => s.cell c0 hpl
  have r1 := fun s : Near w1 => s.cell c1 hpl
  have r2 := fun s : Near w1 => s.cell c2 hpl
  have q0 := fun s : Near w1 => s.cell m0 hgl
  have q1 := fun s : Near w1 => s.cell m1 hgl
  have q2 := fun s : Near w1 => s.cell m2 hgl
  have q3 := fun s : Near w1 => s.cell m3 hgl
  have q4 := fun s : Near w1 => s.cell m4 hgl
  have q5 := fun s : Near w1 => s.cell m5 hgl
  have h9 := href
  unfold refD at h9
  simp only [Bool.or_eq_false_iff, Bool.not_eq_false', beq_iff_eq, decide_eq_false_iff_not] at h9
  obtain ⟨⟨⟨⟨⟨hA, hB⟩, hC⟩, hD⟩, hE⟩, hF⟩ := h9
  clear href
  have hmf := mokBf hB
  obtain ⟨i, hi⟩ : ∃ i : Nat, m.f = (i : Int) := ⟨m.f.toNat, by omega⟩
  have hi7 : i < K.n := by omega
  have hit : m.f.toNat = i := by omega
  rw [hit] at hF
  rw [hB] at HMOK
  rw [hA] at c14
  have dC : (m.t != K.at_) = false := by simp [hC]
  have dD : (m.id != K.id) = false := by simp [hD]
  have dE : ¬ (K.n : Int) ≤ (i : Int) := by omega
  have hi0 : (0 : Int) ≤ (i : Int) := by omega
  have hiI : (i : Int) < (K.n : Int) := by omega
  have r14 := fun s : Near w1 => s.cell c14 hpl
  rw [hi] at HMOK m1 HZ q1
  have HIT := hide hit
  have HII := hide hi
  have HCC := hide cc
  have HMF := hide hmf
  clear hA hB hC hD hE hit hmf hi c0 c1 c2 c3 c4 c5 c6 c7 c8 c9 c10 c11 c13 c14 cc m0 m1 m2 m3 m4 m5
  refine wp_region_near (by kernel_rfl) (by kernel_rfl) ?_
  repeat (go_big_quiet_step ((first | (go_at_call 24; exact near_of (HMOK.out _ (Near.is _))))))
  refine wpQuiet_nil ?_
  intro _ hw'
  obtain ⟨s4, rfl⟩ := hw'
  clear r0 r1 r2 r14 q0 q1 q2 q3 q4 q5
  have H4 := hide (H1.out.below s4.is)
  have HB4 := hide (below_step HBA.out s4.is)
  have HS41 := hide s4.is
  have HZ4 := hide ((s4.is.block gm hgl).trans HZ.out)
  obtain ⟨w4, hw4⟩ : ∃ w4, s4.at_ = w4 := ⟨_, rfl⟩
  rw [hw4] at H4 HB4 HZ4 HS41
  rw [hw4]
  clear hw4
  obtain ⟨m0, m1, m2, m3, m4, m5⟩ := six_cells HZ4.out
  obtain ⟨c0, c1, c2, c3, c4, c5, c6, c7, c8, c9, c10, c11, c13, c14, cc⟩ := HCL.out w4 HS41.out
  rw [hr] at c3
  have cci := cc i hi7
  rw [hF] at cci
  have hpl := H4.out.lt.1
  have hcbl := H4.out.lt.2
  have hgl := (Array.getElem?_eq_some_iff.1 HZ4.out).1
  clear c0 c1 c2 c5 c6 c7 c8 c9 c11 c13 c14 cc hF
  go_upto_region 5 with fail
  have r10 := fun s : Near w4 => s.cell c10 hpl
  have q1 := fun s : Near w4 => s.cell m1 hgl
  have rci := fun s : Near w4 => s.cell cci hcbl
  clear c3 c10 m1 cci
  refine wp_region_near (by kernel_rfl) (by kernel_rfl) ?_
  repeat (go_big_quiet_step (fail))
  refine wpQuiet_nil ?_
  intro _ hw'
  obtain ⟨s5, rfl⟩ := hw'
  clear r10 q1 rci
  have H5 := hide (H4.out.below s5.is)
  have HB5 := hide (below_step HB4.out s5.is)
  have HZ5 := hide ((s5.is.block gm hgl).trans HZ4.out)
  have c4 := keep_cell s5.is c4 hpl
  have HS51 := hide (below_step HS41.out s5.is)
  obtain ⟨w5, hw5⟩ : ∃ w5, s5.at_ = w5 := ⟨_, rfl⟩
  rw [hw5] at H5 HB5 HZ5 c4 HS51
  rw [hw5]
  clear hw5 m0 m2 m3 m4 m5
  obtain ⟨m0, m1, m2, m3, m4, m5⟩ := six_cells HZ5.out
  have hpl := H5.out.lt.1
  have hcbl := H5.out.lt.2
  have hgl := (Array.getElem?_eq_some_iff.1 HZ5.out).1
  have hkI : (K.ck == 3) = true := beq_iff_eq.2 HKK.out
  have h5I : (m.k == 5) = false := beq_eq_false_iff_ne.2 HK5.out
  clear m1 m2 m3 m5 hi7 hiI hi0 dC dD dE
  have HF := hide (HH.out.wide HB5.out)
  go_wp2_with fail
  refine bodyPost_ret (v := .tuple #[.bool false, .slice none 0 0]) (by simp [results, Tryz.results13]) rfl ?_
  exact ⟨rfl, HF.out, Sets.of HB5.out⟩
set_option maxRecDepth 100000 in
set_option maxHeartbeats 800000 in
theorem rd_none_put {w0 w : World} {D : Nat → Prop} {p cb : Nat} {K : Cs} (h : CallD w0 w D p cb K) (m : Mg) (hm : m.rd w0) (hr : K.rd = false) (href : refD K m = false) (hk : ¬ K.ck = 3) (hk3 : ¬ m.k = 3) (hk2 : ¬ m.k = 2) :
    Calls Tryz.prog 13 #[.pointer (some ⟨p, 0, none⟩), m.val] w (RdP w0 w D p cb K false) := by
  have HKK := hide (And.intro hk (And.intro hk3 hk2))
  clear hk hk3 hk2
  have hmw := hm.below h.low
  have hba := below_alloc (Below.refl w.heap.size w) (.cells #[.int .i64 m.k, .int .i64 m.f, .int .i64 m.t, .int .u64 m.id, .int .u64 m.n, .slice m.A m.L.length m.c] 39)
  have hz := heap_alloc_new w (.cells #[.int .i64 m.k, .int .i64 m.f, .int .i64 m.t, .int .u64 m.id, .int .u64 m.n, .slice m.A m.L.length m.c] 39)
  obtain ⟨w1, hw1⟩ : ∃ w1, w.alloc (.cells #[.int .i64 m.k, .int .i64 m.f, .int .i64 m.t, .int .u64 m.id, .int .u64 m.n, .slice m.A m.L.length m.c] 39) = w1 := ⟨_, rfl⟩
  rw [hw1] at hba hz
  obtain ⟨gm, hgm⟩ : ∃ gm, w.heap.size = gm := ⟨_, rfl⟩
  rw [hgm] at hz
  have h1 := h.below hba
  obtain ⟨Ai, ci, _, hcl⟩ := h1.cells
  have HMOK : Hid (∀ W : World, Below w1.heap.size w1 W → Calls Tryz.prog 24 #[m.val] W fun e w' => e = .returned (.bool (mokB m)) ∧ Below W.heap.size W w') := hide (fun W hW => rmok_any m W ((hmw.1.below hba).below hW))
  unfold Mg.val at HMOK
  have HCL := hide hcl
  have H1 := hide h1
  have HBA := hide hba
  have HZ := hide hz
  have HW1 := hide hw1
  have HGM := hide hgm
  have HM := hide hm
  have hpl := h1.lt.1
  have hcbl := h1.lt.2
  have hgl := (Array.getElem?_eq_some_iff.1 hz).1
  have HH := hide h
  clear hcl h1 h hba hz hw1 hgm hm hmw
  go_enter Tryz.func13, Tryz.ntmps13
  go_upto_region 1 with fail
  rw [HW1.out, HGM.out]
  clear HW1
  obtain ⟨m0, m1, m2, m3, m4, m5⟩ := six_cells HZ.out
  obtain ⟨c0, c1, c2, c3, c4, c5, c6, c7, c8, c9, c10, c11, c13, c14, cc⟩ := HCL.out w1 (Below.refl _ _)
  rw [hr] at c3
  have r0 := fun s : Near w1 => s.cell c0 hpl
  have r1 := fun s : Near w1 => s.cell c1 hpl
  have r2 := fun s : Near w1 => s.cell c2 hpl
  have q0 := fun s : Near w1 => s.cell m0 hgl
  have q1 := fun s : Near w1 => s.cell m1 hgl
  have q2 := fun s : Near w1 => s.cell m2 hgl
  have q3 := fun s : Near w1 => s.cell m3 hgl
  have q4 := fun s : Near w1 => s.cell m4 hgl
  have q5 := fun s : Near w1 => s.cell m5 hgl
  have h9 := href
  unfold refD at h9
  simp only [Bool.or_eq_false_iff, Bool.not_eq_false', beq_iff_eq, decide_eq_false_iff_not] at h9
  obtain ⟨⟨⟨⟨⟨hA, hB⟩, hC⟩, hD⟩, hE⟩, hF⟩ := h9
  clear href
  have hmf := mokBf hB
  obtain ⟨i, hi⟩ : ∃ i : Nat, m.f = (i : Int) := ⟨m.f.toNat, by omega⟩
  have hi7 : i < K.n := by omega
  have hit : m.f.toNat = i := by omega
  rw [hit] at hF
  rw [hB] at HMOK
  rw [hA] at c14
  have dC : (m.t != K.at_) = false := by simp [hC]
  have dD : (m.id != K.id) = false := by simp [hD]
  have dE : ¬ (K.n : Int) ≤ (i : Int) := by omega
  have hi0 : (0 : Int) ≤ (i : Int) := by omega
  have hiI : (i : Int) < (K.n : Int) := by omega
  have r14 := fun s : Near w1 => s.cell c14 hpl
  rw [hi] at HMOK m1 HZ q1
  have HIT := hide hit
  have HII := hide hi
  have HCC := hide cc
  have HMF := hide hmf
  clear hA hB hC hD hE hit hmf hi c0 c1 c2 c3 c4 c5 c6 c7 c8 c9 c10 c11 c13 c14 cc m0 m1 m2 m3 m4 m5
  refine wp_region_near (by kernel_rfl) (by kernel_rfl) ?_
  repeat (go_big_quiet_step ((first | (go_at_call 24; exact near_of (HMOK.out _ (Near.is _))))))
  refine wpQuiet_nil ?_
  intro _ hw'
  obtain ⟨s4, rfl⟩ := hw'
  clear r0 r1 r2 r14 q0 q1 q2 q3 q4 q5
  have H4 := hide (H1.out.below s4.is)
  have HB4 := hide (below_step HBA.out s4.is)
  have HS41 := hide s4.is
  have HZ4 := hide ((s4.is.block gm hgl).trans HZ.out)
  obtain ⟨w4, hw4⟩ : ∃ w4, s4.at_ = w4 := ⟨_, rfl⟩
  rw [hw4] at H4 HB4 HZ4 HS41
  rw [hw4]
  clear hw4
  obtain ⟨m0, m1, m2, m3, m4, m5⟩ := six_cells HZ4.out
  obtain ⟨c0, c1, c2, c3, c4, c5, c6, c7, c8, c9, c10, c11, c13, c14, cc⟩ := HCL.out w4 HS41.out
  rw [hr] at c3
  have cci := cc i hi7
  rw [hF] at cci
  have hpl := H4.out.lt.1
  have hcbl := H4.out.lt.2
  have hgl := (Array.getElem?_eq_some_iff.1 HZ4.out).1
  clear c0 c1 c2 c5 c6 c7 c8 c9 c11 c13 c14 cc hF
  go_upto_region 5 with fail
  have r10 := fun s : Near w4 => s.cell c10 hpl
  have q1 := fun s : Near w4 => s.cell m1 hgl
  have rci := fun s : Near w4 => s.cell cci hcbl
  clear c3 c10 m1 cci
  refine wp_region_near (by kernel_rfl) (by kernel_rfl) ?_
  repeat (go_big_quiet_step (fail))
  refine wpQuiet_nil ?_
  intro _ hw'
  obtain ⟨s5, rfl⟩ := hw'
  clear r10 q1 rci
  have H5 := hide (H4.out.below s5.is)
  have HB5 := hide (below_step HB4.out s5.is)
  have HZ5 := hide ((s5.is.block gm hgl).trans HZ4.out)
  have c4 := keep_cell s5.is c4 hpl
  have HS51 := hide (below_step HS41.out s5.is)
  obtain ⟨w5, hw5⟩ : ∃ w5, s5.at_ = w5 := ⟨_, rfl⟩
  rw [hw5] at H5 HB5 HZ5 c4 HS51
  rw [hw5]
  clear hw5 m0 m2 m3 m4 m5
  obtain ⟨m0, m1, m2, m3, m4, m5⟩ := six_cells HZ5.out
  have hpl := H5.out.lt.1
  have hcbl := H5.out.lt.2
  have hgl := (Array.getElem?_eq_some_iff.1 HZ5.out).1
  have hkI : (K.ck == 3) = false := beq_eq_false_iff_ne.2 HKK.out.1
  have h3I : (m.k == 3) = false := beq_eq_false_iff_ne.2 HKK.out.2.1
  have h2I : (m.k == 2) = false := beq_eq_false_iff_ne.2 HKK.out.2.2
  clear m1 m2 m3 m5 hi7 hiI hi0 dC dD dE
  have HF := hide (HH.out.wide HB5.out)
  go_wp2_with fail
  refine bodyPost_ret (v := .tuple #[.bool false, .slice none 0 0]) (by simp [results, Tryz.results13]) rfl ?_
  exact ⟨rfl, HF.out, Sets.of HB5.out⟩
/-- One more has counted. -/
def markK (K : Cs) (i : Nat) : Cs := { K with C := setC K.C i }
noncomputable def goK (K : Cs) (i : Nat) : Cs := if K.n / 2 + 1 ≤ cntC (setC K.C i) K.n then endM (markK K i) 0 K.ver else markK K i
theorem CallD.mark {w0 u : World} {D : Nat → Prop} {p cb : Nat} {K : Cs} (h : CallD w0 u D p cb K) {f : Nat} (hf : f < K.n) : CallD w0 (u.setCell ⟨cb, f, none⟩ (.bool true)) D p cb (markK K f) := by
  obtain ⟨vi, vg, va, hb, ⟨h1, h2⟩, h3, h4, h5⟩ := h.row
  have k : Sets (fun g => g = cb) u (u.setCell ⟨cb, f, none⟩ (.bool true)) := (Sets.refl (S := fun g => g = cb) u).set (g := cb) (fun _ => rfl) f _
  refine ⟨⟨vi, vg, va, (k.block p h.lt.1 h.ne).trans hb, ⟨sl_sets_ h1 k (fun g hg e => (h2 g hg).2.2 e), h2⟩, got_setsD h3 k (fun g hg e => (h3.far g hg).2.2 e), ⟨sl_sets_ h4 k (fun g hg e => (h5 g hg).2.2 e), h5⟩⟩, ?_, Sets.below h.low k (fun g e => by rw [e]; exact (h.ds cb h.dc).1) h.low.size, h.dp, h.dc, h.ne, fun g hg => ⟨(h.ds g hg).1, Nat.lt_of_lt_of_le (h.ds g hg).2 k.size⟩⟩
  show (u.setCell ⟨cb, f, none⟩ (.bool true)).heap[cb]? = some (Obj.cells (cntL K.n (setC K.C f)).toArray 4 (0, 0))
  rw [← cntL_setC K.C hf]
  exact set_of_list h.cnt _
set_option maxRecDepth 100000 in
set_option maxHeartbeats 800000 in
theorem rd_done {w0 w : World} {D : Nat → Prop} {p cb : Nat} {K : Cs} (h : CallD w0 w D p cb K) (m : Mg) (hm : m.rd w0) (hr : K.rd = false) (href : refD K m = false) (hn7 : K.n ≤ 7) (hk : ¬ K.ck = 3) (hk2 : m.k = 2) (hG : K.G.length ≤ 900) (hL : ∀ g ∈ K.G, g.L.length ≤ 1000000) :
    Calls Tryz.prog 13 #[.pointer (some ⟨p, 0, none⟩), m.val] w (RdP w0 w D p cb (goK K m.f.toNat) true) := by
  have HKK := hide hk
  have HK2 := hide hk2
  have HN7 := hide hn7
  have HGL : Hid ((markK K m.f.toNat).G.length ≤ 1000) := hide (show K.G.length ≤ 1000 by omega)
  have HLL : Hid (∀ g ∈ (markK K m.f.toNat).G, g.L.length ≤ 1000000) := hide hL
  clear hk hk2 hn7 hG hL
  have hmw := hm.below h.low
  have hba := below_alloc (Below.refl w.heap.size w) (.cells #[.int .i64 m.k, .int .i64 m.f, .int .i64 m.t, .int .u64 m.id, .int .u64 m.n, .slice m.A m.L.length m.c] 39)
  have hz := heap_alloc_new w (.cells #[.int .i64 m.k, .int .i64 m.f, .int .i64 m.t, .int .u64 m.id, .int .u64 m.n, .slice m.A m.L.length m.c] 39)
  obtain ⟨w1, hw1⟩ : ∃ w1, w.alloc (.cells #[.int .i64 m.k, .int .i64 m.f, .int .i64 m.t, .int .u64 m.id, .int .u64 m.n, .slice m.A m.L.length m.c] 39) = w1 := ⟨_, rfl⟩
  rw [hw1] at hba hz
  obtain ⟨gm, hgm⟩ : ∃ gm, w.heap.size = gm := ⟨_, rfl⟩
  rw [hgm] at hz
  have h1 := h.below hba
  obtain ⟨Ai, ci, _, hcl⟩ := h1.cells
  have HMOK : Hid (∀ W : World, Below w1.heap.size w1 W → Calls Tryz.prog 24 #[m.val] W fun e w' => e = .returned (.bool (mokB m)) ∧ Below W.heap.size W w') := hide (fun W hW => rmok_any m W ((hmw.1.below hba).below hW))
  unfold Mg.val at HMOK
  have HCL := hide hcl
  have H1 := hide h1
  have HBA := hide hba
  have HZ := hide hz
  have HW1 := hide hw1
  have HGM := hide hgm
  have HM := hide hm
  have hpl := h1.lt.1
  have hcbl := h1.lt.2
  have hgl := (Array.getElem?_eq_some_iff.1 hz).1
  have HH := hide h
  clear hcl h1 h hba hz hw1 hgm hm hmw
  go_enter Tryz.func13, Tryz.ntmps13
  go_upto_region 1 with fail
  rw [HW1.out, HGM.out]
  clear HW1
  obtain ⟨m0, m1, m2, m3, m4, m5⟩ := six_cells HZ.out
  obtain ⟨c0, c1, c2, c3, c4, c5, c6, c7, c8, c9, c10, c11, c13, c14, cc⟩ := HCL.out w1 (Below.refl _ _)
  rw [hr] at c3
  have r0 := fun s : Near w1 => s.cell c0 hpl
  have r1 := fun s : Near w1 => s.cell c1 hpl
  have r2 := fun s : Near w1 => s.cell c2 hpl
  have q0 := fun s : Near w1 => s.cell m0 hgl
  have q1 := fun s : Near w1 => s.cell m1 hgl
  have q2 := fun s : Near w1 => s.cell m2 hgl
  have q3 := fun s : Near w1 => s.cell m3 hgl
  have q4 := fun s : Near w1 => s.cell m4 hgl
  have q5 := fun s : Near w1 => s.cell m5 hgl
  have h9 := href
  unfold refD at h9
  simp only [Bool.or_eq_false_iff, Bool.not_eq_false', beq_iff_eq, decide_eq_false_iff_not] at h9
  obtain ⟨⟨⟨⟨⟨hA, hB⟩, hC⟩, hD⟩, hE⟩, hF⟩ := h9
  clear href
  have hmf := mokBf hB
  obtain ⟨i, hi⟩ : ∃ i : Nat, m.f = (i : Int) := ⟨m.f.toNat, by omega⟩
  have hi7 : i < K.n := by omega
  have hit : m.f.toNat = i := by omega
  rw [hit] at hF
  rw [hB] at HMOK
  rw [hA] at c14
  have dC : (m.t != K.at_) = false := by simp [hC]
  have dD : (m.id != K.id) = false := by simp [hD]
  have dE : ¬ (K.n : Int) ≤ (i : Int) := by omega
  have hi0 : (0 : Int) ≤ (i : Int) := by omega
  have hiI : (i : Int) < (K.n : Int) := by omega
  have r14 := fun s : Near w1 => s.cell c14 hpl
  rw [hi] at HMOK m1 HZ q1
  have HIT := hide hit
  have HII := hide hi
  have HCC := hide cc
  have HMF := hide hmf
  clear hA hB hC hD hE hit hmf hi c0 c1 c2 c3 c4 c5 c6 c7 c8 c9 c10 c11 c13 c14 cc m0 m1 m2 m3 m4 m5
  refine wp_region_near (by kernel_rfl) (by kernel_rfl) ?_
  repeat (go_big_quiet_step ((first | (go_at_call 24; exact near_of (HMOK.out _ (Near.is _))))))
  refine wpQuiet_nil ?_
  intro _ hw'
  obtain ⟨s4, rfl⟩ := hw'
  clear r0 r1 r2 r14 q0 q1 q2 q3 q4 q5
  have H4 := hide (H1.out.below s4.is)
  have HB4 := hide (below_step HBA.out s4.is)
  have HS41 := hide s4.is
  have HZ4 := hide ((s4.is.block gm hgl).trans HZ.out)
  obtain ⟨w4, hw4⟩ : ∃ w4, s4.at_ = w4 := ⟨_, rfl⟩
  rw [hw4] at H4 HB4 HZ4 HS41
  rw [hw4]
  clear hw4
  obtain ⟨m0, m1, m2, m3, m4, m5⟩ := six_cells HZ4.out
  obtain ⟨c0, c1, c2, c3, c4, c5, c6, c7, c8, c9, c10, c11, c13, c14, cc⟩ := HCL.out w4 HS41.out
  rw [hr] at c3
  have cci := cc i hi7
  rw [hF] at cci
  have hpl := H4.out.lt.1
  have hcbl := H4.out.lt.2
  have hgl := (Array.getElem?_eq_some_iff.1 HZ4.out).1
  clear c0 c1 c2 c5 c6 c7 c8 c9 c11 c13 c14 cc hF
  go_upto_region 5 with fail
  have r10 := fun s : Near w4 => s.cell c10 hpl
  have q1 := fun s : Near w4 => s.cell m1 hgl
  have rci := fun s : Near w4 => s.cell cci hcbl
  clear c3 c10 m1 cci
  refine wp_region_near (by kernel_rfl) (by kernel_rfl) ?_
  repeat (go_big_quiet_step (fail))
  refine wpQuiet_nil ?_
  intro _ hw'
  obtain ⟨s5, rfl⟩ := hw'
  clear r10 q1 rci
  have H5 := hide (H4.out.below s5.is)
  have HB5 := hide (below_step HB4.out s5.is)
  have HZ5 := hide ((s5.is.block gm hgl).trans HZ4.out)
  have c4 := keep_cell s5.is c4 hpl
  have HS51 := hide (below_step HS41.out s5.is)
  obtain ⟨w5, hw5⟩ : ∃ w5, s5.at_ = w5 := ⟨_, rfl⟩
  rw [hw5] at H5 HB5 HZ5 c4 HS51
  rw [hw5]
  clear hw5 m0 m2 m3 m4 m5
  obtain ⟨m0, m1, m2, m3, m4, m5⟩ := six_cells HZ5.out
  have hpl := H5.out.lt.1
  have hcbl := H5.out.lt.2
  have hgl := (Array.getElem?_eq_some_iff.1 HZ5.out).1
  have hkI : (K.ck == 3) = false := beq_eq_false_iff_ne.2 HKK.out
  rw [HK2.out] at m0
  clear m1 m2 m3 m5 dC dD dE
  obtain ⟨u, hu⟩ : ∃ u, w5 = u := ⟨_, rfl⟩
  rw [hu] at H5 HB5 HZ5 c4 m0 hpl hcbl hgl m4
  rw [hu]
  clear hu
  have HT := H5
  have HTS : Hid (Sets (fun g => g = p ∨ g = cb) w u) := hide (Sets.of HB5.out)
  have HTE : Hid (∀ g, D g → Xn D w u g) := hide (fun g hg => .inl hg)
  have HZU := HZ5
  have hcu := HT.out
  obtain ⟨Aq, cq, _, hclq⟩ := hcu.cells
  obtain ⟨_, mq1, _, _, _, _⟩ := six_cells HZU.out
  have HN := hide hi7
  have HC15p : Hid (∀ W : World, Below u.heap.size u W → W.cell? ⟨p, 10, none⟩ = some (.slice (some ⟨cb, 0, none⟩) K.n K.n) ∧ W.cell? ⟨gm, 1, none⟩ = some (.int .i64 (i : Int)) ∧ W.cell? ⟨cb, i, none⟩ = some (.bool (K.C i))) := hide (fun W hW => ⟨(hclq W hW).c10, keep_cell hW mq1 (Array.getElem?_eq_some_iff.1 HZU.out).1, (hclq W hW).cc i HN.out⟩)
  clear hclq mq1 hcu
  go_upto_region 15 with fail
  obtain ⟨ud, hud⟩ : ∃ ud, u.drew = ud := ⟨_, rfl⟩
  have HUD : Hid (Below u.heap.size u ud) := hide (by rw [← hud]; exact (Below.refl _ _).drew)
  have HC15 : Hid (∀ W : World, Below ud.heap.size ud W → W.cell? ⟨p, 10, none⟩ = some (.slice (some ⟨cb, 0, none⟩) K.n K.n) ∧ W.cell? ⟨gm, 1, none⟩ = some (.int .i64 (i : Int))) := hide (fun W hW => ⟨(HC15p.out W (below_step HUD.out hW)).1, (HC15p.out W (below_step HUD.out hW)).2.1⟩)
  have K15 : Hid (ud.cell? ⟨cb, i, none⟩ = some (.bool (K.C i))) := hide (HC15p.out ud HUD.out).2.2
  have hud1 := HT.out.below HUD.out
  have Z15 : Hid (ud.frozen? ⟨cb, i, none⟩ = false) := hide (by simp [World.frozen?, hud1.cnt])
  have hmk := hud1.mark (f := i) HN.out
  have hsm : Sets (fun g => g = p ∨ g = cb) w (ud.setCell ⟨cb, i, none⟩ (.bool true)) := ((HTS.out.trans (Sets.of (S := fun _ => False) HUD.out) (fun _ _ h => h.elim)).set (g := cb) (fun _ => .inr rfl) i (.bool true))
  have hsz : u.heap.size ≤ (ud.setCell ⟨cb, i, none⟩ (.bool true)).heap.size := by simpa using HUD.out.size
  obtain ⟨u1, hu1⟩ : ∃ u1, ud.setCell ⟨cb, i, none⟩ (.bool true) = u1 := ⟨_, rfl⟩
  rw [hu1] at hmk hsm hsz
  have HU1 := hide hu1
  have HMK := hide hmk
  have HSM := hide hsm
  have HSZ := hide hsz
  refine j_startD [7] hud (by kernel_rfl) ?_
  clear hud hud1 hmk hsm hu1 hsz
  refine' j_take (i := 0) (v := _) [1, 2, 3, 6, 7] ?hi0 (by kernel_rfl) (by kernel_rfl) (by kernel_rfl) (by kernel_rfl) (by kernel_rfl) (Or.inl ⟨?hw0, ?hy0⟩) ?rest0
  case hi0 => (simp only [List.getElem?_toArray, List.getElem?_cons_succ, List.getElem?_cons_zero]; rfl)
  case hw0 => rfl
  case hy0 => (intro w' hw'; go_simp; try with_reducible rfl)
  try simp only [Act.put, List.setIfInBounds_toArray, List.set_cons_zero, List.set_cons_succ]
  refine' j_take (i := 1) (v := _) [2, 3, 6, 7] ?hi1 (by kernel_rfl) (by kernel_rfl) (by kernel_rfl) (by kernel_rfl) (by kernel_rfl) (Or.inl ⟨?hw1, ?hy1⟩) ?rest1
  case hi1 => (simp only [List.getElem?_toArray, List.getElem?_cons_succ, List.getElem?_cons_zero]; rfl)
  case hw1 => rfl
  case hy1 => (intro w' hw'; go_simp; try with_reducible rfl)
  try simp only [Act.put, List.setIfInBounds_toArray, List.set_cons_zero, List.set_cons_succ]
  refine' j_take (i := 2) (v := _) [3, 6, 7] ?hi2 (by kernel_rfl) (by kernel_rfl) (by kernel_rfl) (by kernel_rfl) (by kernel_rfl) (Or.inl ⟨?hw2, ?hy2⟩) ?rest2
  case hi2 => (simp only [List.getElem?_toArray, List.getElem?_cons_succ, List.getElem?_cons_zero]; rfl)
  case hw2 => rfl
  case hy2 => (intro w' hw'; go_simp; try with_reducible rfl)
  try simp only [Act.put, List.setIfInBounds_toArray, List.set_cons_zero, List.set_cons_succ]
  refine' j_take (i := 3) (v := _) [6, 7] ?hi3 (by kernel_rfl) (by kernel_rfl) (by kernel_rfl) (by kernel_rfl) (by kernel_rfl) (Or.inl ⟨?hw3, ?hy3⟩) ?rest3
  case hi3 => (simp only [List.getElem?_toArray, List.getElem?_cons_succ, List.getElem?_cons_zero]; rfl)
  case hw3 => rfl
  case hy3 => (intro w' hw'; obtain ⟨k10, k1⟩ := HC15.out _ hw'; go_simp; try with_reducible rfl)
  try simp only [Act.put, List.setIfInBounds_toArray, List.set_cons_zero, List.set_cons_succ]
  refine' j_take (i := 4) (v := _) [5, 6, 7] ?hi4 (by kernel_rfl) (by kernel_rfl) (by kernel_rfl) (by kernel_rfl) (by kernel_rfl) (Or.inl ⟨?hw4, ?hy4⟩) ?rest4
  case hi4 => (simp only [List.getElem?_toArray, List.getElem?_cons_succ, List.getElem?_cons_zero]; rfl)
  case hw4 => rfl
  case hy4 => (intro w' hw'; go_simp; try with_reducible rfl)
  try simp only [Act.put, List.setIfInBounds_toArray, List.set_cons_zero, List.set_cons_succ]
  refine' j_take (i := 5) (v := _) [6, 7] ?hi5 (by kernel_rfl) (by kernel_rfl) (by kernel_rfl) (by kernel_rfl) (by kernel_rfl) (Or.inl ⟨?hw5, ?hy5⟩) ?rest5
  case hi5 => (simp only [List.getElem?_toArray, List.getElem?_cons_succ, List.getElem?_cons_zero]; rfl)
  case hw5 => rfl
  case hy5 => (intro w' hw'; obtain ⟨k10, k1⟩ := HC15.out _ hw'; go_simp; try with_reducible rfl)
  try simp only [Act.put, List.setIfInBounds_toArray, List.set_cons_zero, List.set_cons_succ]
  refine' j_take (i := 6) (v := _) [7] ?hi6 (by kernel_rfl) (by kernel_rfl) (by kernel_rfl) (by kernel_rfl) (by kernel_rfl) (Or.inl ⟨?hw6, ?hy6⟩) ?rest6
  case hi6 => (simp only [List.getElem?_toArray, List.getElem?_cons_succ, List.getElem?_cons_zero]; rfl)
  case hw6 => rfl
  case hy6 => (intro w' hw'; go_simp; try with_reducible rfl)
  try simp only [Act.put, List.setIfInBounds_toArray, List.set_cons_zero, List.set_cons_succ]
  refine' wpAnyJ_last (i := 7) (o := _) (by kernel_rfl) ?ho7 (by kernel_rfl) (fun KK hK => ?step7)
  case ho7 => (simp only [List.getElem?_toArray, List.getElem?_cons_succ, List.getElem?_cons_zero]; rfl)
  have k5 := K15.out
  have z5 := Z15.out
  go_simp
  refine hK.out _ _ ?_
  clear hK KK k5 z5
  try simp only [Act.put, List.setIfInBounds_toArray, List.set_cons_zero, List.set_cons_succ]
  refine wpAnyJ_done (by kernel_rfl) ?_ _
  refine NoPanic.normal ?_
  go_upto_region 16 with fail
  try rw [HU1.out]
  obtain ⟨cn, hcn⟩ : ∃ cn : Nat, cntC (setC K.C i) K.n = cn := ⟨_, rfl⟩
  obtain ⟨nd, hnd⟩ : ∃ nd : Nat, K.n / 2 + 1 = nd := ⟨_, rfl⟩
  have HCN := hide hcn
  have HND := hide hnd
  have HALL : Hid (∀ s : Near u1, Calls Tryz.prog 27 #[.pointer (some ⟨p, 0, none⟩)] s.at_ fun e w' => e = .returned (.int .i64 (cn : Int)) ∧ Below s.at_.heap.size s.at_ w') := hide (fun s => by
    refine Calls.mono (rcall_any (HMK.out.below s.is) (show K.n ≤ 7 from HN7.out)) ?_
    rintro e w' ⟨h1, rfl⟩
    exact ⟨by rw [← hcn]; exact h1, Below.refl _ _⟩)
  have HNED : Hid (∀ s : Near u1, Calls Tryz.prog 7 #[.int .i64 (K.n : Int)] s.at_ fun e w' => e = .returned (.int .i64 (nd : Int)) ∧ Below s.at_.heap.size s.at_ w') := hide (fun s => by
    have h := rneed_any (K.n : Int) s.at_ (by omega) (by have := HN7.out; omega)
    rw [show (K.n : Int) / 2 + 1 = (nd : Int) by omega] at h
    exact h)
  obtain ⟨Aq, cq, _, hclq⟩ := HMK.out.cells
  have e1 := (hclq u1 (Below.refl _ _)).c1
  have e8 := (hclq u1 (Below.refl _ _)).c8
  have hp1 := HMK.out.lt.1
  have e1 : u1.cell? ⟨p, 1, none⟩ = some (.int .i64 (K.n : Int)) := e1
  have e8 : u1.cell? ⟨p, 8, none⟩ = some (.int .u64 K.ver) := e8
  have v1 := fun s : Near u1 => s.cell e1 hp1
  clear hclq hcn hnd e1
  by_cases hq : nd ≤ cn
  · have hqI : (nd : Int) ≤ (cn : Int) := by omega
    have HGO : Hid (goK K i = endM (markK K i) 0 K.ver) := hide (by unfold goK; rw [if_pos (show K.n / 2 + 1 ≤ cntC (setC K.C i) K.n by rw [HND.out, HCN.out]; exact hq)])
    clear hq
    refine wp_region_near (by kernel_rfl) (by kernel_rfl) ?_
    repeat (go_big_quiet_step ((first | (go_at_call 27; exact near_of (HALL.out _)) | (go_at_call 7; exact near_of (HNED.out _)))))
    refine wpQuiet_nil ?_
    intro _ hw'
    obtain ⟨s6, rfl⟩ := hw'
    have H6 := hide (HMK.out.below s6.is)
    have HS6 := hide (HSM.out.trans (Sets.of (S := fun _ => False) s6.is) (fun _ _ h => h.elim))
    have e8 := keep_cell s6.is e8 hp1
    have HZ6 := hide (Nat.le_trans HSZ.out s6.is.size)
    obtain ⟨u6, hu6⟩ : ∃ u6, s6.at_ = u6 := ⟨_, rfl⟩
    rw [hu6] at H6 HS6 e8 HZ6
    rw [hu6]
    have hp1 := H6.out.lt.1
    clear hu6 v1
    have HE := hide (rcend_any H6.out hr 0 K.ver (by have := HGL.out; exact this) (by have := HLL.out; exact this))
    go_wp2_with fail
    refine (Calls.mono HE.out ?_); rintro e w6 ⟨rfl, h6, hs6⟩
    have HF : Hid (CallD w0 w6 (Xn D w w6) p cb (goK K i)) := hide (by
      rw [HGO.out]
      exact h6.more (fun g hg => by
        rcases hg with hg | hg
        · rcases HTE.out g hg with h1 | h1
          · exact .inl h1
          · exact .inr ⟨h1.1, Nat.lt_of_lt_of_le h1.2 (Nat.le_trans HZ6.out hs6.size)⟩
        · exact .inr ⟨Nat.le_trans (Nat.le_trans HTS.out.size HZ6.out) hg.1, hg.2⟩) (fun g hg => by
        rcases hg with hg | hg
        · exact ⟨(HH.out.ds g hg).1, Nat.lt_of_lt_of_le (HH.out.ds g hg).2 (Nat.le_trans HS6.out.size hs6.size)⟩
        · exact ⟨Nat.le_trans HH.out.low.size hg.1, hg.2⟩))
    have HS7 := hide (HS6.out.trans hs6 (fun _ _ e => .inl e))
    clear h6 hs6 HE e8
    go_wp2_with fail
    refine bodyPost_ret (v := .tuple #[.bool true, .slice none 0 0]) (by simp [results, Tryz.results13]) rfl ?_
    exact ⟨rfl, by rw [HIT.out]; exact HF.out, HS7.out⟩
  · have hqI : ¬ (nd : Int) ≤ (cn : Int) := by omega
    have HGO : Hid (goK K i = markK K i) := hide (by unfold goK; rw [if_neg (show ¬ K.n / 2 + 1 ≤ cntC (setC K.C i) K.n by rw [HND.out, HCN.out]; exact hq)])
    clear hq e8
    refine wp_region_near (by kernel_rfl) (by kernel_rfl) ?_
    repeat (go_big_quiet_step ((first | (go_at_call 27; exact near_of (HALL.out _)) | (go_at_call 7; exact near_of (HNED.out _)))))
    refine wpQuiet_nil ?_
    intro _ hw'
    obtain ⟨s6, rfl⟩ := hw'
    have HF : Hid (CallD w0 s6.at_ (Xn D w s6.at_) p cb (goK K i)) := hide (by
      rw [HGO.out]
      exact (HMK.out.below s6.is).more (fun g hg => by
        rcases HTE.out g hg with h1 | h1
        · exact .inl h1
        · exact .inr ⟨h1.1, Nat.lt_of_lt_of_le h1.2 (Nat.le_trans HSZ.out s6.is.size)⟩) (fun g hg => by
        rcases hg with hg | hg
        · exact ⟨(HH.out.ds g hg).1, Nat.lt_of_lt_of_le (HH.out.ds g hg).2 (Nat.le_trans HSM.out.size s6.is.size)⟩
        · exact ⟨Nat.le_trans HH.out.low.size hg.1, hg.2⟩))
    have HS7 := hide (HSM.out.trans (Sets.of (S := fun _ => False) s6.is) (fun _ _ h => h.elim))
    clear v1
    go_wp2_with fail
    refine bodyPost_ret (v := .tuple #[.bool true, .slice none 0 0]) (by simp [results, Tryz.results13]) rfl ?_
    exact ⟨rfl, by rw [HIT.out]; exact HF.out, HS7.out⟩
end Go.Proofs.YtlabpgdimhbocaaGreat
