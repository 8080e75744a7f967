/- The walk of clepsydralaw27.AxiomTells: it returns true. No condition. -/
import Derived.Test.YtebnifpclebliaaAxRr
import Derived.Test.YtebnifpclebliaaAxRe
import Derived.Test.YtebnifpclebliaaAxW
import Derived.Test.YtebnifpclebliaaDecAn
import Derived.Test.YtebnifpclebliaaS6Sl
namespace Go.Proofs.Ytebnifpclebliaa.axiomTells
set_option linter.unusedVariables false
set_option linter.unusedSimpArgs false
open Go.ChangeShapes Go.WideShapes Go.ChangeAt Go.RowKit

set_option maxHeartbeats 12800000 in
set_option maxRecDepth 100000 in
theorem walk {w : World} (A0 : Option Addr) (c0 : Nat) (L0 : List An) (lc0 : L0.length ≤ c0) (cm0 : c0 ≤ maxLen) (r0 : RowAt An.cells 8 w A0 L0)
    (A1 : Option Addr) (c1 : Nat) (L1 : List Int) (lc1 : L1.length ≤ c1) (cm1 : c1 ≤ maxLen) (r1 : RowAt (fun a => [.int .u64 a]) 1 w A1 L1) (w1 : ∀ a ∈ L1, (Lit.int .u64 a).wf = true)
    (A2 : Option Addr) (c2 : Nat) (L2 : List It) (lc2 : L2.length ≤ c2) (cm2 : c2 ≤ maxLen) (r2 : RowAt It.cells 5 w A2 L2) (w2 : ∀ a ∈ L2, a.wf)
    (a3 : Int) (w3 : (Lit.int .i64 a3).wf = true)
    (A4 : Option Addr) (c4 : Nat) (L4 : List (Sv It)) (lc4 : L4.length ≤ c4) (cm4 : c4 ≤ maxLen) (r4 : RowAt (fun s => [s.val]) 1 w A4 L4) (w4 : ∀ s ∈ L4, Sv.good It.cells 5 It.wf w s)
    (a5 : Int) (w5 : (Lit.int .u64 a5).wf = true) :
    Calls Try.prog 4 #[.slice A0 L0.length c0, .slice A1 L1.length c1, .slice A2 L2.length c2, .int .i64 a3, .slice A4 L4.length c4, .int .u64 a5] w fun e w' => e = .returned (.bool true) ∧ Below w.heap.size w w' := by
  have HR0 := hide r0
  have HR1 : Hid (ValsAt u64v w A1 L1) := hide r1
  have HR2 : Hid (Sl w (.slice A2 L2.length c2) L2) := hide (Sl.mk_ r2 lc2 cm2)
  have HR4 := hide r4
  have HS4 : Hid (∀ s ∈ L4, SGood w s) := hide (fun s hs => Sl.mk_ (w4 s hs).row (w4 s hs).lc (w4 s hs).cm)
  clear r0 r1 r2 r4 w1 w2 w3 w4 w5 lc0 cm0 lc1 cm1 lc2 cm2
  by_cases h0 : 40 < L0.length
  case pos =>
    have d0 : (40 : Int) < (L0.length : Int) := by omega
    go_enter Try.func4, Try.ntmps4
    go_wp2_with fail
    refine (Calls.mono (awake27_any _) ?_); rintro e w9 ⟨rfl, hg9⟩
    go_wp2_with fail
    go_ret
    exact ⟨rfl, hg9⟩
  have d0 : ¬ (40 : Int) < (L0.length : Int) := by omega
  by_cases h1 : 40 < L1.length
  case pos =>
    have d1 : (40 : Int) < (L1.length : Int) := by omega
    go_enter Try.func4, Try.ntmps4
    go_wp2_with fail
    refine (Calls.mono (awake27_any _) ?_); rintro e w9 ⟨rfl, hg9⟩
    go_wp2_with fail
    go_ret
    exact ⟨rfl, hg9⟩
  have d1 : ¬ (40 : Int) < (L1.length : Int) := by omega
  by_cases h2 : 40 < L2.length
  case pos =>
    have d2 : (40 : Int) < (L2.length : Int) := by omega
    go_enter Try.func4, Try.ntmps4
    go_wp2_with fail
    refine (Calls.mono (awake27_any _) ?_); rintro e w9 ⟨rfl, hg9⟩
    go_wp2_with fail
    go_ret
    exact ⟨rfl, hg9⟩
  have d2 : ¬ (40 : Int) < (L2.length : Int) := by omega
  by_cases h4 : 6 < L4.length
  case pos =>
    have d4 : (6 : Int) < (L4.length : Int) := by omega
    go_enter Try.func4, Try.ntmps4
    go_wp2_with fail
    refine (Calls.mono (awake27_any _) ?_); rintro e w9 ⟨rfl, hg9⟩
    go_wp2_with fail
    go_ret
    exact ⟨rfl, hg9⟩
  have d4 : ¬ (6 : Int) < (L4.length : Int) := by omega
  go_enter Try.func4, Try.ntmps4
  go_wp2_with fail
  go_loopw [13] (fun i wr => ∃ k : Nat, k ≤ L4.length ∧ i = .int .i64 k ∧ wr = w ∧ ∀ s ∈ L4.take k, s.L.length ≤ 40) (fun i _ => L4.length - (intOf i).toNat)
  case atStart => exact ⟨0, by omega, rfl, rfl, by simp⟩
  case round =>
    obtain ⟨k, hk, rfl, rfl, hal⟩ := hrel
    have HAL := hide hal
    clear hal
    by_cases hlt : k < L4.length
    · obtain ⟨bl, off, rfl, hbb, y0⟩ := RowAt.one (val := fun s : Sv It => s.val) HR4.out (Below.refl _ _) hlt
      have HNX : Hid ((L4[k]'hlt).L.length ≤ 40 → ∀ s ∈ L4.take (k + 1), s.L.length ≤ 40) := hide (fun h s hs => by
        rw [List.take_succ_eq_append_getElem hlt] at hs
        rcases List.mem_append.1 hs with h' | h'
        · exact HAL.out s h'
        · rw [List.mem_singleton.1 h']; exact h)
      generalize L4[k]'hlt = s at *
      obtain ⟨As, cs, Ls⟩ := s
      replace y0 : wr.cell? ⟨bl, off + k, none⟩ = some (.slice As Ls.length cs) := y0
      dsimp only at HNX
      by_cases hL : 40 < Ls.length
      · have dL : (40 : Int) < (Ls.length : Int) := by omega
        go_wp2_with fail
        refine (Calls.mono (awake27_any _) ?_); rintro e w9 ⟨rfl, hg9⟩
        go_wp2_with fail
        go_ret
        exact ⟨rfl, hg9⟩
      · have dL : ¬ (40 : Int) < (Ls.length : Int) := by omega
        have HN2 := hide (HNX.out (by omega))
        go_wp2_with fail
        go_roundw
        case rel => exact ⟨k + 1, by omega, by go_num, (by first | rfl | trivial), HN2.out⟩
        case measure => simp [intOf]; omega
    · have HALL : Hid (∀ s ∈ L4, s.L.length ≤ 4611686018427387904) := hide (fun s hs => by
        have := HAL.out s (by rw [List.take_of_length_le (by omega)]; exact hs)
        omega)
      clear HAL
      obtain ⟨w0, rfl⟩ : ∃ w0, w0 = wr := ⟨_, rfl⟩
      go_wp2_with fail
      go_loopw [14] (fun i wr => ∃ k : Nat, k ≤ L0.length ∧ i = .int .i64 k ∧ Below w0.heap.size w0 wr) (fun i _ => L0.length - (intOf i).toNat)
      case atStart => exact ⟨0, by omega, rfl, Below.refl _ _⟩
      case round =>
        obtain ⟨k', hk', rfl, hb⟩ := hrel
        have HB := hide hb
        by_cases hlt' : k' < L0.length
        · obtain ⟨bl, off, rfl, hbb, cl, y0, y1, y2, y3, y4, y5, y6, y7⟩ := AnsAt.item HR0.out hb hlt'
          have HYA : Hid (∀ W, Below w0.heap.size w0 W → AnAt W bl (off + k' * 8) (L0[k']'hlt')) := hide (fun W hW => by
            obtain ⟨b', off', e, _, h⟩ := AnsAt.item HR0.out hW hlt'
            injection e with e
            injection e with e1 e2 _
            subst e1 e2
            exact h)
          clear hb hbb
          generalize L0[k']'hlt' = y at *
          have HC1 := hide (fun W => aitem_any y W)
          have HC2 := hide (fun W => ritem_any y W)
          generalize itV y = z at *
          generalize itB y = t at *
          have hq := run_neq_item z z
          rw [eqI_self] at hq
          go_wp2_with fail
          refine (Calls.mono (HC1.out _) ?_); rintro e x1 ⟨rfl, hg1⟩
          have HB1 := hide (below_step HB.out hg1)
          clear hg1 cl y0 y1 y2 y3 y4 y5 y6 y7
          obtain ⟨cl, y0, y1, y2, y3, y4, y5, y6, y7⟩ := HYA.out _ HB1.out
          have hcl := cl
          go_wp2_with fail
          refine (Calls.mono (HC2.out _) ?_); rintro e x2 ⟨rfl, hg2⟩
          have HB2 := hide (below_step (below_alloc HB1.out _) hg2)
          have HX : Hid (ItAt x2 x1.heap.size z) := hide ((ItAt.box (t := 32) (fr := (0, 0)) (heap_alloc_new x1 _)).below hg2)
          obtain ⟨xl, q0, q1, q2, q3, q4⟩ := HX.out
          clear hg2 cl hcl y0 y1 y2 y3 y4 y5 y6 y7
          cases t
          all_goals
            go_wp2_with fail
            go_roundw
            case rel => exact ⟨k' + 1, by omega, by go_num, below_alloc HB2.out _⟩
            case measure => simp [intOf]; omega
        · have hlI := itemsL_len L0
          have hfI := ofL_len (itemsL L0)
          have h04 : L0.length ≤ 40 := by omega
          have h14 : L1.length ≤ 40 := by omega
          have h24 : L2.length ≤ 40 := by omega
          have h46 : L4.length ≤ 6 := by omega
          have HR0 := hide (RowAt.below HR0.out HB.out)
          have HR1 := hide (RowAt.below HR1.out HB.out)
          have HR2 := hide (Sl.below HR2.out HB.out)
          have HR4 := hide (RowAt.below HR4.out HB.out)
          have HS4 : Hid (∀ s ∈ L4, SGood wr s) := hide (fun s hs => (HS4.out s hs).below HB.out)
          have HB0 := hide HB.out
          clear hb HB
          go_wp2_with fail
          refine (Calls.mono (fold_any A0 c0 L0 _ HR0.out (by omega)) ?_); rintro e x1 ⟨v1, rfl, ho1, hg1⟩
          have S1 := hide (Og.sl ho1)
          have HB1 := hide (below_step HB0.out hg1)
          have HR0 := hide (RowAt.below HR0.out hg1)
          have HR1 := hide (RowAt.below HR1.out hg1)
          have HR4 := hide (RowAt.below HR4.out hg1)
          have HR2 := hide (Sl.below HR2.out hg1)
          have HS4 : Hid (∀ s ∈ L4, SGood x1 s) := hide (fun s hs => (HS4.out s hs).below hg1)
          clear hg1 HB0
          clear ho1
          go_wp2_with fail
          refine (Calls.mono (ritems_any A0 c0 L0 _ HR0.out (by omega)) ?_); rintro e x2 ⟨v2, rfl, ho2, hg2⟩
          have S2 := hide (Ow.sl ho2)
          have HB2 := hide (below_step HB1.out hg2)
          have HR0 := hide (RowAt.below HR0.out hg2)
          have HR1 := hide (RowAt.below HR1.out hg2)
          have HR4 := hide (RowAt.below HR4.out hg2)
          have HR2 := hide (Sl.below HR2.out hg2)
          have HS4 : Hid (∀ s ∈ L4, SGood x2 s) := hide (fun s hs => (HS4.out s hs).below hg2)
          have S1 := hide (Sl.below S1.out hg2)
          clear hg2 HB1
          clear ho2
          go_wp2_with fail
          refine (Calls.mono (rof_sl S2.out (by omega)) ?_); rintro e x3 ⟨v3, rfl, ho3, hg3⟩
          have S3 := hide ho3
          have HB3 := hide (below_step HB2.out hg3)
          have HR0 := hide (RowAt.below HR0.out hg3)
          have HR1 := hide (RowAt.below HR1.out hg3)
          have HR4 := hide (RowAt.below HR4.out hg3)
          have HR2 := hide (Sl.below HR2.out hg3)
          have HS4 : Hid (∀ s ∈ L4, SGood x3 s) := hide (fun s hs => (HS4.out s hs).below hg3)
          have S1 := hide (Sl.below S1.out hg3)
          clear hg3 HB2
          clear ho3 S2
          go_wp2_with fail
          have hr := requal_sl S1.out S3.out (by omega) (by omega)
          rw [eqL_self] at hr
          refine (Calls.mono hr ?_); rintro e x4 ⟨rfl, hg4⟩
          have HB4 := hide (below_step HB3.out hg4)
          have HR0 := hide (RowAt.below HR0.out hg4)
          have HR1 := hide (RowAt.below HR1.out hg4)
          have HR4 := hide (RowAt.below HR4.out hg4)
          have HR2 := hide (Sl.below HR2.out hg4)
          have HS4 : Hid (∀ s ∈ L4, SGood x4 s) := hide (fun s hs => (HS4.out s hs).below hg4)
          clear hg4 HB3
          clear hr S1 S3
          obtain ⟨r1, hr1⟩ : ∃ r, readL (itemsL L0) L1 L2 a3 = r := ⟨_, rfl⟩
          have HQ1 := hide hr1
          clear hr1
          go_wp2_with fail
          have hr := read_any A0 c0 L0 A1 c1 L1 a3 HR0.out HR1.out HR2.out (by omega) (by omega) (by omega)
          rw [HQ1.out] at hr
          refine (Calls.mono hr ?_); rintro e x5 ⟨rfl, hg5⟩
          have HB5 := hide (below_step HB4.out hg5)
          have HR0 := hide (RowAt.below HR0.out hg5)
          have HR1 := hide (RowAt.below HR1.out hg5)
          have HR4 := hide (RowAt.below HR4.out hg5)
          have HR2 := hide (Sl.below HR2.out hg5)
          have HS4 : Hid (∀ s ∈ L4, SGood x5 s) := hide (fun s hs => (HS4.out s hs).below hg5)
          clear hg5 HB4
          clear hr
          go_wp2_with fail
          have hr := rread_any A0 c0 L0 A1 c1 L1 a3 HR0.out HR1.out HR2.out (by omega) (by omega) (by omega)
          rw [HQ1.out] at hr
          refine (Calls.mono hr ?_); rintro e x6 ⟨rfl, hg6⟩
          have HB6 := hide (below_step HB5.out hg6)
          have HR0 := hide (RowAt.below HR0.out hg6)
          have HR1 := hide (RowAt.below HR1.out hg6)
          have HR4 := hide (RowAt.below HR4.out hg6)
          have HR2 := hide (Sl.below HR2.out hg6)
          have HS4 : Hid (∀ s ∈ L4, SGood x6 s) := hide (fun s hs => (HS4.out s hs).below hg6)
          clear hg6 HB5
          clear hr HQ1
          obtain ⟨r2, hr2⟩ : ∃ r, goneL L0 L2 = r := ⟨_, rfl⟩
          have HQ2 := hide hr2
          clear hr2
          go_wp2_with fail
          have hr := gone_any A0 c0 L0 HR0.out HR2.out (by omega) (by omega)
          rw [HQ2.out] at hr
          refine (Calls.mono hr ?_); rintro e x7 ⟨rfl, hg7⟩
          have HB7 := hide (below_step HB6.out hg7)
          have HR0 := hide (RowAt.below HR0.out hg7)
          have HR1 := hide (RowAt.below HR1.out hg7)
          have HR4 := hide (RowAt.below HR4.out hg7)
          have HR2 := hide (Sl.below HR2.out hg7)
          have HS4 : Hid (∀ s ∈ L4, SGood x7 s) := hide (fun s hs => (HS4.out s hs).below hg7)
          clear hg7 HB6
          clear hr
          go_wp2_with fail
          have hr := rgone_any A0 c0 L0 HR0.out HR2.out (by omega) (by omega)
          rw [HQ2.out] at hr
          refine (Calls.mono hr ?_); rintro e x8 ⟨rfl, hg8⟩
          have HB8 := hide (below_step HB7.out hg8)
          have HR0 := hide (RowAt.below HR0.out hg8)
          have HR1 := hide (RowAt.below HR1.out hg8)
          have HR4 := hide (RowAt.below HR4.out hg8)
          have HR2 := hide (Sl.below HR2.out hg8)
          have HS4 : Hid (∀ s ∈ L4, SGood x8 s) := hide (fun s hs => (HS4.out s hs).below hg8)
          clear hg8 HB7
          clear hr HQ2
          obtain ⟨r3, hr3⟩ : ∃ r, evensB L4 a5 = r := ⟨_, rfl⟩
          have HQ3 := hide hr3
          clear hr3
          go_wp2_with fail
          have hr := evens_any A4 c4 L4 a5 _ HR4.out HS4.out (by omega) HALL.out
          rw [HQ3.out] at hr
          refine (Calls.mono hr ?_); rintro e x9 ⟨rfl, hg9⟩
          have HB9 := hide (below_step HB8.out hg9)
          have HR0 := hide (RowAt.below HR0.out hg9)
          have HR1 := hide (RowAt.below HR1.out hg9)
          have HR4 := hide (RowAt.below HR4.out hg9)
          have HR2 := hide (Sl.below HR2.out hg9)
          have HS4 : Hid (∀ s ∈ L4, SGood x9 s) := hide (fun s hs => (HS4.out s hs).below hg9)
          clear hg9 HB8
          clear hr
          go_wp2_with fail
          have hr := evenly_any A4 c4 L4 a5 _ HR4.out HS4.out (by omega) HALL.out
          rw [HQ3.out] at hr
          refine (Calls.mono hr ?_); rintro e x10 ⟨rfl, hg10⟩
          have HB10 := hide (below_step HB9.out hg10)
          clear hr HQ3 hg10
          go_wp2_with fail
          refine (Calls.mono (awake27_any _) ?_); rintro e x11 ⟨rfl, hg11⟩
          have HB11 := hide (below_step HB10.out hg11)
          clear hg11
          go_wp2_with fail
          go_ret
          exact ⟨rfl, HB11.out⟩
end Go.Proofs.Ytebnifpclebliaa.axiomTells
