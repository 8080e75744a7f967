/- The walk of clepsydralaw6.StateAsks: it returns true. No condition. -/
import Derived.Test.YtbhfokfdijnhhaaS6Sl
namespace Go.Proofs.Ytbhfokfdijnhhaa.stateAsks
set_option linter.unusedVariables false
set_option linter.unusedSimpArgs false
open Go.ChangeShapes Go.WideShapes Go.ChangeAt Go.RowKit

theorem asks_one {q : List It} (h : Rising q) (s t : Int) : (hasL s t q = true ∧ q.filter (ranP s t t) = [getL s t q]) ∨ (hasL s t q = false ∧ q.filter (ranP s t t) = [] ∧ getL s t q = ⟨0, 0, 0, 0, 0⟩) := by
  have hp : ranP s t t = getP s t := by
    funext x
    unfold ranP getP
    congr 1
    exact propext ⟨fun h => ⟨h.1, h.2.1, by omega⟩, fun h => ⟨h.1, h.2.1, by omega, by omega⟩⟩
  rw [hp]
  unfold hasL getL
  have key : ∀ q : List It, Rising q → (∃ x, q.find? (getP s t) = some x ∧ q.filter (getP s t) = [x]) ∨ (q.find? (getP s t) = none ∧ q.filter (getP s t) = []) := by
    intro q
    induction q with
    | nil => intro _; exact .inr ⟨rfl, rfl⟩
    | cons y q ih =>
      intro hq
      obtain ⟨hy, hq'⟩ := rising_cons.1 hq
      cases hyp : getP s t y
      · rcases ih hq' with ⟨x, h1, h2⟩ | ⟨h1, h2⟩
        · exact .inl ⟨x, by simp [hyp, h1], by simp [hyp, h2]⟩
        · exact .inr ⟨by simp [hyp, h1], by simp [hyp, h2]⟩
      · refine .inl ⟨y, by simp [hyp], ?_⟩
        rw [List.filter_cons_of_pos hyp]
        congr 1
        refine List.filter_eq_nil_iff.2 fun z hz hzp => ?_
        have := hy z hz
        simp only [getP, decide_eq_true_eq] at hyp hzp
        unfold It.lt at this
        omega
  rcases key q h with ⟨x, h1, h2⟩ | ⟨h1, h2⟩
  · exact .inl ⟨by rw [h1]; rfl, by rw [h1, h2]; rfl⟩
  · exact .inr ⟨by rw [h1]; rfl, h2, by rw [h1]; rfl⟩

set_option maxHeartbeats 3200000 in
set_option maxRecDepth 100000 in
theorem walk {w : World} (A0 : Option Addr) (c0 : Nat) (L0 : List It) (lc0 : L0.length ≤ c0) (cm0 : c0 ≤ maxLen) (r0 : RowAt It.cells 5 w A0 L0) (w0 : ∀ a ∈ L0, a.wf)
    (a1 : Int) (w1 : (Lit.int .i64 a1).wf = true)
    (a2 : Int) (w2 : (Lit.int .u64 a2).wf = true)
    (a3 : Int) (w3 : (Lit.int .u64 a3).wf = true)
    (a4 : Int) (w4 : (Lit.int .u64 a4).wf = true) :
    Calls Try.prog 11 #[.slice A0 L0.length c0, .int .i64 a1, .int .u64 a2, .int .u64 a3, .int .u64 a4] w fun e w' => e = .returned (.bool true) ∧ Below w.heap.size w w' := by
  by_cases h0 : 60 < L0.length
  case pos =>
    have d0 : decide (60 < (L0.length : Int)) = true := decide_eq_true (by omega)
    go_enter Try.func11, Try.ntmps11
    go_wp2_with fail
    refine (Calls.mono (awake_any _) ?_); rintro e w1 ⟨rfl, hg1⟩
    go_wp2_with fail
    go_ret
    exact ⟨rfl, hg1⟩
  have d0 : decide (60 < (L0.length : Int)) = false := decide_eq_false (by omega)
  have HB0 := hide (Below.refl w.heap.size w)
  have S_l := hide (Sl.mk_ r0 lc0 cm0)
  clear r0 w0 w1 w2 w3 w4
  have l0 := ofL_len L0
  have : (L0.filter (serP a1)).length ≤ L0.length := List.length_filter_le _ _
  have : (L0.filter (ranP a1 a2 a3)).length ≤ L0.length := List.length_filter_le _ _
  have : (L0.filter (uptP a4)).length ≤ L0.length := List.length_filter_le _ _
  have : (L0.filter (purP a4)).length ≤ L0.length := List.length_filter_le _ _
  have : ((ofL L0).filter (serP a1)).length ≤ (ofL L0).length := List.length_filter_le _ _
  have : ((ofL L0).filter (ranP a1 a2 a3)).length ≤ (ofL L0).length := List.length_filter_le _ _
  have : ((ofL L0).filter (uptP a4)).length ≤ (ofL L0).length := List.length_filter_le _ _
  have : ((ofL L0).filter (purP a4)).length ≤ (ofL L0).length := List.length_filter_le _ _
  go_enter Try.func11, Try.ntmps11
  go_wp2_with fail
  refine (Calls.mono (rof_sl S_l.out (by omega)) ?_); rintro e w1 ⟨v1, rfl, ho1, hg1⟩
  have HB1 := hide (below_step HB0.out hg1)
  have S_l := hide (S_l.out.below hg1)
  have S_q := hide ho1
  clear ho1 hg1
  go_wp2_with fail
  have hbq := HB1.out
  have hsq := S_q.out
  have hsl := S_l.out
  go_loopw [12] (fun i wr => ∃ k : Nat, i = .int .i64 k ∧ k ≤ 2 ∧ Below w.heap.size w wr ∧ Sl wr (.slice A0 L0.length c0) L0 ∧ Sl wr v1 (ofL L0)) (fun i _ => 2 - (intOf i).toNat)
  case atStart => exact ⟨0, rfl, by omega, hbq, hsl, hsq⟩
  case round =>
    obtain ⟨k, rfl, hk, hb, hl, hq⟩ := hrel
    clear S_l S_q HB1 HB0 hsl hsq hbq
    have S_l := hide hl
    have S_q := hide hq
    have HB0 := hide hb
    clear hl hq hb
    obtain rfl | rfl | rfl : k = 0 ∨ k = 1 ∨ k = 2 := by omega
    · have H0 : Hid (∀ M : List It, eqL M M = true) := hide eqL_self
      go_wp2_with fail
      refine (Calls.mono (pseries_sl S_l.out a1 (by omega)) ?_); rintro e w1 ⟨v1, rfl, ho1, hg1⟩
      have HB1 := hide (below_step HB0.out hg1)
      have S_l := hide (S_l.out.below hg1)
      have S_q := hide (S_q.out.below hg1)
      have S_x := hide (ho1.sl)
      clear ho1 hg1
      go_wp2_with fail
      refine (Calls.mono (rseries_sl S_l.out a1 (by omega)) ?_); rintro e w2 ⟨v2, rfl, ho2, hg2⟩
      have HB2 := hide (below_step HB1.out hg2)
      have S_l := hide (S_l.out.below hg2)
      have S_q := hide (S_q.out.below hg2)
      have S_x := hide (S_x.out.below hg2)
      have S_y := hide (ho2.sl)
      clear ho2 hg2
      go_wp2_with fail
      refine (Calls.mono (requal_sl S_x.out S_y.out (by omega) (by omega)) ?_); rintro e w3 ⟨rfl, hg3⟩
      rw [H0.out]
      have HB3 := hide (below_step HB2.out hg3)
      have S_l := hide (S_l.out.below hg3)
      have S_q := hide (S_q.out.below hg3)
      have S_x := hide (S_x.out.below hg3)
      have S_y := hide (S_y.out.below hg3)
      clear hg3
      go_wp2_with fail
      refine (Calls.mono (prange_sl S_l.out a1 a2 a3 (by omega)) ?_); rintro e w4 ⟨v4, rfl, ho4, hg4⟩
      have HB4 := hide (below_step HB3.out hg4)
      have S_l := hide (S_l.out.below hg4)
      have S_q := hide (S_q.out.below hg4)
      have S_x := hide (ho4.sl)
      clear ho4 hg4
      go_wp2_with fail
      refine (Calls.mono (rrange_sl S_l.out a1 a2 a3 (by omega)) ?_); rintro e w5 ⟨v5, rfl, ho5, hg5⟩
      have HB5 := hide (below_step HB4.out hg5)
      have S_l := hide (S_l.out.below hg5)
      have S_q := hide (S_q.out.below hg5)
      have S_x := hide (S_x.out.below hg5)
      have S_y := hide (ho5.sl)
      clear ho5 hg5
      go_wp2_with fail
      refine (Calls.mono (requal_sl S_x.out S_y.out (by omega) (by omega)) ?_); rintro e w6 ⟨rfl, hg6⟩
      rw [H0.out]
      have HB6 := hide (below_step HB5.out hg6)
      have S_l := hide (S_l.out.below hg6)
      have S_q := hide (S_q.out.below hg6)
      have S_x := hide (S_x.out.below hg6)
      have S_y := hide (S_y.out.below hg6)
      clear hg6
      go_wp2_with fail
      refine (Calls.mono (pupto_sl S_l.out a4 (by omega)) ?_); rintro e w7 ⟨v7, rfl, ho7, hg7⟩
      have HB7 := hide (below_step HB6.out hg7)
      have S_l := hide (S_l.out.below hg7)
      have S_q := hide (S_q.out.below hg7)
      have S_x := hide (ho7.sl)
      clear ho7 hg7
      go_wp2_with fail
      refine (Calls.mono (rupto_sl S_l.out a4 (by omega)) ?_); rintro e w8 ⟨v8, rfl, ho8, hg8⟩
      have HB8 := hide (below_step HB7.out hg8)
      have S_l := hide (S_l.out.below hg8)
      have S_q := hide (S_q.out.below hg8)
      have S_x := hide (S_x.out.below hg8)
      have S_y := hide (ho8.sl)
      clear ho8 hg8
      go_wp2_with fail
      refine (Calls.mono (requal_sl S_x.out S_y.out (by omega) (by omega)) ?_); rintro e w9 ⟨rfl, hg9⟩
      rw [H0.out]
      have HB9 := hide (below_step HB8.out hg9)
      have S_l := hide (S_l.out.below hg9)
      have S_q := hide (S_q.out.below hg9)
      have S_x := hide (S_x.out.below hg9)
      have S_y := hide (S_y.out.below hg9)
      clear hg9
      go_wp2_with fail
      refine (Calls.mono (ppurge_sl S_l.out a4 (by omega)) ?_); rintro e w10 ⟨v10, rfl, ho10, hg10⟩
      have HB10 := hide (below_step HB9.out hg10)
      have S_l := hide (S_l.out.below hg10)
      have S_q := hide (S_q.out.below hg10)
      have S_x := hide (ho10.sl)
      clear ho10 hg10
      go_wp2_with fail
      refine (Calls.mono (rpurge_sl S_l.out a4 (by omega)) ?_); rintro e w11 ⟨v11, rfl, ho11, hg11⟩
      have HB11 := hide (below_step HB10.out hg11)
      have S_l := hide (S_l.out.below hg11)
      have S_q := hide (S_q.out.below hg11)
      have S_x := hide (S_x.out.below hg11)
      have S_y := hide (ho11.sl)
      clear ho11 hg11
      go_wp2_with fail
      refine (Calls.mono (requal_sl S_x.out S_y.out (by omega) (by omega)) ?_); rintro e w12 ⟨rfl, hg12⟩
      rw [H0.out]
      have HB12 := hide (below_step HB11.out hg12)
      have S_l := hide (S_l.out.below hg12)
      have S_q := hide (S_q.out.below hg12)
      have S_x := hide (S_x.out.below hg12)
      have S_y := hide (S_y.out.below hg12)
      clear hg12
      go_wp2_with fail
      refine (Calls.mono (ptop_sl S_l.out (by omega)) ?_); rintro e w13 ⟨rfl, hg13⟩
      have HB13 := hide (below_step HB12.out hg13)
      have S_l := hide (S_l.out.below hg13)
      have S_q := hide (S_q.out.below hg13)
      clear hg13
      go_wp2_with fail
      refine (Calls.mono (rtop_sl S_l.out (by omega)) ?_); rintro e w14 ⟨rfl, hg14⟩
      have HB14 := hide (below_step HB13.out hg14)
      have S_l := hide (S_l.out.below hg14)
      have S_q := hide (S_q.out.below hg14)
      clear hg14
      go_wp2_with fail
      go_roundw
      case rel => exact ⟨1, by go_num, by omega, HB14.out, S_l.out, S_q.out⟩
      case measure => simp [intOf]
    · have H0 : Hid (∀ M : List It, eqL M M = true) := hide eqL_self
      go_wp2_with fail
      refine (Calls.mono (pseries_sl S_q.out a1 (by omega)) ?_); rintro e w1 ⟨v1, rfl, ho1, hg1⟩
      have HB1 := hide (below_step HB0.out hg1)
      have S_l := hide (S_l.out.below hg1)
      have S_q := hide (S_q.out.below hg1)
      have S_x := hide (ho1.sl)
      clear ho1 hg1
      go_wp2_with fail
      refine (Calls.mono (rseries_sl S_q.out a1 (by omega)) ?_); rintro e w2 ⟨v2, rfl, ho2, hg2⟩
      have HB2 := hide (below_step HB1.out hg2)
      have S_l := hide (S_l.out.below hg2)
      have S_q := hide (S_q.out.below hg2)
      have S_x := hide (S_x.out.below hg2)
      have S_y := hide (ho2.sl)
      clear ho2 hg2
      go_wp2_with fail
      refine (Calls.mono (requal_sl S_x.out S_y.out (by omega) (by omega)) ?_); rintro e w3 ⟨rfl, hg3⟩
      rw [H0.out]
      have HB3 := hide (below_step HB2.out hg3)
      have S_l := hide (S_l.out.below hg3)
      have S_q := hide (S_q.out.below hg3)
      have S_x := hide (S_x.out.below hg3)
      have S_y := hide (S_y.out.below hg3)
      clear hg3
      go_wp2_with fail
      refine (Calls.mono (prange_sl S_q.out a1 a2 a3 (by omega)) ?_); rintro e w4 ⟨v4, rfl, ho4, hg4⟩
      have HB4 := hide (below_step HB3.out hg4)
      have S_l := hide (S_l.out.below hg4)
      have S_q := hide (S_q.out.below hg4)
      have S_x := hide (ho4.sl)
      clear ho4 hg4
      go_wp2_with fail
      refine (Calls.mono (rrange_sl S_q.out a1 a2 a3 (by omega)) ?_); rintro e w5 ⟨v5, rfl, ho5, hg5⟩
      have HB5 := hide (below_step HB4.out hg5)
      have S_l := hide (S_l.out.below hg5)
      have S_q := hide (S_q.out.below hg5)
      have S_x := hide (S_x.out.below hg5)
      have S_y := hide (ho5.sl)
      clear ho5 hg5
      go_wp2_with fail
      refine (Calls.mono (requal_sl S_x.out S_y.out (by omega) (by omega)) ?_); rintro e w6 ⟨rfl, hg6⟩
      rw [H0.out]
      have HB6 := hide (below_step HB5.out hg6)
      have S_l := hide (S_l.out.below hg6)
      have S_q := hide (S_q.out.below hg6)
      have S_x := hide (S_x.out.below hg6)
      have S_y := hide (S_y.out.below hg6)
      clear hg6
      go_wp2_with fail
      refine (Calls.mono (pupto_sl S_q.out a4 (by omega)) ?_); rintro e w7 ⟨v7, rfl, ho7, hg7⟩
      have HB7 := hide (below_step HB6.out hg7)
      have S_l := hide (S_l.out.below hg7)
      have S_q := hide (S_q.out.below hg7)
      have S_x := hide (ho7.sl)
      clear ho7 hg7
      go_wp2_with fail
      refine (Calls.mono (rupto_sl S_q.out a4 (by omega)) ?_); rintro e w8 ⟨v8, rfl, ho8, hg8⟩
      have HB8 := hide (below_step HB7.out hg8)
      have S_l := hide (S_l.out.below hg8)
      have S_q := hide (S_q.out.below hg8)
      have S_x := hide (S_x.out.below hg8)
      have S_y := hide (ho8.sl)
      clear ho8 hg8
      go_wp2_with fail
      refine (Calls.mono (requal_sl S_x.out S_y.out (by omega) (by omega)) ?_); rintro e w9 ⟨rfl, hg9⟩
      rw [H0.out]
      have HB9 := hide (below_step HB8.out hg9)
      have S_l := hide (S_l.out.below hg9)
      have S_q := hide (S_q.out.below hg9)
      have S_x := hide (S_x.out.below hg9)
      have S_y := hide (S_y.out.below hg9)
      clear hg9
      go_wp2_with fail
      refine (Calls.mono (ppurge_sl S_q.out a4 (by omega)) ?_); rintro e w10 ⟨v10, rfl, ho10, hg10⟩
      have HB10 := hide (below_step HB9.out hg10)
      have S_l := hide (S_l.out.below hg10)
      have S_q := hide (S_q.out.below hg10)
      have S_x := hide (ho10.sl)
      clear ho10 hg10
      go_wp2_with fail
      refine (Calls.mono (rpurge_sl S_q.out a4 (by omega)) ?_); rintro e w11 ⟨v11, rfl, ho11, hg11⟩
      have HB11 := hide (below_step HB10.out hg11)
      have S_l := hide (S_l.out.below hg11)
      have S_q := hide (S_q.out.below hg11)
      have S_x := hide (S_x.out.below hg11)
      have S_y := hide (ho11.sl)
      clear ho11 hg11
      go_wp2_with fail
      refine (Calls.mono (requal_sl S_x.out S_y.out (by omega) (by omega)) ?_); rintro e w12 ⟨rfl, hg12⟩
      rw [H0.out]
      have HB12 := hide (below_step HB11.out hg12)
      have S_l := hide (S_l.out.below hg12)
      have S_q := hide (S_q.out.below hg12)
      have S_x := hide (S_x.out.below hg12)
      have S_y := hide (S_y.out.below hg12)
      clear hg12
      go_wp2_with fail
      refine (Calls.mono (ptop_sl S_q.out (by omega)) ?_); rintro e w13 ⟨rfl, hg13⟩
      have HB13 := hide (below_step HB12.out hg13)
      have S_l := hide (S_l.out.below hg13)
      have S_q := hide (S_q.out.below hg13)
      clear hg13
      go_wp2_with fail
      refine (Calls.mono (rtop_sl S_q.out (by omega)) ?_); rintro e w14 ⟨rfl, hg14⟩
      have HB14 := hide (below_step HB13.out hg14)
      have S_l := hide (S_l.out.below hg14)
      have S_q := hide (S_q.out.below hg14)
      clear hg14
      go_wp2_with fail
      go_roundw
      case rel => exact ⟨2, by go_num, by omega, HB14.out, S_l.out, S_q.out⟩
      case measure => simp [intOf]
    · have hone := asks_one (ofL_state L0).2.1 a1 a2
      have lr : ((ofL L0).filter (ranP a1 a2 a2)).length ≤ (ofL L0).length := List.length_filter_le _ _
      have HT : Hid (∀ n : Int, (n == n) = true) := hide (fun n => by simp)
      rcases hone with ⟨hh, hr⟩ | ⟨hh, hr, hz⟩
      · have HH := hide hh
        have HR := hide hr
        clear hh hr
        go_wp2_with fail
        refine (Calls.mono (get_sl S_q.out a1 a2 (by omega)) ?_); rintro e w1 ⟨rfl, hg1⟩
        rw [HH.out]
        have HB1 := hide (below_step HB0.out hg1)
        have S_l := hide (S_l.out.below hg1)
        have S_q := hide (S_q.out.below hg1)
        clear hg1
        go_wp2_with fail
        generalize hX : getL a1 a2 (ofL L0) = X at *
        clear hX
        refine (Calls.mono (rrange_sl (S_q.out.below (below_alloc (Below.refl _ _) _)) a1 a2 a2 (by omega)) ?_); rintro e w2 ⟨v2, rfl, ho2, hg2⟩
        have HX2 := hide ((hg2.block w1.heap.size (by simp)).trans (heap_alloc_new w1 (.cells X.cells.toArray 31)))
        have HB2 := hide (below_step (below_alloc HB1.out _) hg2)
        have S_q := hide ((S_q.out.below (below_alloc (Below.refl _ _) _)).below hg2)
        have hsr := ho2.sl
        rw [HR.out] at hsr
        clear ho2 hg2
        obtain ⟨Ar, cr, rfl, hrr, hr1, hr2⟩ := hsr
        obtain ⟨x0, x1, x2, x3, x4⟩ := box_item HX2.out
        obtain ⟨br, offr, rfl, hbr, y0, y1, y2, y3, y4⟩ := ItemsAt.item hrr (Below.refl _ _) (k := 0) (by simp)
        simp only [Nat.zero_mul, Nat.add_zero, List.getElem_cons_zero] at y0 y1 y2 y3 y4
        simp only [List.length_singleton] at hr1 ⊢
        clear hrr
        have hq := run_neq_item X X
        rw [eqI_self] at hq
        go_wp2_with fail
        go_quiet (fail)
        have HB2 := hide (below_drewN HB2.out nq)
        have S_q := hide (S_q.out.drewN nq)
        go_wp2_with fail
        refine (Calls.mono (ptomb_sl S_q.out a1 (by omega)) ?_); rintro e w3 ⟨rfl, hg3⟩
        have HB3 := hide (below_step HB2.out hg3)
        have S_q := hide (S_q.out.below hg3)
        clear hg3
        go_wp2_with fail
        refine (Calls.mono (rtomb_sl S_q.out a1 (by omega)) ?_); rintro e w4 ⟨rfl, hg4⟩
        have HB4 := hide (below_step HB3.out hg4)
        have S_q := hide (S_q.out.below hg4)
        clear hg4
        go_wp2_with fail
        refine (Calls.mono (awake_any _) ?_); rintro e w5 ⟨rfl, hg5⟩
        have HB5 := hide (below_step HB4.out hg5)
        have S_q := hide (S_q.out.below hg5)
        clear hg5
        go_wp2_with fail
        go_ret
        exact ⟨rfl, HB5.out⟩
      · have HH := hide hh
        have HR := hide hr
        have HZ := hide hz
        clear hz
        clear hh hr
        go_wp2_with fail
        refine (Calls.mono (get_sl S_q.out a1 a2 (by omega)) ?_); rintro e w1 ⟨rfl, hg1⟩
        rw [HH.out, HZ.out]
        have HB1 := hide (below_step HB0.out hg1)
        have S_l := hide (S_l.out.below hg1)
        have S_q := hide (S_q.out.below hg1)
        clear hg1
        go_wp2_with fail
        refine (Calls.mono (rrange_sl (S_q.out.below (below_alloc (Below.refl _ _) _)) a1 a2 a2 (by omega)) ?_); rintro e w2 ⟨v2, rfl, ho2, hg2⟩
        have HX2 := hide ((hg2.block w1.heap.size (by simp)).trans (heap_alloc_new w1 (.cells (⟨0, 0, 0, 0, 0⟩ : It).cells.toArray 31)))
        have HB2 := hide (below_step (below_alloc HB1.out _) hg2)
        have S_q := hide ((S_q.out.below (below_alloc (Below.refl _ _) _)).below hg2)
        have hsr := ho2.sl
        rw [HR.out] at hsr
        clear ho2 hg2
        obtain ⟨Ar, cr, rfl, hrr, hr1, hr2⟩ := hsr
        obtain ⟨x0, x1, x2, x3, x4⟩ := box_item HX2.out
        simp only [List.length_nil] at hr1 ⊢
        clear hrr
        have hq := run_neq_item (⟨0, 0, 0, 0, 0⟩ : It) (⟨0, 0, 0, 0, 0⟩ : It)
        rw [eqI_self] at hq
        go_wp2_with fail
        go_quiet (fail)
        have HB2 := hide (below_drewN HB2.out nq)
        have S_q := hide (S_q.out.drewN nq)
        go_wp2_with fail
        refine (Calls.mono (ptomb_sl S_q.out a1 (by omega)) ?_); rintro e w3 ⟨rfl, hg3⟩
        have HB3 := hide (below_step HB2.out hg3)
        have S_q := hide (S_q.out.below hg3)
        clear hg3
        go_wp2_with fail
        refine (Calls.mono (rtomb_sl S_q.out a1 (by omega)) ?_); rintro e w4 ⟨rfl, hg4⟩
        have HB4 := hide (below_step HB3.out hg4)
        have S_q := hide (S_q.out.below hg4)
        clear hg4
        go_wp2_with fail
        refine (Calls.mono (awake_any _) ?_); rintro e w5 ⟨rfl, hg5⟩
        have HB5 := hide (below_step HB4.out hg5)
        have S_q := hide (S_q.out.below hg5)
        clear hg5
        go_wp2_with fail
        go_ret
        exact ⟨rfl, HB5.out⟩
end Go.Proofs.Ytbhfokfdijnhhaa.stateAsks
