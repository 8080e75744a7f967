/- The walk of clepsydralaw6.StateParts: it returns true. No condition. -/
import Derived.Test.YtbhfokfdijnhhaaS6Sl
import Derived.Test.YtbhfokfdijnhhaaApp
namespace Go.Proofs.Ytbhfokfdijnhhaa.stateParts
set_option linter.unusedVariables false
set_option linter.unusedSimpArgs false
open Go.ChangeShapes Go.WideShapes Go.ChangeAt Go.RowKit

def lowP (k : Int) (x : It) : Bool := decide (x.s < k)
def lateP (v : Int) (x : It) : Bool := decide (v < x.v)
theorem low_next : ∀ {q : List It}, Rising q → ∀ k : Int, q.filter (lowP (k + 1)) = q.filter (lowP k) ++ q.filter (serP k)
  | [], _, _ => rfl
  | y :: q, h, k => by
    obtain ⟨hy, hq⟩ := rising_cons.1 h
    have ih := low_next hq k
    by_cases h1 : y.s < k
    · have e1 : lowP (k + 1) y = true := decide_eq_true (by omega)
      have e2 : lowP k y = true := decide_eq_true h1
      have e3 : serP k y = false := decide_eq_false (by omega)
      simp only [List.filter_cons, e1, e2, e3, if_true, Bool.false_eq_true, if_false, List.cons_append, ih]
    · have hno : q.filter (lowP k) = [] := List.filter_eq_nil_iff.2 fun z hz hzp => by
        have := hy z hz
        simp only [lowP, decide_eq_true_eq] at hzp
        unfold It.lt at this
        omega
      have e2 : lowP k y = false := decide_eq_false h1
      rw [hno] at ih
      by_cases h2 : y.s = k
      · have e1 : lowP (k + 1) y = true := decide_eq_true (by omega)
        have e3 : serP k y = true := decide_eq_true h2
        simp only [List.filter_cons, e1, e2, e3, if_true, Bool.false_eq_true, if_false, hno, List.nil_append, ih]
      · have e1 : lowP (k + 1) y = false := decide_eq_false (by omega)
        have e3 : serP k y = false := decide_eq_false h2
        simp only [List.filter_cons, e1, e2, e3, Bool.false_eq_true, if_false, hno, List.nil_append, ih]
theorem low_none {q : List It} (h : IsState q) : q.filter (lowP 0) = [] := List.filter_eq_nil_iff.2 fun z hz hzp => by
  have := (h.1 z hz).1.1
  simp only [lowP, decide_eq_true_eq] at hzp
  omega
theorem low_all {q : List It} (h : IsState q) : q.filter (lowP 256) = q := List.filter_eq_self.2 fun z hz => by
  have := (h.1 z hz).1.2
  exact decide_eq_true (by omega)
theorem filter_state {q : List It} (h : IsState q) (p : It → Bool) : IsState (q.filter p) :=
  ⟨fun x hx => h.1 x (List.mem_filter.1 hx).1, List.Pairwise.filter _ h.2.1, fun t ht x hx => h.2.2 t (List.mem_filter.1 ht).1 x (List.mem_filter.1 hx).1⟩
theorem parts_join {q : List It} (h : IsState q) (v : Int) : joinL (q.filter (uptP v)) (q.filter (lateP v)) = q := by
  have hu := filter_state h (uptP v)
  have hl := filter_state h (lateP v)
  refine (joinL_isOf hu.isOf hl.isOf hu.1 hl.1).uniq (h.isOf.congr fun x => ?_)
  simp only [List.mem_append, List.mem_filter, uptP, lateP, decide_eq_true_eq]
  constructor
  · intro hx
    rcases Int.lt_or_le v x.v with h1 | h1
    · exact .inl ⟨hx, h1⟩
    · exact .inr ⟨hx, h1⟩
  · rintro (⟨h1, _⟩ | ⟨h1, _⟩) <;> exact h1
theorem parts_len (q : List It) (v : Int) : (q.filter (uptP v)).length + (q.filter (lateP v)).length = q.length := by
  induction q with
  | nil => rfl
  | cons y q ih =>
    by_cases h1 : y.v ≤ v
    · have e1 : uptP v y = true := decide_eq_true h1
      have e2 : lateP v y = false := decide_eq_false (by omega)
      simp only [List.filter_cons, e1, e2, if_true, Bool.false_eq_true, if_false, List.length_cons]
      omega
    · have e1 : uptP v y = false := decide_eq_false h1
      have e2 : lateP v y = true := decide_eq_true (by omega)
      simp only [List.filter_cons, e1, e2, if_true, Bool.false_eq_true, if_false, List.length_cons]
      omega

set_option maxHeartbeats 3200000 in
set_option maxRecDepth 100000 in
theorem walk {w : World} (A0 : Option Addr) (c0 : Nat) (L0 : List It) (lc0 : L0.length ≤ c0) (cm0 : c0 ≤ maxLen) (r0 : RowAt It.cells 5 w A0 L0) (w0 : ∀ a ∈ L0, a.wf)
    (a1 : Int) (w1 : (Lit.int .u64 a1).wf = true) :
    Calls Try.prog 8 #[.slice A0 L0.length c0, .int .u64 a1] w fun e w' => e = .returned (.bool true) ∧ Below w.heap.size w w' := by
  have b1 := bounds_u64 w1
  by_cases h0 : 50 < L0.length
  case pos =>
    have d0 : decide (50 < (L0.length : Int)) = true := decide_eq_true (by omega)
    go_enter Try.func8, Try.ntmps8
    go_wp2_with fail
    refine (Calls.mono (awake_any _) ?_); rintro e w1 ⟨rfl, hg1⟩
    go_wp2_with fail
    go_ret
    exact ⟨rfl, hg1⟩
  have d0 : decide (50 < (L0.length : Int)) = false := decide_eq_false (by omega)
  have HB0 := hide (Below.refl w.heap.size w)
  have S_l := hide (Sl.mk_ r0 lc0 cm0)
  clear r0 w0 w1
  have l0 := ofL_len L0
  go_enter Try.func8, Try.ntmps8
  go_wp2_with fail
  refine (Calls.mono (pof_sl S_l.out (by omega)) ?_); rintro e w1 ⟨v1, rfl, ho1, hg1⟩
  have HB1 := hide (below_step HB0.out hg1)
  have S_l := hide (S_l.out.below hg1)
  have S_q := hide (ho1.sl)
  clear ho1 hg1
  have hst := ofL_state L0
  have HST := hide hst
  clear hst
  generalize ofL L0 = q at *
  have hn0 := low_none HST.out
  have HN0 := hide hn0
  clear hn0
  go_wp2_with fail
  go_loopw [6, 7] (fun sv i wr => ∃ k : Nat, i = .int .i64 k ∧ k ≤ 256 ∧ Ow w1.heap.size wr sv (q.filter (lowP k)) ∧ Below w1.heap.size w1 wr) (fun _ i _ => 256 - (intOf i).toNat)
  case atStart => exact ⟨0, rfl, by omega, by rw [show ((0 : Nat) : Int) = 0 from rfl, HN0.out]; exact Ow.nil_ _ _, Below.refl _ _⟩
  case round =>
    obtain ⟨k, rfl, hk, hown, hb⟩ := hrel
    have S_q := hide (S_q.out.below hb)
    have HO := hide hown
    have HB := hide hb
    clear hown hb
    by_cases hlt : k < 256
    · have HL := hide (low_next HST.out.2.1 k)
      have lf : (q.filter (serP k)).length ≤ q.length := List.length_filter_le _ _
      have lf2 : (q.filter (lowP k)).length ≤ q.length := List.length_filter_le _ _
      go_wp2_with fail
      refine (Calls.mono (pseries_sl S_q.out k (by omega)) ?_); rintro e w2 ⟨v2, rfl, ho2, hg2⟩
      have hs2 := ho2.sl
      have HO2 : Hid (Ow w1.heap.size w2 u6 (q.filter (lowP k))) := hide (HO.out.below hg2)
      have HB2 := hide (below_step HB.out hg2)
      obtain ⟨A2, c2, rfl, hr2, _, _⟩ := hs2
      have HR2 := hide hr2
      clear hr2 ho2 hg2
      generalize hm : (q.filter (serP k)).length = m at *
      have HM := hide hm
      clear hm
      go_wp2_with (at_builtin; refine wpList_append_items rfl (.tmp 21) (.tmp 24) rfl _ _ _ _ _ _ A2 m c2 (q.filter (serP k)) rfl rfl HM.out HR2.out HO2.out HB2.out (Nat.le_refl _) HB2.out.size (by omega) ?_; intro v3 u3 ho3 hbu3 hgu3)
      go_roundw
      case rel => exact ⟨k + 1, by go_num, by omega, by rw [show ((k + 1 : Nat) : Int) = (k : Int) + 1 by omega, HL.out]; exact ho3, hbu3⟩
      case measure => simp [intOf]; omega
    · have HK6 := hide (show k = 256 by omega)
      have hall := low_all HST.out
      have ho := HO.out
      rw [HK6.out, show ((256 : Nat) : Int) = 256 from rfl, hall] at ho
      have S_all := hide ho.sl
      have HBW := hide (HB1.out.trans (HB.out.mono HB1.out.size))
      clear ho hall HO HB S_l
      obtain ⟨wo, rfl⟩ : ∃ wo : World, wo = wr := ⟨_, rfl⟩
      obtain ⟨Aq, cq, rfl, hrq, hq1, hq2⟩ := S_q.out
      have HRQ := hide hrq
      clear hrq
      go_wp2_with fail
      go_loopw [8, 9] (fun sv i wr => ∃ k : Nat, i = .int .i64 k ∧ k ≤ q.length ∧ Ow wo.heap.size wr sv ((q.take k).filter (lateP a1)) ∧ Below wo.heap.size wo wr) (fun _ i _ => q.length - (intOf i).toNat)
      case atStart => exact ⟨0, rfl, by omega, Ow.nil_ _ _, Below.refl _ _⟩
      case round =>
        obtain ⟨j, rfl, hk2, hown, hb⟩ := hrel
        have HO := hide hown
        have HB := hide hb
        clear hown hb
        by_cases hlt2 : j < q.length
        · obtain ⟨bl, off, rfl, hbb, y0, y1, y2, y3, y4⟩ := ItemsAt.item HRQ.out HB.out hlt2
          have HF1 := hide (filt_in (p := lateP a1) hlt2)
          have HF2 := hide (filt_out (p := lateP a1) hlt2)
          have hNl : ((q.take j).filter (lateP a1)).length ≤ j := filt_len _ _ _
          generalize q[j] = y at *
          generalize (q.take j).filter (lateP a1) = N at *
          by_cases hv : a1 < y.v
          case pos =>
            have HN := hide (HF1.out (decide_eq_true hv))
            have bv : decide (a1 < y.v) = true := decide_eq_true hv
            clear hv
            go_wp2_with (at_builtin; refine wpList_append_item rfl (.tmp 39) (.tmp 44) rfl _ _ _ _ _ _ N y rfl rfl rfl HO.out HB.out (Nat.le_refl _) HB.out.size (by omega) ?_; intro v1 u1 ho1 hbu1 hgu1)
            go_roundw
            case rel => exact ⟨j + 1, by go_num, by omega, by rw [HN.out]; exact ho1, hbu1⟩
            case measure => simp [intOf]; omega
          have HN := hide (HF2.out (decide_eq_false hv))
          have bv : decide (a1 < y.v) = false := decide_eq_false hv
          go_wp2_with fail
          go_roundw
          case rel => exact ⟨j + 1, by go_num, by omega, by rw [HN.out]; exact HO.out, HB.out⟩
          case measure => simp [intOf]; omega
        · obtain rfl : j = q.length := by omega
          have ho := HO.out
          rw [List.take_length] at ho
          have S_late := hide ho.sl
          have S_q := hide (S_q.out.below HB.out)
          have S_all := hide (S_all.out.below HB.out)
          have HB0 := hide (below_step HBW.out HB.out)
          clear ho HO HB
          have lu : (q.filter (uptP a1)).length ≤ q.length := List.length_filter_le _ _
          have ll : (q.filter (lateP a1)).length ≤ q.length := List.length_filter_le _ _
          have lp : (q.filter (purP 281474976710656)).length ≤ q.length := List.length_filter_le _ _
          have lp2 : (q.filter (purP a1)).length ≤ q.length := List.length_filter_le _ _
          have lj := joinL_len (q.filter (uptP a1)) (q.filter (lateP a1))
          have E1 : eqL q q = true := eqL_self _
          have E2 : eqL (joinL (q.filter (uptP a1)) (q.filter (lateP a1))) q = true := eqL_iff.2 (parts_join HST.out a1)
          have E3 : stateB (q.filter (purP a1)) = true := stateB_true (filter_state HST.out _)
          have E4 : (((q.filter (uptP a1)).length : Int) + ((q.filter (lateP a1)).length : Int) == (q.length : Int)) = true := beq_iff_eq.2 (by have := parts_len q a1; omega)
          have E5 : decide (((q.filter (purP 281474976710656)).length : Int) ≤ (q.length : Int)) = true := decide_eq_true (by omega)
          have H1 := hide E1
          clear E1
          have H2 := hide E2
          clear E2
          have H3 := hide E3
          clear E3
          have H4 := hide E4
          clear E4
          have H5 := hide E5
          clear E5
          go_wp2_with fail
          refine (Calls.mono (pupto_sl S_q.out a1 (by omega)) ?_); rintro e w1 ⟨v1, rfl, ho1, hg1⟩
          have HB1 := hide (below_step HB0.out hg1)
          have S_q := hide (S_q.out.below hg1)
          have S_all := hide (S_all.out.below hg1)
          have S_late := hide (S_late.out.below hg1)
          have S_u := hide (ho1.sl)
          clear ho1 hg1
          go_wp2_with fail
          refine (Calls.mono (requal_sl S_all.out S_q.out (by omega) (by omega)) ?_); rintro e w2 ⟨rfl, hg2⟩
          rw [H1.out]
          have HB2 := hide (below_step HB1.out hg2)
          have S_q := hide (S_q.out.below hg2)
          have S_all := hide (S_all.out.below hg2)
          have S_late := hide (S_late.out.below hg2)
          have S_u := hide (S_u.out.below hg2)
          clear hg2
          go_wp2_with fail
          refine (Calls.mono (pjoin_sl S_u.out S_late.out (by omega) (by omega)) ?_); rintro e w3 ⟨v3, rfl, ho3, hg3⟩
          have HB3 := hide (below_step HB2.out hg3)
          have S_q := hide (S_q.out.below hg3)
          have S_all := hide (S_all.out.below hg3)
          have S_late := hide (S_late.out.below hg3)
          have S_u := hide (S_u.out.below hg3)
          have S_j := hide (ho3.sl)
          clear ho3 hg3
          go_wp2_with fail
          refine (Calls.mono (requal_sl S_j.out S_q.out (by omega) (by omega)) ?_); rintro e w4 ⟨rfl, hg4⟩
          rw [H2.out]
          have HB4 := hide (below_step HB3.out hg4)
          have S_q := hide (S_q.out.below hg4)
          have S_all := hide (S_all.out.below hg4)
          have S_late := hide (S_late.out.below hg4)
          have S_u := hide (S_u.out.below hg4)
          have S_j := hide (S_j.out.below hg4)
          clear hg4
          obtain ⟨Au, cu, hu, hru, hu1, hu2⟩ := S_u.out
          obtain ⟨At, ct, ht, hrt, ht1, ht2⟩ := S_late.out
          subst hu ht
          have b4 := H4.out
          clear hru hrt S_u S_late S_j
          generalize (q.filter (uptP a1)).length = n1 at *
          generalize (q.filter (lateP a1)).length = n2 at *
          go_wp2_with fail
          refine (Calls.mono (ppurge_sl S_q.out 281474976710656 (by omega)) ?_); rintro e w5 ⟨v5, rfl, ho5, hg5⟩
          have HB5 := hide (below_step HB4.out hg5)
          have S_q := hide (S_q.out.below hg5)
          have S_x := hide (ho5.sl)
          clear ho5 hg5
          obtain ⟨Ax, cx, hx, hrx, hx1, hx2⟩ := S_x.out
          subst hx
          clear S_x hrx
          have b5 := H5.out
          generalize (q.filter (purP 281474976710656)).length = n3 at *
          go_wp2_with fail
          refine (Calls.mono (ppurge_sl S_q.out a1 (by omega)) ?_); rintro e w6 ⟨v6, rfl, ho6, hg6⟩
          have HB6 := hide (below_step HB5.out hg6)
          have S_q := hide (S_q.out.below hg6)
          have S_y := hide (ho6.sl)
          clear ho6 hg6
          go_wp2_with fail
          refine (Calls.mono (pok_sl S_y.out (by omega)) ?_); rintro e w7 ⟨rfl, hg7⟩
          rw [H3.out]
          have HB7 := hide (below_step HB6.out hg7)
          have S_q := hide (S_q.out.below hg7)
          have S_y := hide (S_y.out.below hg7)
          clear hg7
          go_wp2_with fail
          refine (Calls.mono (awake_any _) ?_); rintro e w8 ⟨rfl, hg8⟩
          have HB8 := hide (below_step HB7.out hg8)
          have S_q := hide (S_q.out.below hg8)
          have S_y := hide (S_y.out.below hg8)
          clear hg8
          go_wp2_with fail
          go_ret
          exact ⟨rfl, HB8.out⟩
end Go.Proofs.Ytbhfokfdijnhhaa.stateParts
