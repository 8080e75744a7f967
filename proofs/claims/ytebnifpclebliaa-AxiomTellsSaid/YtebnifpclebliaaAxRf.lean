/- The document's bare, after, Gone: contracts. Condition: the lengths. -/
import Derived.Test.YtebnifpclebliaaAxE
import Derived.BigQuiet
namespace Go.Proofs.Ytebnifpclebliaa
set_option linter.unusedVariables false
set_option linter.unusedSimpArgs false
open Go.ChangeShapes Go.WideShapes Go.ChangeAt Go.RowKit

set_option maxHeartbeats 3200000 in
theorem bare_sl (t : It) {v : Value} {L : List It} {w : World} (h : Sl w v L) (hl : L.length ≤ 4611686018427387904) : Calls Try.prog 38 #[t.val, v] w fun e w' => e = .returned (.bool (!anyI (hidesB t) L)) ∧ Below w.heap.size w w' := by
  obtain ⟨A, c, rfl, hL, hlc, hcm⟩ := h
  have HL := hide hL
  have hB0 := below_alloc (Below.refl w.heap.size w) (.cells t.cells.toArray 32)
  have HB0 := hide hB0
  have HX0 := hide (ItAt.box (x := t) (t := 32) (fr := (0, 0)) (heap_alloc_new w (.cells t.cells.toArray 32)))
  clear hL hB0
  go_enter Try.func38, Try.ntmps38
  go_wp2_with fail
  go_loopw [5] (fun i wr => ∃ k : Nat, i = .int .i64 k ∧ k ≤ L.length ∧ Below w.heap.size w wr ∧ ItAt wr w.heap.size t ∧ anyI (hidesB t) (L.take k) = false) (fun i _ => L.length - (intOf i).toNat)
  case atStart => exact ⟨0, rfl, by omega, HB0.out, HX0.out, rfl⟩
  case round =>
    obtain ⟨k, rfl, hk, hb, hx, hno⟩ := hrel
    clear HB0 HX0
    have HB := hide hb
    have HX := hide hx
    obtain ⟨xl, x0, x1, x2, x3, x4⟩ := hx
    have hnc := near_cells wr
    by_cases hlt : k < L.length
    · obtain ⟨bl, off, rfl, hbb, y0, y1, y2, y3, y4⟩ := ItemsAt.item HL.out hb hlt
      have hbl : bl < wr.heap.size := Nat.lt_of_lt_of_le hbb HB.out.size
      have HN := hide (any_snoc hlt hno)
      have HH := hide (any_hit (p := hidesB t) hlt)
      clear hno hb
      generalize L[k] = y at *
      have hcall := fun W => rhides_any t y W
      cases hh : hidesB t y
      all_goals
        rw [hh] at hcall
        have HC := hide hcall
        clear hcall
        go_wp2_with fail
        refine wp_region_near (by kernel_rfl) (by kernel_rfl) ?_
        repeat (go_big_quiet_step ((go_at_call 47; exact near_of (HC.out _))))
        refine wpQuiet_nil ?_
        intro _ hw'
        obtain ⟨s1, rfl⟩ := hw'
        go_wp2_with fail
      · go_roundw
        case rel => exact ⟨k + 1, by go_num, by omega, below_step HB.out s1.is, HX.out.below s1.is, HN.out hh⟩
        case measure => simp [intOf]; omega
      · go_ret
        exact ⟨by rw [HH.out hh]; rfl, below_step HB.out s1.is⟩
    · have HF := hide (any_all (p := hidesB t) (by omega) hno)
      clear hno hb
      go_wp2_with fail
      go_ret
      exact ⟨by rw [HF.out]; rfl, HB.out⟩
theorem sameB_comm (a b : It) : sameB a b = sameB b a := by
  unfold sameB It.same
  rw [Bool.eq_iff_iff, decide_eq_true_eq, decide_eq_true_eq]
  omega
theorem inB_as (x y : It) : inB x y = (sameB y x && decide (x.v ≤ y.v) || hidesB y x) := by unfold inB isB; rw [sameB_comm]
set_option maxHeartbeats 6400000 in
theorem after_sl (x : It) {v : Value} {L : List It} {w : World} (h : Sl w v L) (hl : L.length ≤ 4611686018427387904) : Calls Try.prog 42 #[v, x.val] w fun e w' => e = .returned (.bool (anyI (inB x) L)) ∧ Below w.heap.size w w' := by
  obtain ⟨A, c, rfl, hL, hlc, hcm⟩ := h
  have HL := hide hL
  have hB0 := below_alloc (Below.refl w.heap.size w) (.cells x.cells.toArray 32)
  have HB0 := hide hB0
  have HX0 := hide (ItAt.box (x := x) (t := 32) (fr := (0, 0)) (heap_alloc_new w (.cells x.cells.toArray 32)))
  clear hL hB0
  go_enter Try.func42, Try.ntmps42
  go_wp2_with fail
  go_loopw [5] (fun i wr => ∃ k : Nat, i = .int .i64 k ∧ k ≤ L.length ∧ Below w.heap.size w wr ∧ ItAt wr w.heap.size x ∧ anyI (inB x) (L.take k) = false) (fun i _ => L.length - (intOf i).toNat)
  case atStart => exact ⟨0, rfl, by omega, HB0.out, HX0.out, rfl⟩
  case round =>
    obtain ⟨k, rfl, hk, hb, hx, hno⟩ := hrel
    clear HB0 HX0
    have HB := hide hb
    have HX := hide hx
    obtain ⟨xl, x0, x1, x2, x3, x4⟩ := hx
    have hnc := near_cells wr
    by_cases hlt : k < L.length
    · obtain ⟨bl, off, rfl, hbb, y0, y1, y2, y3, y4⟩ := ItemsAt.item HL.out hb hlt
      have hbl : bl < wr.heap.size := Nat.lt_of_lt_of_le hbb HB.out.size
      have HN := hide (any_snoc hlt hno)
      have HH := hide (any_hit (p := inB x) hlt)
      clear hno hb
      generalize L[k] = y at *
      have hcs := fun W => rsame_any y x W
      have hch := fun W => rhides_any y x W
      have hin := inB_as x y
      generalize inB x y = r at *
      cases hs : sameB y x
      · rw [hs] at hcs hin
        rw [Bool.false_and, Bool.false_or] at hin
        cases hh : hidesB y x
        all_goals
          rw [hh] at hch hin
          subst hin
          have HC := hide hcs
          have HD := hide hch
          clear hcs hch hs hh
          go_wp2_with fail
          refine wp_region_near (by kernel_rfl) (by kernel_rfl) ?_
          repeat (go_big_quiet_step (first | (go_at_call 37; exact near_of (HC.out _)) | (go_at_call 47; exact near_of (HD.out _))))
          refine wpQuiet_nil ?_
          intro _ hw'
          obtain ⟨s1, rfl⟩ := hw'
          go_wp2_with fail
        · go_roundw
          case rel => exact ⟨k + 1, by go_num, by omega, below_step HB.out s1.is, HX.out.below s1.is, HN.out (by first | rfl | trivial)⟩
          case measure => simp [intOf]; omega
        · go_ret
          exact ⟨by rw [HH.out (by first | rfl | trivial)]; rfl, below_step HB.out s1.is⟩
      · rw [hs] at hcs hin
        rw [Bool.true_and] at hin
        by_cases hv : x.v ≤ y.v
        · rw [decide_eq_true hv, Bool.true_or] at hin
          subst hin
          have HC := hide hcs
          clear hcs hch hs
          go_wp2_with fail
          refine wp_region_near (by kernel_rfl) (by kernel_rfl) ?_
          repeat (go_big_quiet_step (first | (go_at_call 37; exact near_of (HC.out _))))
          refine wpQuiet_nil ?_
          intro _ hw'
          obtain ⟨s1, rfl⟩ := hw'
          go_wp2_with fail
          go_ret
          exact ⟨by rw [HH.out (by first | rfl | trivial)]; rfl, below_step HB.out s1.is⟩
        · rw [decide_eq_false hv, Bool.false_or] at hin
          have hdv : decide (x.v ≤ y.v) = false := decide_eq_false hv
          have hv2 : y.v < x.v := by omega
          cases hh : hidesB y x
          all_goals
            rw [hh] at hch hin
            subst hin
            have HC := hide hcs
            have HD := hide hch
            clear hcs hch hs hh
            go_wp2_with fail
            refine wp_region_near (by kernel_rfl) (by kernel_rfl) ?_
            repeat (go_big_quiet_step (first | (go_at_call 37; exact near_of (HC.out _)) | (go_at_call 47; exact near_of (HD.out _))))
            refine wpQuiet_nil ?_
            intro _ hw'
            obtain ⟨s1, rfl⟩ := hw'
            go_wp2_with fail
          · go_roundw
            case rel => exact ⟨k + 1, by go_num, by omega, below_step HB.out s1.is, HX.out.below s1.is, HN.out (by first | rfl | trivial)⟩
            case measure => simp [intOf]; omega
          · go_ret
            exact ⟨by rw [HH.out (by first | rfl | trivial)]; rfl, below_step HB.out s1.is⟩
    · have HF := hide (any_all (p := inB x) (by omega) hno)
      clear hno hb
      go_wp2_with fail
      go_ret
      exact ⟨by rw [HF.out]; rfl, HB.out⟩
set_option maxHeartbeats 3200000 in
theorem rgone_any (A : Option Addr) (c : Nat) (L : List An) {v : Value} {got : List It} {w : World} (hL : AnsAt w A L) (hg : Sl w v got) (hn : L.length ≤ 274877906944) (hl : got.length ≤ 4611686018427387904) :
    Calls Try.prog 20 #[.slice A L.length c, v] w fun e w' => e = .returned (.bool (goneL L got)) ∧ Below w.heap.size w w' := by
  have HG := hide hg
  have HI := hide (ritems_any A c L w hL hn)
  have hlen := itemsL_len L
  obtain ⟨r, hr⟩ : ∃ r, goneL L got = r := ⟨_, rfl⟩
  have HR : Hid ((!anyI (fun t => anyI (hidesB t) got) (itemsL L)) = r) := hide hr
  rw [hr]
  clear hr hL hg
  generalize itemsL L = N at *
  go_enter Try.func20, Try.ntmps20
  go_wp2_with fail
  refine (Calls.mono HI.out ?_); rintro e w1 ⟨v1, rfl, ho1, hg1⟩
  obtain ⟨B, d, rfl, hNL, hnc, hnm⟩ := Ow.sl ho1
  have HNL := hide hNL
  have HB1 := hide hg1
  clear ho1 hg1 hNL HI
  go_wp2_with fail
  go_loopw [6] (fun i wr => ∃ k : Nat, i = .int .i64 k ∧ k ≤ N.length ∧ Below w1.heap.size w1 wr ∧ anyI (fun t => anyI (hidesB t) got) (N.take k) = false) (fun i _ => N.length - (intOf i).toNat)
  case atStart => exact ⟨0, rfl, by omega, Below.refl _ _, rfl⟩
  case round =>
    obtain ⟨k, rfl, hk, hb, hno⟩ := hrel
    have HB := hide hb
    by_cases hlt : k < N.length
    · obtain ⟨bl, off, rfl, hbb, y0, y1, y2, y3, y4⟩ := ItemsAt.item HNL.out hb hlt
      have HN := hide (any_snoc hlt hno)
      have HH := hide (any_hit (p := fun t => anyI (hidesB t) got) hlt)
      clear hno hb
      generalize N[k] = y at *
      have hcall := bare_sl y (HG.out.below (below_step HB1.out HB.out)) hl
      cases hh : anyI (hidesB y) got
      all_goals
        rw [hh] at hcall
        have HC := hide hcall
        clear hcall
        go_wp2_with fail
        refine (Calls.mono HC.out ?_); rintro e w2 ⟨rfl, hg2⟩
        have HB2 := hide (below_step HB.out hg2)
        clear hg2
        go_wp2_with fail
      · go_roundw
        case rel => exact ⟨k + 1, by go_num, by omega, HB2.out, HN.out hh⟩
        case measure => simp [intOf]; omega
      · have hrf : r = false := by rw [← HR.out, HH.out hh]; rfl
        subst hrf
        go_ret
        exact ⟨rfl, below_step HB1.out HB2.out⟩
    · have hrf : r = true := by rw [← HR.out, any_all (by omega) hno]; rfl
      subst hrf
      clear hno hb
      go_wp2_with fail
      go_ret
      exact ⟨rfl, below_step HB1.out HB.out⟩
end Go.Proofs.Ytebnifpclebliaa
