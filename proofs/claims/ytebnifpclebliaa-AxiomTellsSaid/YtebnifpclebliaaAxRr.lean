/- The document's Read: a contract. Condition: the lengths. -/
import Derived.Test.YtebnifpclebliaaAxRf
import Derived.Test.YtebnifpclebliaaAxRd
import Derived.Test.YtebnifpclebliaaRSt2
namespace Go.Proofs.Ytebnifpclebliaa
set_option linter.unusedVariables false
set_option linter.unusedSimpArgs false
open Go.ChangeShapes Go.WideShapes Go.ChangeAt Go.RowKit

theorem any_next {p : It → Bool} {L : List It} {k : Nat} (hk : k < L.length) : anyI p (L.take (k + 1)) = (anyI p (L.take k) || p L[k]) := by
  unfold anyI
  rw [List.take_succ_eq_append_getElem hk, List.any_append]
  simp
theorem any_full {p : It → Bool} {L : List It} {k : Nat} (hk : L.length ≤ k) : anyI p (L.take k) = anyI p L := by rw [List.take_of_length_le hk]
theorem hasU_next {x : Int} {L : List Int} {k : Nat} (hk : k < L.length) : hasU x (L.take (k + 1)) = (hasU x (L.take k) || (x == L[k])) := by
  unfold hasU
  rw [List.take_succ_eq_append_getElem hk, List.any_append]
  simp
theorem hasU_full {x : Int} {L : List Int} {k : Nat} (hk : L.length ≤ k) : hasU x (L.take k) = hasU x L := by rw [List.take_of_length_le hk]
theorem eqI_comm (a b : It) : eqI a b = eqI b a := by
  rw [Bool.eq_iff_iff, eqI_iff, eqI_iff]
  exact ⟨fun h => h.symm, fun h => h.symm⟩
theorem isB_as (x y : It) : isB x y = (sameB y x && decide (x.v ≤ y.v)) := by unfold isB; rw [sameB_comm]

set_option maxHeartbeats 12800000 in
set_option maxRecDepth 100000 in
theorem rread_any (A : Option Addr) (c : Nat) (L : List An) (A1 : Option Addr) (c1 : Nat) (K : List Int) {vg : Value} {got : List It} (s : Int) {w : World} (hL : AnsAt w A L) (hK : ValsAt u64v w A1 K) (hg : Sl w vg got)
    (hn : L.length ≤ 274877906944) (hk : K.length ≤ 4611686018427387904) (hl : got.length ≤ 4611686018427387904) :
    Calls Try.prog 18 #[.slice A L.length c, .slice A1 K.length c1, vg, .int .i64 s] w fun e w' => e = .returned (.bool (readL (itemsL L) K got s)) ∧ Below w.heap.size w w' := by
  have HI := hide (ritems_any A c L w hL hn)
  have hlen := itemsL_len L
  generalize itemsL L = N at *
  obtain ⟨r, hr⟩ : ∃ r, readL N K got s = r := ⟨_, rfl⟩
  have HR : Hid ((stateB got && !anyI (rd1 s N) got && !anyI (rd2 s K N got) N) = r) := hide hr
  rw [hr]
  have HGV := hide hg
  have HK := hide hK
  obtain ⟨B, d, rfl, hGL, hgc, hgm⟩ := hg
  have HGL := hide hGL
  clear hr hL hK hGL
  go_enter Try.func18, Try.ntmps18
  go_wp2_with fail
  refine (Calls.mono HI.out ?_); rintro e w1 ⟨v1, rfl, ho1, hg1⟩
  have HN1 := hide (Ow.sl ho1)
  have HB1 := hide hg1
  clear ho1 hg1
  go_wp2_with fail
  refine (Calls.mono (rstate_sl (HGV.out.below HB1.out) hl) ?_); rintro e w2 ⟨rfl, hg2⟩
  have HN2 := hide (HN1.out.below hg2)
  have HB2 := hide (below_step HB1.out hg2)
  clear hg2 HN1 HB1 HI
  cases hst : stateB got
  case false =>
    obtain rfl : r = false := by rw [← HR.out, hst]; rfl
    clear hst HR
    go_wp2_with fail
    go_ret
    exact ⟨rfl, HB2.out⟩
  have HR1 : Hid ((!anyI (rd1 s N) got && !anyI (rd2 s K N got) N) = r) := hide (by rw [← HR.out, hst]; rfl)
  clear hst HR
  obtain ⟨Bn, dn, rfl, hNL, hnc0, hnm⟩ := HN2.out
  have HNL := hide hNL
  clear hNL
  go_wp2_with fail
  go_loopw [10] (fun i wr => ∃ k : Nat, k ≤ got.length ∧ i = .int .i64 k ∧ Below w2.heap.size w2 wr ∧ anyI (rd1 s N) (got.take k) = false) (fun i _ => got.length - (intOf i).toNat)
  case atStart => exact ⟨0, by omega, rfl, Below.refl _ _, rfl⟩
  case round =>
    obtain ⟨k, hkk, rfl, hb, hno⟩ := hrel
    have HB := hide hb
    obtain ⟨wa, rfl⟩ : ∃ wa, wa = wr := ⟨_, rfl⟩
    by_cases hlt : k < got.length
    · obtain ⟨bl, off, rfl, hbb, y0, y1, y2, y3, y4⟩ := ItemsAt.item HGL.out (below_step HB2.out hb) hlt
      have hbl : bl < wa.heap.size := Nat.lt_of_lt_of_le hbb (below_step HB2.out hb).size
      have HN := hide (any_snoc hlt hno)
      have HH := hide (any_hit (p := rd1 s N) hlt)
      clear hno hb
      generalize got[k] = x at *
      have HY : Hid (∀ W, Below wa.heap.size wa W → ItemAt W bl (off + k * 5) x) := hide (fun W hW => ⟨(hW.cell (p := ⟨bl, _, none⟩) hbl).trans y0, (hW.cell (p := ⟨bl, _, none⟩) hbl).trans y1, (hW.cell (p := ⟨bl, _, none⟩) hbl).trans y2, (hW.cell (p := ⟨bl, _, none⟩) hbl).trans y3, (hW.cell (p := ⟨bl, _, none⟩) hbl).trans y4⟩)
      have hbd : rd1 s N x = (!decide (x.s = s) || !anyI (eqI x) N) := rfl
      generalize rd1 s N x = bd at *
      have HBD := hide hbd
      clear hbd y0 y1 y2 y3 y4
      go_wp2_with fail
      go_loopw [11, 12] (fun t i wr => ∃ k : Nat, k ≤ N.length ∧ i = .int .i64 k ∧ t = .bool (anyI (eqI x) (N.take k)) ∧ Below wa.heap.size wa wr) (fun _ i _ => N.length - (intOf i).toNat)
      case atStart => exact ⟨0, by omega, rfl, rfl, Below.refl _ _⟩
      case round =>
        obtain ⟨j, hjj, rfl, rfl, hb⟩ := hrel
        have HBJ := hide hb
        by_cases hlj : j < N.length
        · obtain ⟨bn, offn, rfl, hbbn, z0, z1, z2, z3, z4⟩ := ItemsAt.item HNL.out (below_step HB.out hb) hlj
          obtain ⟨y0, y1, y2, y3, y4⟩ := HY.out _ hb
          have HX := hide (any_next (p := eqI x) hlj)
          clear hb
          generalize N[j] = z at *
          generalize anyI (eqI x) (N.take j) = acc at *
          have hq := fun W => run_eql_item z x W
          rw [eqI_comm z x] at hq
          generalize eqI x z = q at *
          cases acc
          · cases q
            all_goals
              have HX2 := hide HX.out
              rw [Bool.false_or] at HX2
              go_wp2_with fail
              go_quiet (fail)
              go_wp2_with fail
              go_roundw
              case rel => exact ⟨j + 1, by omega, by go_num, by rw [HX2.out], below_drewN HBJ.out _⟩
              case measure => simp [intOf]; omega
          · have HX2 := hide HX.out
            rw [Bool.true_or] at HX2
            go_wp2_with fail
            go_quiet (fail)
            go_wp2_with fail
            go_roundw
            case rel => exact ⟨j + 1, by omega, by go_num, by rw [HX2.out], below_drewN HBJ.out _⟩
            case measure => simp [intOf]; omega
        · have hfl := any_full (p := eqI x) (L := N) (k := j) (by omega)
          obtain ⟨y0, y1, y2, y3, y4⟩ := HY.out _ hb
          clear hb
          rw [hfl]
          have hbd := HBD.out
          generalize anyI (eqI x) N = q at *
          clear hfl HBD
          by_cases hs : x.s = s
          · have bs : (x.s != s) = false := by simp [hs]
            rw [decide_eq_true hs, Bool.not_true, Bool.false_or] at hbd
            cases q
            · obtain rfl : bd = true := by rw [hbd]; rfl
              obtain rfl : r = false := by rw [← HR1.out, HH.out (by first | rfl | trivial)]; rfl
              clear hbd HR1 hs
              go_wp2_with fail
              go_ret
              exact ⟨rfl, below_step (below_step HB2.out HB.out) HBJ.out⟩
            · obtain rfl : bd = false := by rw [hbd]; rfl
              clear hbd hs
              go_wp2_with fail
              go_roundw
              case rel => exact ⟨k + 1, by omega, by go_num, below_step HB.out HBJ.out, HN.out (by first | rfl | trivial)⟩
              case measure => simp [intOf]; omega
          · have bs : (x.s != s) = true := by simp [hs]
            rw [decide_eq_false hs, Bool.not_false, Bool.true_or] at hbd
            subst hbd
            obtain rfl : r = false := by rw [← HR1.out, HH.out (by first | rfl | trivial)]; rfl
            clear HR1 hs
            cases q
            all_goals
              go_wp2_with fail
              go_ret
              exact ⟨rfl, below_step (below_step HB2.out HB.out) HBJ.out⟩
    · have HR2 : Hid ((!anyI (rd2 s K N got) N) = r) := hide (by rw [← HR1.out, any_all (by omega) hno]; rfl)
      clear hno hb HR1 hkk
      have HBw := hide (below_step HB2.out HB.out)
      have HNV := hide (HN2.out.below HB.out)
      have HNA := hide (RowAt.below HNL.out HB.out)
      clear HB HB2 HN2 HNL
      go_wp2_with fail
      go_loopw [13] (fun i wr => ∃ k : Nat, k ≤ N.length ∧ i = .int .i64 k ∧ Below wa.heap.size wa wr ∧ anyI (rd2 s K N got) (N.take k) = false) (fun i _ => N.length - (intOf i).toNat)
      case atStart => exact ⟨0, by omega, rfl, Below.refl _ _, rfl⟩
      case round =>
        obtain ⟨k, hkk, rfl, hb, hno⟩ := hrel
        have HB := hide hb
        obtain ⟨wb, rfl⟩ : ∃ wb, wb = wr := ⟨_, rfl⟩
        by_cases hlt : k < N.length
        case neg =>
          obtain rfl : r = true := by rw [← HR2.out, any_all (by omega) hno]; rfl
          clear hno hb
          go_wp2_with fail
          go_ret
          exact ⟨rfl, below_step HBw.out HB.out⟩
        obtain ⟨bl, off, rfl, hbb, y0, y1, y2, y3, y4⟩ := ItemsAt.item HNA.out hb hlt
        have HN := hide (any_snoc hlt hno)
        have HH := hide (any_hit (p := rd2 s K N got) hlt)
        clear hno hb
        generalize N[k] = x at *
        have hbd : rd2 s K N got x = (decide (x.s = s) && hasU x.v K && !thereB N got x) := rfl
        generalize rd2 s K N got x = bd at *
        have HBD := hide hbd
        have hb1 := below_alloc HB.out (.cells x.cells.toArray 32)
        have HB1 := hide hb1
        have HX1 := hide (ItAt.box (x := x) (t := 32) (fr := (0, 0)) (heap_alloc_new wb (.cells x.cells.toArray 32)))
        clear hbd hb1
        go_wp2_with fail
        go_loopw [15, 16] (fun t i wr => ∃ k : Nat, k ≤ K.length ∧ i = .int .i64 k ∧ t = .bool (hasU x.v (K.take k)) ∧ Below wa.heap.size wa wr ∧ ItAt wr wb.heap.size x) (fun _ i _ => K.length - (intOf i).toNat)
        case atStart => exact ⟨0, by omega, rfl, rfl, HB1.out, HX1.out⟩
        case round =>
          clear HB1 HX1 y0 y1 y2 y3 y4
          obtain ⟨j, hjj, rfl, rfl, hb, hx⟩ := hrel
          have HBJ := hide hb
          have HX := hide hx
          obtain ⟨xl, x0, x1, x2, x3, x4⟩ := hx
          by_cases hlj : j < K.length
          · obtain ⟨bn, offn, hA1, hbbn, z0⟩ := RowAt.one (val := u64v) HK.out (below_step HBw.out hb) hlj
            subst hA1
            have hbn : bn < wr.heap.size := Nat.lt_of_lt_of_le hbbn (below_step HBw.out hb).size
            have HXN := hide (hasU_next (x := x.v) hlj)
            clear hb
            generalize K[j] = z at *
            generalize hasU x.v (K.take j) = acc at *
            have hq : (z == x.v) = (x.v == z) := by rw [Bool.eq_iff_iff, beq_iff_eq, beq_iff_eq]; exact eq_comm
            generalize (x.v == z) = q at *
            cases acc
            · cases q
              all_goals
                have HX2 := hide HXN.out
                rw [Bool.false_or] at HX2
                go_wp2_with fail
                go_quiet (fail)
                go_wp2_with fail
                go_roundw
                case rel => exact ⟨j + 1, by omega, by go_num, by rw [HX2.out], below_drewN HBJ.out _, ⟨HX.out.lt, HX.out.c0, HX.out.c1, HX.out.c2, HX.out.c3, HX.out.c4⟩⟩
                case measure => simp [intOf]; omega
            · have HX2 := hide HXN.out
              rw [Bool.true_or] at HX2
              go_wp2_with fail
              go_quiet (fail)
              go_wp2_with fail
              go_roundw
              case rel => exact ⟨j + 1, by omega, by go_num, by rw [HX2.out], below_drewN HBJ.out _, ⟨HX.out.lt, HX.out.c0, HX.out.c1, HX.out.c2, HX.out.c3, HX.out.c4⟩⟩
              case measure => simp [intOf]; omega
          · have hfl := hasU_full (x := x.v) (L := K) (k := j) (by omega)
            clear hb
            rw [hfl]
            have hbd := HBD.out
            generalize hasU x.v K = q at *
            clear hfl HBD
            cases q
            · obtain rfl : bd = false := by rw [hbd]; simp
              clear hbd
              go_wp2_with fail
              go_roundw
              case rel => exact ⟨k + 1, by omega, by go_num, HBJ.out, HN.out (by first | rfl | trivial)⟩
              case measure => simp [intOf]; omega
            by_cases hs : x.s = s
            case neg =>
              have bs : (x.s != s) = true := by simp [hs]
              rw [decide_eq_false hs] at hbd
              obtain rfl : bd = false := by rw [hbd]; simp
              clear hbd hs
              go_wp2_with fail
              go_roundw
              case rel => exact ⟨k + 1, by omega, by go_num, HBJ.out, HN.out (by first | rfl | trivial)⟩
              case measure => simp [intOf]; omega
            have bs : (x.s != s) = false := by simp [hs]
            rw [decide_eq_true hs, Bool.true_and, Bool.true_and] at hbd
            have HBD2 : Hid (bd = !(anyI (isB x) got || anyI (goneB x got) N)) := hide hbd
            have HSX := hide hs
            clear hbd hs
            obtain ⟨wc, rfl⟩ : ∃ wc, wc = wr := ⟨_, rfl⟩
            go_wp2_with fail
            go_loopw [17, 18] (fun t i wr => ∃ k : Nat, k ≤ got.length ∧ i = .int .i64 k ∧ t = .bool (anyI (isB x) (got.take k)) ∧ Below wc.heap.size wc wr) (fun _ i _ => got.length - (intOf i).toNat)
            case atStart => exact ⟨0, by omega, rfl, rfl, Below.refl _ _⟩
            case round =>
              obtain ⟨m, hmm, rfl, rfl, hb⟩ := hrel
              have HBM := hide hb
              have hnc := near_cells wr
              obtain ⟨xl, x0, x1, x2, x3, x4⟩ := HX.out.below hb
              by_cases hlm : m < got.length
              · obtain ⟨bg, offg, hAg, hbbg, z0, z1, z2, z3, z4⟩ := ItemsAt.item HGL.out (below_step (below_step HBw.out HBJ.out) hb) hlm
                subst hAg
                have hbg : bg < wr.heap.size := Nat.lt_of_lt_of_le hbbg (below_step (below_step HBw.out HBJ.out) hb).size
                have HXN := hide (any_next (p := isB x) hlm)
                clear hb
                generalize got[m] = z at *
                generalize anyI (isB x) (got.take m) = acc at *
                have hcs := fun W => rsame_any z x W
                have hin := isB_as x z
                generalize isB x z = q at *
                cases acc
                · cases hsm : sameB z x
                  · rw [hsm] at hcs hin
                    rw [Bool.false_and] at hin
                    subst hin
                    have HC := hide hcs
                    have HX2 := hide HXN.out
                    rw [Bool.false_or] at HX2
                    clear hcs hsm
                    go_wp2_with fail
                    refine wp_region_near (by kernel_rfl) (by kernel_rfl) ?_
                    repeat (go_big_quiet_step (first | (go_at_call 37; exact near_of (HC.out _))))
                    refine wpQuiet_nil ?_
                    intro _ hw'
                    obtain ⟨s1, rfl⟩ := hw'
                    go_wp2_with fail
                    go_roundw
                    case rel => exact ⟨m + 1, by omega, by go_num, by rw [HX2.out], below_step HBM.out s1.is⟩
                    case measure => simp [intOf]; omega
                  · rw [hsm] at hcs hin
                    rw [Bool.true_and] at hin
                    have HC := hide hcs
                    have HX2 := hide HXN.out
                    rw [Bool.false_or] at HX2
                    clear hcs hsm
                    by_cases hv : x.v ≤ z.v
                    · rw [decide_eq_true hv] at hin
                      subst hin
                      go_wp2_with fail
                      refine wp_region_near (by kernel_rfl) (by kernel_rfl) ?_
                      repeat (go_big_quiet_step (first | (go_at_call 37; exact near_of (HC.out _))))
                      refine wpQuiet_nil ?_
                      intro _ hw'
                      obtain ⟨s1, rfl⟩ := hw'
                      go_wp2_with fail
                      go_roundw
                      case rel => exact ⟨m + 1, by omega, by go_num, by rw [HX2.out], below_step HBM.out s1.is⟩
                      case measure => simp [intOf]; omega
                    · have hdv : decide (x.v ≤ z.v) = false := decide_eq_false hv
                      have hv2 : z.v < x.v := by omega
                      rw [hdv] at hin
                      subst hin
                      go_wp2_with fail
                      refine wp_region_near (by kernel_rfl) (by kernel_rfl) ?_
                      repeat (go_big_quiet_step (first | (go_at_call 37; exact near_of (HC.out _))))
                      refine wpQuiet_nil ?_
                      intro _ hw'
                      obtain ⟨s1, rfl⟩ := hw'
                      go_wp2_with fail
                      go_roundw
                      case rel => exact ⟨m + 1, by omega, by go_num, by rw [HX2.out], below_step HBM.out s1.is⟩
                      case measure => simp [intOf]; omega
                · have HX2 := hide HXN.out
                  rw [Bool.true_or] at HX2
                  clear hcs hin
                  go_wp2_with fail
                  refine wp_region_near (by kernel_rfl) (by kernel_rfl) ?_
                  repeat (go_big_quiet_step (fail))
                  refine wpQuiet_nil ?_
                  intro _ hw'
                  obtain ⟨s1, rfl⟩ := hw'
                  go_wp2_with fail
                  go_roundw
                  case rel => exact ⟨m + 1, by omega, by go_num, by rw [HX2.out], below_step HBM.out s1.is⟩
                  case measure => simp [intOf]; omega
              · have hfl := any_full (p := isB x) (L := got) (k := m) (by omega)
                clear hb
                rw [hfl]
                have HBD3 := HBD2
                generalize anyI (isB x) got = qa at *
                clear hfl HBD2
                have HXM := hide (HX.out.below HBM.out)
                have HBV := hide (below_step HBJ.out HBM.out)
                obtain ⟨wd, rfl⟩ : ∃ wd, wd = wr := ⟨_, rfl⟩
                clear HX HBM HBJ
                go_wp2_with fail
                go_loopw [17, 19] (fun t i wr => ∃ k : Nat, k ≤ N.length ∧ i = .int .i64 k ∧ t = .bool (qa || anyI (goneB x got) (N.take k)) ∧ Below wd.heap.size wd wr) (fun _ i _ => N.length - (intOf i).toNat)
                case atStart => exact ⟨0, by omega, rfl, by rw [show anyI (goneB x got) (N.take 0) = false from rfl, Bool.or_false], Below.refl _ _⟩
                case round =>
                  obtain ⟨n, hnn, rfl, rfl, hb⟩ := hrel
                  have HBN := hide hb
                  have HXR := hide (HXM.out.below hb)
                  obtain ⟨xl, x0, x1, x2, x3, x4⟩ := HXM.out.below hb
                  by_cases hln : n < N.length
                  · obtain ⟨bt, offt, hAt, hbbt, z0, z1, z2, z3, z4⟩ := ItemsAt.item HNA.out (below_step HBV.out hb) hln
                    injection hAt with hAt
                    injection hAt with e1 e2 _
                    subst e1 e2
                    have hbt : bl < wr.heap.size := Nat.lt_of_lt_of_le hbbt (below_step HBV.out hb).size
                    have HXN : Hid ((qa || anyI (goneB x got) (N.take (n + 1))) = ((qa || anyI (goneB x got) (N.take n)) || goneB x got (N[n]'hln))) := hide (by rw [any_next hln, Bool.or_assoc])
                    have hno := goneB_no (x := x) (t := N[n]'hln) (got := got)
                    have hyes := goneB_yes (x := x) (t := N[n]'hln) (got := got)
                    clear hb
                    generalize N[n]'hln = z at *
                    generalize (qa || anyI (goneB x got) (N.take n)) = acc at *
                    have hcb := bare_sl z (HGV.out.below (below_step (below_step (below_step HBw.out HBV.out) HBN.out) (below_alloc (Below.refl _ _) (.cells z.cells.toArray 32)))) hl
                    have hba := below_alloc HBN.out (.cells z.cells.toArray 32)
                    have HBA := hide hba
                    clear hba
                    generalize goneB x got z = g at *
                    generalize anyI (hidesB z) got = qh at *
                    have hxs := HSX.out
                    cases acc
                    case true =>
                      have HXN2 : Hid ((qa || anyI (goneB x got) (N.take (n + 1))) = true) := hide (by rw [HXN.out]; rfl)
                      clear hno hyes hcb hxs
                      go_wp2_with fail
                      go_roundw
                      case rel => exact ⟨n + 1, by omega, by go_num, by rw [HXN2.out], HBA.out⟩
                      case measure => simp [intOf]; omega
                    case false =>
                      by_cases h1 : z.k = 1
                      case neg =>
                        obtain rfl := hno (by omega)
                        have b1 : (z.k == 1) = false := by simp [h1]
                        have HXN2 : Hid ((qa || anyI (goneB x got) (N.take (n + 1))) = false) := hide (by rw [HXN.out]; rfl)
                        clear hno hyes hcb hxs h1
                        go_wp2_with fail
                        go_roundw
                        case rel => exact ⟨n + 1, by omega, by go_num, by rw [HXN2.out], HBA.out⟩
                        case measure => simp [intOf]; omega
                      have b1 : (z.k == 1) = true := by simp [h1]
                      by_cases h2 : z.s = s
                      case neg =>
                        obtain rfl := hno (by omega)
                        have b2 : (z.s == s) = false := by simp [h2]
                        have HXN2 : Hid ((qa || anyI (goneB x got) (N.take (n + 1))) = false) := hide (by rw [HXN.out]; rfl)
                        clear hno hyes hcb hxs h1 h2
                        go_wp2_with fail
                        go_roundw
                        case rel => exact ⟨n + 1, by omega, by go_num, by rw [HXN2.out], HBA.out⟩
                        case measure => simp [intOf]; omega
                      have b2 : (z.s == s) = true := by simp [h2]
                      by_cases h3 : x.v ≤ z.v
                      case neg =>
                        obtain rfl := hno (by omega)
                        have h3d : decide (x.v ≤ z.v) = false := decide_eq_false h3
                        have HXN2 : Hid ((qa || anyI (goneB x got) (N.take (n + 1))) = false) := hide (by rw [HXN.out]; rfl)
                        clear hno hyes hcb hxs h1 h2
                        go_wp2_with fail
                        go_roundw
                        case rel => exact ⟨n + 1, by omega, by go_num, by rw [HXN2.out], HBA.out⟩
                        case measure => simp [intOf]; omega
                      obtain rfl := hyes h1 (by omega) h3
                      have HXN2 : Hid ((qa || anyI (goneB x got) (N.take (n + 1))) = !qh) := hide (by rw [HXN.out]; rfl)
                      have HC := hide hcb
                      clear hno hyes hcb hxs h1 h2
                      go_wp2_with fail
                      refine (Calls.mono HC.out ?_); rintro e w5 ⟨rfl, hg5⟩
                      have HB5 := hide (below_step HBA.out hg5)
                      clear hg5
                      go_wp2_with fail
                      go_roundw
                      case rel => exact ⟨n + 1, by omega, by go_num, by rw [HXN2.out], HB5.out⟩
                      case measure => simp [intOf]; omega
                  · have hfl := any_full (p := goneB x got) (L := N) (k := n) (by omega)
                    clear hb
                    rw [hfl]
                    have hbd := HBD3.out
                    generalize (qa || anyI (goneB x got) N) = acc at *
                    clear hfl HBD3
                    cases acc
                    · obtain rfl : bd = true := by rw [hbd]; rfl
                      obtain rfl : r = false := by rw [← HR2.out, HH.out (by first | rfl | trivial)]; rfl
                      clear hbd HR2
                      go_wp2_with fail
                      go_ret
                      exact ⟨rfl, below_step (below_step HBw.out HBV.out) HBN.out⟩
                    · obtain rfl : bd = false := by rw [hbd]; rfl
                      clear hbd
                      go_wp2_with fail
                      go_roundw
                      case rel => exact ⟨k + 1, by omega, by go_num, below_step HBV.out HBN.out, HN.out (by first | rfl | trivial)⟩
                      case measure => simp [intOf]; omega
end Go.Proofs.Ytebnifpclebliaa
