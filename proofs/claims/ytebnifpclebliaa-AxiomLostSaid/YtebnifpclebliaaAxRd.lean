/- axiom.Read: a contract. Condition: the lengths. -/
import Derived.Test.YtebnifpclebliaaAxR
namespace Go.Proofs.Ytebnifpclebliaa
set_option linter.unusedVariables false
set_option linter.unusedSimpArgs false
open Go.ChangeShapes Go.WideShapes Go.ChangeAt Go.RowKit

def rd1 (s : Int) (all : List It) (x : It) : Bool := !decide (x.s = s) || !anyI (eqI x) all
def rd2 (s : Int) (acked : List Int) (all got : List It) (x : It) : Bool := decide (x.s = s) && hasU x.v acked && !thereB all got x
noncomputable def readL (all : List It) (acked : List Int) (got : List It) (s : Int) : Bool := stateB got && !anyI (rd1 s all) got && !anyI (rd2 s acked all got) all

set_option maxHeartbeats 6400000 in
theorem read_any (A : Option Addr) (c : Nat) (L : List An) (A1 : Option Addr) (c1 : Nat) (K : List Int) {vg : Value} {got : List It} (s : Int) {w : World} (hL : AnsAt w A L) (hK : ValsAt u64v w A1 K) (hg : Sl w vg got)
    (hn : L.length ≤ 274877906944) (hk : K.length ≤ 4611686018427387904) (hl : got.length ≤ 4611686018427387904) :
    Calls Try.prog 17 #[.slice A L.length c, .slice A1 K.length c1, vg, .int .i64 s] w fun e w' => e = .returned (.bool (readL (itemsL L) K got s)) ∧ Below w.heap.size w w' := by
  have HI := hide (aitems_any A c L w hL hn)
  have hlen := itemsL_len L
  generalize itemsL L = N at *
  obtain ⟨r, hr⟩ : ∃ r, readL N K got s = r := ⟨_, rfl⟩
  have HR : Hid ((stateB got && !anyI (rd1 s N) got && !anyI (rd2 s K N got) N) = r) := hide hr
  rw [hr]
  have HGV := hide hg
  have HK := hide hK
  obtain ⟨B, d, rfl, hGL, hgc, hgm⟩ := hg
  have HGL := hide hGL
  clear hr hL hK hGL
  go_enter Try.func17, Try.ntmps17
  go_wp2_with fail
  refine (Calls.mono HI.out ?_); rintro e w1 ⟨v1, rfl, ho1, hg1⟩
  have HN1 := hide (Ow.sl ho1)
  have HB1 := hide hg1
  clear ho1 hg1
  go_wp2_with fail
  refine (Calls.mono (pok_sl (HGV.out.below HB1.out) hl) ?_); rintro e w2 ⟨rfl, hg2⟩
  have HN2 := hide (HN1.out.below hg2)
  have HB2 := hide (below_step HB1.out hg2)
  clear hg2 HN1 HB1 HI
  cases hst : stateB got
  case false =>
    obtain rfl : r = false := by rw [← HR.out, hst]; rfl
    clear hst HR
    go_wp2_with fail
    go_ret
    exact ⟨rfl, HB2.out⟩
  have HR1 : Hid ((!anyI (rd1 s N) got && !anyI (rd2 s K N got) N) = r) := hide (by rw [← HR.out, hst]; rfl)
  clear hst HR
  go_wp2_with fail
  go_loopw [21] (fun i wr => ∃ k : Nat, k ≤ got.length ∧ i = .int .i64 k ∧ Below w2.heap.size w2 wr ∧ anyI (rd1 s N) (got.take k) = false) (fun i _ => got.length - (intOf i).toNat)
  case atStart => exact ⟨0, by omega, rfl, Below.refl _ _, rfl⟩
  case round =>
    obtain ⟨k, hkk, rfl, hb, hno⟩ := hrel
    have HB := hide hb
    by_cases hlt : k < got.length
    · obtain ⟨bl, off, rfl, hbb, y0, y1, y2, y3, y4⟩ := ItemsAt.item HGL.out (below_step HB2.out hb) hlt
      have HN := hide (any_snoc hlt hno)
      have HH := hide (any_hit (p := rd1 s N) hlt)
      clear hno hb
      generalize got[k] = x at *
      have hbd : rd1 s N x = (!decide (x.s = s) || !anyI (eqI x) N) := rfl
      have HC := hide (fun W (hW : Below wr.heap.size wr W) => icontains_sl x (HN2.out.below (below_step HB.out hW)) (by omega))
      generalize anyI (eqI x) N = q at *
      generalize rd1 s N x = bd at *
      have hb1 := below_alloc HB.out (.cells x.cells.toArray 32)
      have HB1 := hide hb1
      clear hb1
      by_cases hs : x.s = s
      · have bs : (x.s == s) = true := by simp [hs]
        have bs2 : (x.s != s) = false := by simp [hs]
        rw [decide_eq_true hs] at hbd
        clear hs
        cases q
        · obtain rfl : bd = true := by rw [hbd]; rfl
          obtain rfl : r = false := by rw [← HR1.out, HH.out (by first | rfl | trivial)]; rfl
          clear hbd HR1
          go_wp2_with fail
          refine (Calls.mono (HC.out _ (below_alloc (Below.refl _ _) _)) ?_); rintro e w3 ⟨rfl, hg3⟩
          have HB3 := hide (below_step HB1.out hg3)
          clear hg3
          go_wp2_with fail
          go_ret
          exact ⟨rfl, below_step HB2.out HB3.out⟩
        · obtain rfl : bd = false := by rw [hbd]; rfl
          clear hbd
          go_wp2_with fail
          refine (Calls.mono (HC.out _ (below_alloc (Below.refl _ _) _)) ?_); rintro e w3 ⟨rfl, hg3⟩
          have HB3 := hide (below_step HB1.out hg3)
          clear hg3
          go_wp2_with fail
          go_roundw
          case rel => exact ⟨k + 1, by omega, by go_num, HB3.out, HN.out (by first | rfl | trivial)⟩
          case measure => simp [intOf]; omega
      · have bs : (x.s == s) = false := by simp [hs]
        have bs2 : (x.s != s) = true := by simp [hs]
        rw [decide_eq_false hs] at hbd
        obtain rfl : bd = true := by rw [hbd]; rfl
        obtain rfl : r = false := by rw [← HR1.out, HH.out (by first | rfl | trivial)]; rfl
        clear hbd HR1 hs HC
        go_wp2_with fail
        go_ret
        exact ⟨rfl, below_step HB2.out HB1.out⟩
    · have HR2 : Hid ((!anyI (rd2 s K N got) N) = r) := hide (by rw [← HR1.out, any_all (by omega) hno]; rfl)
      clear hno hb HR1 hkk
      obtain ⟨wa, rfl⟩ : ∃ wa, wa = wr := ⟨_, rfl⟩
      have HBw := hide (below_step HB2.out HB.out)
      have HNw := hide (HN2.out.below HB.out)
      obtain ⟨Bn, dn, rfl, hNL, hnc, hnm⟩ := HNw.out
      have HNL := hide hNL
      clear HB HB2 HN2 hNL
      go_wp2_with fail
      go_loopw [38] (fun i wr => ∃ k : Nat, k ≤ N.length ∧ i = .int .i64 k ∧ Below wa.heap.size wa wr ∧ anyI (rd2 s K N got) (N.take k) = false) (fun i _ => N.length - (intOf i).toNat)
      case atStart => exact ⟨0, by omega, rfl, Below.refl _ _, rfl⟩
      case round =>
        obtain ⟨j, hjj, rfl, hb, hno⟩ := hrel
        have HB := hide hb
        by_cases hlj : j < N.length
        · obtain ⟨bl, off, rfl, hbb, y0, y1, y2, y3, y4⟩ := ItemsAt.item HNL.out hb hlj
          have HN := hide (any_snoc hlj hno)
          have HH := hide (any_hit (p := rd2 s K N got) hlj)
          clear hno hb
          generalize N[j] = x at *
          have hbd : rd2 s K N got x = (decide (x.s = s) && hasU x.v K && !thereB N got x) := rfl
          have HC1 := hide (fun W (hW : Below w.heap.size w W) => ucontains_any x.v A1 c1 K W (HK.out.below hW) hk)
          have HC2 := hide (fun W (hW : Below wr.heap.size wr W) => there_sl x (HNw.out.below (below_step HB.out hW)) (HGV.out.below (below_step (below_step HBw.out HB.out) hW)) (by omega) hl)
          generalize hasU x.v K = q1 at *
          generalize thereB N got x = q2 at *
          generalize rd2 s K N got x = bd at *
          have hb1 := below_alloc HB.out (.cells x.cells.toArray 32)
          have HB1 := hide hb1
          have HX1 := hide (ItAt.box (x := x) (t := 32) (fr := (0, 0)) (heap_alloc_new wr (.cells x.cells.toArray 32)))
          clear hb1
          by_cases hs : x.s = s
          case neg =>
            have bs : (x.s == s) = false := by simp [hs]
            rw [decide_eq_false hs] at hbd
            obtain rfl : bd = false := by rw [hbd]; rfl
            clear hbd hs HC1 HC2
            go_wp2_with fail
            go_roundw
            case rel => exact ⟨j + 1, by omega, by go_num, HB1.out, HN.out (by first | rfl | trivial)⟩
            case measure => simp [intOf]; omega
          have bs : (x.s == s) = true := by simp [hs]
          rw [decide_eq_true hs, Bool.true_and] at hbd
          clear hs
          cases q1
          · obtain rfl : bd = false := by rw [hbd]; rfl
            clear hbd HC2
            go_wp2_with fail
            refine (Calls.mono (HC1.out _ (below_step HBw.out HB1.out)) ?_); rintro e w3 ⟨rfl, hg3⟩
            have HB3 := hide (below_step HB1.out hg3)
            clear hg3
            go_wp2_with fail
            go_roundw
            case rel => exact ⟨j + 1, by omega, by go_num, HB3.out, HN.out (by first | rfl | trivial)⟩
            case measure => simp [intOf]; omega
          · obtain rfl : bd = !q2 := by rw [hbd]; rfl
            clear hbd
            go_wp2_with fail
            refine (Calls.mono (HC1.out _ (below_step HBw.out HB1.out)) ?_); rintro e w3 ⟨rfl, hg3⟩
            have HG3 := hide (below_step (below_alloc (Below.refl wr.heap.size wr) (.cells x.cells.toArray 32)) hg3)
            have HB3 := hide (below_step HB1.out hg3)
            obtain ⟨xl, x0, x1, x2, x3, x4⟩ := HX1.out.below hg3
            clear hg3
            cases q2
            · obtain rfl : r = false := by rw [← HR2.out, HH.out (by first | rfl | trivial)]; rfl
              go_wp2_with fail
              refine (Calls.mono (HC2.out _ HG3.out) ?_); rintro e w4 ⟨rfl, hg4⟩
              have HB4 := hide (below_step HB3.out hg4)
              clear hg4
              go_wp2_with fail
              go_ret
              exact ⟨rfl, below_step HBw.out HB4.out⟩
            · go_wp2_with fail
              refine (Calls.mono (HC2.out _ HG3.out) ?_); rintro e w4 ⟨rfl, hg4⟩
              have HB4 := hide (below_step HB3.out hg4)
              clear hg4
              go_wp2_with fail
              go_roundw
              case rel => exact ⟨j + 1, by omega, by go_num, HB4.out, HN.out (by first | rfl | trivial)⟩
              case measure => simp [intOf]; omega
        · obtain rfl : r = true := by rw [← HR2.out, any_all (by omega) hno]; rfl
          clear hno hb
          go_wp2_with fail
          go_ret
          exact ⟨rfl, below_step HBw.out HB.out⟩
end Go.Proofs.Ytebnifpclebliaa
