/- axiom.Gone, even: contracts. Condition: the lengths. -/
import Derived.Test.YtebnifpclebliaaAxC
namespace Go.Proofs.Ytebnifpclebliaa
set_option linter.unusedVariables false
set_option linter.unusedSimpArgs false
open Go.ChangeShapes Go.WideShapes Go.ChangeAt Go.RowKit

set_option maxHeartbeats 800000 in
theorem gone1_any (t : It) (g : Nat) {v : Value} {got : List It} (w : World) (hg : SlAt w g v) (hs : Sl w v got) (hl : got.length ≤ 4611686018427387904) :
    Calls Try.prog 40 #[t.val, .pointer (some ⟨g, 0, none⟩)] w fun e w' => e = .returned (.bool (anyI (hidesB t) got)) ∧ Below w.heap.size w w' := by
  obtain ⟨hgl, g0⟩ := hg
  have hS := hide (hs.below (below_alloc (Below.refl w.heap.size w) (.cells t.cells.toArray 32)))
  have HC := hide (hides_sl t hS.out hl)
  obtain ⟨A, c, rfl, _⟩ := hs
  generalize anyI (hidesB t) got = q at *
  go_enter Try.func40, Try.ntmps40
  go_wp2_with fail
  refine (Calls.mono HC.out ?_); rintro e w1 ⟨rfl, hg1⟩
  have HB := hide (below_step (below_alloc (Below.refl w.heap.size w) _) hg1)
  clear hg1
  go_wp2_with fail
  go_ret
  exact ⟨rfl, HB.out⟩
def goneL (acked : List An) (got : List It) : Bool := !anyI (fun t => anyI (hidesB t) got) (itemsL acked)
set_option maxHeartbeats 800000 in
theorem gone_any (A : Option Addr) (c : Nat) (L : List An) {v : Value} {got : List It} {w : World} (hL : AnsAt w A L) (hg : Sl w v got) (hn : L.length ≤ 274877906944) (hl : got.length ≤ 4611686018427387904) :
    Calls Try.prog 19 #[.slice A L.length c, v] w fun e w' => e = .returned (.bool (goneL L got)) ∧ Below w.heap.size w w' := by
  have hb1 := below_alloc (Below.refl w.heap.size w) (.cells #[v] 24)
  have HGS := hide (SlAt.box (v := v) (t := 24) (fr := (0, 0)) (heap_alloc_new w (.cells #[v] 24)))
  have HG := hide (hg.below hb1)
  have HI := hide (aitems_any A c L _ (RowAt.below hL hb1) hn)
  have hlen := itemsL_len L
  have HB1 := hide hb1
  obtain ⟨r, hr⟩ : ∃ r, anyI (fun t => anyI (hidesB t) got) (itemsL L) = r := ⟨_, rfl⟩
  have hrq : goneL L got = !r := by unfold goneL; rw [hr]
  rw [hrq]
  have HR := hide hr
  obtain ⟨B, d, rfl, _⟩ := hg
  clear hr hrq hL hb1
  generalize itemsL L = N at *
  go_enter Try.func19, Try.ntmps19
  go_wp2_with fail
  refine (Calls.mono HI.out ?_); rintro e w2 ⟨v2, rfl, ho2, hg2⟩
  have HS2 := hide (Ow.sl ho2)
  have HG2 := hide hg2
  clear ho2 hg2
  go_wp2_with fail
  refine (Calls.mono (contains_sl 40 #[.pointer (some ⟨w.heap.size, 0, none⟩)] (fun args W => by kernel_rfl) (fun t => anyI (hidesB t) got) HS2.out (by omega) (fun y _ w1 h1 => gone1_any y w.heap.size w1 (HGS.out.below (below_step HG2.out h1)) (HG.out.below (below_step HG2.out h1)) hl)) ?_); rintro e w3 ⟨rfl, hg3⟩
  rw [HR.out]
  have HB3 := hide (below_step (below_step HB1.out HG2.out) hg3)
  clear hg3
  go_wp2_with fail
  go_ret
  exact ⟨by simp, HB3.out⟩

/-- It has a sample, or what came in its place. -/
def inB (x y : It) : Bool := isB x y || hidesB y x
def badB (b : List It) (f : Int) (x : It) : Bool := decide (x.v ≤ f) && (decide (x.k = 2) && !anyI (inB x) b || anyI (hidesB x) b)
def evenB (a b : List It) (f : Int) : Bool := !anyI (badB b f) a
set_option maxHeartbeats 1600000 in
theorem even1_any (y x : It) (b : Nat) (w : World) (h : ItAt w b x) : Calls Try.prog 44 #[y.val, .pointer (some ⟨b, 0, none⟩)] w fun e w' => e = .returned (.bool (inB x y)) ∧ Below w.heap.size w w' := by
  have HC := hide (fun W => psame_any x y W)
  have HD := hide (fun W => phides_any y x W)
  obtain ⟨r, hr⟩ : ∃ r, inB x y = r := ⟨_, rfl⟩
  have HR := hide hr
  rw [hr]
  clear hr
  have HA := hide h
  obtain ⟨hb, c0, c1, c2, c3, c4⟩ := h
  have hb1 := below_alloc (Below.refl w.heap.size w) (.cells y.cells.toArray 32)
  have HB1 := hide hb1
  have HA1 := hide (HA.out.below hb1)
  have HY1 : Hid (ItAt (w.alloc (.cells y.cells.toArray 32)) w.heap.size y) := hide (ItAt.box (t := 32) (fr := (0, 0)) (heap_alloc_new w _))
  clear hb1
  by_cases hs : sameB x y = true ∧ x.v ≤ y.v
  · obtain ⟨hs1, hs2⟩ := hs
    have hrf : r = true := by rw [← HR.out]; unfold inB isB; rw [hs1, decide_eq_true hs2]; rfl
    subst hrf
    rw [hs1] at HC
    clear hs1 HR HD
    go_enter Try.func44, Try.ntmps44
    go_wp2_with fail
    refine (Calls.mono (HC.out _) ?_); rintro e w1 ⟨rfl, hg1⟩
    have HB := hide (below_step HB1.out hg1)
    obtain ⟨dl, d0, d1, d2, d3, d4⟩ := HA1.out.below hg1
    obtain ⟨el, e0, e1, e2, e3, e4⟩ := HY1.out.below hg1
    clear hg1 c0 c1 c2 c3 c4 HA HA1 HY1 HB1 HC
    go_wp2_with fail
    go_ret
    exact ⟨rfl, HB.out⟩
  · have hi : isB x y = false := by
      unfold isB
      cases h1 : sameB x y
      · rfl
      · rw [decide_eq_false (fun e => hs ⟨h1, e⟩)]; rfl
    have hrf : r = hidesB y x := by rw [← HR.out]; unfold inB; rw [hi]; rfl
    subst hrf
    clear HR hi
    generalize hidesB y x = q at *
    cases h1 : sameB x y
    · rw [h1] at HC
      clear h1 hs
      go_enter Try.func44, Try.ntmps44
      go_wp2_with fail
      refine (Calls.mono (HC.out _) ?_); rintro e w1 ⟨rfl, hg1⟩
      have HB := hide (below_step HB1.out hg1)
      obtain ⟨dl, d0, d1, d2, d3, d4⟩ := HA1.out.below hg1
      obtain ⟨el, e0, e1, e2, e3, e4⟩ := HY1.out.below hg1
      clear hg1 c0 c1 c2 c3 c4 HA HA1 HY1 HB1 HC
      go_wp2_with fail
      refine (Calls.mono (HD.out _) ?_); rintro e w2 ⟨rfl, hg2⟩
      have HB2 := hide (below_step HB.out hg2)
      clear hg2
      go_wp2_with fail
      go_ret
      exact ⟨rfl, HB2.out⟩
    · have hs2 : ¬ x.v ≤ y.v := fun e => hs ⟨h1, e⟩
      rw [h1] at HC
      clear h1 hs
      go_enter Try.func44, Try.ntmps44
      go_wp2_with fail
      refine (Calls.mono (HC.out _) ?_); rintro e w1 ⟨rfl, hg1⟩
      have HB := hide (below_step HB1.out hg1)
      obtain ⟨dl, d0, d1, d2, d3, d4⟩ := HA1.out.below hg1
      obtain ⟨el, e0, e1, e2, e3, e4⟩ := HY1.out.below hg1
      clear hg1 c0 c1 c2 c3 c4 HA HA1 HY1 HB1 HC
      go_wp2_with fail
      refine (Calls.mono (HD.out _) ?_); rintro e w2 ⟨rfl, hg2⟩
      have HB2 := hide (below_step HB.out hg2)
      clear hg2
      go_wp2_with fail
      go_ret
      exact ⟨by rw [show decide (x.v ≤ y.v) = false from decide_eq_false (by omega)]; rfl, HB2.out⟩
theorem any_snoc {p : It → Bool} {L : List It} {k : Nat} (hk : k < L.length) (h : anyI p (L.take k) = false) (h1 : p L[k] = false) : anyI p (L.take (k + 1)) = false := by
  unfold anyI at *
  rw [List.take_succ_eq_append_getElem hk, List.any_append, h]
  simp [h1]
theorem any_hit {p : It → Bool} {L : List It} {k : Nat} (hk : k < L.length) (h1 : p L[k] = true) : anyI p L = true := by
  unfold anyI
  rw [List.any_eq_true]
  exact ⟨_, List.getElem_mem hk, h1⟩
theorem any_all {p : It → Bool} {L : List It} {k : Nat} (hk : L.length ≤ k) (h : anyI p (L.take k) = false) : anyI p L = false := by rwa [List.take_of_length_le hk] at h
set_option maxHeartbeats 3200000 in
theorem even_sl {va vb : Value} {a b : List It} (f : Int) {w : World} (ha : Sl w va a) (hbv : Sl w vb b) (hla : a.length ≤ 4611686018427387904) (hlb : b.length ≤ 4611686018427387904) :
    Calls Try.prog 26 #[va, vb, .int .u64 f] w fun e w' => e = .returned (.bool (evenB a b f)) ∧ Below w.heap.size w w' := by
  have HVB := hide hbv
  obtain ⟨A, c, rfl, hL, hlc, hcm⟩ := ha
  have HL := hide hL
  clear hL hbv
  go_enter Try.func26, Try.ntmps26
  go_wp2_with fail
  go_loopw [12] (fun i wr => ∃ k : Nat, k ≤ a.length ∧ i = .int .i64 k ∧ Below w.heap.size w wr ∧ anyI (badB b f) (a.take k) = false) (fun i _ => a.length - (intOf i).toNat)
  case atStart => exact ⟨0, by omega, rfl, Below.refl _ _, rfl⟩
  case round =>
    obtain ⟨k, hk, rfl, hb, hno⟩ := hrel
    have HB := hide hb
    by_cases hlt : k < a.length
    · obtain ⟨bl, off, rfl, hbb, y0, y1, y2, y3, y4⟩ := ItemsAt.item HL.out hb hlt
      have HN := hide (any_snoc hlt hno)
      have HH := hide (any_hit (p := badB b f) hlt)
      clear hno hb
      generalize a[k] = x at *
      have hb1 := below_alloc HB.out (.cells x.cells.toArray 32)
      have HB1 := hide hb1
      have HX1 := hide (ItAt.box (x := x) (t := 32) (fr := (0, 0)) (heap_alloc_new wr (.cells x.cells.toArray 32)))
      have HV1 := hide (HVB.out.below hb1)
      have HC1 := hide (fun W (hW : Below (wr.alloc (.cells x.cells.toArray 32)).heap.size (wr.alloc (.cells x.cells.toArray 32)) W) => contains_sl 44 #[.pointer (some ⟨wr.heap.size, 0, none⟩)] (fun args W => by kernel_rfl) (inB x) (HV1.out.below hW) (by omega)
        (fun y _ w1 h1 => even1_any y x wr.heap.size w1 (HX1.out.below (below_step hW h1))))
      have HC2 := hide (fun W (hW : Below (wr.alloc (.cells x.cells.toArray 32)).heap.size (wr.alloc (.cells x.cells.toArray 32)) W) => hides_sl x (HV1.out.below hW) hlb)
      clear hb1
      have hbd : badB b f x = (decide (x.v ≤ f) && (decide (x.k = 2) && !anyI (inB x) b || anyI (hidesB x) b)) := rfl
      generalize anyI (inB x) b = q1 at *
      generalize anyI (hidesB x) b = q2 at *
      generalize badB b f x = bd at *
      by_cases hf : x.v ≤ f
      case neg =>
        rw [decide_eq_false hf, Bool.false_and] at hbd
        subst hbd
        clear HC1 HC2
        go_wp2_with fail
        go_roundw
        case rel => exact ⟨k + 1, by omega, by go_num, HB1.out, HN.out (by first | rfl | trivial)⟩
        case measure => simp [intOf]; omega
      rw [decide_eq_true hf, Bool.true_and] at hbd
      by_cases hk2 : x.k = 2
      · have bk : (x.k == 2) = true := by simp [hk2]
        rw [decide_eq_true hk2, Bool.true_and] at hbd
        clear hk2
        cases q1
        · obtain rfl : bd = true := by rw [hbd]; rfl
          clear hbd HC2
          have HF : Hid (evenB a b f = false) := hide (by unfold evenB; rw [HH.out (by first | rfl | trivial)]; rfl)
          go_wp2_with fail
          refine (Calls.mono (HC1.out _ (Below.refl _ _)) ?_); rintro e w2 ⟨rfl, hg2⟩
          have HB2 := hide (below_step HB1.out hg2)
          clear hg2
          go_wp2_with fail
          go_ret
          exact ⟨by rw [HF.out]; rfl, HB2.out⟩
        · obtain rfl : bd = q2 := by rw [hbd]; rfl
          clear hbd
          go_wp2_with fail
          refine (Calls.mono (HC1.out _ (Below.refl _ _)) ?_); rintro e w2 ⟨rfl, hg2⟩
          have HG2 := hide hg2
          have HB2 := hide (below_step HB1.out hg2)
          obtain ⟨xl, x0, x1, x2, x3, x4⟩ := HX1.out.below hg2
          clear hg2
          cases bd
          · go_wp2_with fail
            refine (Calls.mono (HC2.out _ HG2.out) ?_); rintro e w3 ⟨rfl, hg3⟩
            have HB3 := hide (below_step HB2.out hg3)
            clear hg3
            go_wp2_with fail
            go_roundw
            case rel => exact ⟨k + 1, by omega, by go_num, HB3.out, HN.out (by first | rfl | trivial)⟩
            case measure => simp [intOf]; omega
          · have HF : Hid (evenB a b f = false) := hide (by unfold evenB; rw [HH.out (by first | rfl | trivial)]; rfl)
            go_wp2_with fail
            refine (Calls.mono (HC2.out _ HG2.out) ?_); rintro e w3 ⟨rfl, hg3⟩
            have HB3 := hide (below_step HB2.out hg3)
            clear hg3
            go_wp2_with fail
            go_ret
            exact ⟨by rw [HF.out]; rfl, HB3.out⟩
      · have bk : (x.k == 2) = false := by simp [hk2]
        rw [decide_eq_false hk2, Bool.false_and, Bool.false_or] at hbd
        subst hbd
        clear hk2 HC1
        cases bd
        · go_wp2_with fail
          refine (Calls.mono (HC2.out _ (Below.refl _ _)) ?_); rintro e w3 ⟨rfl, hg3⟩
          have HB3 := hide (below_step HB1.out hg3)
          clear hg3
          go_wp2_with fail
          go_roundw
          case rel => exact ⟨k + 1, by omega, by go_num, HB3.out, HN.out (by first | rfl | trivial)⟩
          case measure => simp [intOf]; omega
        · have HF : Hid (evenB a b f = false) := hide (by unfold evenB; rw [HH.out (by first | rfl | trivial)]; rfl)
          go_wp2_with fail
          refine (Calls.mono (HC2.out _ (Below.refl _ _)) ?_); rintro e w3 ⟨rfl, hg3⟩
          have HB3 := hide (below_step HB1.out hg3)
          clear hg3
          go_wp2_with fail
          go_ret
          exact ⟨by rw [HF.out]; rfl, HB3.out⟩
    · have HF : Hid (evenB a b f = true) := hide (by unfold evenB; rw [any_all (by omega) hno]; rfl)
      clear hno
      go_wp2_with fail
      go_ret
      exact ⟨by rw [HF.out]; rfl, HB.out⟩
end Go.Proofs.Ytebnifpclebliaa
