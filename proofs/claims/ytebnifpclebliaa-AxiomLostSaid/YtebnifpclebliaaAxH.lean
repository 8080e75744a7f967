/- What hides, what is there, what is gone: axiom.hides, there, Gone, even: contracts. Condition: the lengths. -/
import Derived.Test.YtebnifpclebliaaAx
import Derived.Test.YtebnifpclebliaaCon
namespace Go.Proofs.Ytebnifpclebliaa
set_option linter.unusedVariables false
set_option linter.unusedSimpArgs false
open Go.ChangeShapes Go.WideShapes Go.ChangeAt Go.RowKit

theorem contains_sl (F : FuncId) (caps : Array Value) (hcf : Enters Try.prog F) (p : It → Bool) {v : Value} {L : List It} {w : World} (h : Sl w v L) (hl : L.length ≤ 9223372036854775807) (hF : Tells F caps p L w) :
    Calls Try.prog 39 #[v, .func (.func F) #[] caps] w fun e w' => e = .returned (.bool (anyI p L)) ∧ Below w.heap.size w w' := by
  obtain ⟨A, c, rfl, hL, _, _⟩ := h
  exact contains_any F caps hcf p A c L w hl hL hF

set_option maxHeartbeats 400000 in
theorem hidesc_any (y t : It) (b : Nat) (w : World) (h : ItAt w b t) : Calls Try.prog 58 #[y.val, .pointer (some ⟨b, 0, none⟩)] w fun e w' => e = .returned (.bool (hidesB t y)) ∧ Below w.heap.size w w' := by
  have HC := hide (fun W => phides_any t y W)
  obtain ⟨hb, c0, c1, c2, c3, c4⟩ := h
  go_enter Try.func58, Try.ntmps58
  go_wp2_with fail
  refine (Calls.mono (HC.out _) ?_); rintro e w1 ⟨rfl, hg1⟩
  have hb1 : Below w.heap.size w w1 := below_step (below_alloc (Below.refl _ _) _) hg1
  have HB := hide hb1
  clear hg1 hb1
  go_wp2_with fail
  go_ret
  exact ⟨rfl, HB.out⟩
set_option maxHeartbeats 400000 in
theorem hides_sl (t : It) {v : Value} {L : List It} {w : World} (h : Sl w v L) (hl : L.length ≤ 4611686018427387904) : Calls Try.prog 41 #[t.val, v] w fun e w' => e = .returned (.bool (anyI (hidesB t) L)) ∧ Below w.heap.size w w' := by
  have hb : Below w.heap.size w (w.alloc (.cells t.cells.toArray 32)) := below_alloc (Below.refl _ _) _
  have HC := hide (contains_sl 58 #[.pointer (some ⟨w.heap.size, 0, none⟩)] (fun args W => by kernel_rfl) (hidesB t) (h.below hb) (by omega)
    (fun y _ w1 h1 => hidesc_any y t w.heap.size w1 ((ItAt.box (t := 32) (heap_alloc_new w _)).below h1)))
  have HB := hide hb
  clear h hb
  generalize anyI (hidesB t) L = r at *
  go_enter Try.func41, Try.ntmps41
  go_wp2_with fail
  refine (Calls.mono HC.out ?_); rintro e w1 ⟨rfl, hg1⟩
  have HB1 := hide (below_step HB.out hg1)
  clear hg1
  go_wp2_with fail
  go_ret
  exact ⟨rfl, HB1.out⟩

/-- It is there, or what came in its place. -/
def isB (x y : It) : Bool := sameB x y && decide (x.v ≤ y.v)
def goneB (x : It) (got : List It) (t : It) : Bool := decide (t.k = 1) && decide (t.s = x.s) && decide (x.v ≤ t.v) && !anyI (hidesB t) got
def thereB (all got : List It) (x : It) : Bool := anyI (isB x) got || anyI (goneB x got) all
set_option maxHeartbeats 1600000 in
theorem is_any (y x : It) (b : Nat) (w : World) (h : ItAt w b x) : Calls Try.prog 54 #[y.val, .pointer (some ⟨b, 0, none⟩)] w fun e w' => e = .returned (.bool (isB x y)) ∧ Below w.heap.size w w' := by
  have HC := hide (fun W => psame_any x y W)
  obtain ⟨r, hr⟩ : ∃ r, isB x y = r := ⟨_, rfl⟩
  have HR := hide hr
  rw [hr]
  clear hr
  have HA := hide h
  obtain ⟨hb, c0, c1, c2, c3, c4⟩ := h
  cases hs : sameB x y
  · have hrf : r = false := by rw [← HR.out]; unfold isB; rw [hs]; rfl
    subst hrf
    rw [hs] at HC
    clear hs HR
    go_enter Try.func54, Try.ntmps54
    go_wp2_with fail
    refine (Calls.mono (HC.out _) ?_); rintro e w1 ⟨rfl, hg1⟩
    have HB := hide (below_step (below_alloc (Below.refl w.heap.size w) _) hg1)
    clear hg1
    go_wp2_with fail
    go_ret
    exact ⟨rfl, HB.out⟩
  · have hrf : r = decide (x.v ≤ y.v) := by rw [← HR.out]; unfold isB; rw [hs]; rfl
    subst hrf
    rw [hs] at HC
    clear hs HR
    go_enter Try.func54, Try.ntmps54
    go_wp2_with fail
    refine (Calls.mono (HC.out _) ?_); rintro e w1 ⟨rfl, hg1⟩
    have hA := HA.out.below (below_alloc (Below.refl w.heap.size w) (.cells y.cells.toArray 32))
    have hA1 := hA.below hg1
    have hY := (ItAt.box (x := y) (t := 32) (heap_alloc_new w _)).below hg1
    have HB := hide (below_step (below_alloc (Below.refl w.heap.size w) _) hg1)
    have hz : w.heap.size < w1.heap.size := hY.lt
    obtain ⟨_, d0, d1, d2, d3, d4⟩ := hA1
    obtain ⟨_, e0, e1, e2, e3, e4⟩ := hY
    clear hg1 hA HA c0 c1 c2 c3 c4 d0 d1 d2 d4 e0 e1 e2 e4
    go_wp2_with fail
    go_ret
    exact ⟨rfl, HB.out⟩

theorem goneB_no {x t : It} {got : List It} (h : ¬ (t.k = 1 ∧ t.s = x.s ∧ x.v ≤ t.v)) : goneB x got t = false := by
  unfold goneB
  by_cases h1 : t.k = 1
  · by_cases h2 : t.s = x.s
    · have h3 : ¬ x.v ≤ t.v := fun e => h ⟨h1, h2, e⟩
      rw [decide_eq_false h3]; simp
    · rw [decide_eq_false h2]; simp
  · rw [decide_eq_false h1]; simp
theorem goneB_yes {x t : It} {got : List It} (h1 : t.k = 1) (h2 : t.s = x.s) (h3 : x.v ≤ t.v) : goneB x got t = !anyI (hidesB t) got := by
  unfold goneB
  rw [decide_eq_true h1, decide_eq_true h2, decide_eq_true h3]; rfl
/-- A slice value in a box. -/
structure SlAt (w : World) (g : Nat) (v : Value) : Prop where
  lt : g < w.heap.size
  c0 : w.cell? ⟨g, 0, none⟩ = some v
theorem SlAt.below {w w' : World} {g : Nat} {v : Value} (h : SlAt w g v) (hb : Below w.heap.size w w') : SlAt w' g v := ⟨Nat.lt_of_lt_of_le h.lt hb.size, (hb.cell (p := ⟨g, _, none⟩) h.lt).trans h.c0⟩
theorem SlAt.box {w : World} {g : Nat} {v : Value} {t : TypeId} {fr : Nat × Nat} (h : w.heap[g]? = some (.cells #[v] t fr)) : SlAt w g v := ⟨(Array.getElem?_eq_some_iff.1 h).1, (cell_of_row w g 0 _ _ _ h).trans rfl⟩
set_option maxHeartbeats 3200000 in
theorem gonec_any (t x : It) (b g : Nat) {v : Value} {got : List It} (w : World) (hx : ItAt w b x) (hg : SlAt w g v) (hs : Sl w v got) (hl : got.length ≤ 4611686018427387904) :
    Calls Try.prog 55 #[t.val, .pointer (some ⟨b, 0, none⟩), .pointer (some ⟨g, 0, none⟩)] w fun e w' => e = .returned (.bool (goneB x got t)) ∧ Below w.heap.size w w' := by
  obtain ⟨hb, c0, c1, c2, c3, c4⟩ := hx
  obtain ⟨hgl, g0⟩ := hg
  have hS := hide (hs.below (below_alloc (Below.refl w.heap.size w) (.cells t.cells.toArray 32)))
  have HC := hide (hides_sl t hS.out hl)
  obtain ⟨A, c, rfl, _⟩ := hs
  have hno := goneB_no (x := x) (t := t) (got := got)
  have hyes := goneB_yes (x := x) (t := t) (got := got)
  obtain ⟨r, hr⟩ : ∃ r, goneB x got t = r := ⟨_, rfl⟩
  rw [hr] at hno hyes ⊢
  clear hr hS
  generalize anyI (hidesB t) got = q at *
  by_cases h1 : t.k = 1
  case neg =>
    obtain rfl := hno (by omega)
    have b1 : (t.k == 1) = false := by simp [h1]
    clear hyes hno
    go_enter Try.func55, Try.ntmps55
    go_wp2_with fail
    go_ret
    exact ⟨rfl, by go_grown⟩
  have b1 : (t.k == 1) = true := by simp [h1]
  by_cases h2 : t.s = x.s
  case neg =>
    obtain rfl := hno (by omega)
    have b2 : (t.s == x.s) = false := by simp [h2]
    clear hyes hno h1
    go_enter Try.func55, Try.ntmps55
    go_wp2_with fail
    go_ret
    exact ⟨rfl, by go_grown⟩
  have b2 : (t.s == x.s) = true := by simp [h2]
  by_cases h3 : x.v ≤ t.v
  case neg =>
    obtain rfl := hno (by omega)
    clear hyes hno h1 h2
    go_enter Try.func55, Try.ntmps55
    go_wp2_with fail
    go_ret
    exact ⟨rfl, by go_grown⟩
  obtain rfl := hyes h1 h2 h3
  clear hyes hno h1 h2
  go_enter Try.func55, Try.ntmps55
  go_wp2_with fail
  refine (Calls.mono HC.out ?_); rintro e w1 ⟨rfl, hg1⟩
  have HB := hide (below_step (below_alloc (Below.refl w.heap.size w) _) hg1)
  clear hg1
  go_wp2_with fail
  go_ret
  exact ⟨rfl, HB.out⟩

set_option maxHeartbeats 3200000 in
theorem there_sl {va vg : Value} {all got : List It} (x : It) {w : World} (ha : Sl w va all) (hg : Sl w vg got) (hla : all.length ≤ 4611686018427387904) (hlg : got.length ≤ 4611686018427387904) :
    Calls Try.prog 35 #[va, vg, x.val] w fun e w' => e = .returned (.bool (thereB all got x)) ∧ Below w.heap.size w w' := by
  obtain ⟨W2, hW⟩ : ∃ W2, (w.alloc (.cells #[vg] 24)).alloc (.cells x.cells.toArray 32) = W2 := ⟨_, rfl⟩
  have hb2 : Below w.heap.size w W2 := by rw [← hW]; exact below_alloc (below_alloc (Below.refl _ _) _) _
  have hxs : ItAt W2 (w.heap.size + 1) x := by rw [← hW]; exact ItAt.box (t := 32) (heap_at (by simp))
  have hgs : SlAt W2 w.heap.size vg := by rw [← hW]; exact SlAt.box (t := 24) ((Below.heap_alloc _ _ _ (by simp)).trans (heap_alloc_new w _))
  have HW2 := hide hW
  have HA := hide (ha.below hb2)
  have HG := hide (hg.below hb2)
  have HI := hide (fun W (hW : Below W2.heap.size W2 W) => contains_sl 54 #[.pointer (some ⟨w.heap.size + 1, 0, none⟩)] (fun args W => by kernel_rfl) (isB x) (HG.out.below hW) (by omega)
    (fun y _ w1 h1 => is_any y x (w.heap.size + 1) w1 (hxs.below (below_step hW h1))))
  have HN := hide (fun W (hW : Below W2.heap.size W2 W) => contains_sl 55 #[.pointer (some ⟨w.heap.size + 1, 0, none⟩), .pointer (some ⟨w.heap.size, 0, none⟩)] (fun args W => by kernel_rfl) (goneB x got) (HA.out.below hW) (by omega)
    (fun y _ w1 h1 => gonec_any y x (w.heap.size + 1) w.heap.size w1 (hxs.below (below_step hW h1)) (hgs.below (below_step hW h1)) (HG.out.below (below_step hW h1)) hlg))
  have hgc := hgs.c0
  have HB2 := hide hb2
  have HXS := hide hxs
  have HGS := hide hgs
  obtain ⟨A, c, rfl, _⟩ := hg
  obtain ⟨r, hr⟩ : ∃ r, thereB all got x = r := ⟨_, rfl⟩
  rw [hr]
  have HR := hide hr
  clear hr ha hxs hgs hb2 hW
  cases hi : anyI (isB x) got
  · rw [hi] at HI
    have hrq : r = anyI (goneB x got) all := by rw [← HR.out]; unfold thereB; rw [hi]; rfl
    generalize anyI (goneB x got) all = q at *
    subst hrq
    clear HR hi
    go_enter Try.func35, Try.ntmps35
    go_wp2_with fail
    rw [show (w.alloc (.cells #[.slice A got.length c] 24)).alloc (.cells #[.int .i64 x.s, .int .i64 x.k, .int .u64 x.t, .int .u64 x.v, .int .i64 x.x] 32) = W2 from HW2.out]
    refine (Calls.mono (HI.out W2 (Below.refl _ _)) ?_); rintro e w1 ⟨rfl, hg1⟩
    have HB1 := hide hg1
    clear hg1 hgc
    go_wp2_with fail
    refine (Calls.mono (HN.out _ HB1.out) ?_); rintro e w3 ⟨rfl, hg3⟩
    have HB3 := hide (below_step (below_step HB2.out HB1.out) hg3)
    clear hg3
    go_wp2_with fail
    go_ret
    exact ⟨rfl, HB3.out⟩
  · rw [hi] at HI
    have hrq : r = true := by rw [← HR.out]; unfold thereB; rw [hi]; rfl
    subst hrq
    clear HR hi HN
    go_enter Try.func35, Try.ntmps35
    go_wp2_with fail
    rw [show (w.alloc (.cells #[.slice A got.length c] 24)).alloc (.cells #[.int .i64 x.s, .int .i64 x.k, .int .u64 x.t, .int .u64 x.v, .int .i64 x.x] 32) = W2 from HW2.out]
    refine (Calls.mono (HI.out W2 (Below.refl _ _)) ?_); rintro e w1 ⟨rfl, hg1⟩
    have HB1 := hide (below_step HB2.out hg1)
    clear hg1 hgc
    go_wp2_with fail
    go_ret
    exact ⟨rfl, HB1.out⟩
end Go.Proofs.Ytebnifpclebliaa
