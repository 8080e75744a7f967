/- XTell, XCoA, XCdT, XCdK, XCrM, XCoordPlaysP, XNest, XDecMg, XDecCl in one text. Conditions: as typed. -/
import Derived.Test.YtlabpgdimhbocaaGreatFil
import Derived.Test.YtlabpgdimhbocaaGreatCoS
import Derived.Test.YtlabpgdimhbocaaGreatCdE
import Derived.Test.YtlabpgdimhbocaaGreatStRef
import Derived.Test.YtlabpgdimhbocaaGreatCoI
import Derived.Test.YtlabpgdimhbocaaGreatCdG
import Derived.Test.YtlabpgdimhbocaaGreatREq
import Derived.Test.YtlabpgdimhbocaaGreatLib
import Derived.Test.YtlabpgdimhbocaaGreatMsg
namespace Go.Proofs.YtlabpgdimhbocaaGreat
set_option linter.unusedVariables false
set_option linter.unusedSimpArgs false
open Go.ChangeShapes Go.WideShapes Go.ChangeAt Go.RowKit

def NoneP (p : It → Bool) (L : List It) (k : Nat) : Prop := ∀ j (_ : j < k) (hj : j < L.length), p L[j] = false
theorem noneP_on {p : It → Bool} {L : List It} {k : Nat} (hk : k < L.length) (h : NoneP p L k) (hp : p L[k] = false) : NoneP p L (k + 1) := fun j hj hj' => by
  by_cases e : j = k
  · subst e; exact hp
  · exact h j (by omega) hj'
theorem find_hit {p : It → Bool} {L : List It} {k : Nat} (hk : k < L.length) (h : NoneP p L k) (hp : p L[k] = true) : L.find? p = some L[k] := by
  rw [List.find?_eq_some_iff_getElem]
  exact ⟨hp, k, hk, rfl, fun j hj => by simp [h j hj (by omega)]⟩
theorem find_miss {p : It → Bool} {L : List It} {k : Nat} (hk : L.length ≤ k) (h : NoneP p L k) : L.find? p = none := by
  rw [List.find?_eq_none]
  intro x hx
  obtain ⟨j, hj, rfl⟩ := List.getElem_of_mem hx
  simp [h j (by omega) hj]
def getP (s t : Int) (x : It) : Bool := decide (x.s = s ∧ x.k = 2 ∧ x.t = t)
def getL (s t : Int) (L : List It) : It := (L.find? (getP s t)).getD ⟨0, 0, 0, 0, 0⟩
def hasL (s t : Int) (L : List It) : Bool := (L.find? (getP s t)).isSome
def tmP (s : Int) (x : It) : Bool := decide (x.s = s ∧ x.k = 1)
def tombV (s : Int) (L : List It) : Int := match L.find? (tmP s) with
  | some x => x.v
  | none => 0
def topL (L : List It) : Int := L.foldl (fun n x => max n x.v) 0
theorem topL_snoc {L : List It} {k : Nat} (hk : k < L.length) : topL (L.take (k + 1)) = max (topL (L.take k)) L[k].v := by
  unfold topL
  rw [List.take_succ_eq_append_getElem hk, List.foldl_append]; rfl
theorem topL_range (L : List It) (h : ∀ x ∈ L, x.v ≤ 18446744073709551615) : 0 ≤ topL L ∧ topL L ≤ 18446744073709551615 := by
  have key : ∀ (L : List It) (n : Int), (∀ x ∈ L, x.v ≤ 18446744073709551615) → 0 ≤ n → n ≤ 18446744073709551615 → 0 ≤ L.foldl (fun n x => max n x.v) n ∧ L.foldl (fun n x => max n x.v) n ≤ 18446744073709551615 := by
    intro L
    induction L with
    | nil => intro n _ h1 h2; exact ⟨h1, h2⟩
    | cons x L ih =>
      intro n h h1 h2
      have := h x (by simp)
      exact ih (max n x.v) (fun y hy => h y (by simp [hy])) (by omega) (by omega)
  exact key L 0 h (by omega) (by omega)
theorem max_if (a b : Int) : max a b = if a < b then b else a := by split <;> omega
end Go.Proofs.YtlabpgdimhbocaaGreat
namespace Go.Proofs.YtlabpgdimhbocaaGreat
set_option linter.unusedVariables false
set_option linter.unusedSimpArgs false
open Go.ChangeShapes Go.WideShapes Go.ChangeAt Go.RowKit
theorem Tryz.infoAns : (Tryz.prog.info? 44).map (fun i => (i.zero, i.size, i.bytes)) = some (some (.agg #[.int .u64 0, .int .i64 0, .int .i64 0, .int .u64 0, .int .i64 0, .int .i64 0, .int .u64 0, .slice none 0 0]), 8, 80) := by kernel_rfl
/-- An answer: its number, its call (kind, series, time, value), its error, its version; its items as a value. -/
structure An where
  id : Int
  k : Int
  s : Int
  t : Int
  x : Int
  e : Int
  v : Int
  la : Option Addr
  ln : Nat
  lc : Nat
def An.cells (a : An) : List Value := [.int .u64 a.id, .int .i64 a.k, .int .i64 a.s, .int .u64 a.t, .int .i64 a.x, .int .i64 a.e, .int .u64 a.v, .slice a.la a.ln a.lc]
abbrev An.val (a : An) : Value := .agg #[.int .u64 a.id, .int .i64 a.k, .int .i64 a.s, .int .u64 a.t, .int .i64 a.x, .int .i64 a.e, .int .u64 a.v, .slice a.la a.ln a.lc]
def itB (a : An) : Bool := clientB a.k a.s a.t a.x && !decide (a.k = 3) && goodB (itC a.k a.s a.t a.x a.v)
def itO (a : An) : Option It := if itB a then some (itC a.k a.s a.t a.x a.v) else none
def itV (a : An) : It := if itB a then itC a.k a.s a.t a.x a.v else ⟨0, 0, 0, 0, 0⟩

/-- An answer in memory, its cells from (b, o) on. -/
structure AnAt (w : World) (b o : Nat) (a : An) : Prop where
  lt : b < w.heap.size
  c0 : w.cell? ⟨b, o, none⟩ = some (.int .u64 a.id)
  c1 : w.cell? ⟨b, o + 1, none⟩ = some (.int .i64 a.k)
  c2 : w.cell? ⟨b, o + 2, none⟩ = some (.int .i64 a.s)
  c3 : w.cell? ⟨b, o + 3, none⟩ = some (.int .u64 a.t)
  c4 : w.cell? ⟨b, o + 4, none⟩ = some (.int .i64 a.x)
  c5 : w.cell? ⟨b, o + 5, none⟩ = some (.int .i64 a.e)
  c6 : w.cell? ⟨b, o + 6, none⟩ = some (.int .u64 a.v)
  c7 : w.cell? ⟨b, o + 7, none⟩ = some (.slice a.la a.ln a.lc)
theorem AnAt.below {w w' : World} {b o : Nat} {a : An} (h : AnAt w b o a) (hb : Below w.heap.size w w') : AnAt w' b o a :=
  ⟨Nat.lt_of_lt_of_le h.lt hb.size, (hb.cell (p := ⟨b, _, none⟩) h.lt).trans h.c0, (hb.cell (p := ⟨b, _, none⟩) h.lt).trans h.c1, (hb.cell (p := ⟨b, _, none⟩) h.lt).trans h.c2, (hb.cell (p := ⟨b, _, none⟩) h.lt).trans h.c3,
   (hb.cell (p := ⟨b, _, none⟩) h.lt).trans h.c4, (hb.cell (p := ⟨b, _, none⟩) h.lt).trans h.c5, (hb.cell (p := ⟨b, _, none⟩) h.lt).trans h.c6, (hb.cell (p := ⟨b, _, none⟩) h.lt).trans h.c7⟩
theorem AnAt.box {w : World} {g : Nat} {a : An} {t : TypeId} {fr : Nat × Nat} (h : w.heap[g]? = some (.cells #[.int .u64 a.id, .int .i64 a.k, .int .i64 a.s, .int .u64 a.t, .int .i64 a.x, .int .i64 a.e, .int .u64 a.v, .slice a.la a.ln a.lc] t fr)) : AnAt w g 0 a :=
  ⟨(Array.getElem?_eq_some_iff.1 h).1, (cell_of_row w g 0 _ _ _ h).trans rfl, (cell_of_row w g 1 _ _ _ h).trans rfl, (cell_of_row w g 2 _ _ _ h).trans rfl, (cell_of_row w g 3 _ _ _ h).trans rfl,
   (cell_of_row w g 4 _ _ _ h).trans rfl, (cell_of_row w g 5 _ _ _ h).trans rfl, (cell_of_row w g 6 _ _ _ h).trans rfl, (cell_of_row w g 7 _ _ _ h).trans rfl⟩

/-- A fresh result's block: five zeros, that may be written. -/
structure Zer (w : World) (g : Nat) : Prop where
  row : w.heap[g]? = some (.cells #[.int .i64 0, .int .i64 0, .int .u64 0, .int .u64 0, .int .i64 0] 78 (0, 0))
theorem Zer.below {w w' : World} {g : Nat} (h : Zer w g) (hb : Below w.heap.size w w') : Zer w' g := ⟨(hb.block g (Array.getElem?_eq_some_iff.1 h.row).1).trans h.row⟩
theorem Zer.cells {w : World} {g : Nat} (h : Zer w g) : g < w.heap.size ∧ w.cell? ⟨g, 0, none⟩ = some (.int .i64 0) ∧ w.cell? ⟨g, 1, none⟩ = some (.int .i64 0) ∧ w.cell? ⟨g, 2, none⟩ = some (.int .u64 0) ∧ w.cell? ⟨g, 3, none⟩ = some (.int .u64 0) ∧ w.cell? ⟨g, 4, none⟩ = some (.int .i64 0) ∧ ∀ o, w.frozen? ⟨g, o, none⟩ = false :=
  ⟨(Array.getElem?_eq_some_iff.1 h.row).1, (cell_of_row w g 0 _ _ _ h.row).trans rfl, (cell_of_row w g 1 _ _ _ h.row).trans rfl, (cell_of_row w g 2 _ _ _ h.row).trans rfl, (cell_of_row w g 3 _ _ _ h.row).trans rfl, (cell_of_row w g 4 _ _ _ h.row).trans rfl, fun o => by simp [World.frozen?, h.row]⟩
/-- An item in memory at the head of a block. -/
structure ItAt (w : World) (g : Nat) (x : It) : Prop where
  lt : g < w.heap.size
  c0 : w.cell? ⟨g, 0, none⟩ = some (.int .i64 x.s)
  c1 : w.cell? ⟨g, 1, none⟩ = some (.int .i64 x.k)
  c2 : w.cell? ⟨g, 2, none⟩ = some (.int .u64 x.t)
  c3 : w.cell? ⟨g, 3, none⟩ = some (.int .u64 x.v)
  c4 : w.cell? ⟨g, 4, none⟩ = some (.int .i64 x.x)
theorem ItAt.below {w w' : World} {b : Nat} {a : It} (h : ItAt w b a) (hb : Below w.heap.size w w') : ItAt w' b a :=
  ⟨Nat.lt_of_lt_of_le h.lt hb.size, (hb.cell (p := ⟨b, _, none⟩) h.lt).trans h.c0, (hb.cell (p := ⟨b, _, none⟩) h.lt).trans h.c1, (hb.cell (p := ⟨b, _, none⟩) h.lt).trans h.c2, (hb.cell (p := ⟨b, _, none⟩) h.lt).trans h.c3,
   (hb.cell (p := ⟨b, _, none⟩) h.lt).trans h.c4⟩
theorem ItAt.box {w : World} {g : Nat} {x : It} {t : TypeId} {fr : Nat × Nat} (h : w.heap[g]? = some (.cells #[.int .i64 x.s, .int .i64 x.k, .int .u64 x.t, .int .u64 x.v, .int .i64 x.x] t fr)) : ItAt w g x :=
  ⟨(Array.getElem?_eq_some_iff.1 h).1, (cell_of_row w g 0 _ _ _ h).trans rfl, (cell_of_row w g 1 _ _ _ h).trans rfl, (cell_of_row w g 2 _ _ _ h).trans rfl, (cell_of_row w g 3 _ _ _ h).trans rfl, (cell_of_row w g 4 _ _ _ h).trans rfl⟩
theorem it_one {k s t x v : Int} (a0 a5 : Int) (la : Option Addr) (ln lc : Nat) (hk : k = 1) : itB ⟨a0, k, s, t, x, a5, v, la, ln, lc⟩ = goodB ⟨s, 2, t, v, x⟩ ∧ itV ⟨a0, k, s, t, x, a5, v, la, ln, lc⟩ = if goodB ⟨s, 2, t, v, x⟩ = true then ⟨s, 2, t, v, x⟩ else ⟨0, 0, 0, 0, 0⟩ := by
  have e : itC k s t x v = ⟨s, 2, t, v, x⟩ := if_neg (by omega)
  have h : itB ⟨a0, k, s, t, x, a5, v, la, ln, lc⟩ = goodB ⟨s, 2, t, v, x⟩ := by
    unfold itB
    simp only [e]
    unfold clientB goodB
    by_cases hg : It.good ⟨s, 2, t, v, x⟩
    · rw [decide_eq_true hg]
      dsimp only [It.good] at hg
      rw [decide_eq_true (by omega), decide_eq_false (by omega)]
      rfl
    · rw [decide_eq_false hg, Bool.and_false]
  exact ⟨h, by unfold itV; rw [h]; simp only [e]⟩
theorem it_two {k s t x v : Int} (a0 a5 : Int) (la : Option Addr) (ln lc : Nat) (hk : k = 2) : itB ⟨a0, k, s, t, x, a5, v, la, ln, lc⟩ = (goodB ⟨s, 1, 0, v, 0⟩ && decide (t = 0) && decide (x = 0)) ∧ itV ⟨a0, k, s, t, x, a5, v, la, ln, lc⟩ = if (goodB ⟨s, 1, 0, v, 0⟩ && decide (t = 0) && decide (x = 0)) = true then ⟨s, 1, 0, v, 0⟩ else ⟨0, 0, 0, 0, 0⟩ := by
  have e : itC k s t x v = ⟨s, 1, 0, v, 0⟩ := if_pos hk
  have h : itB ⟨a0, k, s, t, x, a5, v, la, ln, lc⟩ = (goodB ⟨s, 1, 0, v, 0⟩ && decide (t = 0) && decide (x = 0)) := by
    unfold itB
    simp only [e]
    unfold clientB goodB
    by_cases hg : It.good ⟨s, 1, 0, v, 0⟩
    · rw [decide_eq_true hg]
      dsimp only [It.good] at hg
      have h3 : decide (k = 3) = false := decide_eq_false (by omega)
      rw [h3]
      by_cases ht : t = 0
      · by_cases hx : x = 0
        · rw [decide_eq_true (by omega), decide_eq_true ht, decide_eq_true hx]; rfl
        · rw [decide_eq_false (by omega), decide_eq_true ht, decide_eq_false hx]; rfl
      · rw [decide_eq_false (by omega), decide_eq_false ht]; rfl
    · rw [decide_eq_false hg, Bool.and_false]; rfl
  exact ⟨h, by unfold itV; rw [h]; simp only [e]⟩
theorem it_else {k s t x v : Int} (a0 a5 : Int) (la : Option Addr) (ln lc : Nat) (hk : k ≠ 1) (hk2 : k ≠ 2) : itB ⟨a0, k, s, t, x, a5, v, la, ln, lc⟩ = false ∧ itV ⟨a0, k, s, t, x, a5, v, la, ln, lc⟩ = ⟨0, 0, 0, 0, 0⟩ := by
  have h : itB ⟨a0, k, s, t, x, a5, v, la, ln, lc⟩ = false := by
    unfold itB clientB
    by_cases h3 : k = 3
    · rw [decide_eq_true h3]; simp
    · simp only
      rw [decide_eq_false (by omega)]; rfl
  exact ⟨h, by unfold itV; rw [h]; rfl⟩
theorem al3 (w : World) (o1 o2 o3 : Obj) : (((w.alloc o1).alloc o2).alloc o3).heap[w.heap.size]? = some o1 ∧ (((w.alloc o1).alloc o2).alloc o3).heap[w.heap.size + 1]? = some o2 ∧ (((w.alloc o1).alloc o2).alloc o3).heap[w.heap.size + 2]? = some o3 ∧ Below w.heap.size w (((w.alloc o1).alloc o2).alloc o3) :=
  ⟨(Below.heap_alloc _ _ _ (by simp; omega)).trans ((Below.heap_alloc _ _ _ (by simp)).trans (heap_alloc_new w _)), (Below.heap_alloc _ _ _ (by simp)).trans (heap_at (by simp)), heap_at (by simp), below_alloc (below_alloc (below_alloc (Below.refl _ _) _) _) _⟩
set_option maxHeartbeats 3200000 in
set_option maxRecDepth 100000 in
theorem ritem_any (a : An) (w : World) : Calls Tryz.prog 33 #[a.val] w fun e w' => e = .returned (.tuple #[(itV a).val, .bool (itB a)]) ∧ Below w.heap.size w w' := by
  obtain ⟨a0, k, s, t, x, a5, v, la, ln, lc⟩ := a
  by_cases hk1 : k = 1
  · obtain ⟨e1, e2⟩ := it_one (s := s) (t := t) (x := x) (v := v) a0 a5 la ln lc hk1
    rw [e1, e2]
    have HG := hide (fun W => rgood_any ⟨s, 2, t, v, x⟩ W)
    have b1 : (k == 1) = true := by simp [hk1]
    have b2 : (k == 2) = false := by simp [hk1]
    clear e1 e2 hk1
    cases hg : goodB ⟨s, 2, t, v, x⟩
    · rw [hg] at HG
      clear hg
      go_enter Tryz.func33, Tryz.ntmps33
      go_upto_region 5 with fail
      go_region
      go_wp2_with fail
      refine (Calls.mono (HG.out _) ?_); rintro e w2 ⟨rfl, hg2⟩
      obtain ⟨g1, g2, g3, g4⟩ := al3 w (.cells #[.int .u64 a0, .int .i64 k, .int .i64 s, .int .u64 t, .int .i64 x, .int .i64 a5, .int .u64 v, .slice la ln lc] 44) (.cells #[.int .i64 0, .int .i64 0, .int .u64 0, .int .u64 0, .int .i64 0] 78) (.cells (It.cells ⟨s, 2, t, v, x⟩).toArray 78)
      replace g4 := g4.drew
      have hz2 : w.heap.size + 3 ≤ w2.heap.size := by have := hg2.size; simp at this; omega
      have A2 : Hid (AnAt w2 w.heap.size 0 ⟨a0, k, s, t, x, a5, v, la, ln, lc⟩) := hide (AnAt.box (t := 44) ((hg2.block _ (by simp; omega)).trans g1))
      have Z2 : Hid (Zer w2 (w.heap.size + 1)) := hide (Zer.mk ((hg2.block _ (by simp)).trans g2))
      have X2 : Hid (ItAt w2 (w.heap.size + 2) ⟨s, 2, t, v, x⟩) := hide (ItAt.box (t := 78) ((hg2.block _ (by simp)).trans g3))
      have HB2 := hide (below_step g4 hg2)
      clear g1 g2 g3 g4 hg2 HG
      have hgz : w.heap.size ≤ w.heap.size + 1 := by omega
      generalize w.heap.size + 2 = n2 at *
      generalize w.heap.size + 1 = n1 at *
      obtain ⟨al0, q0, q1, q2, q3, q4, q5, q6, q7⟩ := A2.out
      dsimp only at q0 q1 q2 q3 q4 q5 q6 q7
      clear q0 q2 q5 q6 q7
      obtain ⟨zl, z0, z1, z2, z3, z4, zf⟩ := Zer.cells Z2.out
      go_wp2_with fail
      obtain ⟨r0, r1, r2, r3, r4⟩ := box_item (put_res ⟨0, 0, 0, 0, 0⟩ Z2.out.row)
      dsimp only at r0 r1 r2 r3 r4
      refine bodyPost_ret (v := .tuple #[It.val ⟨0, 0, 0, 0, 0⟩, .bool false]) (by simp [results, Tryz.results33, go_sem, r0, r1, r2, r3, r4]) rfl ?_
      have hb1 := HB2.out
      exact ⟨by simp, ((((hb1.setCell hgz _).setCell hgz _).setCell hgz _).setCell hgz _).setCell hgz _⟩
    · rw [hg] at HG
      clear hg
      go_enter Tryz.func33, Tryz.ntmps33
      go_upto_region 5 with fail
      go_region
      go_wp2_with fail
      refine (Calls.mono (HG.out _) ?_); rintro e w2 ⟨rfl, hg2⟩
      obtain ⟨g1, g2, g3, g4⟩ := al3 w (.cells #[.int .u64 a0, .int .i64 k, .int .i64 s, .int .u64 t, .int .i64 x, .int .i64 a5, .int .u64 v, .slice la ln lc] 44) (.cells #[.int .i64 0, .int .i64 0, .int .u64 0, .int .u64 0, .int .i64 0] 78) (.cells (It.cells ⟨s, 2, t, v, x⟩).toArray 78)
      replace g4 := g4.drew
      have hz2 : w.heap.size + 3 ≤ w2.heap.size := by have := hg2.size; simp at this; omega
      have A2 : Hid (AnAt w2 w.heap.size 0 ⟨a0, k, s, t, x, a5, v, la, ln, lc⟩) := hide (AnAt.box (t := 44) ((hg2.block _ (by simp; omega)).trans g1))
      have Z2 : Hid (Zer w2 (w.heap.size + 1)) := hide (Zer.mk ((hg2.block _ (by simp)).trans g2))
      have X2 : Hid (ItAt w2 (w.heap.size + 2) ⟨s, 2, t, v, x⟩) := hide (ItAt.box (t := 78) ((hg2.block _ (by simp)).trans g3))
      have HB2 := hide (below_step g4 hg2)
      clear g1 g2 g3 g4 hg2 HG
      have hgz : w.heap.size ≤ w.heap.size + 1 := by omega
      generalize w.heap.size + 2 = n2 at *
      generalize w.heap.size + 1 = n1 at *
      obtain ⟨al0, q0, q1, q2, q3, q4, q5, q6, q7⟩ := A2.out
      dsimp only at q0 q1 q2 q3 q4 q5 q6 q7
      clear q0 q2 q5 q6 q7
      obtain ⟨zl, z0, z1, z2, z3, z4, zf⟩ := Zer.cells Z2.out
      obtain ⟨xl, x0, x1, x2, x3, x4⟩ := X2.out
      dsimp only at x0 x1 x2 x3 x4
      go_wp2_with fail
      obtain ⟨r0, r1, r2, r3, r4⟩ := box_item (put_res ⟨s, 2, t, v, x⟩ Z2.out.row)
      dsimp only at r0 r1 r2 r3 r4
      refine bodyPost_ret (v := .tuple #[It.val ⟨s, 2, t, v, x⟩, .bool true]) (by simp [results, Tryz.results33, go_sem, r0, r1, r2, r3, r4]) rfl ?_
      have hb1 := HB2.out
      exact ⟨by simp, ((((hb1.setCell hgz _).setCell hgz _).setCell hgz _).setCell hgz _).setCell hgz _⟩
  by_cases hk2 : k = 2
  · obtain ⟨e1, e2⟩ := it_two (s := s) (t := t) (x := x) (v := v) a0 a5 la ln lc hk2
    rw [e1, e2]
    have HG := hide (fun W => rgood_any ⟨s, 1, 0, v, 0⟩ W)
    have b1 : (k == 1) = false := by simp [hk2]
    have b2 : (k == 2) = true := by simp [hk2]
    clear e1 e2 hk1 hk2
    cases hg : goodB ⟨s, 1, 0, v, 0⟩
    · rw [hg] at HG
      rw [Bool.false_and, Bool.false_and]
      clear hg
      go_enter Tryz.func33, Tryz.ntmps33
      go_wp2_with fail
      refine (Calls.mono (HG.out _) ?_); rintro e w2 ⟨rfl, hg2⟩
      obtain ⟨g1, g2, g3, g4⟩ := al3 w (.cells #[.int .u64 a0, .int .i64 k, .int .i64 s, .int .u64 t, .int .i64 x, .int .i64 a5, .int .u64 v, .slice la ln lc] 44) (.cells #[.int .i64 0, .int .i64 0, .int .u64 0, .int .u64 0, .int .i64 0] 78) (.cells (It.cells ⟨s, 1, 0, v, 0⟩).toArray 78)
      have hz2 : w.heap.size + 3 ≤ w2.heap.size := by have := hg2.size; simp at this; omega
      have A2 : Hid (AnAt w2 w.heap.size 0 ⟨a0, k, s, t, x, a5, v, la, ln, lc⟩) := hide (AnAt.box (t := 44) ((hg2.block _ (by simp; omega)).trans g1))
      have Z2 : Hid (Zer w2 (w.heap.size + 1)) := hide (Zer.mk ((hg2.block _ (by simp)).trans g2))
      have X2 : Hid (ItAt w2 (w.heap.size + 2) ⟨s, 1, 0, v, 0⟩) := hide (ItAt.box (t := 78) ((hg2.block _ (by simp)).trans g3))
      have HB2 := hide (below_step g4 hg2)
      clear g1 g2 g3 g4 hg2 HG
      have hgz : w.heap.size ≤ w.heap.size + 1 := by omega
      generalize w.heap.size + 2 = n2 at *
      generalize w.heap.size + 1 = n1 at *
      obtain ⟨al0, q0, q1, q2, q3, q4, q5, q6, q7⟩ := A2.out
      dsimp only at q0 q1 q2 q3 q4 q5 q6 q7
      clear q0 q2 q5 q6 q7
      obtain ⟨zl, z0, z1, z2, z3, z4, zf⟩ := Zer.cells Z2.out
      go_wp2_with fail
      obtain ⟨r0, r1, r2, r3, r4⟩ := box_item (put_res ⟨0, 0, 0, 0, 0⟩ Z2.out.row)
      dsimp only at r0 r1 r2 r3 r4
      refine bodyPost_ret (v := .tuple #[It.val ⟨0, 0, 0, 0, 0⟩, .bool false]) (by simp [results, Tryz.results33, go_sem, r0, r1, r2, r3, r4]) rfl ?_
      have hb1 := HB2.out
      exact ⟨by simp, ((((hb1.setCell hgz _).setCell hgz _).setCell hgz _).setCell hgz _).setCell hgz _⟩
    · rw [hg] at HG
      rw [Bool.true_and]
      clear hg
      by_cases ht : t = 0
      · have b3 : (t != 0) = false := by simp [ht]
        rw [decide_eq_true ht, Bool.true_and]
        clear ht
        by_cases hx : x = 0
        · have b4 : (x != 0) = false := by simp [hx]
          rw [decide_eq_true hx]
          clear hx
          go_enter Tryz.func33, Tryz.ntmps33
          go_wp2_with fail
          refine (Calls.mono (HG.out _) ?_); rintro e w2 ⟨rfl, hg2⟩
          obtain ⟨g1, g2, g3, g4⟩ := al3 w (.cells #[.int .u64 a0, .int .i64 k, .int .i64 s, .int .u64 t, .int .i64 x, .int .i64 a5, .int .u64 v, .slice la ln lc] 44) (.cells #[.int .i64 0, .int .i64 0, .int .u64 0, .int .u64 0, .int .i64 0] 78) (.cells (It.cells ⟨s, 1, 0, v, 0⟩).toArray 78)
          have hz2 : w.heap.size + 3 ≤ w2.heap.size := by have := hg2.size; simp at this; omega
          have A2 : Hid (AnAt w2 w.heap.size 0 ⟨a0, k, s, t, x, a5, v, la, ln, lc⟩) := hide (AnAt.box (t := 44) ((hg2.block _ (by simp; omega)).trans g1))
          have Z2 : Hid (Zer w2 (w.heap.size + 1)) := hide (Zer.mk ((hg2.block _ (by simp)).trans g2))
          have X2 : Hid (ItAt w2 (w.heap.size + 2) ⟨s, 1, 0, v, 0⟩) := hide (ItAt.box (t := 78) ((hg2.block _ (by simp)).trans g3))
          have HB2 := hide (below_step g4 hg2)
          clear g1 g2 g3 g4 hg2 HG
          have hgz : w.heap.size ≤ w.heap.size + 1 := by omega
          generalize w.heap.size + 2 = n2 at *
          generalize w.heap.size + 1 = n1 at *
          obtain ⟨al0, q0, q1, q2, q3, q4, q5, q6, q7⟩ := A2.out
          dsimp only at q0 q1 q2 q3 q4 q5 q6 q7
          clear q0 q2 q5 q6 q7
          obtain ⟨zl, z0, z1, z2, z3, z4, zf⟩ := Zer.cells Z2.out
          obtain ⟨xl, x0, x1, x2, x3, x4⟩ := X2.out
          dsimp only at x0 x1 x2 x3 x4
          go_wp2_with fail
          obtain ⟨r0, r1, r2, r3, r4⟩ := box_item (put_res ⟨s, 1, 0, v, 0⟩ Z2.out.row)
          dsimp only at r0 r1 r2 r3 r4
          refine bodyPost_ret (v := .tuple #[It.val ⟨s, 1, 0, v, 0⟩, .bool true]) (by simp [results, Tryz.results33, go_sem, r0, r1, r2, r3, r4]) rfl ?_
          have hb1 := HB2.out
          exact ⟨by simp, ((((hb1.setCell hgz _).setCell hgz _).setCell hgz _).setCell hgz _).setCell hgz _⟩
        · have b4 : (x != 0) = true := by simp [hx]
          rw [decide_eq_false hx]
          clear hx
          go_enter Tryz.func33, Tryz.ntmps33
          go_wp2_with fail
          refine (Calls.mono (HG.out _) ?_); rintro e w2 ⟨rfl, hg2⟩
          obtain ⟨g1, g2, g3, g4⟩ := al3 w (.cells #[.int .u64 a0, .int .i64 k, .int .i64 s, .int .u64 t, .int .i64 x, .int .i64 a5, .int .u64 v, .slice la ln lc] 44) (.cells #[.int .i64 0, .int .i64 0, .int .u64 0, .int .u64 0, .int .i64 0] 78) (.cells (It.cells ⟨s, 1, 0, v, 0⟩).toArray 78)
          have hz2 : w.heap.size + 3 ≤ w2.heap.size := by have := hg2.size; simp at this; omega
          have A2 : Hid (AnAt w2 w.heap.size 0 ⟨a0, k, s, t, x, a5, v, la, ln, lc⟩) := hide (AnAt.box (t := 44) ((hg2.block _ (by simp; omega)).trans g1))
          have Z2 : Hid (Zer w2 (w.heap.size + 1)) := hide (Zer.mk ((hg2.block _ (by simp)).trans g2))
          have X2 : Hid (ItAt w2 (w.heap.size + 2) ⟨s, 1, 0, v, 0⟩) := hide (ItAt.box (t := 78) ((hg2.block _ (by simp)).trans g3))
          have HB2 := hide (below_step g4 hg2)
          clear g1 g2 g3 g4 hg2 HG
          have hgz : w.heap.size ≤ w.heap.size + 1 := by omega
          generalize w.heap.size + 2 = n2 at *
          generalize w.heap.size + 1 = n1 at *
          obtain ⟨al0, q0, q1, q2, q3, q4, q5, q6, q7⟩ := A2.out
          dsimp only at q0 q1 q2 q3 q4 q5 q6 q7
          clear q0 q2 q5 q6 q7
          obtain ⟨zl, z0, z1, z2, z3, z4, zf⟩ := Zer.cells Z2.out
          go_wp2_with fail
          obtain ⟨r0, r1, r2, r3, r4⟩ := box_item (put_res ⟨0, 0, 0, 0, 0⟩ Z2.out.row)
          dsimp only at r0 r1 r2 r3 r4
          refine bodyPost_ret (v := .tuple #[It.val ⟨0, 0, 0, 0, 0⟩, .bool false]) (by simp [results, Tryz.results33, go_sem, r0, r1, r2, r3, r4]) rfl ?_
          have hb1 := HB2.out
          exact ⟨by simp, ((((hb1.setCell hgz _).setCell hgz _).setCell hgz _).setCell hgz _).setCell hgz _⟩
      · have b3 : (t != 0) = true := by simp [ht]
        rw [decide_eq_false ht, Bool.false_and]
        clear ht
        go_enter Tryz.func33, Tryz.ntmps33
        go_wp2_with fail
        refine (Calls.mono (HG.out _) ?_); rintro e w2 ⟨rfl, hg2⟩
        obtain ⟨g1, g2, g3, g4⟩ := al3 w (.cells #[.int .u64 a0, .int .i64 k, .int .i64 s, .int .u64 t, .int .i64 x, .int .i64 a5, .int .u64 v, .slice la ln lc] 44) (.cells #[.int .i64 0, .int .i64 0, .int .u64 0, .int .u64 0, .int .i64 0] 78) (.cells (It.cells ⟨s, 1, 0, v, 0⟩).toArray 78)
        have hz2 : w.heap.size + 3 ≤ w2.heap.size := by have := hg2.size; simp at this; omega
        have A2 : Hid (AnAt w2 w.heap.size 0 ⟨a0, k, s, t, x, a5, v, la, ln, lc⟩) := hide (AnAt.box (t := 44) ((hg2.block _ (by simp; omega)).trans g1))
        have Z2 : Hid (Zer w2 (w.heap.size + 1)) := hide (Zer.mk ((hg2.block _ (by simp)).trans g2))
        have X2 : Hid (ItAt w2 (w.heap.size + 2) ⟨s, 1, 0, v, 0⟩) := hide (ItAt.box (t := 78) ((hg2.block _ (by simp)).trans g3))
        have HB2 := hide (below_step g4 hg2)
        clear g1 g2 g3 g4 hg2 HG
        have hgz : w.heap.size ≤ w.heap.size + 1 := by omega
        generalize w.heap.size + 2 = n2 at *
        generalize w.heap.size + 1 = n1 at *
        obtain ⟨al0, q0, q1, q2, q3, q4, q5, q6, q7⟩ := A2.out
        dsimp only at q0 q1 q2 q3 q4 q5 q6 q7
        clear q0 q2 q5 q6 q7
        obtain ⟨zl, z0, z1, z2, z3, z4, zf⟩ := Zer.cells Z2.out
        go_wp2_with fail
        obtain ⟨r0, r1, r2, r3, r4⟩ := box_item (put_res ⟨0, 0, 0, 0, 0⟩ Z2.out.row)
        dsimp only at r0 r1 r2 r3 r4
        refine bodyPost_ret (v := .tuple #[It.val ⟨0, 0, 0, 0, 0⟩, .bool false]) (by simp [results, Tryz.results33, go_sem, r0, r1, r2, r3, r4]) rfl ?_
        have hb1 := HB2.out
        exact ⟨by simp, ((((hb1.setCell hgz _).setCell hgz _).setCell hgz _).setCell hgz _).setCell hgz _⟩
  obtain ⟨e1, e2⟩ := it_else (s := s) (t := t) (x := x) (v := v) a0 a5 la ln lc hk1 hk2
  rw [e1, e2]
  have b1 : (k == 1) = false := by simp [hk1]
  have b2 : (k == 2) = false := by simp [hk2]
  clear e1 e2 hk1 hk2
  go_enter Tryz.func33, Tryz.ntmps33
  go_wp2_with fail
  refine bodyPost_ret (v := .tuple #[It.val ⟨0, 0, 0, 0, 0⟩, .bool false]) (by simp [results, Tryz.results33, go_sem]) rfl ?_
  exact ⟨rfl, by go_grown⟩
theorem itV_good {id k s t x e v : Int} {la : Option Addr} {ln lc : Nat} (hc : clientB k s t x = true) (hk : k ≠ 3) (hv : 1 ≤ v ∧ v ≤ 281474976710656) (ht : 0 ≤ t) : itV ⟨id, k, s, t, x, e, v, la, ln, lc⟩ = itC k s t x v := by
  have hg : goodB (itC k s t x v) = true := by
    unfold clientB at hc
    have h := of_decide_eq_true hc
    unfold goodB
    refine decide_eq_true ?_
    unfold itC
    split
    · unfold It.good; simp; omega
    · unfold It.good; simp; omega
  unfold itV
  rw [if_pos]
  unfold itB
  simp only [hc, hg]
  simp [hk]
end Go.Proofs.YtlabpgdimhbocaaGreat
namespace Go.Proofs.YtlabpgdimhbocaaGreat
set_option linter.unusedVariables false
set_option linter.unusedSimpArgs false
open Go.ChangeShapes Go.WideShapes Go.ChangeAt Go.RowKit
def anK (K : Cs) : An := ⟨0, K.ck, K.cs, K.ct, K.cv, 0, K.ver, none, 0, 0⟩
/-- What a call sends to one node. -/
def msgD (K : Cs) (j : Int) : Mg := if K.ck = 3 then ⟨4, K.at_, j, K.id, K.cs, none, 0, []⟩ else ⟨1, K.at_, j, K.id, 0, none, 0, [itV (anK K)]⟩
def toD (K : Cs) (k : Nat) : List Mg := ((List.range k).filter fun j => !K.C j).map fun (j : Nat) => msgD K (j : Int)
theorem toD_yes {K : Cs} {k : Nat} (h : K.C k = false) : toD K (k + 1) = toD K k ++ [msgD K (k : Int)] := by
  unfold toD
  rw [List.range_succ, List.filter_append, List.map_append, List.filter_cons, h]
  rfl
theorem toD_no {K : Cs} {k : Nat} (h : K.C k = true) : toD K (k + 1) = toD K k := by
  unfold toD
  rw [List.range_succ, List.filter_append, List.map_append, List.filter_cons, h]
  simp
theorem toD_len (K : Cs) (k : Nat) : (toD K k).length ≤ k := by
  unfold toD
  rw [List.length_map]
  exact Nat.le_trans (List.length_filter_le _ _) (by simp)
set_option maxRecDepth 100000 in
set_option maxHeartbeats 3200000 in
theorem rdto_get {w0 w : World} {D : Nat → Prop} {p cb : Nat} {K : Cs} (h : CallD w0 w D p cb K) (hr : K.rd = false) (hd : K.dn = false) (hn : K.n ≤ 7) (hs : 0 ≤ K.cs ∧ K.cs ≤ 255) (each : Bool) (he : each = true → ∀ j, K.C j = false) (hk3 : K.ck = 3) :
    Calls Tryz.prog 23 #[.pointer (some ⟨p, 0, none⟩), .bool each] w fun e w' => ∃ v N, e = .returned v ∧ MsO w.heap.size w' v N ∧ N.map Mg.bare = toD K K.n ∧ Below w.heap.size w w' := by
  obtain ⟨Ai, ci, _, hcl⟩ := h.cells
  have HCL := hide hcl
  have hpl := h.lt
  have HPL := hide hpl
  have HRDF := hide hr
  have HCK := hide hk3
  have HEA := hide he
  obtain ⟨n, hnn⟩ : ∃ n, K.n = n := ⟨_, rfl⟩
  have HNN := hide hnn
  rw [hnn] at hn
  obtain ⟨c0, c1, c2, c3, c4, c5, c6, c7, c8, c9, c10, c11, c13, c14, cc⟩ := hcl w (Below.refl _ _)
  rw [hd] at c14
  have HTO : Hid (∀ k : Nat, msgD K (k : Int) = ⟨4, K.at_, k, K.id, K.cs, none, 0, []⟩) := hide (fun k => by unfold msgD; rw [if_pos hk3])
  have hcw : IntKind.u64.wrap K.cs = K.cs := by rw [IntKind.wrap_u64]; omega
  obtain ⟨hs0, hs1⟩ := hs
  clear hcl h hpl hnn he hr hd hk3 c0 c1 c2 c3 c4 c5 c6 c7 c8 c9 c10 c11 c13 cc
  go_enter Tryz.func23, Tryz.ntmps23
  go_wp2_with fail
  go_loopw [5, 6] (fun v i wr => ∃ (k : Nat) (N : List Mg), i = .int .i64 k ∧ k ≤ n ∧ MsO w.heap.size wr v N ∧ N.map Mg.bare = toD K k ∧ Below w.heap.size w wr) (fun _ i _ => 8 - (intOf i).toNat)
  case atStart => exact ⟨0, [], rfl, by omega, MsO.nil_ _ _, rfl, Below.refl _ _⟩
  case round =>
    obtain ⟨k, N, rfl, hk, hO, hN, hb⟩ := hrel
    have HO := hide hO
    have HN := hide hN
    have HB := hide hb
    obtain ⟨c0, c1, c2, c3, c4, c5, c6, c7, c8, c9, c10, c11, c13, c14, cc⟩ := HCL.out wr hb
    rw [HNN.out] at c1 c10
    have hNl : N.length ≤ 7 := by
      have h1 := congrArg List.length hN
      rw [List.length_map] at h1
      have := toD_len K k
      omega
    clear hO hN hb c3 c4 c5 c6 c7 c8 c9 c11 c13 c14
    by_cases hkn : k < n
    · have hkI : (k : Int) < (n : Int) := by omega
      have hk0 : (0 : Int) ≤ (k : Int) := by omega
      have hck := cc k (by rw [HNN.out]; exact hkn)
      have hpr : p < wr.heap.size := Nat.lt_of_lt_of_le HPL.out.1 HB.out.size
      have hcr : cb < wr.heap.size := Nat.lt_of_lt_of_le HPL.out.2 HB.out.size
      clear cc
      go_upto_region 7 with fail
      go_region
      go_upto_block 2 with fail
      obtain ⟨wm, hwm⟩ : ∃ wm, (wr.alloc (.cells #[.int .i64 0, .int .i64 K.at_, .int .i64 k, .int .u64 K.id, .int .u64 0, .slice none 0 0] 39)).drew = wm := ⟨_, rfl⟩
      have hbm : Below wr.heap.size wr wm := by rw [← hwm]; exact (below_alloc (Below.refl _ _) _).drew
      have hzm : wm.heap[wr.heap.size]? = some (.cells #[.int .i64 0, .int .i64 K.at_, .int .i64 k, .int .u64 K.id, .int .u64 0, .slice none 0 0] 39 (0, 0)) := by rw [← hwm]; exact heap_alloc_new wr _
      rw [hwm]
      obtain ⟨g, hg⟩ : ∃ g, wr.heap.size = g := ⟨_, rfl⟩
      rw [hg] at hzm ⊢
      have HBM := hide hbm
      have HZM := hide hzm
      have HGE := hide hg
      have HBW := hide (below_step HB.out hbm)
      clear c0 c1 c2 c10 hck hpr hcr hwm hbm hzm hg
      obtain ⟨c0, c1, c2, c3, c4, c5, c6, c7, c8, c9, c10, c11, c13, c14, cc⟩ := HCL.out wm HBW.out
      have hck := cc k (by rw [HNN.out]; exact hkn)
      rw [HNN.out] at c1 c10
      rw [HRDF.out] at c3
      rw [HCK.out] at c4
      clear cc c9 c13 c0 c1 c2 c14 c11
      have hpr : p < wm.heap.size := Nat.lt_of_lt_of_le HPL.out.1 HBW.out.size
      have hcr : cb < wm.heap.size := Nat.lt_of_lt_of_le HPL.out.2 HBW.out.size
      have hgr : g < wm.heap.size := (Array.getElem?_eq_some_iff.1 HZM.out).1
      have hne1 : ¬ p = g := by have h1 := HPL.out.1; have h2 := HB.out.size; have h3 := HGE.out; omega
      have hne2 : ¬ g = p := fun e => hne1 e.symm
      cases hc : K.C k with
      | true =>
        have HS : Hid (toD K (k + 1) = toD K k) := hide (toD_no hc)
        obtain rfl : each = false := by
          cases each
          · rfl
          · rw [HEA.out rfl k] at hc; cases hc
        rw [hc] at hck
        clear hc
        go_wp2_with fail
        go_roundw
        case rel => exact ⟨k + 1, N, by go_num, by omega, HO.out.below HBM.out, by rw [HS.out]; exact HN.out, HBW.out⟩
        case measure => (simp [intOf] <;> omega)
      | false =>
        have HSY : Hid (toD K (k + 1) = toD K k ++ [msgD K (k : Int)]) := hide (toD_yes hc)
        rw [hc] at hck
        clear hc HEA
        go_cut [7] (fun v W => v = .pointer (some ⟨g, 0, none⟩) ∧ ∃ x : Mg, x.bare = msgD K (k : Int) ∧ x.rd W ∧ (∀ a, x.A = some a → x.L ≠ [] → wr.heap.size ≤ a.block) ∧ W.heap[g]? = some (.cells x.cells.toArray 39 (0, 0)) ∧ Below wr.heap.size wr W)
        case first =>
          obtain ⟨t0, t1, t2, t3, t4, t5⟩ := six_cells HZM.out
          have tf : ∀ o, wm.frozen? ⟨g, o, none⟩ = false := (fun o => by simp [World.frozen?, HZM.out])
          cases each
          · clear c6 c7 c8
            go_upto_region 16 with fail
            go_region
            have HB5 : Hid (Below wr.heap.size wr ((wm.setCell ⟨g, 0, none⟩ (.int .i64 4)).setCell ⟨g, 4, none⟩ (.int .u64 K.cs)).drew) := hide ((Sets.below HBM.out (((Sets.refl (S := fun c => c = g) wm).set (g := g) (fun _ => rfl) 0 (.int .i64 4)).set (g := g) (fun _ => rfl) 4 (.int .u64 K.cs)) (fun c e => by rw [e, ← HGE.out]; exact Nat.le_refl _) HBM.out.size).drew)
            have HZ5 : Hid ((((wm.setCell ⟨g, 0, none⟩ (.int .i64 4)).setCell ⟨g, 4, none⟩ (.int .u64 K.cs)).drew).heap[g]? = some (.cells #[.int .i64 4, .int .i64 K.at_, .int .i64 (k : Int), .int .u64 K.id, .int .u64 K.cs, .slice none 0 0] 39 (0, 0))) := hide (set_of_list (o := 4) (set_of_list (o := 0) HZM.out (.int .i64 4)) (.int .u64 K.cs))
            obtain ⟨w5, hw5⟩ : ∃ w5, ((wm.setCell ⟨g, 0, none⟩ (.int .i64 4)).setCell ⟨g, 4, none⟩ (.int .u64 K.cs)).drew = w5 := ⟨_, rfl⟩
            rw [hw5] at HB5 HZ5
            try rw [hw5]
            clear hw5 t0 t1 t2 t3 t4 t5 tf
            go_wp2_with fail
            go_meet
            exact ⟨rfl, ⟨4, K.at_, (k : Int), K.id, K.cs, none, 0, []⟩, by rw [HTO.out]; rfl, mg0_rd _ _ rfl rfl rfl, (fun a ha => by cases ha), HZ5.out, HB5.out⟩
          · clear c6 c7 c8
            go_upto_region 16 with fail
            go_region
            have HB5 : Hid (Below wr.heap.size wr ((wm.setCell ⟨g, 0, none⟩ (.int .i64 4)).setCell ⟨g, 4, none⟩ (.int .u64 K.cs)).drew) := hide ((Sets.below HBM.out (((Sets.refl (S := fun c => c = g) wm).set (g := g) (fun _ => rfl) 0 (.int .i64 4)).set (g := g) (fun _ => rfl) 4 (.int .u64 K.cs)) (fun c e => by rw [e, ← HGE.out]; exact Nat.le_refl _) HBM.out.size).drew)
            have HZ5 : Hid ((((wm.setCell ⟨g, 0, none⟩ (.int .i64 4)).setCell ⟨g, 4, none⟩ (.int .u64 K.cs)).drew).heap[g]? = some (.cells #[.int .i64 4, .int .i64 K.at_, .int .i64 (k : Int), .int .u64 K.id, .int .u64 K.cs, .slice none 0 0] 39 (0, 0))) := hide (set_of_list (o := 4) (set_of_list (o := 0) HZM.out (.int .i64 4)) (.int .u64 K.cs))
            obtain ⟨w5, hw5⟩ : ∃ w5, ((wm.setCell ⟨g, 0, none⟩ (.int .i64 4)).setCell ⟨g, 4, none⟩ (.int .u64 K.cs)).drew = w5 := ⟨_, rfl⟩
            rw [hw5] at HB5 HZ5
            try rw [hw5]
            clear hw5 t0 t1 t2 t3 t4 t5 tf
            go_wp2_with fail
            go_meet
            exact ⟨rfl, ⟨4, K.at_, (k : Int), K.id, K.cs, none, 0, []⟩, by rw [HTO.out]; rfl, mg0_rd _ _ rfl rfl rfl, (fun a ha => by cases ha), HZ5.out, HB5.out⟩
        case rest =>
          obtain ⟨rfl, x, hx1, hx2, hx2f, hx3, hx4⟩ := hcut
          have HX1 := hide hx1
          have HX2 := hide hx2
          have HX2F := hide hx2f
          have HX3 := hide hx3
          have HX4 := hide hx4
          obtain ⟨z0, z1, z2, z3, z4, z5⟩ := six_cells hx3
          have hal := below_alloc (Below.refl wc.heap.size wc) (.cells #[.int .i64 x.k, .int .i64 x.f, .int .i64 x.t, .int .u64 x.id, .int .u64 x.n, .slice x.A x.L.length x.c] 39)
          have HXX : Hid (RowAt Mg.cells 6 (wc.alloc (.cells #[.int .i64 x.k, .int .i64 x.f, .int .i64 x.t, .int .u64 x.id, .int .u64 x.n, .slice x.A x.L.length x.c] 39)) (some ⟨wc.heap.size, 0, none⟩) [x]) := hide (RowAt.new_one (cells := Mg.cells) (sz := 6) (y := x) (heap_alloc_new wc (.cells #[.int .i64 x.k, .int .i64 x.f, .int .i64 x.t, .int .u64 x.id, .int .u64 x.n, .slice x.A x.L.length x.c] 39)))
          have HXR := hide (hx2.below hal)
          have HBU := hide (below_step hx4 hal)
          have HOU := hide (HO.out.below HBU.out)
          have HBWW := hide (below_step HB.out HBU.out)
          clear hx1 hx2 hx2f hx3 hx4 hal hck hpr hcr hgr hne1 hne2 c3 c4 c5 c6 c7 c8 c10
          go_wp2_with (at_builtin; refine wpList_app_msg rfl (.tmp 110) (.tmp 112) rfl rfl w.heap.size _ N rfl HOU.out.own (some ⟨wc.heap.size, 0, none⟩) 1 1 [x] rfl rfl HXX.out (by omega) HBWW.out.size ?_; intro v6 w6 ho6 hg6 hm6; have HO6 := hide (HO.out.snoc HBU.out HXR.out HX2F.out ho6 hg6 hm6); have HB6 := hide (HBWW.out.grown hg6 HBWW.out.size (fun q hq => (OwnL.lt HOU.out.own q hq).1)); clear ho6 hg6 hm6)
          have HS6 : Hid ((N ++ [x]).map Mg.bare = toD K (k + 1)) := hide (by rw [HSY.out, List.map_append, HN.out, List.map_cons, HX1.out]; rfl)
          go_wp2_with fail
          go_roundw
          case rel => exact ⟨k + 1, N ++ [x], by go_num, by omega, HO6.out, HS6.out, HB6.out⟩
          case measure => (simp [intOf] <;> omega)
    · obtain rfl : k = n := by omega
      have hkI : ¬ (k : Int) < (k : Int) := by omega
      clear cc
      go_wp2_with fail
      go_ret
      exact ⟨_, rfl, N, HO.out, by rw [HNN.out]; exact HN.out, HB.out⟩
set_option maxRecDepth 100000 in
set_option maxHeartbeats 3200000 in
theorem rdto_put {w0 w : World} {D : Nat → Prop} {p cb : Nat} {K : Cs} (h : CallD w0 w D p cb K) (hr : K.rd = false) (hd : K.dn = false) (hn : K.n ≤ 7) (hs : 0 ≤ K.cs ∧ K.cs ≤ 255) (each : Bool) (he : each = true → ∀ j, K.C j = false) (hk3 : ¬ K.ck = 3) :
    Calls Tryz.prog 23 #[.pointer (some ⟨p, 0, none⟩), .bool each] w fun e w' => ∃ v N, e = .returned v ∧ MsO w.heap.size w' v N ∧ N.map Mg.bare = toD K K.n ∧ Below w.heap.size w w' := by
  obtain ⟨Ai, ci, _, hcl⟩ := h.cells
  have HCL := hide hcl
  have hpl := h.lt
  have HPL := hide hpl
  have HRDF := hide hr
  have HCK := hide hk3
  have HEA := hide he
  obtain ⟨n, hnn⟩ : ∃ n, K.n = n := ⟨_, rfl⟩
  have HNN := hide hnn
  rw [hnn] at hn
  obtain ⟨c0, c1, c2, c3, c4, c5, c6, c7, c8, c9, c10, c11, c13, c14, cc⟩ := hcl w (Below.refl _ _)
  rw [hd] at c14
  obtain ⟨y, hy⟩ : ∃ y, itV (anK K) = y := ⟨_, rfl⟩
  obtain ⟨yb, hyb⟩ : ∃ yb, itB (anK K) = yb := ⟨_, rfl⟩
  have HTO : Hid (∀ k : Nat, msgD K (k : Int) = ⟨1, K.at_, k, K.id, 0, none, 0, [y]⟩) := hide (fun k => by unfold msgD; rw [if_neg hk3, hy])
  have hki : (K.ck == 3) = false := beq_eq_false_iff_ne.2 hk3
  have HIT : Hid (∀ W : World, Calls Tryz.prog 33 #[(.agg #[.int .u64 0, .int .i64 K.ck, .int .i64 K.cs, .int .u64 K.ct, .int .i64 K.cv, .int .i64 0, .int .u64 K.ver, .slice none 0 0])] W fun e W' => e = .returned (.tuple #[.agg #[.int .i64 y.s, .int .i64 y.k, .int .u64 y.t, .int .u64 y.v, .int .i64 y.x], .bool yb]) ∧ Below W.heap.size W W') := hide (fun W => by
    have := ritem_any (anK K) W
    rw [hy, hyb] at this
    exact this)
  clear hy hyb
  obtain ⟨hs0, hs1⟩ := hs
  clear hcl h hpl hnn he hr hd hk3 c0 c1 c2 c3 c4 c5 c6 c7 c8 c9 c10 c11 c13 cc
  go_enter Tryz.func23, Tryz.ntmps23
  go_wp2_with fail
  go_loopw [5, 6] (fun v i wr => ∃ (k : Nat) (N : List Mg), i = .int .i64 k ∧ k ≤ n ∧ MsO w.heap.size wr v N ∧ N.map Mg.bare = toD K k ∧ Below w.heap.size w wr) (fun _ i _ => 8 - (intOf i).toNat)
  case atStart => exact ⟨0, [], rfl, by omega, MsO.nil_ _ _, rfl, Below.refl _ _⟩
  case round =>
    obtain ⟨k, N, rfl, hk, hO, hN, hb⟩ := hrel
    have HO := hide hO
    have HN := hide hN
    have HB := hide hb
    obtain ⟨c0, c1, c2, c3, c4, c5, c6, c7, c8, c9, c10, c11, c13, c14, cc⟩ := HCL.out wr hb
    rw [HNN.out] at c1 c10
    have hNl : N.length ≤ 7 := by
      have h1 := congrArg List.length hN
      rw [List.length_map] at h1
      have := toD_len K k
      omega
    clear hO hN hb c3 c4 c5 c6 c7 c8 c9 c11 c13 c14
    by_cases hkn : k < n
    · have hkI : (k : Int) < (n : Int) := by omega
      have hk0 : (0 : Int) ≤ (k : Int) := by omega
      have hck := cc k (by rw [HNN.out]; exact hkn)
      have hpr : p < wr.heap.size := Nat.lt_of_lt_of_le HPL.out.1 HB.out.size
      have hcr : cb < wr.heap.size := Nat.lt_of_lt_of_le HPL.out.2 HB.out.size
      clear cc
      go_upto_region 7 with fail
      go_region
      go_upto_block 2 with fail
      obtain ⟨wm, hwm⟩ : ∃ wm, (wr.alloc (.cells #[.int .i64 0, .int .i64 K.at_, .int .i64 k, .int .u64 K.id, .int .u64 0, .slice none 0 0] 39)).drew = wm := ⟨_, rfl⟩
      have hbm : Below wr.heap.size wr wm := by rw [← hwm]; exact (below_alloc (Below.refl _ _) _).drew
      have hzm : wm.heap[wr.heap.size]? = some (.cells #[.int .i64 0, .int .i64 K.at_, .int .i64 k, .int .u64 K.id, .int .u64 0, .slice none 0 0] 39 (0, 0)) := by rw [← hwm]; exact heap_alloc_new wr _
      rw [hwm]
      obtain ⟨g, hg⟩ : ∃ g, wr.heap.size = g := ⟨_, rfl⟩
      rw [hg] at hzm ⊢
      have HBM := hide hbm
      have HZM := hide hzm
      have HGE := hide hg
      have HBW := hide (below_step HB.out hbm)
      clear c0 c1 c2 c10 hck hpr hcr hwm hbm hzm hg
      obtain ⟨c0, c1, c2, c3, c4, c5, c6, c7, c8, c9, c10, c11, c13, c14, cc⟩ := HCL.out wm HBW.out
      have hck := cc k (by rw [HNN.out]; exact hkn)
      rw [HNN.out] at c1 c10
      rw [HRDF.out] at c3
      clear cc c9 c13 c0 c1 c2 c14 c11
      have hpr : p < wm.heap.size := Nat.lt_of_lt_of_le HPL.out.1 HBW.out.size
      have hcr : cb < wm.heap.size := Nat.lt_of_lt_of_le HPL.out.2 HBW.out.size
      have hgr : g < wm.heap.size := (Array.getElem?_eq_some_iff.1 HZM.out).1
      have hne1 : ¬ p = g := by have h1 := HPL.out.1; have h2 := HB.out.size; have h3 := HGE.out; omega
      have hne2 : ¬ g = p := fun e => hne1 e.symm
      cases hc : K.C k with
      | true =>
        have HS : Hid (toD K (k + 1) = toD K k) := hide (toD_no hc)
        obtain rfl : each = false := by
          cases each
          · rfl
          · rw [HEA.out rfl k] at hc; cases hc
        rw [hc] at hck
        clear hc
        go_wp2_with fail
        go_roundw
        case rel => exact ⟨k + 1, N, by go_num, by omega, HO.out.below HBM.out, by rw [HS.out]; exact HN.out, HBW.out⟩
        case measure => (simp [intOf] <;> omega)
      | false =>
        have HSY : Hid (toD K (k + 1) = toD K k ++ [msgD K (k : Int)]) := hide (toD_yes hc)
        rw [hc] at hck
        clear hc HEA
        go_cut [7] (fun v W => v = .pointer (some ⟨g, 0, none⟩) ∧ ∃ x : Mg, x.bare = msgD K (k : Int) ∧ x.rd W ∧ (∀ a, x.A = some a → x.L ≠ [] → wr.heap.size ≤ a.block) ∧ W.heap[g]? = some (.cells x.cells.toArray 39 (0, 0)) ∧ Below wr.heap.size wr W)
        case first =>
          obtain ⟨t0, t1, t2, t3, t4, t5⟩ := six_cells HZM.out
          have tf : ∀ o, wm.frozen? ⟨g, o, none⟩ = false := (fun o => by simp [World.frozen?, HZM.out])
          cases each
          · go_upto_region 8 with fail
            obtain ⟨ud, hud⟩ : ∃ ud, wm.drew = ud := ⟨_, rfl⟩
            have HUD : Hid (Below wm.heap.size wm ud) := hide (by rw [← hud]; exact (Below.refl _ _).drew)
            have HS : Hid (Below ud.heap.size ud ud) := hide (Below.refl _ _)
            have HCU : Hid (∀ W, Below ud.heap.size ud W → W.cell? ⟨p, 4, none⟩ = some (.int .i64 K.ck) ∧ W.cell? ⟨p, 5, none⟩ = some (.int .i64 K.cs) ∧ W.cell? ⟨p, 6, none⟩ = some (.int .u64 K.ct) ∧ W.cell? ⟨p, 7, none⟩ = some (.int .i64 K.cv) ∧ W.cell? ⟨p, 8, none⟩ = some (.int .u64 K.ver) ∧ p < W.heap.size) := hide (fun W hW => by
              have hb := below_step HBW.out (below_step HUD.out hW)
              have hq := HCL.out W hb
              exact ⟨hq.c4, hq.c5, hq.c6, hq.c7, hq.c8, Nat.lt_of_lt_of_le HPL.out.1 hb.size⟩)
            clear t0 t1 t2 t3 t4 t5 tf
            refine j_start [] (by kernel_rfl) ?_
            rw [hud]
            clear hud
            refine' wpAnyJ_take (i := 0) (v := _) [] ?hi0n1q0 (by kernel_rfl) (by kernel_rfl) (by kernel_rfl) (by kernel_rfl) (by kernel_rfl) (Or.inl ⟨?hw0n1q0, ?hy0n1q0⟩) HS.out ?rest0n1q0
            case hi0n1q0 => (simp only [List.getElem?_toArray, List.getElem?_cons_succ, List.getElem?_cons_zero]; rfl)
            case hw0n1q0 => rfl
            case hy0n1q0 => (intro w' hw'; go_simp; try with_reducible rfl)
            try simp only [Act.put, List.setIfInBounds_toArray, List.set_cons_zero, List.set_cons_succ]
            refine' wpAnyJ_take (i := 1) (v := _) [] ?hi1n2q0 (by kernel_rfl) (by kernel_rfl) (by kernel_rfl) (by kernel_rfl) (by kernel_rfl) (Or.inl ⟨?hw1n2q0, ?hy1n2q0⟩) HS.out ?rest1n2q0
            case hi1n2q0 => (simp only [List.getElem?_toArray, List.getElem?_cons_succ, List.getElem?_cons_zero]; rfl)
            case hw1n2q0 => rfl
            case hy1n2q0 => (intro w' hw'; go_simp; try with_reducible rfl)
            try simp only [Act.put, List.setIfInBounds_toArray, List.set_cons_zero, List.set_cons_succ]
            refine' wpAnyJ_take (i := 2) (v := _) [] ?hi2n3q0 (by kernel_rfl) (by kernel_rfl) (by kernel_rfl) (by kernel_rfl) (by kernel_rfl) (Or.inl ⟨?hw2n3q0, ?hy2n3q0⟩) HS.out ?rest2n3q0
            case hi2n3q0 => (simp only [List.getElem?_toArray, List.getElem?_cons_succ, List.getElem?_cons_zero]; rfl)
            case hw2n3q0 => rfl
            case hy2n3q0 => (intro w' hw'; go_simp; try with_reducible rfl)
            try simp only [Act.put, List.setIfInBounds_toArray, List.set_cons_zero, List.set_cons_succ]
            refine' wpAnyJ_take (i := 3) (v := _) [] ?hi3n4q0 (by kernel_rfl) (by kernel_rfl) (by kernel_rfl) (by kernel_rfl) (by kernel_rfl) (Or.inl ⟨?hw3n4q0, ?hy3n4q0⟩) HS.out ?rest3n4q0
            case hi3n4q0 => (simp only [List.getElem?_toArray, List.getElem?_cons_succ, List.getElem?_cons_zero]; rfl)
            case hw3n4q0 => rfl
            case hy3n4q0 => (intro w' hw'; obtain ⟨k4, k5, k6, k7, k8, kp⟩ := HCU.out _ hw'; go_simp; try with_reducible rfl)
            try simp only [Act.put, List.setIfInBounds_toArray, List.set_cons_zero, List.set_cons_succ]
            refine' wpAnyJ_take (i := 4) (v := _) [] ?hi4n5q0 (by kernel_rfl) (by kernel_rfl) (by kernel_rfl) (by kernel_rfl) (by kernel_rfl) (Or.inl ⟨?hw4n5q0, ?hy4n5q0⟩) HS.out ?rest4n5q0
            case hi4n5q0 => (simp only [List.getElem?_toArray, List.getElem?_cons_succ, List.getElem?_cons_zero]; rfl)
            case hw4n5q0 => rfl
            case hy4n5q0 => (intro w' hw'; go_simp; try with_reducible rfl)
            try simp only [Act.put, List.setIfInBounds_toArray, List.set_cons_zero, List.set_cons_succ]
            refine' wpAnyJ_take (i := 5) (v := _) [] ?hi5n6q0 (by kernel_rfl) (by kernel_rfl) (by kernel_rfl) (by kernel_rfl) (by kernel_rfl) (Or.inl ⟨?hw5n6q0, ?hy5n6q0⟩) HS.out ?rest5n6q0
            case hi5n6q0 => (simp only [List.getElem?_toArray, List.getElem?_cons_succ, List.getElem?_cons_zero]; rfl)
            case hw5n6q0 => rfl
            case hy5n6q0 => (intro w' hw'; go_simp; try with_reducible rfl)
            try simp only [Act.put, List.setIfInBounds_toArray, List.set_cons_zero, List.set_cons_succ]
            refine' wpAnyJ_take (i := 6) (v := _) [] ?hi6n7q0 (by kernel_rfl) (by kernel_rfl) (by kernel_rfl) (by kernel_rfl) (by kernel_rfl) (Or.inl ⟨?hw6n7q0, ?hy6n7q0⟩) HS.out ?rest6n7q0
            case hi6n7q0 => (simp only [List.getElem?_toArray, List.getElem?_cons_succ, List.getElem?_cons_zero]; rfl)
            case hw6n7q0 => rfl
            case hy6n7q0 => (intro w' hw'; go_simp; try with_reducible rfl)
            try simp only [Act.put, List.setIfInBounds_toArray, List.set_cons_zero, List.set_cons_succ]
            refine' wpAnyJ_take (i := 7) (v := _) [] ?hi7n8q0 (by kernel_rfl) (by kernel_rfl) (by kernel_rfl) (by kernel_rfl) (by kernel_rfl) (Or.inl ⟨?hw7n8q0, ?hy7n8q0⟩) HS.out ?rest7n8q0
            case hi7n8q0 => (simp only [List.getElem?_toArray, List.getElem?_cons_succ, List.getElem?_cons_zero]; rfl)
            case hw7n8q0 => rfl
            case hy7n8q0 => (intro w' hw'; obtain ⟨k4, k5, k6, k7, k8, kp⟩ := HCU.out _ hw'; go_simp; try with_reducible rfl)
            try simp only [Act.put, List.setIfInBounds_toArray, List.set_cons_zero, List.set_cons_succ]
            refine' wpAnyJ_take (i := 8) (v := _) [] ?hi8n9q0 (by kernel_rfl) (by kernel_rfl) (by kernel_rfl) (by kernel_rfl) (by kernel_rfl) (Or.inl ⟨?hw8n9q0, ?hy8n9q0⟩) HS.out ?rest8n9q0
            case hi8n9q0 => (simp only [List.getElem?_toArray, List.getElem?_cons_succ, List.getElem?_cons_zero]; rfl)
            case hw8n9q0 => rfl
            case hy8n9q0 => (intro w' hw'; go_simp; try with_reducible rfl)
            try simp only [Act.put, List.setIfInBounds_toArray, List.set_cons_zero, List.set_cons_succ]
            refine' wpAnyJ_step2 (i := 9) (j := 13) (oi := _) (oj := _) (by kernel_rfl) ?han10q0 ?hbn10q0 (fun KK hK => ?san10q0) (fun KK hK => ?sbn10q0)
            case han10q0 => (simp only [List.getElem?_toArray, List.getElem?_cons_succ, List.getElem?_cons_zero]; rfl)
            case hbn10q0 => (simp only [List.getElem?_toArray, List.getElem?_cons_succ, List.getElem?_cons_zero]; rfl)
            case san10q0 =>
              go_simp
              refine (Calls.mono (HIT.out _) ?_); rintro e u9 ⟨rfl, gg⟩
              have HS := hide (below_step HS.out gg)
              refine hK.out _ _ HS.out ?_
              clear hK KK gg
              try simp only [Act.put, List.setIfInBounds_toArray, List.set_cons_zero, List.set_cons_succ]
              refine' wpAnyJ_take (i := 10) (v := _) [] ?hi10n11q0 (by kernel_rfl) (by kernel_rfl) (by kernel_rfl) (by kernel_rfl) (by kernel_rfl) (Or.inl ⟨?hw10n11q0, ?hy10n11q0⟩) HS.out ?rest10n11q0
              case hi10n11q0 => (simp only [List.getElem?_toArray, List.getElem?_cons_succ, List.getElem?_cons_zero]; rfl)
              case hw10n11q0 => rfl
              case hy10n11q0 => (intro w' hw'; go_simp; try with_reducible rfl)
              try simp only [Act.put, List.setIfInBounds_toArray, List.set_cons_zero, List.set_cons_succ]
              refine' wpAnyJ_take (i := 11) (v := _) [] ?hi11n12q0 (by kernel_rfl) (by kernel_rfl) (by kernel_rfl) (by kernel_rfl) (by kernel_rfl) (Or.inl ⟨?hw11n12q0, ?hy11n12q0⟩) HS.out ?rest11n12q0
              case hi11n12q0 => (simp only [List.getElem?_toArray, List.getElem?_cons_succ, List.getElem?_cons_zero]; rfl)
              case hw11n12q0 => rfl
              case hy11n12q0 => (intro w' hw'; go_simp; try with_reducible rfl)
              try simp only [Act.put, List.setIfInBounds_toArray, List.set_cons_zero, List.set_cons_succ]
              refine' wpAnyJ_take (i := 12) (v := _) [] ?hi12n13q0 (by kernel_rfl) (by kernel_rfl) (by kernel_rfl) (by kernel_rfl) (by kernel_rfl) (Or.inl ⟨?hw12n13q0, ?hy12n13q0⟩) HS.out ?rest12n13q0
              case hi12n13q0 => (simp only [List.getElem?_toArray, List.getElem?_cons_succ, List.getElem?_cons_zero]; rfl)
              case hw12n13q0 => rfl
              case hy12n13q0 => (intro w' hw'; go_simp; try with_reducible rfl)
              try simp only [Act.put, List.setIfInBounds_toArray, List.set_cons_zero, List.set_cons_succ]
              refine' wpAnyJ_step (i := 13) (o := _) (by kernel_rfl) ?ho13n14q0 (fun KK hK => ?step13n14q0)
              case ho13n14q0 => (simp only [List.getElem?_toArray, List.getElem?_cons_succ, List.getElem?_cons_zero]; rfl)
              go_simp
              have hal := below_alloc (Below.refl (u9).heap.size (u9)) (.cells #[.int .i64 0, .int .i64 0, .int .u64 0, .int .u64 0, .int .i64 0] 78)
              have HZA : Hid (Zer ((u9).alloc (.cells #[.int .i64 0, .int .i64 0, .int .u64 0, .int .u64 0, .int .i64 0] 78)) (u9).heap.size) := hide ⟨heap_alloc_new (u9) (.cells #[.int .i64 0, .int .i64 0, .int .u64 0, .int .u64 0, .int .i64 0] 78)⟩
              obtain ⟨gz, hgz⟩ : ∃ gz, (u9).heap.size = gz := ⟨_, rfl⟩
              have HGG : Hid (ud.heap.size ≤ gz) := hide (by rw [← hgz]; exact HS.out.size)
              have HS := hide (below_step HS.out hal)
              rw [hgz] at HZA
              try rw [hgz]
              obtain ⟨u913, hu913⟩ : ∃ u913, (u9).alloc (.cells #[.int .i64 0, .int .i64 0, .int .u64 0, .int .u64 0, .int .i64 0] 78) = u913 := ⟨_, rfl⟩
              rw [hu913] at HZA HS
              try rw [hu913]
              clear hal hgz hu913
              refine hK.out _ _ HS.out ?_
              clear hK KK
              try simp only [Act.put, List.setIfInBounds_toArray, List.set_cons_zero, List.set_cons_succ]
              refine' wpAnyJ_step (i := 14) (o := _) (by kernel_rfl) ?ho14n15q0 (fun KK hK => ?step14n15q0)
              case ho14n15q0 => (simp only [List.getElem?_toArray, List.getElem?_cons_succ, List.getElem?_cons_zero]; rfl)
              obtain ⟨zl, z0, z1, z2, z3, z4, zf⟩ := Zer.cells HZA.out
              go_simp
              have HY : Hid (((((((u913).setCell ⟨gz, 0, none⟩ (.int .i64 y.s)).setCell ⟨gz, 1, none⟩ (.int .i64 y.k)).setCell ⟨gz, 2, none⟩ (.int .u64 y.t)).setCell ⟨gz, 3, none⟩ (.int .u64 y.v)).setCell ⟨gz, 4, none⟩ (.int .i64 y.x)).heap[gz]? = some (.cells y.cells.toArray 78 (0, 0))) := hide (put_res y HZA.out.row)
              have hgz0 := HGG.out
              have hb1 := HS.out
              have HS : Hid (Below ud.heap.size ud ((((((u913).setCell ⟨gz, 0, none⟩ (.int .i64 y.s)).setCell ⟨gz, 1, none⟩ (.int .i64 y.k)).setCell ⟨gz, 2, none⟩ (.int .u64 y.t)).setCell ⟨gz, 3, none⟩ (.int .u64 y.v)).setCell ⟨gz, 4, none⟩ (.int .i64 y.x))) := hide (((((hb1.setCell hgz0 _).setCell hgz0 _).setCell hgz0 _).setCell hgz0 _).setCell hgz0 _)
              refine hK.out _ _ HS.out ?_
              clear hK KK z0 z1 z2 z3 z4 zf zl hgz0 hb1
              obtain ⟨u91314, hu91314⟩ : ∃ u91314, (((((u913).setCell ⟨gz, 0, none⟩ (.int .i64 y.s)).setCell ⟨gz, 1, none⟩ (.int .i64 y.k)).setCell ⟨gz, 2, none⟩ (.int .u64 y.t)).setCell ⟨gz, 3, none⟩ (.int .u64 y.v)).setCell ⟨gz, 4, none⟩ (.int .i64 y.x) = u91314 := ⟨_, rfl⟩
              rw [hu91314] at HY HS
              try rw [hu91314]
              clear hu91314
              try simp only [Act.put, List.setIfInBounds_toArray, List.set_cons_zero, List.set_cons_succ]
              refine' wpAnyJ_take (i := 15) (v := _) [] ?hi15n16q0 (by kernel_rfl) (by kernel_rfl) (by kernel_rfl) (by kernel_rfl) (by kernel_rfl) (Or.inl ⟨?hw15n16q0, ?hy15n16q0⟩) HS.out ?rest15n16q0
              case hi15n16q0 => (simp only [List.getElem?_toArray, List.getElem?_cons_succ, List.getElem?_cons_zero]; rfl)
              case hw15n16q0 => rfl
              case hy15n16q0 => (intro w' hw'; go_simp; try with_reducible rfl)
              try simp only [Act.put, List.setIfInBounds_toArray, List.set_cons_zero, List.set_cons_succ]
              refine wpAnyJ_done (by kernel_rfl) ?_ _
              refine NoPanic.normal ?_
              have HGZ : Hid (wm.heap.size ≤ gz) := hide (by have h1 := HUD.out.size; have h2 := HGG.out; omega)
              clear HCU HZA HGG c4 c5 c6 c7 c8 c3 hck c10
              have HBX := hide (below_step (below_step HBM.out HUD.out) HS.out)
              have HZX := hide (((below_step HUD.out HS.out).block g hgr).trans HZM.out)
              have hgl8 : g < u91314.heap.size := Nat.lt_of_lt_of_le hgr (below_step HUD.out HS.out).size
              have hzl8 : gz < u91314.heap.size := (Array.getElem?_eq_some_iff.1 HY.out).1
              obtain ⟨u8, hu8⟩ : ∃ u8, u91314 = u8 := ⟨_, rfl⟩
              rw [hu8] at HBX HZX HY HS hgl8 hzl8
              rw [hu8]
              clear hu8
              obtain ⟨r0, r1, r2, r3, r4⟩ := box_item HY.out
              obtain ⟨t0, t1, t2, t3, t4, t5⟩ := six_cells HZX.out
              have tf : ∀ o, u8.frozen? ⟨g, o, none⟩ = false := (fun o => by simp [World.frozen?, HZX.out])
              have hnz1 : ¬ g = gz := by have h1 := hgr; have h2 := HGZ.out; omega
              have hnz2 : ¬ gz = g := fun e => hnz1 e.symm
              go_upto_region 9 with fail
              go_region
              have hss : Sets (fun c => c = g) u8 ((u8.setCell ⟨g, 0, none⟩ (.int .i64 1)).setCell ⟨g, 5, none⟩ (.slice (some ⟨u8.heap.size, 0, none⟩) 1 1)) := ((Sets.refl (S := fun c => c = g) u8).set (g := g) (fun _ => rfl) 0 (.int .i64 1)).set (g := g) (fun _ => rfl) 5 (.slice (some ⟨u8.heap.size, 0, none⟩) 1 1)
              have hzs := set_of_list (o := 5) (set_of_list (o := 0) HZX.out (.int .i64 1)) (.slice (some ⟨u8.heap.size, 0, none⟩) 1 1)
              have hsz : ((u8.setCell ⟨g, 0, none⟩ (.int .i64 1)).setCell ⟨g, 5, none⟩ (.slice (some ⟨u8.heap.size, 0, none⟩) 1 1)).heap.size = u8.heap.size := by simp
              have hin := heap_alloc_new ((u8.setCell ⟨g, 0, none⟩ (.int .i64 1)).setCell ⟨g, 5, none⟩ (.slice (some ⟨u8.heap.size, 0, none⟩) 1 1)) (.cells #[.int .i64 y.s, .int .i64 y.k, .int .u64 y.t, .int .u64 y.v, .int .i64 y.x] 78)
              rw [hsz] at hin
              have hal := below_alloc (Below.refl ((u8.setCell ⟨g, 0, none⟩ (.int .i64 1)).setCell ⟨g, 5, none⟩ (.slice (some ⟨u8.heap.size, 0, none⟩) 1 1)).heap.size ((u8.setCell ⟨g, 0, none⟩ (.int .i64 1)).setCell ⟨g, 5, none⟩ (.slice (some ⟨u8.heap.size, 0, none⟩) 1 1))) (.cells #[.int .i64 y.s, .int .i64 y.k, .int .u64 y.t, .int .u64 y.v, .int .i64 y.x] 78)
              have hbs := Sets.below HBX.out hss (fun c e => by rw [e, ← HGE.out]; exact Nat.le_refl _) HBX.out.size
              have HB5 : Hid (Below wr.heap.size wr (((u8.setCell ⟨g, 0, none⟩ (.int .i64 1)).setCell ⟨g, 5, none⟩ (.slice (some ⟨u8.heap.size, 0, none⟩) 1 1)).alloc (.cells #[.int .i64 y.s, .int .i64 y.k, .int .u64 y.t, .int .u64 y.v, .int .i64 y.x] 78)).drew) := hide (below_step hbs hal).drew
              have HZ5 : Hid (((((u8.setCell ⟨g, 0, none⟩ (.int .i64 1)).setCell ⟨g, 5, none⟩ (.slice (some ⟨u8.heap.size, 0, none⟩) 1 1)).alloc (.cells #[.int .i64 y.s, .int .i64 y.k, .int .u64 y.t, .int .u64 y.v, .int .i64 y.x] 78)).drew).heap[g]? = some (.cells #[.int .i64 1, .int .i64 K.at_, .int .i64 (k : Int), .int .u64 K.id, .int .u64 0, .slice (some ⟨u8.heap.size, 0, none⟩) 1 1] 39 (0, 0))) := hide ((hal.block g (by rw [hsz]; exact hgl8)).trans hzs)
              have HI8 : Hid (((((u8.setCell ⟨g, 0, none⟩ (.int .i64 1)).setCell ⟨g, 5, none⟩ (.slice (some ⟨u8.heap.size, 0, none⟩) 1 1)).alloc (.cells #[.int .i64 y.s, .int .i64 y.k, .int .u64 y.t, .int .u64 y.v, .int .i64 y.x] 78)).drew).heap[u8.heap.size]? = some (.cells (flat [y]).toArray 78 (0, 0))) := hide hin
              have HGW : Hid (wr.heap.size ≤ u8.heap.size) := hide HBX.out.size
              obtain ⟨w5, hw5⟩ : ∃ w5, (((u8.setCell ⟨g, 0, none⟩ (.int .i64 1)).setCell ⟨g, 5, none⟩ (.slice (some ⟨u8.heap.size, 0, none⟩) 1 1)).alloc (.cells #[.int .i64 y.s, .int .i64 y.k, .int .u64 y.t, .int .u64 y.v, .int .i64 y.x] 78)).drew = w5 := ⟨_, rfl⟩
              rw [hw5] at HB5 HZ5 HI8
              try rw [hw5]
              clear hw5 hal hzs hss hsz hin hbs t0 t1 t2 t3 t4 t5 tf r0 r1 r2 r3 r4
              obtain ⟨g8, hg8⟩ : ∃ g8, u8.heap.size = g8 := ⟨_, rfl⟩
              rw [hg8] at HZ5 HI8 HGW
              try rw [hg8]
              clear hg8
              go_wp2_with fail
              go_meet
              exact ⟨rfl, ⟨1, K.at_, (k : Int), K.id, 0, some ⟨g8, 0, none⟩, 1, [y]⟩, by rw [HTO.out]; rfl, ⟨new_row (g := g8) (L := [y]) HI8.out rfl, Nat.le_refl _, by simp [maxLen]⟩, fun a ha _ => (by cases ha; exact HGW.out), HZ5.out, HB5.out⟩
            case sbn10q0 =>
              go_simp
              have hal := below_alloc (Below.refl (ud).heap.size (ud)) (.cells #[.int .i64 0, .int .i64 0, .int .u64 0, .int .u64 0, .int .i64 0] 78)
              have HZA : Hid (Zer ((ud).alloc (.cells #[.int .i64 0, .int .i64 0, .int .u64 0, .int .u64 0, .int .i64 0] 78)) (ud).heap.size) := hide ⟨heap_alloc_new (ud) (.cells #[.int .i64 0, .int .i64 0, .int .u64 0, .int .u64 0, .int .i64 0] 78)⟩
              obtain ⟨gz, hgz⟩ : ∃ gz, (ud).heap.size = gz := ⟨_, rfl⟩
              have HGG : Hid (ud.heap.size ≤ gz) := hide (by rw [← hgz]; exact HS.out.size)
              have HS := hide (below_step HS.out hal)
              rw [hgz] at HZA
              try rw [hgz]
              obtain ⟨u13, hu13⟩ : ∃ u13, (ud).alloc (.cells #[.int .i64 0, .int .i64 0, .int .u64 0, .int .u64 0, .int .i64 0] 78) = u13 := ⟨_, rfl⟩
              rw [hu13] at HZA HS
              try rw [hu13]
              clear hal hgz hu13
              refine hK.out _ _ HS.out ?_
              clear hK KK
              try simp only [Act.put, List.setIfInBounds_toArray, List.set_cons_zero, List.set_cons_succ]
              refine' wpAnyJ_step (i := 9) (o := _) (by kernel_rfl) ?ho9n17q0 (fun KK hK => ?step9n17q0)
              case ho9n17q0 => (simp only [List.getElem?_toArray, List.getElem?_cons_succ, List.getElem?_cons_zero]; rfl)
              go_simp
              refine (Calls.mono (HIT.out _) ?_); rintro e u139 ⟨rfl, gg⟩
              have HZA := hide (HZA.out.below gg)
              have HS := hide (below_step HS.out gg)
              refine hK.out _ _ HS.out ?_
              clear hK KK gg
              try simp only [Act.put, List.setIfInBounds_toArray, List.set_cons_zero, List.set_cons_succ]
              refine' wpAnyJ_take (i := 10) (v := _) [] ?hi10n18q0 (by kernel_rfl) (by kernel_rfl) (by kernel_rfl) (by kernel_rfl) (by kernel_rfl) (Or.inl ⟨?hw10n18q0, ?hy10n18q0⟩) HS.out ?rest10n18q0
              case hi10n18q0 => (simp only [List.getElem?_toArray, List.getElem?_cons_succ, List.getElem?_cons_zero]; rfl)
              case hw10n18q0 => rfl
              case hy10n18q0 => (intro w' hw'; go_simp; try with_reducible rfl)
              try simp only [Act.put, List.setIfInBounds_toArray, List.set_cons_zero, List.set_cons_succ]
              refine' wpAnyJ_take (i := 11) (v := _) [] ?hi11n19q0 (by kernel_rfl) (by kernel_rfl) (by kernel_rfl) (by kernel_rfl) (by kernel_rfl) (Or.inl ⟨?hw11n19q0, ?hy11n19q0⟩) HS.out ?rest11n19q0
              case hi11n19q0 => (simp only [List.getElem?_toArray, List.getElem?_cons_succ, List.getElem?_cons_zero]; rfl)
              case hw11n19q0 => rfl
              case hy11n19q0 => (intro w' hw'; go_simp; try with_reducible rfl)
              try simp only [Act.put, List.setIfInBounds_toArray, List.set_cons_zero, List.set_cons_succ]
              refine' wpAnyJ_take (i := 12) (v := _) [] ?hi12n20q0 (by kernel_rfl) (by kernel_rfl) (by kernel_rfl) (by kernel_rfl) (by kernel_rfl) (Or.inl ⟨?hw12n20q0, ?hy12n20q0⟩) HS.out ?rest12n20q0
              case hi12n20q0 => (simp only [List.getElem?_toArray, List.getElem?_cons_succ, List.getElem?_cons_zero]; rfl)
              case hw12n20q0 => rfl
              case hy12n20q0 => (intro w' hw'; go_simp; try with_reducible rfl)
              try simp only [Act.put, List.setIfInBounds_toArray, List.set_cons_zero, List.set_cons_succ]
              refine' wpAnyJ_step (i := 14) (o := _) (by kernel_rfl) ?ho14n21q0 (fun KK hK => ?step14n21q0)
              case ho14n21q0 => (simp only [List.getElem?_toArray, List.getElem?_cons_succ, List.getElem?_cons_zero]; rfl)
              obtain ⟨zl, z0, z1, z2, z3, z4, zf⟩ := Zer.cells HZA.out
              go_simp
              have HY : Hid (((((((u139).setCell ⟨gz, 0, none⟩ (.int .i64 y.s)).setCell ⟨gz, 1, none⟩ (.int .i64 y.k)).setCell ⟨gz, 2, none⟩ (.int .u64 y.t)).setCell ⟨gz, 3, none⟩ (.int .u64 y.v)).setCell ⟨gz, 4, none⟩ (.int .i64 y.x)).heap[gz]? = some (.cells y.cells.toArray 78 (0, 0))) := hide (put_res y HZA.out.row)
              have hgz0 := HGG.out
              have hb1 := HS.out
              have HS : Hid (Below ud.heap.size ud ((((((u139).setCell ⟨gz, 0, none⟩ (.int .i64 y.s)).setCell ⟨gz, 1, none⟩ (.int .i64 y.k)).setCell ⟨gz, 2, none⟩ (.int .u64 y.t)).setCell ⟨gz, 3, none⟩ (.int .u64 y.v)).setCell ⟨gz, 4, none⟩ (.int .i64 y.x))) := hide (((((hb1.setCell hgz0 _).setCell hgz0 _).setCell hgz0 _).setCell hgz0 _).setCell hgz0 _)
              refine hK.out _ _ HS.out ?_
              clear hK KK z0 z1 z2 z3 z4 zf zl hgz0 hb1
              obtain ⟨u13914, hu13914⟩ : ∃ u13914, (((((u139).setCell ⟨gz, 0, none⟩ (.int .i64 y.s)).setCell ⟨gz, 1, none⟩ (.int .i64 y.k)).setCell ⟨gz, 2, none⟩ (.int .u64 y.t)).setCell ⟨gz, 3, none⟩ (.int .u64 y.v)).setCell ⟨gz, 4, none⟩ (.int .i64 y.x) = u13914 := ⟨_, rfl⟩
              rw [hu13914] at HY HS
              try rw [hu13914]
              clear hu13914
              try simp only [Act.put, List.setIfInBounds_toArray, List.set_cons_zero, List.set_cons_succ]
              refine' wpAnyJ_take (i := 15) (v := _) [] ?hi15n22q0 (by kernel_rfl) (by kernel_rfl) (by kernel_rfl) (by kernel_rfl) (by kernel_rfl) (Or.inl ⟨?hw15n22q0, ?hy15n22q0⟩) HS.out ?rest15n22q0
              case hi15n22q0 => (simp only [List.getElem?_toArray, List.getElem?_cons_succ, List.getElem?_cons_zero]; rfl)
              case hw15n22q0 => rfl
              case hy15n22q0 => (intro w' hw'; go_simp; try with_reducible rfl)
              try simp only [Act.put, List.setIfInBounds_toArray, List.set_cons_zero, List.set_cons_succ]
              refine wpAnyJ_done (by kernel_rfl) ?_ _
              refine NoPanic.normal ?_
              have HGZ : Hid (wm.heap.size ≤ gz) := hide (by have h1 := HUD.out.size; have h2 := HGG.out; omega)
              clear HCU HZA HGG c4 c5 c6 c7 c8 c3 hck c10
              have HBX := hide (below_step (below_step HBM.out HUD.out) HS.out)
              have HZX := hide (((below_step HUD.out HS.out).block g hgr).trans HZM.out)
              have hgl8 : g < u13914.heap.size := Nat.lt_of_lt_of_le hgr (below_step HUD.out HS.out).size
              have hzl8 : gz < u13914.heap.size := (Array.getElem?_eq_some_iff.1 HY.out).1
              obtain ⟨u8, hu8⟩ : ∃ u8, u13914 = u8 := ⟨_, rfl⟩
              rw [hu8] at HBX HZX HY HS hgl8 hzl8
              rw [hu8]
              clear hu8
              obtain ⟨r0, r1, r2, r3, r4⟩ := box_item HY.out
              obtain ⟨t0, t1, t2, t3, t4, t5⟩ := six_cells HZX.out
              have tf : ∀ o, u8.frozen? ⟨g, o, none⟩ = false := (fun o => by simp [World.frozen?, HZX.out])
              have hnz1 : ¬ g = gz := by have h1 := hgr; have h2 := HGZ.out; omega
              have hnz2 : ¬ gz = g := fun e => hnz1 e.symm
              go_upto_region 9 with fail
              go_region
              have hss : Sets (fun c => c = g) u8 ((u8.setCell ⟨g, 0, none⟩ (.int .i64 1)).setCell ⟨g, 5, none⟩ (.slice (some ⟨u8.heap.size, 0, none⟩) 1 1)) := ((Sets.refl (S := fun c => c = g) u8).set (g := g) (fun _ => rfl) 0 (.int .i64 1)).set (g := g) (fun _ => rfl) 5 (.slice (some ⟨u8.heap.size, 0, none⟩) 1 1)
              have hzs := set_of_list (o := 5) (set_of_list (o := 0) HZX.out (.int .i64 1)) (.slice (some ⟨u8.heap.size, 0, none⟩) 1 1)
              have hsz : ((u8.setCell ⟨g, 0, none⟩ (.int .i64 1)).setCell ⟨g, 5, none⟩ (.slice (some ⟨u8.heap.size, 0, none⟩) 1 1)).heap.size = u8.heap.size := by simp
              have hin := heap_alloc_new ((u8.setCell ⟨g, 0, none⟩ (.int .i64 1)).setCell ⟨g, 5, none⟩ (.slice (some ⟨u8.heap.size, 0, none⟩) 1 1)) (.cells #[.int .i64 y.s, .int .i64 y.k, .int .u64 y.t, .int .u64 y.v, .int .i64 y.x] 78)
              rw [hsz] at hin
              have hal := below_alloc (Below.refl ((u8.setCell ⟨g, 0, none⟩ (.int .i64 1)).setCell ⟨g, 5, none⟩ (.slice (some ⟨u8.heap.size, 0, none⟩) 1 1)).heap.size ((u8.setCell ⟨g, 0, none⟩ (.int .i64 1)).setCell ⟨g, 5, none⟩ (.slice (some ⟨u8.heap.size, 0, none⟩) 1 1))) (.cells #[.int .i64 y.s, .int .i64 y.k, .int .u64 y.t, .int .u64 y.v, .int .i64 y.x] 78)
              have hbs := Sets.below HBX.out hss (fun c e => by rw [e, ← HGE.out]; exact Nat.le_refl _) HBX.out.size
              have HB5 : Hid (Below wr.heap.size wr (((u8.setCell ⟨g, 0, none⟩ (.int .i64 1)).setCell ⟨g, 5, none⟩ (.slice (some ⟨u8.heap.size, 0, none⟩) 1 1)).alloc (.cells #[.int .i64 y.s, .int .i64 y.k, .int .u64 y.t, .int .u64 y.v, .int .i64 y.x] 78)).drew) := hide (below_step hbs hal).drew
              have HZ5 : Hid (((((u8.setCell ⟨g, 0, none⟩ (.int .i64 1)).setCell ⟨g, 5, none⟩ (.slice (some ⟨u8.heap.size, 0, none⟩) 1 1)).alloc (.cells #[.int .i64 y.s, .int .i64 y.k, .int .u64 y.t, .int .u64 y.v, .int .i64 y.x] 78)).drew).heap[g]? = some (.cells #[.int .i64 1, .int .i64 K.at_, .int .i64 (k : Int), .int .u64 K.id, .int .u64 0, .slice (some ⟨u8.heap.size, 0, none⟩) 1 1] 39 (0, 0))) := hide ((hal.block g (by rw [hsz]; exact hgl8)).trans hzs)
              have HI8 : Hid (((((u8.setCell ⟨g, 0, none⟩ (.int .i64 1)).setCell ⟨g, 5, none⟩ (.slice (some ⟨u8.heap.size, 0, none⟩) 1 1)).alloc (.cells #[.int .i64 y.s, .int .i64 y.k, .int .u64 y.t, .int .u64 y.v, .int .i64 y.x] 78)).drew).heap[u8.heap.size]? = some (.cells (flat [y]).toArray 78 (0, 0))) := hide hin
              have HGW : Hid (wr.heap.size ≤ u8.heap.size) := hide HBX.out.size
              obtain ⟨w5, hw5⟩ : ∃ w5, (((u8.setCell ⟨g, 0, none⟩ (.int .i64 1)).setCell ⟨g, 5, none⟩ (.slice (some ⟨u8.heap.size, 0, none⟩) 1 1)).alloc (.cells #[.int .i64 y.s, .int .i64 y.k, .int .u64 y.t, .int .u64 y.v, .int .i64 y.x] 78)).drew = w5 := ⟨_, rfl⟩
              rw [hw5] at HB5 HZ5 HI8
              try rw [hw5]
              clear hw5 hal hzs hss hsz hin hbs t0 t1 t2 t3 t4 t5 tf r0 r1 r2 r3 r4
              obtain ⟨g8, hg8⟩ : ∃ g8, u8.heap.size = g8 := ⟨_, rfl⟩
              rw [hg8] at HZ5 HI8 HGW
              try rw [hg8]
              clear hg8
              go_wp2_with fail
              go_meet
              exact ⟨rfl, ⟨1, K.at_, (k : Int), K.id, 0, some ⟨g8, 0, none⟩, 1, [y]⟩, by rw [HTO.out]; rfl, ⟨new_row (g := g8) (L := [y]) HI8.out rfl, Nat.le_refl _, by simp [maxLen]⟩, fun a ha _ => (by cases ha; exact HGW.out), HZ5.out, HB5.out⟩
          · go_upto_region 8 with fail
            obtain ⟨ud, hud⟩ : ∃ ud, wm.drew = ud := ⟨_, rfl⟩
            have HUD : Hid (Below wm.heap.size wm ud) := hide (by rw [← hud]; exact (Below.refl _ _).drew)
            have HS : Hid (Below ud.heap.size ud ud) := hide (Below.refl _ _)
            have HCU : Hid (∀ W, Below ud.heap.size ud W → W.cell? ⟨p, 4, none⟩ = some (.int .i64 K.ck) ∧ W.cell? ⟨p, 5, none⟩ = some (.int .i64 K.cs) ∧ W.cell? ⟨p, 6, none⟩ = some (.int .u64 K.ct) ∧ W.cell? ⟨p, 7, none⟩ = some (.int .i64 K.cv) ∧ W.cell? ⟨p, 8, none⟩ = some (.int .u64 K.ver) ∧ p < W.heap.size) := hide (fun W hW => by
              have hb := below_step HBW.out (below_step HUD.out hW)
              have hq := HCL.out W hb
              exact ⟨hq.c4, hq.c5, hq.c6, hq.c7, hq.c8, Nat.lt_of_lt_of_le HPL.out.1 hb.size⟩)
            clear t0 t1 t2 t3 t4 t5 tf
            refine j_start [] (by kernel_rfl) ?_
            rw [hud]
            clear hud
            refine' wpAnyJ_take (i := 0) (v := _) [] ?hi0n1q1 (by kernel_rfl) (by kernel_rfl) (by kernel_rfl) (by kernel_rfl) (by kernel_rfl) (Or.inl ⟨?hw0n1q1, ?hy0n1q1⟩) HS.out ?rest0n1q1
            case hi0n1q1 => (simp only [List.getElem?_toArray, List.getElem?_cons_succ, List.getElem?_cons_zero]; rfl)
            case hw0n1q1 => rfl
            case hy0n1q1 => (intro w' hw'; go_simp; try with_reducible rfl)
            try simp only [Act.put, List.setIfInBounds_toArray, List.set_cons_zero, List.set_cons_succ]
            refine' wpAnyJ_take (i := 1) (v := _) [] ?hi1n2q1 (by kernel_rfl) (by kernel_rfl) (by kernel_rfl) (by kernel_rfl) (by kernel_rfl) (Or.inl ⟨?hw1n2q1, ?hy1n2q1⟩) HS.out ?rest1n2q1
            case hi1n2q1 => (simp only [List.getElem?_toArray, List.getElem?_cons_succ, List.getElem?_cons_zero]; rfl)
            case hw1n2q1 => rfl
            case hy1n2q1 => (intro w' hw'; go_simp; try with_reducible rfl)
            try simp only [Act.put, List.setIfInBounds_toArray, List.set_cons_zero, List.set_cons_succ]
            refine' wpAnyJ_take (i := 2) (v := _) [] ?hi2n3q1 (by kernel_rfl) (by kernel_rfl) (by kernel_rfl) (by kernel_rfl) (by kernel_rfl) (Or.inl ⟨?hw2n3q1, ?hy2n3q1⟩) HS.out ?rest2n3q1
            case hi2n3q1 => (simp only [List.getElem?_toArray, List.getElem?_cons_succ, List.getElem?_cons_zero]; rfl)
            case hw2n3q1 => rfl
            case hy2n3q1 => (intro w' hw'; go_simp; try with_reducible rfl)
            try simp only [Act.put, List.setIfInBounds_toArray, List.set_cons_zero, List.set_cons_succ]
            refine' wpAnyJ_take (i := 3) (v := _) [] ?hi3n4q1 (by kernel_rfl) (by kernel_rfl) (by kernel_rfl) (by kernel_rfl) (by kernel_rfl) (Or.inl ⟨?hw3n4q1, ?hy3n4q1⟩) HS.out ?rest3n4q1
            case hi3n4q1 => (simp only [List.getElem?_toArray, List.getElem?_cons_succ, List.getElem?_cons_zero]; rfl)
            case hw3n4q1 => rfl
            case hy3n4q1 => (intro w' hw'; obtain ⟨k4, k5, k6, k7, k8, kp⟩ := HCU.out _ hw'; go_simp; try with_reducible rfl)
            try simp only [Act.put, List.setIfInBounds_toArray, List.set_cons_zero, List.set_cons_succ]
            refine' wpAnyJ_take (i := 4) (v := _) [] ?hi4n5q1 (by kernel_rfl) (by kernel_rfl) (by kernel_rfl) (by kernel_rfl) (by kernel_rfl) (Or.inl ⟨?hw4n5q1, ?hy4n5q1⟩) HS.out ?rest4n5q1
            case hi4n5q1 => (simp only [List.getElem?_toArray, List.getElem?_cons_succ, List.getElem?_cons_zero]; rfl)
            case hw4n5q1 => rfl
            case hy4n5q1 => (intro w' hw'; go_simp; try with_reducible rfl)
            try simp only [Act.put, List.setIfInBounds_toArray, List.set_cons_zero, List.set_cons_succ]
            refine' wpAnyJ_take (i := 5) (v := _) [] ?hi5n6q1 (by kernel_rfl) (by kernel_rfl) (by kernel_rfl) (by kernel_rfl) (by kernel_rfl) (Or.inl ⟨?hw5n6q1, ?hy5n6q1⟩) HS.out ?rest5n6q1
            case hi5n6q1 => (simp only [List.getElem?_toArray, List.getElem?_cons_succ, List.getElem?_cons_zero]; rfl)
            case hw5n6q1 => rfl
            case hy5n6q1 => (intro w' hw'; go_simp; try with_reducible rfl)
            try simp only [Act.put, List.setIfInBounds_toArray, List.set_cons_zero, List.set_cons_succ]
            refine' wpAnyJ_take (i := 6) (v := _) [] ?hi6n7q1 (by kernel_rfl) (by kernel_rfl) (by kernel_rfl) (by kernel_rfl) (by kernel_rfl) (Or.inl ⟨?hw6n7q1, ?hy6n7q1⟩) HS.out ?rest6n7q1
            case hi6n7q1 => (simp only [List.getElem?_toArray, List.getElem?_cons_succ, List.getElem?_cons_zero]; rfl)
            case hw6n7q1 => rfl
            case hy6n7q1 => (intro w' hw'; go_simp; try with_reducible rfl)
            try simp only [Act.put, List.setIfInBounds_toArray, List.set_cons_zero, List.set_cons_succ]
            refine' wpAnyJ_take (i := 7) (v := _) [] ?hi7n8q1 (by kernel_rfl) (by kernel_rfl) (by kernel_rfl) (by kernel_rfl) (by kernel_rfl) (Or.inl ⟨?hw7n8q1, ?hy7n8q1⟩) HS.out ?rest7n8q1
            case hi7n8q1 => (simp only [List.getElem?_toArray, List.getElem?_cons_succ, List.getElem?_cons_zero]; rfl)
            case hw7n8q1 => rfl
            case hy7n8q1 => (intro w' hw'; obtain ⟨k4, k5, k6, k7, k8, kp⟩ := HCU.out _ hw'; go_simp; try with_reducible rfl)
            try simp only [Act.put, List.setIfInBounds_toArray, List.set_cons_zero, List.set_cons_succ]
            refine' wpAnyJ_take (i := 8) (v := _) [] ?hi8n9q1 (by kernel_rfl) (by kernel_rfl) (by kernel_rfl) (by kernel_rfl) (by kernel_rfl) (Or.inl ⟨?hw8n9q1, ?hy8n9q1⟩) HS.out ?rest8n9q1
            case hi8n9q1 => (simp only [List.getElem?_toArray, List.getElem?_cons_succ, List.getElem?_cons_zero]; rfl)
            case hw8n9q1 => rfl
            case hy8n9q1 => (intro w' hw'; go_simp; try with_reducible rfl)
            try simp only [Act.put, List.setIfInBounds_toArray, List.set_cons_zero, List.set_cons_succ]
            refine' wpAnyJ_step2 (i := 9) (j := 13) (oi := _) (oj := _) (by kernel_rfl) ?han10q1 ?hbn10q1 (fun KK hK => ?san10q1) (fun KK hK => ?sbn10q1)
            case han10q1 => (simp only [List.getElem?_toArray, List.getElem?_cons_succ, List.getElem?_cons_zero]; rfl)
            case hbn10q1 => (simp only [List.getElem?_toArray, List.getElem?_cons_succ, List.getElem?_cons_zero]; rfl)
            case san10q1 =>
              go_simp
              refine (Calls.mono (HIT.out _) ?_); rintro e u9 ⟨rfl, gg⟩
              have HS := hide (below_step HS.out gg)
              refine hK.out _ _ HS.out ?_
              clear hK KK gg
              try simp only [Act.put, List.setIfInBounds_toArray, List.set_cons_zero, List.set_cons_succ]
              refine' wpAnyJ_take (i := 10) (v := _) [] ?hi10n11q1 (by kernel_rfl) (by kernel_rfl) (by kernel_rfl) (by kernel_rfl) (by kernel_rfl) (Or.inl ⟨?hw10n11q1, ?hy10n11q1⟩) HS.out ?rest10n11q1
              case hi10n11q1 => (simp only [List.getElem?_toArray, List.getElem?_cons_succ, List.getElem?_cons_zero]; rfl)
              case hw10n11q1 => rfl
              case hy10n11q1 => (intro w' hw'; go_simp; try with_reducible rfl)
              try simp only [Act.put, List.setIfInBounds_toArray, List.set_cons_zero, List.set_cons_succ]
              refine' wpAnyJ_take (i := 11) (v := _) [] ?hi11n12q1 (by kernel_rfl) (by kernel_rfl) (by kernel_rfl) (by kernel_rfl) (by kernel_rfl) (Or.inl ⟨?hw11n12q1, ?hy11n12q1⟩) HS.out ?rest11n12q1
              case hi11n12q1 => (simp only [List.getElem?_toArray, List.getElem?_cons_succ, List.getElem?_cons_zero]; rfl)
              case hw11n12q1 => rfl
              case hy11n12q1 => (intro w' hw'; go_simp; try with_reducible rfl)
              try simp only [Act.put, List.setIfInBounds_toArray, List.set_cons_zero, List.set_cons_succ]
              refine' wpAnyJ_take (i := 12) (v := _) [] ?hi12n13q1 (by kernel_rfl) (by kernel_rfl) (by kernel_rfl) (by kernel_rfl) (by kernel_rfl) (Or.inl ⟨?hw12n13q1, ?hy12n13q1⟩) HS.out ?rest12n13q1
              case hi12n13q1 => (simp only [List.getElem?_toArray, List.getElem?_cons_succ, List.getElem?_cons_zero]; rfl)
              case hw12n13q1 => rfl
              case hy12n13q1 => (intro w' hw'; go_simp; try with_reducible rfl)
              try simp only [Act.put, List.setIfInBounds_toArray, List.set_cons_zero, List.set_cons_succ]
              refine' wpAnyJ_step (i := 13) (o := _) (by kernel_rfl) ?ho13n14q1 (fun KK hK => ?step13n14q1)
              case ho13n14q1 => (simp only [List.getElem?_toArray, List.getElem?_cons_succ, List.getElem?_cons_zero]; rfl)
              go_simp
              have hal := below_alloc (Below.refl (u9).heap.size (u9)) (.cells #[.int .i64 0, .int .i64 0, .int .u64 0, .int .u64 0, .int .i64 0] 78)
              have HZA : Hid (Zer ((u9).alloc (.cells #[.int .i64 0, .int .i64 0, .int .u64 0, .int .u64 0, .int .i64 0] 78)) (u9).heap.size) := hide ⟨heap_alloc_new (u9) (.cells #[.int .i64 0, .int .i64 0, .int .u64 0, .int .u64 0, .int .i64 0] 78)⟩
              obtain ⟨gz, hgz⟩ : ∃ gz, (u9).heap.size = gz := ⟨_, rfl⟩
              have HGG : Hid (ud.heap.size ≤ gz) := hide (by rw [← hgz]; exact HS.out.size)
              have HS := hide (below_step HS.out hal)
              rw [hgz] at HZA
              try rw [hgz]
              obtain ⟨u913, hu913⟩ : ∃ u913, (u9).alloc (.cells #[.int .i64 0, .int .i64 0, .int .u64 0, .int .u64 0, .int .i64 0] 78) = u913 := ⟨_, rfl⟩
              rw [hu913] at HZA HS
              try rw [hu913]
              clear hal hgz hu913
              refine hK.out _ _ HS.out ?_
              clear hK KK
              try simp only [Act.put, List.setIfInBounds_toArray, List.set_cons_zero, List.set_cons_succ]
              refine' wpAnyJ_step (i := 14) (o := _) (by kernel_rfl) ?ho14n15q1 (fun KK hK => ?step14n15q1)
              case ho14n15q1 => (simp only [List.getElem?_toArray, List.getElem?_cons_succ, List.getElem?_cons_zero]; rfl)
              obtain ⟨zl, z0, z1, z2, z3, z4, zf⟩ := Zer.cells HZA.out
              go_simp
              have HY : Hid (((((((u913).setCell ⟨gz, 0, none⟩ (.int .i64 y.s)).setCell ⟨gz, 1, none⟩ (.int .i64 y.k)).setCell ⟨gz, 2, none⟩ (.int .u64 y.t)).setCell ⟨gz, 3, none⟩ (.int .u64 y.v)).setCell ⟨gz, 4, none⟩ (.int .i64 y.x)).heap[gz]? = some (.cells y.cells.toArray 78 (0, 0))) := hide (put_res y HZA.out.row)
              have hgz0 := HGG.out
              have hb1 := HS.out
              have HS : Hid (Below ud.heap.size ud ((((((u913).setCell ⟨gz, 0, none⟩ (.int .i64 y.s)).setCell ⟨gz, 1, none⟩ (.int .i64 y.k)).setCell ⟨gz, 2, none⟩ (.int .u64 y.t)).setCell ⟨gz, 3, none⟩ (.int .u64 y.v)).setCell ⟨gz, 4, none⟩ (.int .i64 y.x))) := hide (((((hb1.setCell hgz0 _).setCell hgz0 _).setCell hgz0 _).setCell hgz0 _).setCell hgz0 _)
              refine hK.out _ _ HS.out ?_
              clear hK KK z0 z1 z2 z3 z4 zf zl hgz0 hb1
              obtain ⟨u91314, hu91314⟩ : ∃ u91314, (((((u913).setCell ⟨gz, 0, none⟩ (.int .i64 y.s)).setCell ⟨gz, 1, none⟩ (.int .i64 y.k)).setCell ⟨gz, 2, none⟩ (.int .u64 y.t)).setCell ⟨gz, 3, none⟩ (.int .u64 y.v)).setCell ⟨gz, 4, none⟩ (.int .i64 y.x) = u91314 := ⟨_, rfl⟩
              rw [hu91314] at HY HS
              try rw [hu91314]
              clear hu91314
              try simp only [Act.put, List.setIfInBounds_toArray, List.set_cons_zero, List.set_cons_succ]
              refine' wpAnyJ_take (i := 15) (v := _) [] ?hi15n16q1 (by kernel_rfl) (by kernel_rfl) (by kernel_rfl) (by kernel_rfl) (by kernel_rfl) (Or.inl ⟨?hw15n16q1, ?hy15n16q1⟩) HS.out ?rest15n16q1
              case hi15n16q1 => (simp only [List.getElem?_toArray, List.getElem?_cons_succ, List.getElem?_cons_zero]; rfl)
              case hw15n16q1 => rfl
              case hy15n16q1 => (intro w' hw'; go_simp; try with_reducible rfl)
              try simp only [Act.put, List.setIfInBounds_toArray, List.set_cons_zero, List.set_cons_succ]
              refine wpAnyJ_done (by kernel_rfl) ?_ _
              refine NoPanic.normal ?_
              have HGZ : Hid (wm.heap.size ≤ gz) := hide (by have h1 := HUD.out.size; have h2 := HGG.out; omega)
              clear HCU HZA HGG c4 c5 c6 c7 c8 c3 hck c10
              have HBX := hide (below_step (below_step HBM.out HUD.out) HS.out)
              have HZX := hide (((below_step HUD.out HS.out).block g hgr).trans HZM.out)
              have hgl8 : g < u91314.heap.size := Nat.lt_of_lt_of_le hgr (below_step HUD.out HS.out).size
              have hzl8 : gz < u91314.heap.size := (Array.getElem?_eq_some_iff.1 HY.out).1
              obtain ⟨u8, hu8⟩ : ∃ u8, u91314 = u8 := ⟨_, rfl⟩
              rw [hu8] at HBX HZX HY HS hgl8 hzl8
              rw [hu8]
              clear hu8
              obtain ⟨r0, r1, r2, r3, r4⟩ := box_item HY.out
              obtain ⟨t0, t1, t2, t3, t4, t5⟩ := six_cells HZX.out
              have tf : ∀ o, u8.frozen? ⟨g, o, none⟩ = false := (fun o => by simp [World.frozen?, HZX.out])
              have hnz1 : ¬ g = gz := by have h1 := hgr; have h2 := HGZ.out; omega
              have hnz2 : ¬ gz = g := fun e => hnz1 e.symm
              go_upto_region 9 with fail
              go_region
              have hss : Sets (fun c => c = g) u8 ((u8.setCell ⟨g, 0, none⟩ (.int .i64 1)).setCell ⟨g, 5, none⟩ (.slice (some ⟨u8.heap.size, 0, none⟩) 1 1)) := ((Sets.refl (S := fun c => c = g) u8).set (g := g) (fun _ => rfl) 0 (.int .i64 1)).set (g := g) (fun _ => rfl) 5 (.slice (some ⟨u8.heap.size, 0, none⟩) 1 1)
              have hzs := set_of_list (o := 5) (set_of_list (o := 0) HZX.out (.int .i64 1)) (.slice (some ⟨u8.heap.size, 0, none⟩) 1 1)
              have hsz : ((u8.setCell ⟨g, 0, none⟩ (.int .i64 1)).setCell ⟨g, 5, none⟩ (.slice (some ⟨u8.heap.size, 0, none⟩) 1 1)).heap.size = u8.heap.size := by simp
              have hin := heap_alloc_new ((u8.setCell ⟨g, 0, none⟩ (.int .i64 1)).setCell ⟨g, 5, none⟩ (.slice (some ⟨u8.heap.size, 0, none⟩) 1 1)) (.cells #[.int .i64 y.s, .int .i64 y.k, .int .u64 y.t, .int .u64 y.v, .int .i64 y.x] 78)
              rw [hsz] at hin
              have hal := below_alloc (Below.refl ((u8.setCell ⟨g, 0, none⟩ (.int .i64 1)).setCell ⟨g, 5, none⟩ (.slice (some ⟨u8.heap.size, 0, none⟩) 1 1)).heap.size ((u8.setCell ⟨g, 0, none⟩ (.int .i64 1)).setCell ⟨g, 5, none⟩ (.slice (some ⟨u8.heap.size, 0, none⟩) 1 1))) (.cells #[.int .i64 y.s, .int .i64 y.k, .int .u64 y.t, .int .u64 y.v, .int .i64 y.x] 78)
              have hbs := Sets.below HBX.out hss (fun c e => by rw [e, ← HGE.out]; exact Nat.le_refl _) HBX.out.size
              have HB5 : Hid (Below wr.heap.size wr (((u8.setCell ⟨g, 0, none⟩ (.int .i64 1)).setCell ⟨g, 5, none⟩ (.slice (some ⟨u8.heap.size, 0, none⟩) 1 1)).alloc (.cells #[.int .i64 y.s, .int .i64 y.k, .int .u64 y.t, .int .u64 y.v, .int .i64 y.x] 78)).drew) := hide (below_step hbs hal).drew
              have HZ5 : Hid (((((u8.setCell ⟨g, 0, none⟩ (.int .i64 1)).setCell ⟨g, 5, none⟩ (.slice (some ⟨u8.heap.size, 0, none⟩) 1 1)).alloc (.cells #[.int .i64 y.s, .int .i64 y.k, .int .u64 y.t, .int .u64 y.v, .int .i64 y.x] 78)).drew).heap[g]? = some (.cells #[.int .i64 1, .int .i64 K.at_, .int .i64 (k : Int), .int .u64 K.id, .int .u64 0, .slice (some ⟨u8.heap.size, 0, none⟩) 1 1] 39 (0, 0))) := hide ((hal.block g (by rw [hsz]; exact hgl8)).trans hzs)
              have HI8 : Hid (((((u8.setCell ⟨g, 0, none⟩ (.int .i64 1)).setCell ⟨g, 5, none⟩ (.slice (some ⟨u8.heap.size, 0, none⟩) 1 1)).alloc (.cells #[.int .i64 y.s, .int .i64 y.k, .int .u64 y.t, .int .u64 y.v, .int .i64 y.x] 78)).drew).heap[u8.heap.size]? = some (.cells (flat [y]).toArray 78 (0, 0))) := hide hin
              have HGW : Hid (wr.heap.size ≤ u8.heap.size) := hide HBX.out.size
              obtain ⟨w5, hw5⟩ : ∃ w5, (((u8.setCell ⟨g, 0, none⟩ (.int .i64 1)).setCell ⟨g, 5, none⟩ (.slice (some ⟨u8.heap.size, 0, none⟩) 1 1)).alloc (.cells #[.int .i64 y.s, .int .i64 y.k, .int .u64 y.t, .int .u64 y.v, .int .i64 y.x] 78)).drew = w5 := ⟨_, rfl⟩
              rw [hw5] at HB5 HZ5 HI8
              try rw [hw5]
              clear hw5 hal hzs hss hsz hin hbs t0 t1 t2 t3 t4 t5 tf r0 r1 r2 r3 r4
              obtain ⟨g8, hg8⟩ : ∃ g8, u8.heap.size = g8 := ⟨_, rfl⟩
              rw [hg8] at HZ5 HI8 HGW
              try rw [hg8]
              clear hg8
              go_wp2_with fail
              go_meet
              exact ⟨rfl, ⟨1, K.at_, (k : Int), K.id, 0, some ⟨g8, 0, none⟩, 1, [y]⟩, by rw [HTO.out]; rfl, ⟨new_row (g := g8) (L := [y]) HI8.out rfl, Nat.le_refl _, by simp [maxLen]⟩, fun a ha _ => (by cases ha; exact HGW.out), HZ5.out, HB5.out⟩
            case sbn10q1 =>
              go_simp
              have hal := below_alloc (Below.refl (ud).heap.size (ud)) (.cells #[.int .i64 0, .int .i64 0, .int .u64 0, .int .u64 0, .int .i64 0] 78)
              have HZA : Hid (Zer ((ud).alloc (.cells #[.int .i64 0, .int .i64 0, .int .u64 0, .int .u64 0, .int .i64 0] 78)) (ud).heap.size) := hide ⟨heap_alloc_new (ud) (.cells #[.int .i64 0, .int .i64 0, .int .u64 0, .int .u64 0, .int .i64 0] 78)⟩
              obtain ⟨gz, hgz⟩ : ∃ gz, (ud).heap.size = gz := ⟨_, rfl⟩
              have HGG : Hid (ud.heap.size ≤ gz) := hide (by rw [← hgz]; exact HS.out.size)
              have HS := hide (below_step HS.out hal)
              rw [hgz] at HZA
              try rw [hgz]
              obtain ⟨u13, hu13⟩ : ∃ u13, (ud).alloc (.cells #[.int .i64 0, .int .i64 0, .int .u64 0, .int .u64 0, .int .i64 0] 78) = u13 := ⟨_, rfl⟩
              rw [hu13] at HZA HS
              try rw [hu13]
              clear hal hgz hu13
              refine hK.out _ _ HS.out ?_
              clear hK KK
              try simp only [Act.put, List.setIfInBounds_toArray, List.set_cons_zero, List.set_cons_succ]
              refine' wpAnyJ_step (i := 9) (o := _) (by kernel_rfl) ?ho9n17q1 (fun KK hK => ?step9n17q1)
              case ho9n17q1 => (simp only [List.getElem?_toArray, List.getElem?_cons_succ, List.getElem?_cons_zero]; rfl)
              go_simp
              refine (Calls.mono (HIT.out _) ?_); rintro e u139 ⟨rfl, gg⟩
              have HZA := hide (HZA.out.below gg)
              have HS := hide (below_step HS.out gg)
              refine hK.out _ _ HS.out ?_
              clear hK KK gg
              try simp only [Act.put, List.setIfInBounds_toArray, List.set_cons_zero, List.set_cons_succ]
              refine' wpAnyJ_take (i := 10) (v := _) [] ?hi10n18q1 (by kernel_rfl) (by kernel_rfl) (by kernel_rfl) (by kernel_rfl) (by kernel_rfl) (Or.inl ⟨?hw10n18q1, ?hy10n18q1⟩) HS.out ?rest10n18q1
              case hi10n18q1 => (simp only [List.getElem?_toArray, List.getElem?_cons_succ, List.getElem?_cons_zero]; rfl)
              case hw10n18q1 => rfl
              case hy10n18q1 => (intro w' hw'; go_simp; try with_reducible rfl)
              try simp only [Act.put, List.setIfInBounds_toArray, List.set_cons_zero, List.set_cons_succ]
              refine' wpAnyJ_take (i := 11) (v := _) [] ?hi11n19q1 (by kernel_rfl) (by kernel_rfl) (by kernel_rfl) (by kernel_rfl) (by kernel_rfl) (Or.inl ⟨?hw11n19q1, ?hy11n19q1⟩) HS.out ?rest11n19q1
              case hi11n19q1 => (simp only [List.getElem?_toArray, List.getElem?_cons_succ, List.getElem?_cons_zero]; rfl)
              case hw11n19q1 => rfl
              case hy11n19q1 => (intro w' hw'; go_simp; try with_reducible rfl)
              try simp only [Act.put, List.setIfInBounds_toArray, List.set_cons_zero, List.set_cons_succ]
              refine' wpAnyJ_take (i := 12) (v := _) [] ?hi12n20q1 (by kernel_rfl) (by kernel_rfl) (by kernel_rfl) (by kernel_rfl) (by kernel_rfl) (Or.inl ⟨?hw12n20q1, ?hy12n20q1⟩) HS.out ?rest12n20q1
              case hi12n20q1 => (simp only [List.getElem?_toArray, List.getElem?_cons_succ, List.getElem?_cons_zero]; rfl)
              case hw12n20q1 => rfl
              case hy12n20q1 => (intro w' hw'; go_simp; try with_reducible rfl)
              try simp only [Act.put, List.setIfInBounds_toArray, List.set_cons_zero, List.set_cons_succ]
              refine' wpAnyJ_step (i := 14) (o := _) (by kernel_rfl) ?ho14n21q1 (fun KK hK => ?step14n21q1)
              case ho14n21q1 => (simp only [List.getElem?_toArray, List.getElem?_cons_succ, List.getElem?_cons_zero]; rfl)
              obtain ⟨zl, z0, z1, z2, z3, z4, zf⟩ := Zer.cells HZA.out
              go_simp
              have HY : Hid (((((((u139).setCell ⟨gz, 0, none⟩ (.int .i64 y.s)).setCell ⟨gz, 1, none⟩ (.int .i64 y.k)).setCell ⟨gz, 2, none⟩ (.int .u64 y.t)).setCell ⟨gz, 3, none⟩ (.int .u64 y.v)).setCell ⟨gz, 4, none⟩ (.int .i64 y.x)).heap[gz]? = some (.cells y.cells.toArray 78 (0, 0))) := hide (put_res y HZA.out.row)
              have hgz0 := HGG.out
              have hb1 := HS.out
              have HS : Hid (Below ud.heap.size ud ((((((u139).setCell ⟨gz, 0, none⟩ (.int .i64 y.s)).setCell ⟨gz, 1, none⟩ (.int .i64 y.k)).setCell ⟨gz, 2, none⟩ (.int .u64 y.t)).setCell ⟨gz, 3, none⟩ (.int .u64 y.v)).setCell ⟨gz, 4, none⟩ (.int .i64 y.x))) := hide (((((hb1.setCell hgz0 _).setCell hgz0 _).setCell hgz0 _).setCell hgz0 _).setCell hgz0 _)
              refine hK.out _ _ HS.out ?_
              clear hK KK z0 z1 z2 z3 z4 zf zl hgz0 hb1
              obtain ⟨u13914, hu13914⟩ : ∃ u13914, (((((u139).setCell ⟨gz, 0, none⟩ (.int .i64 y.s)).setCell ⟨gz, 1, none⟩ (.int .i64 y.k)).setCell ⟨gz, 2, none⟩ (.int .u64 y.t)).setCell ⟨gz, 3, none⟩ (.int .u64 y.v)).setCell ⟨gz, 4, none⟩ (.int .i64 y.x) = u13914 := ⟨_, rfl⟩
              rw [hu13914] at HY HS
              try rw [hu13914]
              clear hu13914
              try simp only [Act.put, List.setIfInBounds_toArray, List.set_cons_zero, List.set_cons_succ]
              refine' wpAnyJ_take (i := 15) (v := _) [] ?hi15n22q1 (by kernel_rfl) (by kernel_rfl) (by kernel_rfl) (by kernel_rfl) (by kernel_rfl) (Or.inl ⟨?hw15n22q1, ?hy15n22q1⟩) HS.out ?rest15n22q1
              case hi15n22q1 => (simp only [List.getElem?_toArray, List.getElem?_cons_succ, List.getElem?_cons_zero]; rfl)
              case hw15n22q1 => rfl
              case hy15n22q1 => (intro w' hw'; go_simp; try with_reducible rfl)
              try simp only [Act.put, List.setIfInBounds_toArray, List.set_cons_zero, List.set_cons_succ]
              refine wpAnyJ_done (by kernel_rfl) ?_ _
              refine NoPanic.normal ?_
              have HGZ : Hid (wm.heap.size ≤ gz) := hide (by have h1 := HUD.out.size; have h2 := HGG.out; omega)
              clear HCU HZA HGG c4 c5 c6 c7 c8 c3 hck c10
              have HBX := hide (below_step (below_step HBM.out HUD.out) HS.out)
              have HZX := hide (((below_step HUD.out HS.out).block g hgr).trans HZM.out)
              have hgl8 : g < u13914.heap.size := Nat.lt_of_lt_of_le hgr (below_step HUD.out HS.out).size
              have hzl8 : gz < u13914.heap.size := (Array.getElem?_eq_some_iff.1 HY.out).1
              obtain ⟨u8, hu8⟩ : ∃ u8, u13914 = u8 := ⟨_, rfl⟩
              rw [hu8] at HBX HZX HY HS hgl8 hzl8
              rw [hu8]
              clear hu8
              obtain ⟨r0, r1, r2, r3, r4⟩ := box_item HY.out
              obtain ⟨t0, t1, t2, t3, t4, t5⟩ := six_cells HZX.out
              have tf : ∀ o, u8.frozen? ⟨g, o, none⟩ = false := (fun o => by simp [World.frozen?, HZX.out])
              have hnz1 : ¬ g = gz := by have h1 := hgr; have h2 := HGZ.out; omega
              have hnz2 : ¬ gz = g := fun e => hnz1 e.symm
              go_upto_region 9 with fail
              go_region
              have hss : Sets (fun c => c = g) u8 ((u8.setCell ⟨g, 0, none⟩ (.int .i64 1)).setCell ⟨g, 5, none⟩ (.slice (some ⟨u8.heap.size, 0, none⟩) 1 1)) := ((Sets.refl (S := fun c => c = g) u8).set (g := g) (fun _ => rfl) 0 (.int .i64 1)).set (g := g) (fun _ => rfl) 5 (.slice (some ⟨u8.heap.size, 0, none⟩) 1 1)
              have hzs := set_of_list (o := 5) (set_of_list (o := 0) HZX.out (.int .i64 1)) (.slice (some ⟨u8.heap.size, 0, none⟩) 1 1)
              have hsz : ((u8.setCell ⟨g, 0, none⟩ (.int .i64 1)).setCell ⟨g, 5, none⟩ (.slice (some ⟨u8.heap.size, 0, none⟩) 1 1)).heap.size = u8.heap.size := by simp
              have hin := heap_alloc_new ((u8.setCell ⟨g, 0, none⟩ (.int .i64 1)).setCell ⟨g, 5, none⟩ (.slice (some ⟨u8.heap.size, 0, none⟩) 1 1)) (.cells #[.int .i64 y.s, .int .i64 y.k, .int .u64 y.t, .int .u64 y.v, .int .i64 y.x] 78)
              rw [hsz] at hin
              have hal := below_alloc (Below.refl ((u8.setCell ⟨g, 0, none⟩ (.int .i64 1)).setCell ⟨g, 5, none⟩ (.slice (some ⟨u8.heap.size, 0, none⟩) 1 1)).heap.size ((u8.setCell ⟨g, 0, none⟩ (.int .i64 1)).setCell ⟨g, 5, none⟩ (.slice (some ⟨u8.heap.size, 0, none⟩) 1 1))) (.cells #[.int .i64 y.s, .int .i64 y.k, .int .u64 y.t, .int .u64 y.v, .int .i64 y.x] 78)
              have hbs := Sets.below HBX.out hss (fun c e => by rw [e, ← HGE.out]; exact Nat.le_refl _) HBX.out.size
              have HB5 : Hid (Below wr.heap.size wr (((u8.setCell ⟨g, 0, none⟩ (.int .i64 1)).setCell ⟨g, 5, none⟩ (.slice (some ⟨u8.heap.size, 0, none⟩) 1 1)).alloc (.cells #[.int .i64 y.s, .int .i64 y.k, .int .u64 y.t, .int .u64 y.v, .int .i64 y.x] 78)).drew) := hide (below_step hbs hal).drew
              have HZ5 : Hid (((((u8.setCell ⟨g, 0, none⟩ (.int .i64 1)).setCell ⟨g, 5, none⟩ (.slice (some ⟨u8.heap.size, 0, none⟩) 1 1)).alloc (.cells #[.int .i64 y.s, .int .i64 y.k, .int .u64 y.t, .int .u64 y.v, .int .i64 y.x] 78)).drew).heap[g]? = some (.cells #[.int .i64 1, .int .i64 K.at_, .int .i64 (k : Int), .int .u64 K.id, .int .u64 0, .slice (some ⟨u8.heap.size, 0, none⟩) 1 1] 39 (0, 0))) := hide ((hal.block g (by rw [hsz]; exact hgl8)).trans hzs)
              have HI8 : Hid (((((u8.setCell ⟨g, 0, none⟩ (.int .i64 1)).setCell ⟨g, 5, none⟩ (.slice (some ⟨u8.heap.size, 0, none⟩) 1 1)).alloc (.cells #[.int .i64 y.s, .int .i64 y.k, .int .u64 y.t, .int .u64 y.v, .int .i64 y.x] 78)).drew).heap[u8.heap.size]? = some (.cells (flat [y]).toArray 78 (0, 0))) := hide hin
              have HGW : Hid (wr.heap.size ≤ u8.heap.size) := hide HBX.out.size
              obtain ⟨w5, hw5⟩ : ∃ w5, (((u8.setCell ⟨g, 0, none⟩ (.int .i64 1)).setCell ⟨g, 5, none⟩ (.slice (some ⟨u8.heap.size, 0, none⟩) 1 1)).alloc (.cells #[.int .i64 y.s, .int .i64 y.k, .int .u64 y.t, .int .u64 y.v, .int .i64 y.x] 78)).drew = w5 := ⟨_, rfl⟩
              rw [hw5] at HB5 HZ5 HI8
              try rw [hw5]
              clear hw5 hal hzs hss hsz hin hbs t0 t1 t2 t3 t4 t5 tf r0 r1 r2 r3 r4
              obtain ⟨g8, hg8⟩ : ∃ g8, u8.heap.size = g8 := ⟨_, rfl⟩
              rw [hg8] at HZ5 HI8 HGW
              try rw [hg8]
              clear hg8
              go_wp2_with fail
              go_meet
              exact ⟨rfl, ⟨1, K.at_, (k : Int), K.id, 0, some ⟨g8, 0, none⟩, 1, [y]⟩, by rw [HTO.out]; rfl, ⟨new_row (g := g8) (L := [y]) HI8.out rfl, Nat.le_refl _, by simp [maxLen]⟩, fun a ha _ => (by cases ha; exact HGW.out), HZ5.out, HB5.out⟩
        case rest =>
          obtain ⟨rfl, x, hx1, hx2, hx2f, hx3, hx4⟩ := hcut
          have HX1 := hide hx1
          have HX2 := hide hx2
          have HX2F := hide hx2f
          have HX3 := hide hx3
          have HX4 := hide hx4
          obtain ⟨z0, z1, z2, z3, z4, z5⟩ := six_cells hx3
          have hal := below_alloc (Below.refl wc.heap.size wc) (.cells #[.int .i64 x.k, .int .i64 x.f, .int .i64 x.t, .int .u64 x.id, .int .u64 x.n, .slice x.A x.L.length x.c] 39)
          have HXX : Hid (RowAt Mg.cells 6 (wc.alloc (.cells #[.int .i64 x.k, .int .i64 x.f, .int .i64 x.t, .int .u64 x.id, .int .u64 x.n, .slice x.A x.L.length x.c] 39)) (some ⟨wc.heap.size, 0, none⟩) [x]) := hide (RowAt.new_one (cells := Mg.cells) (sz := 6) (y := x) (heap_alloc_new wc (.cells #[.int .i64 x.k, .int .i64 x.f, .int .i64 x.t, .int .u64 x.id, .int .u64 x.n, .slice x.A x.L.length x.c] 39)))
          have HXR := hide (hx2.below hal)
          have HBU := hide (below_step hx4 hal)
          have HOU := hide (HO.out.below HBU.out)
          have HBWW := hide (below_step HB.out HBU.out)
          clear hx1 hx2 hx2f hx3 hx4 hal hck hpr hcr hgr hne1 hne2 c3 c4 c5 c6 c7 c8 c10
          go_wp2_with (at_builtin; refine wpList_app_msg rfl (.tmp 110) (.tmp 112) rfl rfl w.heap.size _ N rfl HOU.out.own (some ⟨wc.heap.size, 0, none⟩) 1 1 [x] rfl rfl HXX.out (by omega) HBWW.out.size ?_; intro v6 w6 ho6 hg6 hm6; have HO6 := hide (HO.out.snoc HBU.out HXR.out HX2F.out ho6 hg6 hm6); have HB6 := hide (HBWW.out.grown hg6 HBWW.out.size (fun q hq => (OwnL.lt HOU.out.own q hq).1)); clear ho6 hg6 hm6)
          have HS6 : Hid ((N ++ [x]).map Mg.bare = toD K (k + 1)) := hide (by rw [HSY.out, List.map_append, HN.out, List.map_cons, HX1.out]; rfl)
          go_wp2_with fail
          go_roundw
          case rel => exact ⟨k + 1, N ++ [x], by go_num, by omega, HO6.out, HS6.out, HB6.out⟩
          case measure => (simp [intOf] <;> omega)
    · obtain rfl : k = n := by omega
      have hkI : ¬ (k : Int) < (k : Int) := by omega
      clear cc
      go_wp2_with fail
      go_ret
      exact ⟨_, rfl, N, HO.out, by rw [HNN.out]; exact HN.out, HB.out⟩
theorem rdto_go {w0 w : World} {D : Nat → Prop} {p cb : Nat} {K : Cs} (h : CallD w0 w D p cb K) (hr : K.rd = false) (hd : K.dn = false) (hn : K.n ≤ 7) (hs : 0 ≤ K.cs ∧ K.cs ≤ 255) (each : Bool) (he : each = true → ∀ j, K.C j = false) :
    Calls Tryz.prog 23 #[.pointer (some ⟨p, 0, none⟩), .bool each] w fun e w' => ∃ v N, e = .returned v ∧ MsO w.heap.size w' v N ∧ N.map Mg.bare = toD K K.n ∧ Below w.heap.size w w' := by
  by_cases hk : K.ck = 3
  · exact rdto_get h hr hd hn hs each he hk
  · exact rdto_put h hr hd hn hs each he hk
set_option maxRecDepth 100000 in
theorem rdsends_go {w0 w : World} {D : Nat → Prop} {p cb : Nat} {K : Cs} (h : CallD w0 w D p cb K) (hr : K.rd = false) (hd : K.dn = false) (hn : K.n ≤ 7) (hs : 0 ≤ K.cs ∧ K.cs ≤ 255) (he : ∀ j, K.C j = false) :
    Calls Tryz.prog 12 #[.pointer (some ⟨p, 0, none⟩)] w fun e w' => ∃ v N, e = .returned v ∧ MsO w.heap.size w' v N ∧ N.map Mg.bare = toD K K.n ∧ Below w.heap.size w w' := by
  have HT := hide (rdto_go h hr hd hn hs true (fun _ => he))
  clear h hr hd hn hs he
  go_enter Tryz.func12, Tryz.ntmps12
  go_wp2_with fail
  refine (Calls.mono HT.out ?_); rintro e w1 ⟨v, N, rfl, h1, h2, h3⟩
  obtain ⟨A, c, rfl, _, _⟩ := OwnL.row Mg.cells_len h1.own
  have H1 := hide h1
  have H2 := hide h2
  have H3 := hide h3
  clear h1 h2 h3 HT
  go_wp2_with fail
  go_ret
  exact ⟨_, N, rfl, H1.out, H2.out, H3.out⟩
end Go.Proofs.YtlabpgdimhbocaaGreat
namespace Go.Proofs.YtlabpgdimhbocaaGreat
set_option linter.unusedVariables false
set_option linter.unusedSimpArgs false
open Go.ChangeShapes Go.WideShapes Go.ChangeAt Go.RowKit
def tick1K (K : Cs) : Cs := { K with tk := K.tk + 1 }
noncomputable def tickD (K : Cs) : Cs := if K.dn = true then K else if 20 ≤ K.tk + 1 then endM (tick1K K) 20 K.ver else tick1K K
def tickDM (K : Cs) : List Mg := if K.dn = true then [] else if 20 ≤ K.tk + 1 then [] else if (K.tk + 1) % 3 = 0 then toD (tick1K K) K.n else []
def RdQ (w0 w : World) (D : Nat → Prop) (p cb : Nat) (K' : Cs) (M : List Mg) (e : Ending) (w' : World) : Prop := ∃ (v : Value) (N : List Mg), e = .returned v ∧ MsO w.heap.size w' v N ∧ N.map Mg.bare = M ∧ CallD w0 w' (Xn D w w') p cb K' ∧ Sets (fun g => g = p) w w'
set_option maxRecDepth 100000 in
set_option maxHeartbeats 3200000 in
theorem rdtick_any {w0 w : World} {D : Nat → Prop} {p cb : Nat} {K : Cs} (h : CallD w0 w D p cb K) (hr : K.rd = false) (hn : K.n ≤ 7) (hs : 0 ≤ K.cs ∧ K.cs ≤ 255) (ht : 0 ≤ K.tk ∧ K.tk ≤ 1000000) (hG : K.G.length ≤ 1000) (hL : ∀ g ∈ K.G, g.L.length ≤ 1000000) :
    Calls Tryz.prog 16 #[.pointer (some ⟨p, 0, none⟩)] w (RdQ w0 w D p cb (tickD K) (tickDM K)) := by
  have HH := hide h
  have HRF := hide hr
  have HS0 := hide hs
  have HGL := hide (And.intro hG hL)
  obtain ⟨_, _, _, hcl⟩ := h.cells
  have c13 := (hcl w (Below.refl _ _)).c13
  have c14 := (hcl w (Below.refl _ _)).c14
  have f13 : w.frozen? ⟨p, 13, none⟩ = false := by
    obtain ⟨_, _, _, hb, _⟩ := h.row
    simp [World.frozen?, hb]
  cases hd : K.dn with
  | true =>
    rw [hd] at c14
    have HT : Hid (tickD K = K ∧ tickDM K = []) := hide ⟨by unfold tickD; rw [if_pos hd], by unfold tickDM; rw [if_pos hd]⟩
    clear hcl h c13 f13 hd hr hs hG hL
    go_enter Tryz.func16, Tryz.ntmps16
    go_wp2_with fail
    go_ret
    exact ⟨_, [], rfl, MsO.nil_ _ _, by rw [HT.out.2]; rfl, by rw [HT.out.1]; exact HH.out.wide (Below.refl _ _), Sets.refl _⟩
  | false =>
    rw [hd] at c14
    have H1 := hide (h.putp (tick1K K) 13 (.int .i64 (K.tk + 1)) (fun _ _ _ => rfl) rfl rfl rfl rfl rfl)
    have hs1 : Sets (fun g => g = p) w (w.setCell ⟨p, 13, none⟩ (.int .i64 (K.tk + 1))) := (Sets.refl (S := fun g => g = p) w).set (g := p) (fun _ => rfl) 13 _
    have hsz : (w.setCell ⟨p, 13, none⟩ (.int .i64 (K.tk + 1))).heap.size = w.heap.size := by simp
    have hwt : IntKind.i64.wrap (K.tk + 1) = K.tk + 1 := by rw [IntKind.wrap_i64]; omega
    obtain ⟨w1, hw1⟩ : ∃ w1, w.setCell ⟨p, 13, none⟩ (.int .i64 (K.tk + 1)) = w1 := ⟨_, rfl⟩
    rw [hw1] at H1 hs1 hsz
    have HW1 := hide hw1
    have HS1 := hide hs1
    have HSZ := hide hsz
    have HD := hide hd
    have H1X : Hid (∀ W : World, CallD w0 W (Xn D w1 W) p cb (tick1K K) → CallD w0 W (Xn D w W) p cb (tick1K K)) := hide (fun W k => k.more (fun g hg => by unfold Xn at hg ⊢; rw [HSZ.out] at hg; exact hg) (fun g hg => k.ds g (by unfold Xn at hg ⊢; rw [HSZ.out]; exact hg)))
    have H1Y : Hid (∀ W : World, CallD w0 W (Xn D w1 W) p cb (endM (tick1K K) 20 K.ver) → CallD w0 W (Xn D w W) p cb (endM (tick1K K) 20 K.ver)) := hide (fun W k => k.more (fun g hg => by unfold Xn at hg ⊢; rw [HSZ.out] at hg; exact hg) (fun g hg => k.ds g (by unfold Xn at hg ⊢; rw [HSZ.out]; exact hg)))
    clear hcl hs1 hw1 h hd hr hs hG hL hsz
    go_enter Tryz.func16, Tryz.ntmps16
    go_upto_region 4 with fail
    rw [HW1.out]
    obtain ⟨_, _, _, hcl⟩ := H1.out.cells
    have d3 : w1.cell? ⟨p, 3, none⟩ = some (.bool false) := by
      have h3 : w1.cell? ⟨p, 3, none⟩ = some (.bool K.rd) := (hcl w1 (Below.refl _ _)).c3
      rw [HRF.out] at h3
      exact h3
    have d8 : w1.cell? ⟨p, 8, none⟩ = some (.int .u64 K.ver) := (hcl w1 (Below.refl _ _)).c8
    have d13 : w1.cell? ⟨p, 13, none⟩ = some (.int .i64 (K.tk + 1)) := (hcl w1 (Below.refl _ _)).c13
    clear hcl c13 c14 f13 HW1 hwt
    obtain ⟨t, htt⟩ : ∃ t, K.tk + 1 = t := ⟨_, rfl⟩
    have HTT := hide htt
    rw [htt] at d13
    have ht0 : 0 ≤ t ∧ t ≤ 1000001 := by omega
    clear htt ht
    by_cases h40 : 20 ≤ t
    · have HT : Hid (tickD K = endM (tick1K K) 20 K.ver ∧ tickDM K = []) := hide ⟨by unfold tickD; rw [if_neg (by simp [HD.out]), if_pos (by rw [HTT.out]; exact h40)], by unfold tickDM; rw [if_neg (by simp [HD.out]), if_pos (by rw [HTT.out]; exact h40)]⟩
      have HE := hide (rcend_any H1.out (show (tick1K K).rd = false from HRF.out) 20 K.ver HGL.out.1 HGL.out.2)
      go_wp2_with fail
      refine (Calls.mono HE.out ?_); rintro e w2 ⟨rfl, hc2, hs2⟩
      have H3 := hide hc2
      have HS3 := hide (HS1.out.trans hs2 (fun _ _ h => h))
      obtain ⟨_, _, _, hcl⟩ := hc2.cells
      have e3 : w2.cell? ⟨p, 3, none⟩ = some (.bool false) := by
        have h3 : w2.cell? ⟨p, 3, none⟩ = some (.bool K.rd) := (hcl w2 (Below.refl _ _)).c3
        rw [HRF.out] at h3
        exact h3
      clear d3 d8 d13 hcl hc2 hs2 HE H1 HS1
      go_wp2_with fail
      go_ret
      exact ⟨_, [], rfl, MsO.nil_ _ _, by rw [HT.out.2]; rfl, by rw [HT.out.1]; exact H1Y.out _ H3.out, HS3.out⟩
    · by_cases h3 : t % 3 = 0
      · have HT : Hid (tickD K = tick1K K ∧ tickDM K = toD (tick1K K) K.n) := hide ⟨by unfold tickD; rw [if_neg (by simp [HD.out]), if_neg (by rw [HTT.out]; exact h40)], by unfold tickDM; rw [if_neg (by simp [HD.out]), if_neg (by rw [HTT.out]; exact h40), if_pos (by rw [HTT.out]; exact h3)]⟩
        have HTO := hide (rdto_go H1.out (show (tick1K K).rd = false from HRF.out) (show (tick1K K).dn = false from HD.out) hn HS0.out false (fun e => by cases e))
        have h0 := ht0.1
        go_wp2_with fail
        refine (Calls.mono HTO.out ?_); rintro e w2 ⟨v, N, rfl, h1, h4, h5⟩
        obtain ⟨A, c, rfl, _, _⟩ := OwnL.row Mg.cells_len h1.own
        have HX := hide (And.intro h1 (And.intro h4 h5))
        clear h1 h4 h5 HTO d3 d8 d13
        go_wp2_with fail
        go_ret
        exact ⟨_, N, rfl, by rw [← HSZ.out]; exact HX.out.1, by rw [HT.out.2]; exact HX.out.2.1, by rw [HT.out.1]; exact H1X.out _ (H1.out.wide HX.out.2.2), HS1.out.trans (Sets.of HX.out.2.2) (fun _ _ h => h)⟩
      · have HT : Hid (tickD K = tick1K K ∧ tickDM K = []) := hide ⟨by unfold tickD; rw [if_neg (by simp [HD.out]), if_neg (by rw [HTT.out]; exact h40)], by unfold tickDM; rw [if_neg (by simp [HD.out]), if_neg (by rw [HTT.out]; exact h40), if_neg (by rw [HTT.out]; exact h3)]⟩
        have h0 := ht0.1
        go_wp2_with fail
        go_ret
        exact ⟨_, [], rfl, MsO.nil_ _ _, by rw [HT.out.2]; rfl, by rw [HT.out.1]; exact H1X.out _ (H1.out.wide (Below.refl _ _)), HS1.out⟩
end Go.Proofs.YtlabpgdimhbocaaGreat
namespace Go.Proofs.YtlabpgdimhbocaaGreat
set_option linter.unusedVariables false
set_option linter.unusedSimpArgs false
set_option linter.unusedVariables false
set_option linter.unusedSimpArgs false

theorem there_swap {S T b : List It} (h : IsOf T b) (x : It) : There (b ++ S) x ↔ There (T ++ S) x := by
  have hbT : ∀ y ∈ b, y ∈ T := fun y hy => ((h.mem y).1 hy).1
  unfold There
  constructor
  · rintro ⟨h0, h1, h2⟩
    have h1b : ∀ y ∈ b, It.same x y → ¬ It.wins y x := fun y hy => h1 y (List.mem_append_left _ hy)
    have h1S : ∀ y ∈ S, It.same x y → ¬ It.wins y x := fun y hy => h1 y (List.mem_append_right _ hy)
    have h2b : ∀ t ∈ b, ¬ It.hides t x := fun t ht => h2 t (List.mem_append_left _ ht)
    have h2S : ∀ t ∈ S, ¬ It.hides t x := fun t ht => h2 t (List.mem_append_right _ ht)
    have h2T : ∀ t ∈ T, ¬ It.hides t x := by
      intro t ht hh
      obtain ⟨u, hu, hs, hw⟩ := tomb_there ht hh.1
      refine h2b u ((h.mem u).2 hu) ?_
      unfold It.hides at *
      unfold It.same at hs
      unfold It.wins at hw
      omega
    refine ⟨?_, fun y hy hs hw => ?_, fun t ht => ?_⟩
    · rcases List.mem_append.1 h0 with h3 | h3
      · exact List.mem_append_left _ (hbT x h3)
      · exact List.mem_append_right _ h3
    · rcases List.mem_append.1 hy with h3 | h3
      · obtain ⟨u, hu, hsu, hwu, hbu⟩ := best_ex T y h3
        by_cases hh : ∃ t ∈ T, It.hides t u
        · obtain ⟨t, ht, hh⟩ := hh
          refine h2T t ht ?_
          unfold It.hides at *
          unfold It.same at *
          unfold It.wins at *
          omega
        · have hub : u ∈ b := by
            refine (h.mem u).2 ⟨hu, fun z hz hs' => hbu z hz (by unfold It.same at *; omega), fun t ht hh' => hh ⟨t, ht, hh'⟩⟩
          have := h1b u hub (by unfold It.same at *; omega)
          unfold It.wins at *
          omega
      · exact h1S y h3 hs hw
    · rcases List.mem_append.1 ht with h3 | h3
      · exact h2T t h3
      · exact h2S t h3
  · rintro ⟨h0, h1, h2⟩
    refine ⟨?_, fun y hy => h1 y ?_, fun t ht => h2 t ?_⟩
    · rcases List.mem_append.1 h0 with h3 | h3
      · exact List.mem_append_left _ ((h.mem x).2 ⟨h3, fun y hy => h1 y (List.mem_append_left _ hy), fun t ht => h2 t (List.mem_append_left _ ht)⟩)
      · exact List.mem_append_right _ h3
    · rcases List.mem_append.1 hy with h3 | h3
      · exact List.mem_append_left _ (hbT y h3)
      · exact List.mem_append_right _ h3
    · rcases List.mem_append.1 ht with h3 | h3
      · exact List.mem_append_left _ (hbT t h3)
      · exact List.mem_append_right _ h3
def Goods (S : List It) : Prop := ∀ y ∈ S, It.good y
theorem goods_good (l : List It) : Goods (goods l) := fun y hy => (mem_goods.1 hy).2
theorem Goods.app {S T : List It} (h : Goods S) (k : Goods T) : Goods (S ++ T) := fun y hy => by
  rcases List.mem_append.1 hy with h1 | h1
  · exact h y h1
  · exact k y h1
theorem goods_of {S : List It} (h : Goods S) : goods S = S := by
  unfold goods
  exact List.filter_eq_self.2 fun x hx => goodB_true (h x hx)
theorem IsOf.goods_ {S l : List It} (h : IsOf S l) (hS : Goods S) : Goods l := fun y hy => hS y ((h.mem y).1 hy).1
/-- What two states come to that come of S and of T. -/
theorem joinL_isOf {S T a b : List It} (ha : IsOf S a) (hb : IsOf T b) (hS : Goods S) (hT : Goods T) : IsOf (T ++ S) (joinL a b) := by
  rw [joinL_of (ha.state hS)]
  have h := foldl_isOf b ha hS
  rw [goods_of (hb.goods_ hT)] at h
  exact ⟨h.up, fun x => (h.mem x).trans (there_swap hb x)⟩
/-- A state with the items of any list. -/
theorem joinL_list {S a : List It} (ha : IsOf S a) (hS : Goods S) (b : List It) : IsOf (goods b ++ S) (joinL a b) := by
  rw [joinL_of (ha.state hS)]
  exact foldl_isOf b ha hS
theorem ofL_is (l : List It) : IsOf (goods l) (ofL l) := ofL_isOf l
theorem ofL_congr {l m : List It} (h : ∀ x, x ∈ l ↔ x ∈ m) : ofL l = ofL m :=
  (ofL_is l).uniq ((ofL_is m).congr fun x => by simp [mem_goods, h x])
theorem ofL_state_eq {l : List It} (h : IsState l) : ofL l = l := (ofL_is l).uniq (by rw [goods_of h.1]; exact h.isOf)

theorem joins_comm (a b : List It) : joinL (ofL a) (ofL b) = joinL (ofL b) (ofL a) :=
  (joinL_isOf (ofL_is a) (ofL_is b) (goods_good a) (goods_good b)).uniq ((joinL_isOf (ofL_is b) (ofL_is a) (goods_good b) (goods_good a)).congr fun x => by simp only [List.mem_append]; exact or_comm)
theorem joins_again (a b : List It) : joinL (joinL (ofL a) (ofL b)) (ofL b) = joinL (ofL a) (ofL b) :=
  (joinL_isOf (joinL_isOf (ofL_is a) (ofL_is b) (goods_good a) (goods_good b)) (ofL_is b) ((goods_good b).app (goods_good a)) (goods_good b)).uniq
    ((joinL_isOf (ofL_is a) (ofL_is b) (goods_good a) (goods_good b)).congr fun x => by simp only [List.mem_append]; constructor <;> (intro h; simp_all))
theorem joins_assoc (a b c : List It) : joinL (joinL (ofL a) (ofL b)) (ofL c) = joinL (ofL a) (joinL (ofL b) (ofL c)) :=
  (joinL_isOf (joinL_isOf (ofL_is a) (ofL_is b) (goods_good a) (goods_good b)) (ofL_is c) ((goods_good b).app (goods_good a)) (goods_good c)).uniq
    ((joinL_isOf (ofL_is a) (joinL_isOf (ofL_is b) (ofL_is c) (goods_good b) (goods_good c)) (goods_good a) ((goods_good c).app (goods_good b))).congr fun x => by simp only [List.mem_append]; constructor <;> (intro h; simp_all [or_assoc]))
theorem joins_self (a : List It) : joinL (ofL a) (ofL a) = ofL a :=
  (joinL_isOf (ofL_is a) (ofL_is a) (goods_good a) (goods_good a)).uniq ((ofL_is a).congr fun x => by simp)
theorem joins_nil (a : List It) : joinL [] (ofL a) = ofL a := by rw [joinL_nil]; exact ofL_state_eq (ofL_state a)
theorem addS_len (l : List It) (x : It) : (addS l x).length ≤ l.length + 1 := by
  unfold addS
  split
  · exact addL_len l x
  · omega
end Go.Proofs.YtlabpgdimhbocaaGreat
namespace Go.Proofs.YtlabpgdimhbocaaGreat
set_option linter.unusedVariables false
set_option linter.unusedSimpArgs false
open Go.ChangeShapes Go.WideShapes Go.ChangeAt Go.RowKit
/-- On, with the blocks that it wrote. -/
theorem con_x {w0 w : World} {b : Nat} {X : Nat → Prop} {R R' : Co} {B : Bool} (h : CoO w0 w b X R) (k : CoK R) (m : Mg) (hm : m.rd w0) (e1 : conR R m = R') (e2 : conB R m = B) (hI : refC R m = false → hitC R m → R.cnt + 1 = R.n / 2 + 1 → ItemsH b (gotC R m).G R.cs) :
    Calls Tryz.prog 14 #[.pointer (some ⟨b, 0, none⟩), m.val] w fun e w' => e = .returned (.bool B) ∧ CoO w0 w' b (Xn X w w') R' ∧ Sets X w w' := by
  subst e1
  subst e2
  have hl : m.L.length ≤ 9223372036854775807 := by
    have h1 := hm.2
    unfold maxLen at h1
    omega
  exact con_any h m hm hl k hI
/-- A get of three nodes. -/
abbrev g3 (a s : Int) (C : Nat → Bool) (G : List Gt) : Co := coG 3 a 5 3 s 0 0 0 C G 0
abbrev gB (n : Int) (L : List It) : Gt := ⟨n, none, 0, L⟩
theorem g3_k {a s : Int} (hs : 0 ≤ s ∧ s ≤ 255) {C : Nat → Bool} {G : List Gt} (hG : G.length ≤ 1000) : CoK (g3 a s C G) := coG_k (by omega) hs (by omega) hG
section
variable {a s : Int} {m m' : Mg} {i j : Nat}
theorem t1_yes (hk : m.k = 5) (hm : mokB m = true) (ht : m.t = a) (hid : m.id = 5) (hf : m.f = (i : Int)) (hi : i < 3) : conR (g3 a s (fun _ => false) []) m = g3 a s (setC (fun _ => false) i) [gB m.n m.L] ∧ conB (g3 a s (fun _ => false) []) m = true := by
  have h := con_more (n := 3) (a := a) (id := 5) (k := 3) (s := s) (t := 0) (x := 0) (v := 0) (C := fun _ => false) (G := []) (tk := 0) (m := m) (i := i) (.inl ⟨rfl, hk⟩) hm ht hid hf hi rfl (by rw [cntC_none]; omega)
  exact h
theorem t_no {C : Nat → Bool} {G : List Gt} (hm : mokB m = false) : conR (g3 a s C G) m = g3 a s C G ∧ conB (g3 a s C G) m = false := by
  have hr : refC (g3 a s C G) m = true := by unfold refC; simp [hm]
  exact ⟨by unfold conR; rw [if_pos hr], by unfold conB; rw [hr]; rfl⟩
theorem t2_yes {n0 : Int} {L0 : List It} (hk : m.k = 5) (hm : mokB m = true) (ht : m.t = a) (hid : m.id = 5) (hf : m.f = (j : Int)) (hj : j < 3) (hi : i < 3) (hij : i ≠ j) :
    conR (g3 a s (setC (fun _ => false) i) [gB n0 L0]) m = end1C (g3 a s (setC (setC (fun _ => false) i) j) [gB n0 L0, gB m.n m.L]) 0 0 (itemsC [gB n0 L0, gB m.n m.L] s) ∧ conB (g3 a s (setC (fun _ => false) i) [gB n0 L0]) m = true := by
  have h := con_ends (n := 3) (a := a) (id := 5) (k := 3) (s := s) (t := 0) (x := 0) (v := 0) (C := setC (fun _ => false) i) (G := [gB n0 L0]) (tk := 0) (m := m) (i := j) (.inl ⟨rfl, hk⟩) hm ht hid hf hj (by unfold setC; rw [if_neg (fun e => hij e.symm)]) (by rw [cntC_set hi rfl, cntC_none])
  exact h
theorem end1_AL (R : Co) (ver : Int) (LI : List It) : (end1C R 0 ver LI).AL = LI := by
  show endA 0 LI = LI
  unfold endA
  rw [if_pos rfl]
/-- What is behind two messages. -/
noncomputable def two (a s : Int) (m m' : Mg) : Co := conR (conR (g3 a s (fun _ => false) []) m) m'
noncomputable def one (a s : Int) (m : Mg) : Co := conR (g3 a s (fun _ => false) []) m
theorem one_eq (hk : m.k = 5) (ht : m.t = a) (hid : m.id = 5) (hf : m.f = (i : Int)) (hi : i < 3) : one a s m = (if mokB m = true then g3 a s (setC (fun _ => false) i) [gB m.n m.L] else g3 a s (fun _ => false) []) ∧ conB (g3 a s (fun _ => false) []) m = mokB m := by
  cases hm : mokB m with
  | true => exact ⟨by rw [if_pos rfl]; exact (t1_yes hk hm ht hid hf hi).1, (t1_yes hk hm ht hid hf hi).2⟩
  | false => exact ⟨by rw [if_neg (by simp)]; exact (t_no hm).1, (t_no hm).2⟩
theorem two_eq (hk : m.k = 5) (ht : m.t = a) (hid : m.id = 5) (hf : m.f = (i : Int)) (hi : i < 3) (hk' : m'.k = 5) (ht' : m'.t = a) (hid' : m'.id = 5) (hf' : m'.f = (j : Int)) (hj : j < 3) (hij : i ≠ j) :
    conB (one a s m) m' = mokB m' ∧ (two a s m m').dn = (mokB m && mokB m') ∧ (two a s m m').ae = 0 ∧ (two a s m m').AL = (if mokB m = true ∧ mokB m' = true then itemsC [gB m.n m.L, gB m'.n m'.L] s else []) := by
  have h1 := (one_eq (s := s) hk ht hid hf hi).1
  unfold two
  rw [show conR (g3 a s (fun _ => false) []) m = one a s m from rfl]
  cases hm : mokB m with
  | true =>
    rw [hm, if_pos rfl] at h1
    rw [h1]
    cases hm' : mokB m' with
    | true =>
      have h2 := t2_yes (s := s) (n0 := m.n) (L0 := m.L) hk' hm' ht' hid' hf' hj hi hij
      refine ⟨h2.2, by rw [h2.1]; rfl, by rw [h2.1]; rfl, ?_⟩
      rw [h2.1]
      have e1 : (end1C (g3 a s (setC (setC (fun _ => false) i) j) [gB m.n m.L, gB m'.n m'.L]) 0 0 (itemsC [gB m.n m.L, gB m'.n m'.L] s)).AL = itemsC [gB m.n m.L, gB m'.n m'.L] s := end1_AL _ _ _
      rw [e1]
      exact (if_pos ⟨rfl, rfl⟩).symm
    | false =>
      have h2 := t_no (a := a) (s := s) (C := setC (fun _ => false) i) (G := [gB m.n m.L]) hm'
      refine ⟨h2.2, by rw [h2.1]; rfl, by rw [h2.1]; rfl, by rw [h2.1, if_neg (by simp)]; rfl⟩
  | false =>
    rw [hm, if_neg (by simp)] at h1
    rw [h1]
    have h2 := one_eq (a := a) (s := s) hk' ht' hid' hf' hj
    unfold one at h2
    cases hm' : mokB m' with
    | true =>
      rw [hm', if_pos rfl] at h2
      refine ⟨h2.2, by rw [h2.1]; rfl, by rw [h2.1]; rfl, by rw [h2.1, if_neg (by simp)]; rfl⟩
    | false =>
      rw [hm', if_neg (by simp)] at h2
      refine ⟨h2.2, by rw [h2.1]; rfl, by rw [h2.1]; rfl, by rw [h2.1, if_neg (by simp)]; rfl⟩
/-- What its calls want of a call, between. -/
theorem one_k (hs : 0 ≤ s ∧ s ≤ 255) (hk : m.k = 5) (ht : m.t = a) (hid : m.id = 5) (hf : m.f = (i : Int)) (hi : i < 3) : CoK (one a s m) ∧ (one a s m).G.length ≤ 1 ∧ (∀ g ∈ (one a s m).G, g.L.length ≤ m.L.length) ∧ (one a s m).cs = s ∧ (one a s m).ck = 3 := by
  rw [(one_eq (s := s) hk ht hid hf hi).1]
  split
  · exact ⟨g3_k hs (by simp), by simp [coG], fun g hg => by simp [coG] at hg; rw [hg]; exact Nat.le_refl _, rfl, rfl⟩
  · exact ⟨g3_k hs (by simp), by simp [coG], fun g hg => by simp [coG] at hg, rfl, rfl⟩
theorem got_lim {R : Co} (h1 : R.G.length ≤ 1) (h2 : ∀ g ∈ R.G, g.L.length ≤ 40) (h3 : m.L.length ≤ 40) : (gotC R m).G.length ≤ 1000 ∧ ∀ g ∈ (gotC R m).G, g.L.length ≤ 1000000 := by
  unfold gotC
  split
  · refine ⟨by simp; omega, fun g hg => ?_⟩
    rcases List.mem_append.1 hg with h | h
    · have := h2 g h
      omega
    · rw [List.mem_singleton] at h
      rw [h]
      show m.L.length ≤ _
      omega
  · exact ⟨by omega, fun g hg => by have := h2 g hg; omega⟩
theorem joinL_nil_is (L : List It) (h : Goods L) : IsOf L (joinL [] L) := by
  rw [joinL_nil]
  have := ofL_is L
  rwa [goods_of h] at this
theorem all_goods {L : List It} (h : L.all goodB = true) : Goods L := fun y hy => by
  have := List.all_eq_true.1 h y hy
  unfold goodB at this
  exact of_decide_eq_true this
theorem join2 {L0 L1 : List It} (h0 : Goods L0) (h1 : Goods L1) : joinL (joinL [] L0) L1 = joinL (joinL [] L1) L0 := by
  have a1 := joinL_list (joinL_nil_is L0 h0) h0 L1
  have a2 := joinL_list (joinL_nil_is L1 h1) h1 L0
  rw [goods_of h1] at a1
  rw [goods_of h0] at a2
  exact a1.uniq (a2.congr fun x => by simp only [List.mem_append]; exact or_comm)
theorem mokB_goods (h : mokB m = true) : Goods m.L := by
  unfold mokB at h
  simp only [Bool.and_eq_true] at h
  exact all_goods h.1.2
theorem items_turn {n0 : Int} {L0 L1 : List It} (h0 : Goods L0) (h1 : Goods L1) : itemsC [gB n0 L0, gB n0 L1] s = itemsC [gB n0 L1, gB n0 L0] s := by
  unfold itemsC
  have e : certG [gB n0 L0, gB n0 L1] = certG [gB n0 L1, gB n0 L0] := rfl
  rw [e]
  congr 1
  unfold joinG takeG certG
  simp only [List.foldl_cons, List.foldl_nil]
  by_cases hn : n0 < max (max 0 n0) n0
  · simp only [hn, if_true]
    exact join2 (fun y hy => h0 y (List.mem_filter.1 hy).1) (fun y hy => h1 y (List.mem_filter.1 hy).1)
  · simp only [hn, if_false]
    exact join2 h0 h1
theorem two_turn (hn : m.n = m'.n) (hk : m.k = 5) (ht : m.t = a) (hid : m.id = 5) (hf : m.f = (i : Int)) (hi : i < 3) (hk' : m'.k = 5) (ht' : m'.t = a) (hid' : m'.id = 5) (hf' : m'.f = (j : Int)) (hj : j < 3) (hij : i ≠ j) : (two a s m m').AL = (two a s m' m).AL := by
  rw [(two_eq (s := s) hk ht hid hf hi hk' ht' hid' hf' hj hij).2.2.2, (two_eq (s := s) hk' ht' hid' hf' hj hk ht hid hf hi (fun e => hij e.symm)).2.2.2]
  by_cases h : mokB m = true ∧ mokB m' = true
  · rw [if_pos h, if_pos ⟨h.2, h.1⟩, hn]
    exact items_turn (mokB_goods h.1) (mokB_goods h.2)
  · rw [if_neg h, if_neg (fun e => h ⟨e.2, e.1⟩)]
theorem two_len (h1 : m.L.length ≤ 40) (h2 : m'.L.length ≤ 40) (hk : m.k = 5) (ht : m.t = a) (hid : m.id = 5) (hf : m.f = (i : Int)) (hi : i < 3) (hk' : m'.k = 5) (ht' : m'.t = a) (hid' : m'.id = 5) (hf' : m'.f = (j : Int)) (hj : j < 3) (hij : i ≠ j) : (two a s m m').AL.length ≤ 80 := by
  rw [(two_eq (s := s) hk ht hid hf hi hk' ht' hid' hf' hj hij).2.2.2]
  split
  · unfold itemsC
    refine Nat.le_trans (List.length_filter_le _ _) ?_
    have := joinG_len (certG [gB m.n m.L, gB m'.n m'.L]) [gB m.n m.L, gB m'.n m'.L] 40 (fun g hg => by
      simp at hg
      rcases hg with rfl | rfl
      · exact h1
      · exact h2)
    simpa using this
  · simp
end
end Go.Proofs.YtlabpgdimhbocaaGreat
namespace Go.Proofs.YtlabpgdimhbocaaGreat
set_option linter.unusedVariables false
set_option linter.unusedSimpArgs false
open Go.ChangeShapes Go.WideShapes Go.ChangeAt Go.RowKit
/-- What a message makes of the document's call. -/
def gotK (K : Cs) (m : Mg) : Cs := if K.ck = 3 then { K with G := K.G ++ [m] } else K
def oldK (K : Cs) (m : Mg) : Prop := ¬ K.ck = 3 ∧ m.k = 3
def hitK (K : Cs) (m : Mg) : Prop := (K.ck = 3 ∧ m.k = 5) ∨ (¬ K.ck = 3 ∧ m.k = 2)
instance (K : Cs) (m : Mg) : Decidable (oldK K m) := by unfold oldK; exact inferInstance
instance (K : Cs) (m : Mg) : Decidable (hitK K m) := by unfold hitK; exact inferInstance
noncomputable def swK (K : Cs) (m : Mg) : Cs := if oldK K m then endM K 21 m.n else if hitK K m then goK (gotK K m) m.f.toNat else K
def swKB (K : Cs) (m : Mg) : Bool := decide (oldK K m) || decide (hitK K m)
noncomputable def conK (K : Cs) (m : Mg) : Cs := if refD K m = true then K else swK K m
def conKB (K : Cs) (m : Mg) : Bool := !refD K m && swKB K m
theorem rd_any {w0 w : World} {D : Nat → Prop} {p cb : Nat} {K : Cs} (h : CallD w0 w D p cb K) (m : Mg) (hm : m.rd w0) (hr : K.rd = false) (hn7 : K.n ≤ 7) (hml : mokB m = true → m.L.length ≤ 1000000) (hG : K.G.length ≤ 900) (hL : ∀ g ∈ K.G, g.L.length ≤ 1000000) :
    Calls Tryz.prog 13 #[.pointer (some ⟨p, 0, none⟩), m.val] w (RdP w0 w D p cb (conK K m) (conKB K m)) := by
  cases href : refD K m with
  | true =>
    rw [show conK K m = K by unfold conK; rw [if_pos href], show conKB K m = false by unfold conKB; rw [href]; rfl]
    exact rd_ref h m hm hr href
  | false =>
    rw [show conK K m = swK K m by unfold conK; rw [if_neg (by simp [href])], show conKB K m = swKB K m by unfold conKB; rw [href]; rfl]
    have hmo : mokB m = true := by
      unfold refD at href
      simp only [Bool.or_eq_false_iff, Bool.not_eq_false'] at href
      exact href.1.1.1.1.2
    by_cases hg : K.ck = 3
    · have ho : ¬ oldK K m := fun e => e.1 hg
      by_cases h5 : m.k = 5
      · have hh : hitK K m := .inl ⟨hg, h5⟩
        rw [show swK K m = goK { K with G := K.G ++ [m] } m.f.toNat by unfold swK gotK; rw [if_neg ho, if_pos hh, if_pos hg], show swKB K m = true by unfold swKB; simp [hh]]
        exact rd_got h m hm hr href hn7 hg h5 (hml hmo) hG hL
      · have hh : ¬ hitK K m := fun e => by rcases e with e | e; exact h5 e.2; exact e.1 hg
        rw [show swK K m = K by unfold swK; rw [if_neg ho, if_neg hh], show swKB K m = false by unfold swKB; simp [ho, hh]]
        exact rd_none_get h m hm hr href hg h5
    · by_cases h3 : m.k = 3
      · have ho : oldK K m := ⟨hg, h3⟩
        rw [show swK K m = endM K 21 m.n by unfold swK; rw [if_pos ho], show swKB K m = true by unfold swKB; simp [ho]]
        exact rd_old h m hm hr href hg h3 hG hL
      · have ho : ¬ oldK K m := fun e => h3 e.2
        by_cases h2 : m.k = 2
        · have hh : hitK K m := .inr ⟨hg, h2⟩
          rw [show swK K m = goK K m.f.toNat by unfold swK gotK; rw [if_neg ho, if_pos hh, if_neg hg], show swKB K m = true by unfold swKB; simp [hh]]
          exact rd_done h m hm hr href hn7 hg h2 hG hL
        · have hh : ¬ hitK K m := fun e => by rcases e with e | e; exact hg e.1; exact h2 e.2
          rw [show swK K m = K by unfold swK; rw [if_neg ho, if_neg hh], show swKB K m = false by unfold swKB; simp [ho, hh]]
          exact rd_none_put h m hm hr href hg h3 h2
/-! ### what is joined -/
theorem join_one {S o : List It} (ho : IsOf S o) (hS : Goods S) {x : It} (hx : It.good x) : IsOf ([x] ++ S) (joinL o [x]) := by
  have h := joinL_list ho hS [x]
  rwa [goods_of (fun y hy => by rw [List.mem_singleton] at hy; rw [hy]; exact hx)] at h
theorem fold_one : ∀ (L : List It) {S o : List It}, IsOf S o → Goods S → Goods L → L.foldl (fun o x => joinL o [x]) o = joinL o L
  | [], S, o, ho, hS, _ => by
    have h := joinL_list ho hS []
    exact ho.uniq (h.congr fun x => by simp [goods])
  | x :: L, S, o, ho, hS, hL => by
    have hx : It.good x := hL x (List.mem_cons_self ..)
    have hL' : Goods L := fun y hy => hL y (List.mem_cons_of_mem _ hy)
    have h1 := join_one ho hS hx
    have hS1 : Goods ([x] ++ S) := Goods.app (fun y hy => by rw [List.mem_singleton] at hy; rw [hy]; exact hx) hS
    rw [List.foldl_cons, fold_one L h1 hS1 hL']
    have a := joinL_list h1 hS1 L
    have b := joinL_list ho hS (x :: L)
    rw [goods_of hL'] at a
    rw [goods_of hL] at b
    exact a.uniq (b.congr fun y => by
      simp only [List.mem_append, List.mem_cons, List.mem_singleton, List.not_mem_nil, or_false]
      constructor
      · rintro ((h | h) | h)
        · exact .inr (.inl h)
        · exact .inl h
        · exact .inr (.inr h)
      · rintro (h | h | h)
        · exact .inl (.inr h)
        · exact .inl (.inl h)
        · exact .inr h)
theorem fold_if (P : It → Prop) [DecidablePred P] : ∀ (L : List It) (o : List It), L.foldl (fun o x => if P x then joinL o [x] else o) o = (L.filter (fun x => decide (P x))).foldl (fun o x => joinL o [x]) o
  | [], o => rfl
  | x :: L, o => by
    rw [List.foldl_cons, fold_if P L, List.filter_cons]
    by_cases h : P x
    · rw [if_pos h, decide_eq_true h]; rfl
    · rw [if_neg h, decide_eq_false h]; rfl
theorem readI_join {c n : Int} (hn : n ≤ c) {S o L : List It} (ho : IsOf S o) (hS : Goods S) (hL : Goods L) : readI c n o L = joinL o (takeG c ⟨n, none, 0, L⟩) := by
  unfold readI takeG
  rw [fold_if (fun x => n = c ∨ c < x.v)]
  by_cases h : n = c
  · rw [if_neg (show ¬ n < c by omega)]
    have e : L.filter (fun x => decide (n = c ∨ c < x.v)) = L := List.filter_eq_self.2 fun x _ => by simp [h]
    rw [e]
    exact fold_one L ho hS hL
  · rw [if_pos (show n < c by omega)]
    have e : L.filter (fun x => decide (n = c ∨ c < x.v)) = L.filter (fun x => decide (c < x.v)) := List.filter_congr fun x _ => by simp [h]
    rw [e]
    exact fold_one _ ho hS (fun y hy => hL y (List.mem_filter.1 hy).1)
def gtM (m : Mg) : Gt := ⟨m.n, none, 0, m.L⟩
theorem cert_gtM : ∀ (G : List Mg) (c : Int), (G.map gtM).foldl (fun c g => max c g.n) c = G.foldl (fun c g => max c g.n) c
  | [], _ => rfl
  | g :: G, c => by rw [List.map_cons, List.foldl_cons, List.foldl_cons]; exact cert_gtM G _
theorem cert_le : ∀ (G : List Mg) (c : Int), c ≤ G.foldl (fun c g => max c g.n) c ∧ ∀ g ∈ G, g.n ≤ G.foldl (fun c g => max c g.n) c
  | [], c => ⟨Int.le_refl _, fun g hg => by cases hg⟩
  | g :: G, c => by
    have h := cert_le G (max c g.n)
    rw [List.foldl_cons]
    refine ⟨by have := h.1; omega, fun x hx => ?_⟩
    rcases List.mem_cons.1 hx with h1 | h1
    · rw [h1]; have := h.1; omega
    · exact h.2 x h1
theorem read_join (c : Int) : ∀ (G : List Mg) {S o : List It}, IsOf S o → Goods S → (∀ g ∈ G, Goods g.L ∧ g.n ≤ c) → G.foldl (fun o g => readI c g.n o g.L) o = (G.map gtM).foldl (fun o g => joinL o (takeG c g)) o
  | [], _, _, _, _, _ => rfl
  | g :: G, S, o, ho, hS, hG => by
    have hg := hG g (List.mem_cons_self ..)
    rw [List.map_cons, List.foldl_cons, List.foldl_cons, readI_join hg.2 ho hS hg.1]
    have hT : Goods (takeG c (gtM g)) := fun y hy => by
      unfold takeG at hy
      split at hy
      · exact hg.1 y (List.mem_filter.1 hy).1
      · exact hg.1 y hy
    have h1 := joinL_list ho hS (takeG c (gtM g))
    rw [goods_of hT] at h1
    exact read_join c G h1 (Goods.app hT hS) (fun x hx => hG x (List.mem_cons_of_mem _ hx))
theorem items_same {G : List Mg} (s : Int) (hG : ∀ g ∈ G, Goods g.L) : itemsK G s = itemsC (G.map gtM) s := by
  unfold itemsK itemsC readM joinG
  have e : certG (G.map gtM) = certM G := cert_gtM G 0
  rw [e]
  have h0 : IsOf ([] : List It) [] := by
    have h := ofL_is []
    have : ofL ([] : List It) = [] := ofL_state_eq IsState.nil_
    rw [this] at h
    simpa [goods] using h
  rw [read_join (certM G) G h0 (fun y hy => by cases hy) (fun g hg => ⟨hG g hg, (cert_le G 0).2 g hg⟩)]
/-! ### the two calls side by side -/
structure SameC (R : Co) (K : Cs) : Prop where
  id : K.id = R.id
  n : (K.n : Int) = R.n
  at_ : K.at_ = R.at_
  rd : K.rd = false
  ck : K.ck = R.ck
  cs : K.cs = R.cs
  ct : K.ct = R.ct
  cv : K.cv = R.cv
  ver : K.ver = R.ver
  C : K.C = R.C
  cnt : R.cnt = (cntC R.C K.n : Nat)
  lim : R.dn = false → R.cnt < R.n / 2 + 1 ∧ R.d = 0
  G : K.G.map gtM = R.G
  goods : ∀ g ∈ K.G, Goods g.L
  put : ¬ R.ck = 3 → K.G = []
  tk : K.tk = R.tk
  dn : K.dn = R.dn
  aid : K.aid = R.aid
  ack : K.ack = R.ack
  acs : K.acs = R.acs
  act : K.act = R.act
  acv : K.acv = R.acv
  ae : K.ae = R.ae
  av : K.av = R.av
  AL : K.AL = R.AL
theorem same_ref {R : Co} {K : Cs} (h : SameC R K) (m : Mg) : refD K m = refC R m := by
  unfold refD refC
  rw [h.dn, h.at_, h.id, h.n, h.C]
theorem same_end {R : Co} {K : Cs} (h : SameC R K) (ee vv : Int) : SameC (end1C R ee vv (itemsC R.G R.cs)) (endM K ee vv) := by
  have hAL : (endM K ee vv).AL = (end1C R ee vv (itemsC R.G R.cs)).AL := by
    show (if ee = 0 ∧ K.ck = 3 then itemsK K.G K.cs else []) = endA ee (itemsC R.G R.cs)
    unfold endA
    by_cases he : ee = 0
    · rw [if_pos he]
      by_cases hk : K.ck = 3
      · rw [if_pos ⟨he, hk⟩, items_same K.cs h.goods, h.G, h.cs]
      · rw [if_neg (fun e => hk e.2), ← h.G, h.put (by rw [← h.ck]; exact hk)]
        rfl
    · rw [if_neg he, if_neg (fun e => he e.1)]
  exact ⟨h.id, h.n, h.at_, h.rd, h.ck, h.cs, h.ct, h.cv, h.ver, h.C, h.cnt, fun e => (by cases e), h.G, h.goods, h.put, h.tk, rfl, h.id, h.ck, h.cs, h.ct, h.cv, rfl, rfl, hAL⟩
theorem end1_nil (R : Co) {ee : Int} (he : ¬ ee = 0) (vv : Int) (LI LJ : List It) : end1C R ee vv LI = end1C R ee vv LJ := by
  unfold end1C endA
  rw [if_neg he, if_neg he]
theorem same_on {R : Co} {K : Cs} (h : SameC R K) (m : Mg) : conKB K m = conB R m ∧ SameC (conR R m) (conK K m) := by
  have hr := same_ref h m
  have ho : oldK K m ↔ oldB R m := by unfold oldK oldB; rw [h.ck]
  have hh : hitK K m ↔ hitC R m := by unfold hitK hitC; rw [h.ck]
  refine ⟨by unfold conKB conB swKB swB; rw [hr]; simp only [ho, hh], ?_⟩
  unfold conR conK
  rw [hr]
  cases href : refC R m with
  | true => rw [if_pos rfl, if_pos rfl]; exact h
  | false =>
    rw [if_neg (by simp), if_neg (by simp)]
    obtain ⟨hdn, hmo⟩ := refC_false href
    have hl := h.lim hdn
    have hfc : R.C m.f.toNat = false := by
      unfold refC at href
      simp only [Bool.or_eq_false_iff] at href
      exact href.2
    have hfn : m.f.toNat < K.n := by
      have h1 := mokBf hmo
      unfold refC at href
      simp only [Bool.or_eq_false_iff, decide_eq_false_iff_not] at href
      have := href.1.2
      have := h.n
      omega
    unfold swC swK
    by_cases hold : oldB R m
    · rw [if_pos hold, if_pos (ho.2 hold), end1_nil R (by omega) m.n [] (itemsC R.G R.cs)]
      exact same_end h 21 m.n
    · rw [if_neg hold, if_neg (fun e => hold (ho.1 e))]
      by_cases hhit : hitC R m
      · rw [if_pos hhit, if_pos (hh.2 hhit)]
        have hg : SameC (gotC R m) (gotK K m) ∧ (gotC R m).C = R.C ∧ (gotC R m).cnt = R.cnt ∧ (gotC R m).n = R.n ∧ (gotC R m).ver = R.ver ∧ (gotK K m).n = K.n ∧ (gotK K m).C = K.C ∧ (gotC R m).dn = R.dn ∧ (gotC R m).d = R.d ∧ (gotK K m).ver = K.ver := by
          unfold gotC gotK
          by_cases hk : R.ck = 3
          · rw [if_pos hk, if_pos (by rw [h.ck]; exact hk)]
            refine ⟨⟨h.id, h.n, h.at_, h.rd, h.ck, h.cs, h.ct, h.cv, h.ver, h.C, h.cnt, h.lim, ?_, ?_, fun e => absurd hk e, h.tk, h.dn, h.aid, h.ack, h.acs, h.act, h.acv, h.ae, h.av, h.AL⟩, rfl, rfl, rfl, rfl, rfl, rfl, rfl, rfl, rfl⟩
            · show (K.G ++ [m]).map gtM = R.G ++ [⟨m.n, none, 0, m.L⟩]
              rw [List.map_append, h.G]; rfl
            · intro g hg
              rcases List.mem_append.1 hg with h1 | h1
              · exact h.goods g h1
              · rw [List.mem_singleton] at h1
                rw [h1]; exact mokB_goods hmo
          · rw [if_neg hk, if_neg (by rw [h.ck]; exact hk)]
            exact ⟨h, rfl, rfl, rfl, rfl, rfl, rfl, rfl, rfl, rfl⟩
        obtain ⟨hg, g1, g2, g3, g4, g5, g6, g7, g8, g9⟩ := hg
        generalize gotC R m = R1 at *
        generalize gotK K m = K1 at *
        generalize m.f.toNat = i at *
        have hcn : cntC (setC K1.C i) K1.n = cntC K1.C K1.n + 1 := cntC_set (by rw [g5]; exact hfn) (by rw [hg.C, g1]; exact hfc)
        have hcnt := hg.cnt
        have hn := hg.n
        have hC := hg.C
        have hmark : SameC (countC R1 i) (markK K1 i) ∨ R1.cnt + 1 = R1.n / 2 + 1 := by
          by_cases hq : R1.cnt + 1 = R1.n / 2 + 1
          · exact .inr hq
          · refine .inl ⟨hg.id, hg.n, hg.at_, hg.rd, hg.ck, hg.cs, hg.ct, hg.cv, hg.ver, ?_, ?_, ?_, hg.G, hg.goods, hg.put, hg.tk, hg.dn, hg.aid, hg.ack, hg.acs, hg.act, hg.acv, hg.ae, hg.av, hg.AL⟩
            · show setC K1.C i = _; rw [hC]; rfl
            · show R1.cnt + 1 = ((cntC (setC R1.C i) K1.n : Nat) : Int)
              rw [← hC, hcn, hcnt, ← hC]; omega
            · intro _
              have h2 := hg.lim (by rw [g7]; exact hdn)
              exact ⟨show R1.cnt + 1 < R1.n / 2 + 1 by omega, h2.2⟩
        unfold goC goK
        by_cases hq : R1.cnt + 1 = R1.n / 2 + 1
        · rw [if_pos hq, if_pos (show K1.n / 2 + 1 ≤ cntC (setC K1.C i) K1.n by rw [hcn]; rw [← hC] at hcnt; omega)]
          have hm2 : SameC { countC R1 i with dn := true } { markK K1 i with dn := true } := ⟨hg.id, hg.n, hg.at_, hg.rd, hg.ck, hg.cs, hg.ct, hg.cv, hg.ver, (show setC K1.C i = _ by rw [hC]; rfl), (show R1.cnt + 1 = ((cntC (setC R1.C i) K1.n : Nat) : Int) by rw [← hC, hcn, hcnt, ← hC]; omega), fun e => (by cases e), hg.G, hg.goods, hg.put, hg.tk, rfl, hg.aid, hg.ack, hg.acs, hg.act, hg.acv, hg.ae, hg.av, hg.AL⟩
          have h3 := same_end hm2 0 R1.ver
          have hv := hg.ver
          rw [hv]
          exact h3
        · rw [if_neg hq, if_neg (show ¬ K1.n / 2 + 1 ≤ cntC (setC K1.C i) K1.n by
            rw [hcn]
            have h2 := hg.lim (by rw [g7]; exact hdn)
            rw [← hC] at hcnt
            omega)]
          rcases hmark with h2 | h2
          · exact h2
          · exact absurd h2 hq
      · rw [if_neg hhit, if_neg (fun e => hhit (hh.1 e))]
        exact h
theorem same_new (n : Nat) (a id k s t x v : Int) : SameC (co0 n a id k s t x v) (cs0 n a id k s t x v false) := by
  refine ⟨rfl, rfl, rfl, rfl, rfl, rfl, rfl, rfl, rfl, rfl, ?_, ?_, rfl, (fun g hg => by cases hg), fun _ => rfl, rfl, rfl, rfl, rfl, rfl, rfl, rfl, rfl, rfl, rfl⟩
  · show (0 : Int) = ((cntC (fun _ => false) n : Nat) : Int)
    rw [cntC_none]; rfl
  · intro _
    exact ⟨show (0 : Int) < (n : Int) / 2 + 1 by omega, rfl⟩
set_option maxRecDepth 100000 in
set_option maxHeartbeats 1600000 in
theorem samea_eq (i k s t x e v : Int) (A B : Option Addr) (c d : Nat) (M : List It) (w : World) (hA : ItemsAt w A M) (hB : ItemsAt w B M) (hn : M.length ≤ 1000000000) :
    Calls Tryz.prog 18 #[.agg #[.int .u64 i, .int .i64 k, .int .i64 s, .int .u64 t, .int .i64 x, .int .i64 e, .int .u64 v, .slice A M.length c], .agg #[.int .u64 i, .int .i64 k, .int .i64 s, .int .u64 t, .int .i64 x, .int .i64 e, .int .u64 v, .slice B M.length d]] w fun e w' => e = .returned (.bool true) ∧ Below w.heap.size w w' := by
  have HQ := hide (fun (W : World) (hW : Below w.heap.size w W) => requal_any A B c d M M W (hA.below hW) (hB.below hW) (by omega) (by omega))
  clear hA hB
  go_enter Tryz.func18, Tryz.ntmps18
  go_wp2_with fail
  refine (Calls.mono (HQ.out _ (below_alloc (below_alloc (Below.refl _ _) _) _)) ?_); rintro e w1 ⟨rfl, hb1⟩
  rw [show eqL M M = true from eqL_iff.2 rfl]
  have HB1 := hide (below_step (below_alloc (below_alloc (Below.refl _ _) _) _) hb1)
  clear hb1 HQ
  go_wp2_with fail
  go_ret
  exact ⟨rfl, HB1.out⟩
end Go.Proofs.YtlabpgdimhbocaaGreat
namespace Go.Proofs.YtlabpgdimhbocaaGreat
set_option linter.unusedVariables false
set_option linter.unusedSimpArgs false
open Go.ChangeShapes Go.WideShapes Go.ChangeAt Go.RowKit
theorem joinL_mem {S o : List It} (ho : IsOf S o) (hS : Goods S) {b : List It} {x : It} (h : x ∈ joinL o b) : x ∈ b ∨ x ∈ S := by
  have h1 := ((joinL_list ho hS b).mem x).1 h
  have h2 := h1.1
  rcases List.mem_append.1 h2 with h3 | h3
  · exact .inl (mem_goods.1 h3).1
  · exact .inr h3
theorem takeG_mem {c : Int} {g : Gt} {x : It} (h : x ∈ takeG c g) : x ∈ g.L := by
  unfold takeG at h
  split at h
  · exact (List.mem_filter.1 h).1
  · exact h
theorem items_mem2 {n0 n1 s : Int} {L0 L1 : List It} (h0 : Goods L0) {x : It} (h : x ∈ itemsC [gB n0 L0, gB n1 L1] s) : (x ∈ L0 ∨ x ∈ L1) ∧ x.s = s := by
  unfold itemsC at h
  obtain ⟨h1, h2⟩ := List.mem_filter.1 h
  refine ⟨?_, by simpa [serP] using h2⟩
  unfold joinG at h1
  simp only [List.foldl_cons, List.foldl_nil] at h1
  have hG0 : Goods (takeG (certG [gB n0 L0, gB n1 L1]) (gB n0 L0)) := fun y hy => h0 y (takeG_mem hy)
  have ha := joinL_nil_is _ hG0
  rcases joinL_mem ha hG0 h1 with h3 | h3
  · exact .inr (takeG_mem h3)
  · exact .inl (takeG_mem h3)
def inB (L : List It) (z : It) (j : Nat) : Bool := (L.take j).any fun y => eqI y z
theorem inB_zero (L : List It) (z : It) : inB L z 0 = false := by simp [inB]
theorem inB_snoc {L : List It} {z : It} {j : Nat} (hj : j < L.length) : inB L z (j + 1) = (inB L z j || eqI L[j] z) := by
  unfold inB
  rw [List.take_succ_eq_append_getElem hj, List.any_append]
  simp
theorem inB_mem {L : List It} {z : It} (h : z ∈ L) : inB L z L.length = true := by
  unfold inB
  rw [List.take_of_length_le (Nat.le_refl _), List.any_eq_true]
  exact ⟨z, h, by simp [eqI]⟩
/-- What the document's call keeps, by the program's. -/
theorem same_lim {R : Co} {K : Cs} (h : SameC R K) {a b : Nat} (h1 : R.G.length ≤ a) (h2 : ∀ g ∈ R.G, g.L.length ≤ b) : K.G.length ≤ a ∧ ∀ g ∈ K.G, g.L.length ≤ b := by
  refine ⟨by rw [← h.G, List.length_map] at h1; exact h1, fun g hg => ?_⟩
  have := h2 (gtM g) (by rw [← h.G]; exact List.mem_map_of_mem hg)
  exact this
end Go.Proofs.YtlabpgdimhbocaaGreat
namespace Go.Proofs.YtlabpgdimhbocaaGreat
set_option linter.unusedVariables false
set_option linter.unusedSimpArgs false
open Go.RowKit

theorem and_mask_i64 (a : Int) (k : Nat) (m : Int) (hk : k < 63) (hm : m = 2 ^ k - 1) : bits .and .i64 a m = a % 2 ^ k := by
  have h2 : ((2 : Nat) ^ k) < 2 ^ 63 := Nat.pow_lt_pow_right (by omega) hk
  have h2' : (2 : Nat) ^ k ∣ 2 ^ 64 := Nat.pow_dvd_pow 2 (by omega)
  have hpos : 0 < (2 : Nat) ^ k := Nat.pow_pos (by omega)
  have ec : ((2 ^ k : Nat) : Int) = (2 : Int) ^ k := by simp
  have hm' : m = ((2 ^ k - 1 : Nat) : Int) := by omega
  show IntKind.i64.wrap ((BitVec.ofInt 64 a &&& BitVec.ofInt 64 m).toNat : Int) = _
  have e1 : (BitVec.ofInt 64 m).toNat = 2 ^ k - 1 := by
    rw [hm', BitVec.ofInt_natCast, BitVec.toNat_ofNat]; exact Nat.mod_eq_of_lt (by omega)
  rw [BitVec.toNat_and, e1, Nat.and_two_pow_sub_one_eq_mod, BitVec.toNat_ofInt]
  have e2 : (((a % ((2 ^ 64 : Nat) : Int)).toNat % 2 ^ k : Nat) : Int) = a % 2 ^ k := by
    have hnn : 0 ≤ a % ((2 ^ 64 : Nat) : Int) := Int.emod_nonneg _ (by decide)
    rw [Int.natCast_emod, Int.toNat_of_nonneg hnn, ← ec]
    exact Int.emod_emod_of_dvd a (by exact_mod_cast h2')
  rw [e2, IntKind.wrap_i64]
  have h3 : 0 ≤ a % (2 : Int) ^ k := Int.emod_nonneg _ (by omega)
  have h4 : a % (2 : Int) ^ k < 2 ^ k := Int.emod_lt_of_pos _ (by omega)
  omega

/-- How many of the first n bits are set. -/
def cnt (x : Int) : Nat → Int
  | 0 => 0
  | n + 1 => cnt x n + x / 2 ^ n % 2
theorem cnt_bd (x : Int) : ∀ n : Nat, 0 ≤ cnt x n ∧ cnt x n ≤ n
  | 0 => by simp [cnt]
  | n + 1 => by
    have := cnt_bd x n
    simp only [cnt]
    omega
theorem cnt_two (x y : Int) : ∀ n : Nat, (∀ i < n, ¬ (x / 2 ^ i % 2 = 1 ∧ y / 2 ^ i % 2 = 1)) → cnt x n + cnt y n ≤ n
  | 0, _ => by simp [cnt]
  | n + 1, h => by
    have h1 := cnt_two x y n (fun i hi => h i (by omega))
    have h2 := h n (by omega)
    simp only [cnt]
    omega
theorem and_zero_bits {a b : Int} (ha : 0 ≤ a) (hb : 0 ≤ b) (ha' : a < 18446744073709551616) (hb' : b < 18446744073709551616) (h : bits .and .u64 a b = 0) (i : Nat) : ¬ (a / 2 ^ i % 2 = 1 ∧ b / 2 ^ i % 2 = 1) := by
  rw [u64_and a b ha ha' hb hb'] at h
  have h0 : a.toNat &&& b.toNat = 0 := by omega
  rintro ⟨h1, h2⟩
  have key : ∀ x : Int, 0 ≤ x → x / 2 ^ i % 2 = 1 → x.toNat.testBit i = true := by
    intro x hx h3
    rw [Nat.testBit_eq_decide_div_mod_eq]
    have ec : ((2 ^ i : Nat) : Int) = (2 : Int) ^ i := by simp
    have e : ((x.toNat / 2 ^ i % 2 : Nat) : Int) = x / 2 ^ i % 2 := by
      rw [Int.natCast_emod, Int.natCast_ediv, Int.toNat_of_nonneg hx, ec]; rfl
    have : x.toNat / 2 ^ i % 2 = 1 := by omega
    simp [this]
  have := congrArg (fun n => n.testBit i) h0
  simp [Nat.testBit_and, key a ha h1, key b hb h2] at this
end Go.Proofs.YtlabpgdimhbocaaGreat
namespace Go.Proofs.YtlabpgdimhbocaaGreat
set_option linter.unusedVariables false
set_option linter.unusedSimpArgs false
open Go.ChangeShapes Go.WideShapes Go.ChangeAt Go.RowKit
def okC (R : Co) : Prop := R.ck = 3 ∨ (clientB R.ck R.cs R.ct R.cv = true ∧ 1 ≤ R.ver ∧ R.ver ≤ 281474976710656 ∧ 0 ≤ R.ct)
theorem to_same {R : Co} {K : Cs} (h : SameC R K) (hg : okC R) : toD K K.n = csendTo R R.n.toNat := by
  have hn : R.n.toNat = K.n := by have := h.n; omega
  rw [hn]
  unfold toD csendTo
  rw [h.C]
  refine List.map_congr_left fun j _ => ?_
  unfold msgD toC
  rw [h.ck]
  by_cases hk : R.ck = 3
  · rw [if_pos hk, if_pos hk, h.at_, h.id, h.cs]
  · rw [if_neg hk, if_neg hk, h.at_, h.id]
    have e : itV (anK K) = itC R.ck R.cs R.ct R.cv R.ver := by
      unfold anK
      rw [h.ck, h.cs, h.ct, h.cv, h.ver]
      rcases hg with hg | hg
      · exact absurd hg hk
      · exact itV_good hg.1 hk ⟨hg.2.1, hg.2.2.1⟩ hg.2.2.2
    rw [e]
theorem cto_bd (R : Co) (k : Nat) : (csendTo R k).length ≤ k ∧ ∀ x ∈ csendTo R k, x.L.length ≤ 1 := by
  refine ⟨csendTo_len R k, fun x hx => ?_⟩
  unfold csendTo at hx
  obtain ⟨j, _, rfl⟩ := List.mem_map.1 hx
  unfold toC
  split <;> simp
theorem bare_len {M N : List Mg} (h : M.map Mg.bare = N) : M.length = N.length := by rw [← h, List.length_map]
theorem bare_items {M N : List Mg} {q : Nat} (h : M.map Mg.bare = N) (hN : ∀ x ∈ N, x.L.length ≤ q) : ∀ x ∈ M, x.L.length ≤ q := fun x hx => by
  have h1 : x.bare ∈ N := by rw [← h]; exact List.mem_map.2 ⟨x, hx, rfl⟩
  have h2 := hN _ h1
  exact h2
def KeepC (R R1 : Co) : Prop := R1.n = R.n ∧ R1.ck = R.ck ∧ R1.cs = R.cs ∧ R1.ct = R.ct ∧ R1.cv = R.cv ∧ R1.ver = R.ver ∧ R1.tk = R.tk ∧ (R1.dn = false → R.dn = false) ∧ R1.G = R.G
theorem keep_end (R : Co) (ee v : Int) (LI : List It) : KeepC R (end1C R ee v LI) := ⟨rfl, rfl, rfl, rfl, rfl, rfl, rfl, fun h => (by cases h), rfl⟩
theorem keep_count (R : Co) (i : Nat) : KeepC R (countC R i) ∧ (countC R i).AL = R.AL := ⟨⟨rfl, rfl, rfl, rfl, rfl, rfl, rfl, fun h => h, rfl⟩, rfl⟩
theorem keep_trans {R S T : Co} (h : KeepC R S) (k : KeepC S T) : KeepC R T := by
  obtain ⟨a1, a2, a3, a4, a5, a6, a7, a8, a9⟩ := h
  obtain ⟨b1, b2, b3, b4, b5, b6, b7, b8, b9⟩ := k
  exact ⟨b1.trans a1, b2.trans a2, b3.trans a3, b4.trans a4, b5.trans a5, b6.trans a6, b7.trans a7, fun h => a8 (b8 h), b9.trans a9⟩
theorem keep_go (R : Co) (i : Nat) : KeepC R (goC R i) ∧ ((goC R i).AL = R.AL ∨ (goC R i).AL = itemsC R.G R.cs) := by
  unfold goC
  split
  · exact ⟨keep_trans (keep_count R i).1 (keep_end _ _ _ _), .inr (end1_AL _ _ _)⟩
  · exact ⟨(keep_count R i).1, .inl (keep_count R i).2⟩
/-- What On leaves. -/
theorem con_keep (R : Co) (m : Mg) : (conR R m).n = R.n ∧ (conR R m).ck = R.ck ∧ (conR R m).cs = R.cs ∧ (conR R m).ct = R.ct ∧ (conR R m).cv = R.cv ∧ (conR R m).ver = R.ver ∧ (conR R m).tk = R.tk ∧ ((conR R m).dn = false → R.dn = false) ∧ ((conR R m).G = R.G ∨ (conR R m).G = R.G ++ [gtM m]) ∧ ((conR R m).AL = R.AL ∨ (conR R m).AL = [] ∨ (conR R m).AL = itemsC (conR R m).G R.cs) := by
  have hR : conR R m = R ∨ conR R m = end1C R 21 m.n [] ∨ conR R m = goC (gotC R m) m.f.toNat := by
    unfold conR
    split
    · exact .inl rfl
    · unfold swC
      split
      · exact .inr (.inl rfl)
      · split
        · exact .inr (.inr rfl)
        · exact .inl rfl
  rcases hR with e | e | e
  · rw [e]; exact ⟨rfl, rfl, rfl, rfl, rfl, rfl, rfl, fun h => h, .inl rfl, .inl rfl⟩
  · rw [e]
    obtain ⟨b1, b2, b3, b4, b5, b6, b7, b8, b9⟩ := keep_end R 21 m.n []
    exact ⟨b1, b2, b3, b4, b5, b6, b7, b8, .inl b9, .inr (.inl rfl)⟩
  · rw [e]
    obtain ⟨⟨b1, b2, b3, b4, b5, b6, b7, b8, b9⟩, h2⟩ := keep_go (gotC R m) m.f.toNat
    by_cases hk : R.ck = 3
    · have hg : gotC R m = { R with G := R.G ++ [gtM m] } := if_pos hk
      rw [hg] at b1 b2 b3 b4 b5 b6 b7 b8 b9 h2 ⊢
      generalize goC { R with G := R.G ++ [gtM m] } m.f.toNat = T at *
      refine ⟨b1, b2, b3, b4, b5, b6, b7, b8, .inr b9, ?_⟩
      rcases h2 with h2 | h2
      · exact .inl h2
      · refine .inr (.inr ?_)
        rw [h2, b9]
    · have hg : gotC R m = R := if_neg hk
      rw [hg] at b1 b2 b3 b4 b5 b6 b7 b8 b9 h2 ⊢
      generalize goC R m.f.toNat = T at *
      refine ⟨b1, b2, b3, b4, b5, b6, b7, b8, .inl b9, ?_⟩
      rcases h2 with h2 | h2
      · exact .inl h2
      · refine .inr (.inr ?_)
        rw [h2, b9]
/-- What stays, behind i messages. -/
structure PlI (nn i : Nat) (R : Co) (K : Cs) : Prop where
  same : SameC R K
  n : R.n = nn
  cs : 0 ≤ R.cs ∧ R.cs ≤ 255
  good : okC R
  G : R.G.length ≤ i
  L : ∀ g ∈ R.G, g.L.length ≤ 40
  tk : 0 ≤ R.tk ∧ R.tk ≤ 20
  on : R.dn = false → R.tk ≤ 19
  AL : R.AL.length ≤ 40 * i
section
variable {nn i : Nat} {R : Co} {K : Cs}
theorem PlI.k (h : PlI nn i R K) (hn : 1 ≤ nn ∧ nn ≤ 7) (hi : i ≤ 60) : CoK R := by
  have h1 := h.same.cnt
  have h2 := cntC_le R.C K.n
  have h3 := h.same.n
  have h4 := h.n
  exact ⟨by omega, h.cs, by omega, by have := h.tk; omega, fun e => (h.same.lim e).2, by have := h.G; omega⟩
theorem PlI.lim (h : PlI nn i R K) (hi : i ≤ 60) : K.n = nn ∧ K.G.length ≤ 900 ∧ (∀ g ∈ K.G, g.L.length ≤ 1000000) ∧ (0 ≤ K.cs ∧ K.cs ≤ 255) ∧ (0 ≤ K.tk ∧ K.tk ≤ 1000000) := by
  have h3 := h.same.n
  have h4 := h.n
  have hl := same_lim h.same (a := 900) (b := 1000000) (by have := h.G; omega) (fun g hg => by have := h.L g hg; omega)
  exact ⟨by omega, hl.1, hl.2, by rw [h.same.cs]; exact h.cs, by rw [h.same.tk]; have := h.tk; omega⟩
theorem items_len (G : List Gt) (s : Int) (hG : ∀ g ∈ G, g.L.length ≤ 40) : (itemsC G s).length ≤ G.length * 40 := by
  unfold itemsC
  exact Nat.le_trans (List.length_filter_le _ _) (joinG_len _ G 40 hG)
theorem on_pl (h : PlI nn i R K) {m : Mg} (hm : m.L.length ≤ 40) : PlI nn (i + 1) (conR R m) (conK K m) ∧ conKB K m = conB R m := by
  obtain ⟨e1, e2⟩ := same_on h.same m
  obtain ⟨k1, k2, k3, k4, k5, k6, k7, k8, k9, k10⟩ := con_keep R m
  refine ⟨⟨e2, by rw [k1]; exact h.n, by rw [k3]; exact h.cs, ?_, ?_, ?_, by rw [k7]; exact h.tk, fun e => by rw [k7]; exact h.on (k8 e), ?_⟩, e1⟩
  · unfold okC
    rw [k2, k3, k4, k5, k6]
    exact h.good
  · have := h.G
    rcases k9 with k | k
    · rw [k]; omega
    · rw [k, List.length_append]; simp; omega
  · intro g hg
    rcases k9 with k | k
    · rw [k] at hg; exact h.L g hg
    · rw [k] at hg
      rcases List.mem_append.1 hg with h1 | h1
      · exact h.L g h1
      · rw [List.mem_singleton] at h1; rw [h1]; exact hm
  · have hAL := h.AL
    have hgl : (conR R m).G.length ≤ i + 1 ∧ ∀ g ∈ (conR R m).G, g.L.length ≤ 40 := by
      have := h.G
      rcases k9 with k | k
      · rw [k]; exact ⟨by omega, h.L⟩
      · rw [k]
        refine ⟨by rw [List.length_append]; simp; omega, fun g hg => ?_⟩
        rcases List.mem_append.1 hg with h1 | h1
        · exact h.L g h1
        · rw [List.mem_singleton] at h1; rw [h1]; exact hm
    rcases k10 with k | k | k
    · rw [k]; omega
    · rw [k]; simp
    · rw [k]
      have := items_len (conR R m).G R.cs hgl.2
      omega
theorem got_pl (h : PlI nn i R K) {m : Mg} (hm : m.L.length ≤ 40) (hi : i ≤ 60) : (gotC R m).G.length ≤ 1000 ∧ ∀ g ∈ (gotC R m).G, g.L.length ≤ 1000000 := by
  have h1 := h.G
  unfold gotC
  split
  · refine ⟨by simp; omega, fun g hg => ?_⟩
    rcases List.mem_append.1 hg with h2 | h2
    · have := h.L g h2
      omega
    · rw [List.mem_singleton] at h2
      rw [h2]
      show m.L.length ≤ _
      omega
  · exact ⟨by omega, fun g hg => by have := h.L g hg; omega⟩
theorem tick_pl (h : PlI nn i R K) : PlI nn i (ctickR R) (tickD K) ∧ tickDM K = ctickM R := by
  cases hd : R.dn with
  | true =>
    have hk : K.dn = true := by rw [h.same.dn]; exact hd
    refine ⟨?_, by unfold tickDM ctickM; rw [if_pos hk, if_pos hd]⟩
    unfold tickD ctickR
    rw [if_pos hk, if_pos hd]
    exact h
  | false =>
    have hk : ¬ K.dn = true := by rw [h.same.dn, hd]; simp
    have hd' : ¬ R.dn = true := by rw [hd]; simp
    have ht := h.same.tk
    have hon := h.on hd
    have htk := h.tk
    have hs1 : SameC (tick1C R) (tick1K K) := by
      have q := h.same
      exact ⟨q.id, q.n, q.at_, q.rd, q.ck, q.cs, q.ct, q.cv, q.ver, q.C, q.cnt, q.lim, q.G, q.goods, q.put, (show K.tk + 1 = R.tk + 1 by rw [ht]), q.dn, q.aid, q.ack, q.acs, q.act, q.acv, q.ae, q.av, q.AL⟩
    unfold tickD tickDM ctickR ctickM
    rw [if_neg hk, if_neg hd', if_neg hk, if_neg hd']
    by_cases h20 : R.tk + 1 = 20
    · rw [if_pos h20, if_pos (by omega), if_pos h20, if_pos (by omega)]
      refine ⟨?_, rfl⟩
      have hse := same_end hs1 20 R.ver
      rw [end1_nil (tick1C R) (ee := 20) (by omega) R.ver (itemsC (tick1C R).G (tick1C R).cs) []] at hse
      rw [h.same.ver]
      exact ⟨hse, h.n, h.cs, h.good, h.G, h.L, (show 0 ≤ R.tk + 1 ∧ R.tk + 1 ≤ 20 by omega), fun e => (by cases e), (show ([] : List It).length ≤ 40 * i by simp)⟩
    · rw [if_neg h20, if_neg (by omega), if_neg h20, if_neg (by omega)]
      refine ⟨⟨hs1, h.n, h.cs, h.good, h.G, h.L, (show 0 ≤ R.tk + 1 ∧ R.tk + 1 ≤ 20 by omega), fun _ => (show R.tk + 1 ≤ 19 by omega), h.AL⟩, ?_⟩
      rw [ht]
      by_cases h3 : (R.tk + 1) % 3 = 0
      · rw [if_pos h3, if_pos h3]
        exact to_same hs1 h.good
      · rw [if_neg h3, if_neg h3]
theorem tickM_bd (h : PlI nn i R K) (hn : nn ≤ 7) : (ctickM R).length ≤ 7 ∧ ∀ x ∈ ctickM R, x.L.length ≤ 1 := by
  have h4 := h.n
  have e : R.n.toNat ≤ 7 := by omega
  unfold ctickM
  split
  · exact ⟨by simp, fun x hx => (by cases hx)⟩
  · split
    · exact ⟨by simp, fun x hx => (by cases hx)⟩
    · split
      · have h := cto_bd (tick1C R) R.n.toNat
        exact ⟨by omega, h.2⟩
      · exact ⟨by simp, fun x hx => (by cases hx)⟩
end
theorem pl_zero {nn : Nat} {a id k s t x v : Int} (hc : clientB k s t x = true) (hv : v ≤ 281474976710656) (h0 : 0 ≤ v) (ht : 0 ≤ t) (hk : (v == 0) = (k == 3)) : PlI nn 0 (co0 nn a id k s t x v) (cs0 nn a id k s t x v false) := by
  have hcs : 0 ≤ s ∧ s ≤ 255 := by
    unfold clientB at hc
    have := of_decide_eq_true hc
    exact ⟨this.1, this.2.1⟩
  refine ⟨same_new nn a id k s t x v, rfl, hcs, ?_, Nat.le_refl _, fun g hg => (by cases hg), ⟨Int.le_refl _, (by show (0 : Int) ≤ 20; omega)⟩, fun _ => (by show (0 : Int) ≤ 19; omega), Nat.zero_le _⟩
  by_cases h3 : k = 3
  · exact .inl h3
  · refine .inr ⟨hc, ?_, hv, ht⟩
    have : (v == 0) = false := by rw [hk]; exact beq_eq_false_iff_ne.2 h3
    have := beq_eq_false_iff_ne.1 this
    show 1 ≤ v
    omega
/-- A row of items does not lie in a Call's block. -/
theorem items_not_call {w : World} {p cb : Nat} {K : Cs} {vi vg va : Value} {A : Option Addr} {L : List It} (hb : w.heap[p]? = some (.cells (csL K cb vi vg va).toArray 49 (0, 0))) (hva : ∃ x y z, va = .slice x y z) (h : ItemsAt w A L) (hL : L ≠ []) : ∀ a, A = some a → a.block ≠ p := by
  intro a ha e
  obtain ⟨vx, vy, vz, hve⟩ := hva
  rw [hve] at hb
  obtain ⟨b, off, e2, hlt, hc⟩ := h hL
  rw [ha] at e2
  obtain rfl := Option.some.inj e2
  have e : b = p := e
  subst e
  have h0 : 0 < L.length := List.length_pos_iff.2 hL
  have key : ∀ j u, (It.cells L[0])[j]? = some u → (csL K cb vi vg (.slice vx vy vz))[off + j]? = some u := fun j u hu => by
    have h1 := hc 0 h0 j u hu
    rw [Nat.zero_mul, Nat.add_zero] at h1
    rw [cell_of_list (o := off + j) hb] at h1
    exact h1
  have k0 := key 0 _ rfl
  have k1 := key 1 _ rfl
  have k2 := key 2 _ rfl
  have k3 := key 3 _ rfl
  have hoff : off < 23 := by
    by_cases h : off < 23
    · exact h
    · rw [List.getElem?_eq_none (by simp [csL]; omega)] at k0
      cases k0
  have : off = 0 ∨ off = 1 ∨ off = 2 ∨ off = 3 ∨ off = 4 ∨ off = 5 ∨ off = 6 ∨ off = 7 ∨ off = 8 ∨ off = 9 ∨ off = 10 ∨ off = 11 ∨ off = 12 ∨ off = 13 ∨ off = 14 ∨ off = 15 ∨ off = 16 ∨ off = 17 ∨ off = 18 ∨ off = 19 ∨ off = 20 ∨ off = 21 ∨ off = 22 := by omega
  rcases this with rfl | rfl | rfl | rfl | rfl | rfl | rfl | rfl | rfl | rfl | rfl | rfl | rfl | rfl | rfl | rfl | rfl | rfl | rfl | rfl | rfl | rfl | rfl <;> simp [csL] at k0 k1 k2 k3
theorem row_sets {α : Type} {cells : α → List Value} {sz : Nat} {S : Nat → Prop} {w w' : World} {A : Option Addr} {L : List α} (h : RowAt cells sz w A L) (k : Sets S w w') (hS : ∀ a, A = some a → ¬ S a.block) : RowAt cells sz w' A L := fun hne => by
  obtain ⟨b, off, rfl, hlt, hc⟩ := h hne
  exact ⟨b, off, rfl, Nat.lt_of_lt_of_le hlt k.size, fun j hj i u hu => (World.cell?_of_block (k.block b hlt (hS _ rfl))).trans (hc j hj i u hu)⟩
/-- What the program's Tick told stays under what the document's Tick writes. -/
theorem rd_call {w0 w w' : World} {D : Nat → Prop} {p cb : Nat} {K : Cs} {x : Mg} (hc : CallD w0 w D p cb K) (h : x.rd w) (k : Sets (fun g => g = p) w w') : x.rd w' := by
  obtain ⟨vi, vg, va, hb, _, _, ⟨⟨Av, cv, e, _⟩, _⟩⟩ := hc.row
  by_cases hL : x.L = []
  · refine ⟨?_, h.2⟩
    rw [hL]
    exact RowAt.nil_
  · have hn := items_not_call hb ⟨_, _, _, e⟩ h.1 hL
    exact ⟨row_sets h.1 k (fun a ha => hn a ha), h.2⟩
theorem tdiv_bd (n : Int) (h : -9223372036854775808 ≤ n ∧ n ≤ 9223372036854775807) : -4611686018427387904 ≤ n.tdiv 2 ∧ n.tdiv 2 ≤ 4611686018427387903 := by
  by_cases h0 : 0 ≤ n
  · rw [Int.tdiv_eq_ediv_of_nonneg h0]; omega
  · have e : n.tdiv 2 = -((-n) / 2) := by
      rw [← Int.tdiv_eq_ediv_of_nonneg (show 0 ≤ -n by omega), Int.neg_tdiv, Int.neg_neg]
    rw [e]; omega
/-- A number of nodes that may be or not: enough of them. -/
theorem cneed_raw (n : Int) (w : World) (h : -9223372036854775808 ≤ n ∧ n ≤ 9223372036854775807) : Calls Tryz.prog 6 #[.int .i64 n] w fun e w' => e = .returned (.int .i64 (n.tdiv 2 + 1)) ∧ Below w.heap.size w w' := by
  have hbd := tdiv_bd n h
  have hq : IntKind.i64.wrap (n.tdiv 2) = n.tdiv 2 := by rw [IntKind.wrap_i64]; omega
  have hq1 : IntKind.i64.wrap (n.tdiv 2 + 1) = n.tdiv 2 + 1 := by rw [IntKind.wrap_i64]; omega
  go_enter Tryz.func6, Tryz.ntmps6
  go_wp2
  go_ret
  exact ⟨rfl, Below.refl _ _⟩
theorem rneed_raw (n : Int) (w : World) (h : -9223372036854775808 ≤ n ∧ n ≤ 9223372036854775807) : Calls Tryz.prog 7 #[.int .i64 n] w fun e w' => e = .returned (.int .i64 (n.tdiv 2 + 1)) ∧ Below w.heap.size w w' := by
  have hbd := tdiv_bd n h
  have hq : IntKind.i64.wrap (n.tdiv 2) = n.tdiv 2 := by rw [IntKind.wrap_i64]; omega
  have hq1 : IntKind.i64.wrap (n.tdiv 2 + 1) = n.tdiv 2 + 1 := by rw [IntKind.wrap_i64]; omega
  go_enter Tryz.func7, Tryz.ntmps7
  go_wp2
  go_ret
  exact ⟨rfl, Below.refl _ _⟩
end Go.Proofs.YtlabpgdimhbocaaGreat
namespace Go.Proofs.YtlabpgdimhbocaaGreat
set_option linter.unusedVariables false
set_option linter.unusedSimpArgs false
open Go.ChangeShapes Go.WideShapes Go.ChangeAt Go.RowKit

/-- A slice value with what it reads as. -/
structure Sv (β : Type) where
  A : Option Addr
  c : Nat
  L : List β
abbrev Sv.val {β : Type} (s : Sv β) : Value := .slice s.A s.L.length s.c
structure Sv.good {β : Type} (cells : β → List Value) (sz : Nat) (ok : β → Prop) (w : World) (s : Sv β) : Prop where
  lc : s.L.length ≤ s.c
  cm : s.c ≤ maxLen
  row : RowAt cells sz w s.A s.L
  ok : ∀ a ∈ s.L, ok a
theorem Sv.good.below {β : Type} {cells : β → List Value} {sz : Nat} {ok : β → Prop} {w w' : World} {s : Sv β} (h : Sv.good cells sz ok w s) (hb : Below w.heap.size w w') : Sv.good cells sz ok w' s := { h with row := h.row.below hb }

section
variable {H : Type} {enc : TypeId × Value → H} {P : Program} {w : World} {base : Nat} {held : Bool}
theorem dec_slice {β : Type} {cells : β → List Value} {ok : β → Prop} {sz : Nat} {t e : TypeId} (ht : P.underlying t = some (.slice e)) (hC : P.cellsOf e = sz) (hs : 0 < sz)
    (dec : ∀ n cs x, DataW.trod enc P w base (fun _ => true) held n e cs = some x → ∃ a : β, ok a ∧ cs = cells a)
    (fuel : Nat) (cs : List Value) (x : DataW H × List MemPlace) (hf : DataW.trod enc P w base (fun _ => true) held fuel t cs = some x) :
    ∃ s : Sv β, Sv.good cells sz ok w s ∧ cs = [s.val] := by
  rcases Go.Deep.open_slice ht hf with ⟨hcs, _⟩ | ⟨a, n, c, m, n', D, Pl, hcs, _, hl, hm, hmm, _, hi⟩
  · exact ⟨⟨none, 0, []⟩, ⟨Nat.le_refl _, by simp, RowAt.nil_, by simp⟩, hcs⟩
  · have hmc : m = c := by simpa using hmm
    have hx : ∀ i, i < n → ∃ x : β, ok x ∧ w.cells? base (a.add (i * sz)) sz = some (cells x) := by
      intro i hin
      obtain ⟨cs', hc, htr⟩ := hi i (by omega)
      obtain ⟨x, hx, rfl⟩ := dec _ _ _ htr
      rw [hC] at hc
      exact ⟨x, hx, hc⟩
    let L : List β := (List.range n).attach.map fun i => (hx i.1 (by simpa using i.2)).choose
    have hL : L.length = n := by simp [L]
    have hLk : ∀ k (hk : k < L.length), ok L[k] ∧ w.cells? base (a.add (k * sz)) sz = some (cells L[k]) := by
      intro k hk
      have hk' : k < n := by omega
      have e : L[k] = (hx k hk').choose := by simp [L]
      rw [e]
      exact (hx k hk').choose_spec
    refine ⟨⟨some a, c, L⟩, ⟨by show L.length ≤ c; omega, by show c ≤ maxLen; omega, ?_, ?_⟩, by rw [hcs]; show [_] = [Value.slice (some a) L.length c]; rw [hL]⟩
    · intro hne
      have h0 : 0 < L.length := List.length_pos_iff.2 hne
      have hz := cells?_row (hLk 0 h0).2 hs
      obtain ⟨b, off, spot⟩ := a
      have hspot : spot = none := by simpa [Addr.add] using hz.1
      subst hspot
      refine ⟨b, off, rfl, by simpa [Addr.add] using hz.2.1, ?_⟩
      intro k hk j u hu
      have := (cells?_row (hLk k hk).2 hs).2.2 j u hu
      have e2 : (Addr.add ⟨b, off, none⟩ (k * sz)) = ⟨b, off + k * sz, none⟩ := by
        unfold Addr.add
        by_cases hj : k * sz = 0 <;> simp [hj]
      rw [e2] at this
      exact this
    · intro x hx'
      obtain ⟨k, hk, rfl⟩ := List.getElem_of_mem hx'
      exact (hLk k hk).1
end
end Go.Proofs.YtlabpgdimhbocaaGreat
namespace Go.Proofs.YtlabpgdimhbocaaGreat
set_option linter.unusedVariables false
set_option linter.unusedSimpArgs false
open Go.ChangeShapes Go.WideShapes Go.ChangeAt Go.RowKit

/-- A message that came in. -/
structure Mg.good (w : World) (m : Mg) : Prop where
  rd : m.rd w
  its : ∀ x ∈ m.L, x.wf
  bk : -9223372036854775808 ≤ m.k ∧ m.k ≤ 9223372036854775807
  bf : -9223372036854775808 ≤ m.f ∧ m.f ≤ 9223372036854775807
  bt : -9223372036854775808 ≤ m.t ∧ m.t ≤ 9223372036854775807
  bi : 0 ≤ m.id ∧ m.id ≤ 18446744073709551615
  bn : 0 ≤ m.n ∧ m.n ≤ 18446744073709551615
/-- One call of a script. -/
structure Op9 where
  kind : Int
  i : Int
  k : Int
  m : Mg
def Op9.cells (o : Op9) : List Value := .int .i64 o.kind :: .int .i64 o.i :: .int .i64 o.k :: o.m.cells
structure Op9.good (w : World) (o : Op9) : Prop where
  m : o.m.good w
  bk : -9223372036854775808 ≤ o.kind ∧ o.kind ≤ 9223372036854775807
  bi : -9223372036854775808 ≤ o.i ∧ o.i ≤ 9223372036854775807
  bj : -9223372036854775808 ≤ o.k ∧ o.k ≤ 9223372036854775807
section
variable {H : Type} {enc : TypeId × Value → H} {P : Program} {w : World} {base : Nat} {held : Bool}
theorem dec_msg {t : TypeId} {f0 f1 f2 f3 f4 f5 : Field} (hs : P.underlying t = some (.struct #[f0, f1, f2, f3, f4, f5])) (hone : Go.Deep.oneCellFields P #[f0, f1, f2, f3, f4, f5] = true) (hC : P.cellsOf t = 6)
    (h0 : P.underlying f0.type = some (.int .i64)) (h1 : P.underlying f1.type = some (.int .i64)) (h2 : P.underlying f2.type = some (.int .i64)) (h3 : P.underlying f3.type = some (.int .u64)) (h4 : P.underlying f4.type = some (.int .u64))
    (h5 : ∀ n cs x, DataW.trod enc P w base (fun _ => true) held n f5.type cs = some x → ∃ s : Sv It, Sv.good It.cells 5 It.wf w s ∧ cs = [s.val])
    (n : Nat) (cs : List Value) (x : DataW H × List MemPlace) (h : DataW.trod enc P w base (fun _ => true) held n t cs = some x) : ∃ a : Mg, a.good w ∧ cs = a.cells := by
  obtain ⟨hl, hf⟩ := dec_fields hs hone (by simpa using hC) h
  obtain ⟨c0, m0, y0, e0, t0⟩ := hf 0 f0 rfl
  obtain ⟨c1, m1, y1, e1, t1⟩ := hf 1 f1 rfl
  obtain ⟨c2, m2, y2, e2, t2⟩ := hf 2 f2 rfl
  obtain ⟨c3, m3, y3, e3, t3⟩ := hf 3 f3 rfl
  obtain ⟨c4, m4, y4, e4, t4⟩ := hf 4 f4 rfl
  obtain ⟨c5, m5, y5, e5, t5⟩ := hf 5 f5 rfl
  obtain ⟨a0, r0, w0⟩ := dec_int h0 _ _ _ t0
  obtain ⟨a1, r1, w1⟩ := dec_int h1 _ _ _ t1
  obtain ⟨a2, r2, w2⟩ := dec_int h2 _ _ _ t2
  obtain ⟨a3, r3, w3⟩ := dec_int h3 _ _ _ t3
  obtain ⟨a4, r4, w4⟩ := dec_int h4 _ _ _ t4
  obtain ⟨s, hsg, w5⟩ := h5 _ _ _ t5
  refine ⟨⟨a0, a1, a2, a3, a4, s.A, s.c, s.L⟩, ⟨⟨hsg.row, hsg.lc, hsg.cm⟩, hsg.ok, bounds_i64 r0, bounds_i64 r1, bounds_i64 r2, bounds_u64 r3, bounds_u64 r4⟩, ?_⟩
  match cs, hl with
  | [d0, d1, d2, d3, d4, d5], _ =>
    simp at e0 e1 e2 e3 e4 e5 w0 w1 w2 w3 w4 w5
    subst e0 e1 e2 e3 e4 e5
    simp [Mg.cells, w0, w1, w2, w3, w4, w5]
theorem dec_op {t : TypeId} {f0 f1 f2 f3 : Field} (hs : P.underlying t = some (.struct #[f0, f1, f2, f3])) (hC : P.cellsOf t = 9)
    (o0 : f0.offset = 0 ∧ P.cellsOf f0.type = 1) (o1 : f1.offset = 1 ∧ P.cellsOf f1.type = 1) (o2 : f2.offset = 2 ∧ P.cellsOf f2.type = 1) (o3 : f3.offset = 3 ∧ P.cellsOf f3.type = 6)
    (h0 : P.underlying f0.type = some (.int .i64)) (h1 : P.underlying f1.type = some (.int .i64)) (h2 : P.underlying f2.type = some (.int .i64))
    (h3 : ∀ n cs x, DataW.trod enc P w base (fun _ => true) held n f3.type cs = some x → ∃ a : Mg, a.good w ∧ cs = a.cells)
    (n : Nat) (cs : List Value) (x : DataW H × List MemPlace) (h : DataW.trod enc P w base (fun _ => true) held n t cs = some x) : ∃ a : Op9, a.good w ∧ cs = a.cells := by
  obtain ⟨xs, m, _, _, hl, hxs, hf⟩ := DataW.trod_struct hs h
  rw [hC] at hl
  match cs, hl with
  | [d0, d1, d2, d3, d4, d5, d6, d7, d8], _ =>
    have t0 := hf 0 f0 rfl
    have t1 := hf 1 f1 rfl
    have t2 := hf 2 f2 rfl
    have t3 := hf 3 f3 rfl
    rw [o0.1, o0.2] at t0
    rw [o1.1, o1.2] at t1
    rw [o2.1, o2.2] at t2
    rw [o3.1, o3.2] at t3
    have hx : xs.length = 4 := hxs
    obtain ⟨a0, r0, w0⟩ := dec_int h0 _ _ _ (t0.trans (List.getElem?_eq_getElem (by omega)))
    obtain ⟨a1, r1, w1⟩ := dec_int h1 _ _ _ (t1.trans (List.getElem?_eq_getElem (by omega)))
    obtain ⟨a2, r2, w2⟩ := dec_int h2 _ _ _ (t2.trans (List.getElem?_eq_getElem (by omega)))
    obtain ⟨mm, hm, w3⟩ := h3 _ _ _ (t3.trans (List.getElem?_eq_getElem (by omega)))
    refine ⟨⟨a0, a1, a2, mm⟩, ⟨hm, bounds_i64 r0, bounds_i64 r1, bounds_i64 r2⟩, ?_⟩
    simp only [List.drop_zero, List.drop_succ_cons, List.take_succ_cons, List.take_zero, List.cons.injEq, and_true] at w0 w1 w2 w3
    subst w0 w1 w2
    unfold Op9.cells
    rw [← w3]
end
end Go.Proofs.YtlabpgdimhbocaaGreat
namespace Go.Proofs.YtlabpgdimhbocaaGreat
set_option linter.unusedVariables false
set_option linter.unusedSimpArgs false
open Go.ChangeShapes Go.WideShapes Go.ChangeAt Go.RowKit
structure Cl where
  k : Int
  s : Int
  t : Int
  x : Int
def Cl.cells (a : Cl) : List Value := [.int .i64 a.k, .int .i64 a.s, .int .u64 a.t, .int .i64 a.x]
abbrev Cl.val (a : Cl) : Value := .agg #[.int .i64 a.k, .int .i64 a.s, .int .u64 a.t, .int .i64 a.x]
def Cl.wf (a : Cl) : Prop := 0 ≤ a.t ∧ a.t ≤ 18446744073709551615
section
variable {H : Type} {enc : TypeId × Value → H} {P : Program} {w : World} {base : Nat} {held : Bool}
theorem dec_client0 {t : TypeId} {f0 f1 f2 f3 : Field} (hs : P.underlying t = some (.struct #[f0, f1, f2, f3])) (hone : Go.Deep.oneCellFields P #[f0, f1, f2, f3] = true) (hC : P.cellsOf t = 4)
    (h0 : P.underlying f0.type = some (.int .i64)) (h1 : P.underlying f1.type = some (.int .i64)) (h2 : P.underlying f2.type = some (.int .u64)) (h3 : P.underlying f3.type = some (.int .i64))
    (n : Nat) (cs : List Value) (x : DataW H × List MemPlace) (h : DataW.trod enc P w base (fun _ => true) held n t cs = some x) : ∃ a b c d : Int, cs = [.int .i64 a, .int .i64 b, .int .u64 c, .int .i64 d] ∧ 0 ≤ c ∧ c ≤ 18446744073709551615 := by
  obtain ⟨hl, hf⟩ := dec_fields hs hone (by simpa using hC) h
  obtain ⟨c0, m0, y0, e0, t0⟩ := hf 0 f0 rfl
  obtain ⟨c1, m1, y1, e1, t1⟩ := hf 1 f1 rfl
  obtain ⟨c2, m2, y2, e2, t2⟩ := hf 2 f2 rfl
  obtain ⟨c3, m3, y3, e3, t3⟩ := hf 3 f3 rfl
  obtain ⟨a0, r0, w0⟩ := dec_int h0 _ _ _ t0
  obtain ⟨a1, r1, w1⟩ := dec_int h1 _ _ _ t1
  obtain ⟨a2, r2, w2⟩ := dec_int h2 _ _ _ t2
  obtain ⟨a3, r3, w3⟩ := dec_int h3 _ _ _ t3
  have b2 : 0 ≤ a2 ∧ a2 ≤ 18446744073709551615 := bounds_u64 r2
  refine ⟨a0, a1, a2, a3, ?_, b2⟩
  match cs, hl with
  | [d0, d1, d2, d3], _ =>
    simp at e0 e1 e2 e3 w0 w1 w2 w3
    subst e0 e1 e2 e3 w0 w1 w2 w3
    rfl
theorem dec_client {t : TypeId} {f0 f1 f2 f3 : Field} (hs : P.underlying t = some (.struct #[f0, f1, f2, f3])) (hone : Go.Deep.oneCellFields P #[f0, f1, f2, f3] = true) (hC : P.cellsOf t = 4)
    (h0 : P.underlying f0.type = some (.int .i64)) (h1 : P.underlying f1.type = some (.int .i64)) (h2 : P.underlying f2.type = some (.int .u64)) (h3 : P.underlying f3.type = some (.int .i64))
    (n : Nat) (cs : List Value) (x : DataW H × List MemPlace) (h : DataW.trod enc P w base (fun _ => true) held n t cs = some x) : ∃ a : Cl, a.wf ∧ cs = a.cells := by
  obtain ⟨a, b, c, d, e, hb⟩ := dec_client0 hs hone hC h0 h1 h2 h3 n cs x h
  exact ⟨⟨a, b, c, d⟩, hb, e⟩
end
end Go.Proofs.YtlabpgdimhbocaaGreat
