/- Answers, and which item each stands for: coord.Item, axiom.Item, contracts. No conditions. -/
import Derived.Test.YtebnifpclebliaaTell
import Derived.Test.YtebnifpclebliaaCoordNew
import Derived.Test.YtebnifpclebliaaItem
namespace Go.Proofs.Ytebnifpclebliaa
set_option linter.unusedVariables false
set_option linter.unusedSimpArgs false
open Go.ChangeShapes Go.WideShapes Go.ChangeAt Go.RowKit

theorem Try.infoAns : (Try.prog.info? 41).map (fun i => (i.zero, i.size, i.bytes)) = some (some (.agg #[.int .u64 0, .int .i64 0, .int .i64 0, .int .u64 0, .int .i64 0, .int .i64 0, .int .u64 0, .slice none 0 0]), 8, 80) := by kernel_rfl
/-- An answer: its number, its call (kind, series, time, value), its error, its version; its items as a value. -/
structure An where
  id : Int
  k : Int
  s : Int
  t : Int
  x : Int
  e : Int
  v : Int
  la : Option Addr
  ln : Nat
  lc : Nat
def An.cells (a : An) : List Value := [.int .u64 a.id, .int .i64 a.k, .int .i64 a.s, .int .u64 a.t, .int .i64 a.x, .int .i64 a.e, .int .u64 a.v, .slice a.la a.ln a.lc]
abbrev An.val (a : An) : Value := .agg #[.int .u64 a.id, .int .i64 a.k, .int .i64 a.s, .int .u64 a.t, .int .i64 a.x, .int .i64 a.e, .int .u64 a.v, .slice a.la a.ln a.lc]
/-- What a put or a delete writes. -/
def itC (k s t x v : Int) : It := if k = 2 then ⟨s, 1, 0, v, 0⟩ else ⟨s, 2, t, v, x⟩
def itB (a : An) : Bool := clientB a.k a.s a.t a.x && !decide (a.k = 3) && goodB (itC a.k a.s a.t a.x a.v)
def itO (a : An) : Option It := if itB a then some (itC a.k a.s a.t a.x a.v) else none
def itV (a : An) : It := if itB a then itC a.k a.s a.t a.x a.v else ⟨0, 0, 0, 0, 0⟩

set_option maxHeartbeats 1600000 in
theorem citem_any (k s t x v : Int) (w : World) : Calls Try.prog 27 #[client4 k s t x, .int .u64 v] w fun e w' => e = .returned (itC k s t x v).val ∧ Below w.heap.size w w' := by
  by_cases hk : k = 2
  · have hx : Hid (itC k s t x v = ⟨s, 1, 0, v, 0⟩) := hide (if_pos hk)
    have bk : (k == 2) = true := by simp [hk]
    clear hk
    go_enter Try.func27, Try.ntmps27
    go_wp2_with fail
    refine bodyPost_ret (v := It.val ⟨s, 1, 0, v, 0⟩) (by simp [results, Try.results27, go_sem, It.val]) rfl ?_
    exact ⟨by rw [hx.out], below_alloc (below_alloc (Below.refl _ _) _) _⟩
  · have hx : Hid (itC k s t x v = ⟨s, 2, t, v, x⟩) := hide (if_neg hk)
    have bk : (k == 2) = false := by simp [hk]
    go_enter Try.func27, Try.ntmps27
    go_wp2_with fail
    refine bodyPost_ret (v := It.val ⟨s, 2, t, v, x⟩) (by simp [results, Try.results27, go_sem, It.val]) rfl ?_
    exact ⟨by rw [hx.out], below_alloc (below_alloc (Below.refl _ _) _) _⟩

/-- An answer in memory, its cells from (b, o) on. -/
structure AnAt (w : World) (b o : Nat) (a : An) : Prop where
  lt : b < w.heap.size
  c0 : w.cell? ⟨b, o, none⟩ = some (.int .u64 a.id)
  c1 : w.cell? ⟨b, o + 1, none⟩ = some (.int .i64 a.k)
  c2 : w.cell? ⟨b, o + 2, none⟩ = some (.int .i64 a.s)
  c3 : w.cell? ⟨b, o + 3, none⟩ = some (.int .u64 a.t)
  c4 : w.cell? ⟨b, o + 4, none⟩ = some (.int .i64 a.x)
  c5 : w.cell? ⟨b, o + 5, none⟩ = some (.int .i64 a.e)
  c6 : w.cell? ⟨b, o + 6, none⟩ = some (.int .u64 a.v)
  c7 : w.cell? ⟨b, o + 7, none⟩ = some (.slice a.la a.ln a.lc)
theorem AnAt.below {w w' : World} {b o : Nat} {a : An} (h : AnAt w b o a) (hb : Below w.heap.size w w') : AnAt w' b o a :=
  ⟨Nat.lt_of_lt_of_le h.lt hb.size, (hb.cell (p := ⟨b, _, none⟩) h.lt).trans h.c0, (hb.cell (p := ⟨b, _, none⟩) h.lt).trans h.c1, (hb.cell (p := ⟨b, _, none⟩) h.lt).trans h.c2, (hb.cell (p := ⟨b, _, none⟩) h.lt).trans h.c3,
   (hb.cell (p := ⟨b, _, none⟩) h.lt).trans h.c4, (hb.cell (p := ⟨b, _, none⟩) h.lt).trans h.c5, (hb.cell (p := ⟨b, _, none⟩) h.lt).trans h.c6, (hb.cell (p := ⟨b, _, none⟩) h.lt).trans h.c7⟩
theorem AnAt.box {w : World} {g : Nat} {a : An} {t : TypeId} {fr : Nat × Nat} (h : w.heap[g]? = some (.cells #[.int .u64 a.id, .int .i64 a.k, .int .i64 a.s, .int .u64 a.t, .int .i64 a.x, .int .i64 a.e, .int .u64 a.v, .slice a.la a.ln a.lc] t fr)) : AnAt w g 0 a :=
  ⟨(Array.getElem?_eq_some_iff.1 h).1, (cell_of_row w g 0 _ _ _ h).trans rfl, (cell_of_row w g 1 _ _ _ h).trans rfl, (cell_of_row w g 2 _ _ _ h).trans rfl, (cell_of_row w g 3 _ _ _ h).trans rfl,
   (cell_of_row w g 4 _ _ _ h).trans rfl, (cell_of_row w g 5 _ _ _ h).trans rfl, (cell_of_row w g 6 _ _ _ h).trans rfl, (cell_of_row w g 7 _ _ _ h).trans rfl⟩

/-- A fresh result's block: five zeros, that may be written. -/
structure Zer (w : World) (g : Nat) : Prop where
  row : w.heap[g]? = some (.cells #[.int .i64 0, .int .i64 0, .int .u64 0, .int .u64 0, .int .i64 0] 32 (0, 0))
theorem Zer.below {w w' : World} {g : Nat} (h : Zer w g) (hb : Below w.heap.size w w') : Zer w' g := ⟨(hb.block g (Array.getElem?_eq_some_iff.1 h.row).1).trans h.row⟩
theorem Zer.cells {w : World} {g : Nat} (h : Zer w g) : g < w.heap.size ∧ w.cell? ⟨g, 0, none⟩ = some (.int .i64 0) ∧ w.cell? ⟨g, 1, none⟩ = some (.int .i64 0) ∧ w.cell? ⟨g, 2, none⟩ = some (.int .u64 0) ∧ w.cell? ⟨g, 3, none⟩ = some (.int .u64 0) ∧ w.cell? ⟨g, 4, none⟩ = some (.int .i64 0) ∧ ∀ o, w.frozen? ⟨g, o, none⟩ = false :=
  ⟨(Array.getElem?_eq_some_iff.1 h.row).1, (cell_of_row w g 0 _ _ _ h.row).trans rfl, (cell_of_row w g 1 _ _ _ h.row).trans rfl, (cell_of_row w g 2 _ _ _ h.row).trans rfl, (cell_of_row w g 3 _ _ _ h.row).trans rfl, (cell_of_row w g 4 _ _ _ h.row).trans rfl, fun o => by simp [World.frozen?, h.row]⟩
/-- An item in memory at the head of a block. -/
structure ItAt (w : World) (g : Nat) (x : It) : Prop where
  lt : g < w.heap.size
  c0 : w.cell? ⟨g, 0, none⟩ = some (.int .i64 x.s)
  c1 : w.cell? ⟨g, 1, none⟩ = some (.int .i64 x.k)
  c2 : w.cell? ⟨g, 2, none⟩ = some (.int .u64 x.t)
  c3 : w.cell? ⟨g, 3, none⟩ = some (.int .u64 x.v)
  c4 : w.cell? ⟨g, 4, none⟩ = some (.int .i64 x.x)
theorem ItAt.below {w w' : World} {b : Nat} {a : It} (h : ItAt w b a) (hb : Below w.heap.size w w') : ItAt w' b a :=
  ⟨Nat.lt_of_lt_of_le h.lt hb.size, (hb.cell (p := ⟨b, _, none⟩) h.lt).trans h.c0, (hb.cell (p := ⟨b, _, none⟩) h.lt).trans h.c1, (hb.cell (p := ⟨b, _, none⟩) h.lt).trans h.c2, (hb.cell (p := ⟨b, _, none⟩) h.lt).trans h.c3,
   (hb.cell (p := ⟨b, _, none⟩) h.lt).trans h.c4⟩
theorem ItAt.box {w : World} {g : Nat} {x : It} {t : TypeId} {fr : Nat × Nat} (h : w.heap[g]? = some (.cells #[.int .i64 x.s, .int .i64 x.k, .int .u64 x.t, .int .u64 x.v, .int .i64 x.x] t fr)) : ItAt w g x :=
  ⟨(Array.getElem?_eq_some_iff.1 h).1, (cell_of_row w g 0 _ _ _ h).trans rfl, (cell_of_row w g 1 _ _ _ h).trans rfl, (cell_of_row w g 2 _ _ _ h).trans rfl, (cell_of_row w g 3 _ _ _ h).trans rfl, (cell_of_row w g 4 _ _ _ h).trans rfl⟩
set_option maxHeartbeats 3200000 in
set_option maxRecDepth 100000 in
theorem aitem_any (a : An) (w : World) : Calls Try.prog 12 #[a.val] w fun e w' => e = .returned (.tuple #[(itV a).val, .bool (itB a)]) ∧ Below w.heap.size w w' := by
  obtain ⟨a0, k, s, t, x, a5, v, la, ln, lc⟩ := a
  obtain ⟨X, hX⟩ : ∃ X, itC k s t x v = X := ⟨_, rfl⟩
  have hB : itB ⟨a0, k, s, t, x, a5, v, la, ln, lc⟩ = (clientB k s t x && !decide (k = 3) && goodB X) := by unfold itB; rw [hX]
  have hV : itV ⟨a0, k, s, t, x, a5, v, la, ln, lc⟩ = if (clientB k s t x && !decide (k = 3) && goodB X) = true then X else ⟨0, 0, 0, 0, 0⟩ := by unfold itV; rw [hB, hX]
  obtain ⟨B, hBB⟩ : ∃ B, (clientB k s t x && !decide (k = 3) && goodB X) = B := ⟨_, rfl⟩
  rw [hBB] at hB hV
  obtain ⟨R, hR⟩ : ∃ R : It, (if B = true then X else ⟨0, 0, 0, 0, 0⟩) = R := ⟨_, rfl⟩
  rw [hR] at hV
  rw [hB, hV]
  have HE := hide (And.intro hBB hR)
  clear hBB hR
  have HC := hide (fun W => citem_any k s t x v W)
  rw [hX] at HC
  have HO := hide (fun W => ok_any k s t x W)
  have HG := hide (fun W => pgood_any X W)
  clear hB hV hX
  go_enter Try.func12, Try.ntmps12
  go_wp2_with fail
  refine (Calls.mono (HC.out _) ?_); rintro e w1 ⟨rfl, hg1⟩
  have A1 : Hid (AnAt w1 w.heap.size 0 ⟨a0, k, s, t, x, a5, v, la, ln, lc⟩) := hide ((AnAt.box (t := 41) ((Below.heap_alloc _ _ _ (by simp)).trans (heap_alloc_new w _))).below hg1)
  have Z1 : Hid (Zer w1 (w.heap.size + 1)) := hide ((Zer.mk (heap_at (by simp))).below hg1)
  have hz1 : w.heap.size + 1 + 1 ≤ w1.heap.size := by have := hg1.size; simp at this; omega
  have HB1 := hide (below_step (below_alloc (below_alloc (Below.refl w.heap.size w) _) _) hg1)
  clear hg1
  obtain ⟨lt0, q0, q1, q2, q3, q4, q5, q6, q7⟩ := A1.out
  clear q0 q5 q6 q7
  go_wp2_with fail
  refine (Calls.mono (HO.out _) ?_); rintro e w2 ⟨rfl, hg2⟩
  have hba : Below w1.heap.size w1 (w1.alloc (.cells #[.int .i64 X.s, .int .i64 X.k, .int .u64 X.t, .int .u64 X.v, .int .i64 X.x] 32)) := below_alloc (Below.refl _ _) _
  have A2 := hide ((A1.out.below hba).below hg2)
  have Z2 := hide ((Z1.out.below hba).below hg2)
  have X2 : Hid (ItAt w2 w1.heap.size X) := hide ((ItAt.box (t := 32) (heap_alloc_new w1 _)).below hg2)
  have HB2 := hide (below_step (below_step HB1.out hba) hg2)
  have hz2 : w1.heap.size + 1 ≤ w2.heap.size := by have := hg2.size; simp at this; omega
  clear hg2 hba A1 Z1 HB1 lt0 q1 q2 q3 q4 HC HO
  generalize w1.heap.size = x1 at *
  obtain ⟨lt0, q0, q1, q2, q3, q4, q5, q6, q7⟩ := A2.out
  clear q0 q2 q3 q4 q5 q6 q7
  cases hc : clientB k s t x
  · have hBf : B = false := by rw [← HE.out.1, hc]; rfl
    have HFF : Hid (B = false ∧ R = ⟨0, 0, 0, 0, 0⟩) := hide ⟨hBf, by rw [← HE.out.2, hBf]; rfl⟩
    clear hBf
    obtain ⟨zl, z0, z1, z2, z3, z4, zf⟩ := Zer.cells Z2.out
    obtain ⟨r0, r1, r2, r3, r4⟩ := box_item (put_res ⟨0, 0, 0, 0, 0⟩ Z2.out.row)
    have R0 := hide r0; have R1 := hide r1; have R2 := hide r2; have R3 := hide r3; have R4 := hide r4
    clear r0 r1 r2 r3 r4
    go_wp2_with fail
    refine bodyPost_ret (v := .tuple #[It.val ⟨0, 0, 0, 0, 0⟩, .bool false]) (by simp [results, Try.results12, go_sem, R0.out, R1.out, R2.out, R3.out, R4.out]) rfl ?_
    have hb1 := HB2.out
    have hgz : w.heap.size ≤ w.heap.size + 1 := by omega
    exact ⟨by rw [HFF.out.1, HFF.out.2], ((((hb1.setCell hgz _).setCell hgz _).setCell hgz _).setCell hgz _).setCell hgz _⟩
  by_cases hk : k = 3
  · have bk : (k == 3) = true := by simp [hk]
    have hd : decide (k = 3) = true := decide_eq_true hk
    have hBf : B = false := by rw [← HE.out.1, hc, hd]; rfl
    have HFF : Hid (B = false ∧ R = ⟨0, 0, 0, 0, 0⟩) := hide ⟨hBf, by rw [← HE.out.2, hBf]; rfl⟩
    clear hk hd hBf
    obtain ⟨zl, z0, z1, z2, z3, z4, zf⟩ := Zer.cells Z2.out
    obtain ⟨r0, r1, r2, r3, r4⟩ := box_item (put_res ⟨0, 0, 0, 0, 0⟩ Z2.out.row)
    have R0 := hide r0; have R1 := hide r1; have R2 := hide r2; have R3 := hide r3; have R4 := hide r4
    clear r0 r1 r2 r3 r4
    go_wp2_with fail
    refine bodyPost_ret (v := .tuple #[It.val ⟨0, 0, 0, 0, 0⟩, .bool false]) (by simp [results, Try.results12, go_sem, R0.out, R1.out, R2.out, R3.out, R4.out]) rfl ?_
    have hb1 := HB2.out
    have hgz : w.heap.size ≤ w.heap.size + 1 := by omega
    exact ⟨by rw [HFF.out.1, HFF.out.2], ((((hb1.setCell hgz _).setCell hgz _).setCell hgz _).setCell hgz _).setCell hgz _⟩
  have bk : (k == 3) = false := by simp [hk]
  have hd : decide (k = 3) = false := decide_eq_false hk
  have HE2 : Hid (B = goodB X) := hide (by rw [← HE.out.1, hc, hd]; rfl)
  clear hk hd
  obtain ⟨xl, x0, x1', x2', x3', x4'⟩ := X2.out
  go_wp2_with fail
  refine (Calls.mono (HG.out _) ?_); rintro e w3 ⟨rfl, hg3⟩
  have Z3 := hide (Z2.out.below hg3)
  have X3 := hide (X2.out.below hg3)
  have HB3 := hide (below_step HB2.out hg3)
  have hz3 := hg3.size
  clear hg3 A2 Z2 X2 HB2 lt0 q1 xl x0 x1' x2' x3' x4' HG
  cases hg : goodB X
  · have hBf : B = false := by rw [HE2.out, hg]
    have HFF : Hid (B = false ∧ R = ⟨0, 0, 0, 0, 0⟩) := hide ⟨hBf, by rw [← HE.out.2, hBf]; rfl⟩
    clear hBf
    obtain ⟨zl, z0, z1, z2, z3, z4, zf⟩ := Zer.cells Z3.out
    obtain ⟨r0, r1, r2, r3, r4⟩ := box_item (put_res ⟨0, 0, 0, 0, 0⟩ Z3.out.row)
    have R0 := hide r0; have R1 := hide r1; have R2 := hide r2; have R3 := hide r3; have R4 := hide r4
    clear r0 r1 r2 r3 r4
    go_wp2_with fail
    refine bodyPost_ret (v := .tuple #[It.val ⟨0, 0, 0, 0, 0⟩, .bool false]) (by simp [results, Try.results12, go_sem, R0.out, R1.out, R2.out, R3.out, R4.out]) rfl ?_
    have hb1 := HB3.out
    have hgz : w.heap.size ≤ w.heap.size + 1 := by omega
    exact ⟨by rw [HFF.out.1, HFF.out.2], ((((hb1.setCell hgz _).setCell hgz _).setCell hgz _).setCell hgz _).setCell hgz _⟩
  · have hBf : B = true := by rw [HE2.out, hg]
    have HFF : Hid (B = true ∧ R = X) := hide ⟨hBf, by rw [← HE.out.2, hBf]; rfl⟩
    clear hBf
    obtain ⟨xl, x0, x1', x2', x3', x4'⟩ := X3.out
    obtain ⟨zl, z0, z1, z2, z3, z4, zf⟩ := Zer.cells Z3.out
    obtain ⟨r0, r1, r2, r3, r4⟩ := box_item (put_res X Z3.out.row)
    have R0 := hide r0; have R1 := hide r1; have R2 := hide r2; have R3 := hide r3; have R4 := hide r4
    clear r0 r1 r2 r3 r4
    go_wp2_with fail
    refine bodyPost_ret (v := .tuple #[It.val X, .bool true]) (by simp [results, Try.results12, go_sem, R0.out, R1.out, R2.out, R3.out, R4.out]) rfl ?_
    have hb1 := HB3.out
    have hgz : w.heap.size ≤ w.heap.size + 1 := by omega
    exact ⟨by rw [HFF.out.1, HFF.out.2], ((((hb1.setCell hgz _).setCell hgz _).setCell hgz _).setCell hgz _).setCell hgz _⟩

theorem it_one {k s t x v : Int} (a0 a5 : Int) (la : Option Addr) (ln lc : Nat) (hk : k = 1) : itB ⟨a0, k, s, t, x, a5, v, la, ln, lc⟩ = goodB ⟨s, 2, t, v, x⟩ ∧ itV ⟨a0, k, s, t, x, a5, v, la, ln, lc⟩ = if goodB ⟨s, 2, t, v, x⟩ = true then ⟨s, 2, t, v, x⟩ else ⟨0, 0, 0, 0, 0⟩ := by
  have e : itC k s t x v = ⟨s, 2, t, v, x⟩ := if_neg (by omega)
  have h : itB ⟨a0, k, s, t, x, a5, v, la, ln, lc⟩ = goodB ⟨s, 2, t, v, x⟩ := by
    unfold itB
    simp only [e]
    unfold clientB goodB
    by_cases hg : It.good ⟨s, 2, t, v, x⟩
    · rw [decide_eq_true hg]
      dsimp only [It.good] at hg
      rw [decide_eq_true (by omega), decide_eq_false (by omega)]
      rfl
    · rw [decide_eq_false hg, Bool.and_false]
  exact ⟨h, by unfold itV; rw [h]; simp only [e]⟩
theorem it_two {k s t x v : Int} (a0 a5 : Int) (la : Option Addr) (ln lc : Nat) (hk : k = 2) : itB ⟨a0, k, s, t, x, a5, v, la, ln, lc⟩ = (goodB ⟨s, 1, 0, v, 0⟩ && decide (t = 0) && decide (x = 0)) ∧ itV ⟨a0, k, s, t, x, a5, v, la, ln, lc⟩ = if (goodB ⟨s, 1, 0, v, 0⟩ && decide (t = 0) && decide (x = 0)) = true then ⟨s, 1, 0, v, 0⟩ else ⟨0, 0, 0, 0, 0⟩ := by
  have e : itC k s t x v = ⟨s, 1, 0, v, 0⟩ := if_pos hk
  have h : itB ⟨a0, k, s, t, x, a5, v, la, ln, lc⟩ = (goodB ⟨s, 1, 0, v, 0⟩ && decide (t = 0) && decide (x = 0)) := by
    unfold itB
    simp only [e]
    unfold clientB goodB
    by_cases hg : It.good ⟨s, 1, 0, v, 0⟩
    · rw [decide_eq_true hg]
      dsimp only [It.good] at hg
      have h3 : decide (k = 3) = false := decide_eq_false (by omega)
      rw [h3]
      by_cases ht : t = 0
      · by_cases hx : x = 0
        · rw [decide_eq_true (by omega), decide_eq_true ht, decide_eq_true hx]; rfl
        · rw [decide_eq_false (by omega), decide_eq_true ht, decide_eq_false hx]; rfl
      · rw [decide_eq_false (by omega), decide_eq_false ht]; rfl
    · rw [decide_eq_false hg, Bool.and_false]; rfl
  exact ⟨h, by unfold itV; rw [h]; simp only [e]⟩
theorem it_else {k s t x v : Int} (a0 a5 : Int) (la : Option Addr) (ln lc : Nat) (hk : k ≠ 1) (hk2 : k ≠ 2) : itB ⟨a0, k, s, t, x, a5, v, la, ln, lc⟩ = false ∧ itV ⟨a0, k, s, t, x, a5, v, la, ln, lc⟩ = ⟨0, 0, 0, 0, 0⟩ := by
  have h : itB ⟨a0, k, s, t, x, a5, v, la, ln, lc⟩ = false := by
    unfold itB clientB
    by_cases h3 : k = 3
    · rw [decide_eq_true h3]; simp
    · simp only
      rw [decide_eq_false (by omega)]; rfl
  exact ⟨h, by unfold itV; rw [h]; rfl⟩
theorem al3 (w : World) (o1 o2 o3 : Obj) : (((w.alloc o1).alloc o2).alloc o3).heap[w.heap.size]? = some o1 ∧ (((w.alloc o1).alloc o2).alloc o3).heap[w.heap.size + 1]? = some o2 ∧ (((w.alloc o1).alloc o2).alloc o3).heap[w.heap.size + 2]? = some o3 ∧ Below w.heap.size w (((w.alloc o1).alloc o2).alloc o3) :=
  ⟨(Below.heap_alloc _ _ _ (by simp; omega)).trans ((Below.heap_alloc _ _ _ (by simp)).trans (heap_alloc_new w _)), (Below.heap_alloc _ _ _ (by simp)).trans (heap_at (by simp)), heap_at (by simp), below_alloc (below_alloc (below_alloc (Below.refl _ _) _) _) _⟩
end Go.Proofs.Ytebnifpclebliaa
