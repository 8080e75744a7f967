/- A sample of a list: the contract of state.Get. Condition: the list's length is at most 2^62. -/
import Derived.Test.YtbhfokfdijnhhaaTell
namespace Go.Proofs.Ytbhfokfdijnhhaa
set_option linter.unusedVariables false
set_option linter.unusedSimpArgs false
open Go.ChangeShapes Go.WideShapes Go.ChangeAt Go.RowKit

set_option maxHeartbeats 3200000 in
set_option maxRecDepth 100000 in
theorem get_any (A : Option Addr) (c : Nat) (L : List It) (s t : Int) (w : World) (hL : ItemsAt w A L) (hn : L.length ≤ 4611686018427387904) :
    Calls Try.prog 18 #[.slice A L.length c, .int .i64 s, .int .u64 t] w fun e w' => e = .returned (.tuple #[(getL s t L).val, .bool (hasL s t L)]) ∧ Below w.heap.size w w' := by
  have HL := hide hL
  clear hL
  go_enter Try.func18, Try.ntmps18
  go_wp2_with fail
  go_loopw [12] (fun i wr => ∃ k : Nat, i = .int .i64 k ∧ k ≤ L.length ∧ Below (w.alloc (.cells #[.int .i64 0, .int .i64 0, .int .u64 0, .int .u64 0, .int .i64 0] 31)).heap.size (w.alloc (.cells #[.int .i64 0, .int .i64 0, .int .u64 0, .int .u64 0, .int .i64 0] 31)) wr ∧ NoneP (getP s t) L k) (fun i _ => L.length - (intOf i).toNat)
  case atStart => exact ⟨0, rfl, by omega, Below.refl _ _, fun j hj => absurd hj (by omega)⟩
  case round =>
    obtain ⟨k, rfl, hk, hb0, hno⟩ := hrel
    have hb : Below w.heap.size w wr := ((Below.refl _ _).alloc (Nat.le_refl _) _).trans (hb0.mono (by simp))
    have hres := (hb0.block w.heap.size (by simp)).trans (heap_alloc_new w _)
    have hwl : w.heap.size < wr.heap.size := (Array.getElem?_eq_some_iff.1 hres).1
    have HRES := hide hres
    have HB := hide hb
    have HB0 := hide hb0
    clear hb hb0 hres
    by_cases hlt : k < L.length
    · obtain ⟨bl, off, rfl, hbb, y0, y1, y2, y3, y4⟩ := ItemsAt.item HL.out HB.out hlt
      have hbl : bl < wr.heap.size := Nat.lt_of_lt_of_le hbb HB.out.size
      have HN0 := hide (fun h => noneP_on hlt hno h)
      have HH0 := hide (fun h => find_hit hlt hno h)
      clear hno
      generalize L[k] = y at *
      by_cases hs : y.s = s
      case neg =>
        have HN := hide (HN0.out (decide_eq_false (by omega)))
        have bs : (y.s == s) = false := beq_eq_false_iff_ne.2 hs
        go_wp2_with fail
        go_roundw
        case rel => exact ⟨k + 1, by go_num, by omega, below_alloc HB0.out _, HN.out⟩
        case measure => simp [intOf]; omega
      by_cases hk : y.k = 2
      case neg =>
        have HN := hide (HN0.out (decide_eq_false (by omega)))
        have bs : (y.s == s) = true := beq_iff_eq.2 hs
        have bk : (y.k == 2) = false := beq_eq_false_iff_ne.2 hk
        clear hs
        go_wp2_with fail
        go_roundw
        case rel => exact ⟨k + 1, by go_num, by omega, below_alloc HB0.out _, HN.out⟩
        case measure => simp [intOf]; omega
      by_cases ht : y.t = t
      case neg =>
        have HN := hide (HN0.out (decide_eq_false (by omega)))
        have bs : (y.s == s) = true := beq_iff_eq.2 hs
        have bk : (y.k == 2) = true := beq_iff_eq.2 hk
        have bt : (y.t == t) = false := beq_eq_false_iff_ne.2 ht
        clear hs
        clear hk
        go_wp2_with fail
        go_roundw
        case rel => exact ⟨k + 1, by go_num, by omega, below_alloc HB0.out _, HN.out⟩
        case measure => simp [intOf]; omega
      have HY := hide (HH0.out (decide_eq_true ⟨hs, hk, ht⟩))
      have bs : (y.s == s) = true := beq_iff_eq.2 hs
      have bk : (y.k == 2) = true := beq_iff_eq.2 hk
      have bt : (y.t == t) = true := beq_iff_eq.2 ht
      clear hs
      clear hk
      clear ht
      have HV : Hid (getL s t L = y ∧ hasL s t L = true) := hide (by unfold getL hasL; rw [HY.out]; exact ⟨rfl, rfl⟩)
      have hrr := (Below.heap_alloc _ (.cells #[.int .i64 y.s, .int .i64 y.k, .int .u64 y.t, .int .u64 y.v, .int .i64 y.x] 31) w.heap.size (by simpa [World.setCell] using hwl)).trans (put_res y HRES.out)
      obtain ⟨r0, r1, r2, r3, r4⟩ := box_item hrr
      have q0 := (cell_of_row _ w.heap.size 0 _ _ _ HRES.out).trans rfl
      have q1 := (cell_of_row _ w.heap.size 1 _ _ _ HRES.out).trans rfl
      have q2 := (cell_of_row _ w.heap.size 2 _ _ _ HRES.out).trans rfl
      have q3 := (cell_of_row _ w.heap.size 3 _ _ _ HRES.out).trans rfl
      have q4 := (cell_of_row _ w.heap.size 4 _ _ _ HRES.out).trans rfl
      have qf : ∀ o, wr.frozen? ⟨w.heap.size, o, none⟩ = false := fun o => by simp [World.frozen?, HRES.out]
      clear hrr
      have R0 := hide r0; have R1 := hide r1; have R2 := hide r2; have R3 := hide r3; have R4 := hide r4
      clear r0 r1 r2 r3 r4
      go_wp2_with fail
      refine bodyPost_ret (v := .tuple #[y.val, .bool true]) (by simp [results, Try.results18, go_sem, R0.out, R1.out, R2.out, R3.out, R4.out]) rfl ?_
      have hb1 := HB.out
      exact ⟨by rw [HV.out.1, HV.out.2], below_alloc (((((hb1.setCell (Nat.le_refl _) _).setCell (Nat.le_refl _) _).setCell (Nat.le_refl _) _).setCell (Nat.le_refl _) _).setCell (Nat.le_refl _) _) _⟩
    · have HV : Hid (getL s t L = ⟨0, 0, 0, 0, 0⟩ ∧ hasL s t L = false) := hide (by unfold getL hasL; rw [find_miss (by omega) hno]; exact ⟨rfl, rfl⟩)
      obtain ⟨r0, r1, r2, r3, r4⟩ := box_item (put_res ⟨0, 0, 0, 0, 0⟩ HRES.out)
      have q0 := (cell_of_row _ w.heap.size 0 _ _ _ HRES.out).trans rfl
      have q1 := (cell_of_row _ w.heap.size 1 _ _ _ HRES.out).trans rfl
      have q2 := (cell_of_row _ w.heap.size 2 _ _ _ HRES.out).trans rfl
      have q3 := (cell_of_row _ w.heap.size 3 _ _ _ HRES.out).trans rfl
      have q4 := (cell_of_row _ w.heap.size 4 _ _ _ HRES.out).trans rfl
      have qf : ∀ o, wr.frozen? ⟨w.heap.size, o, none⟩ = false := fun o => by simp [World.frozen?, HRES.out]
      have R0 := hide r0; have R1 := hide r1; have R2 := hide r2; have R3 := hide r3; have R4 := hide r4
      clear r0 r1 r2 r3 r4
      go_wp2_with fail
      refine bodyPost_ret (v := .tuple #[It.val ⟨0, 0, 0, 0, 0⟩, .bool false]) (by simp [results, Try.results18, go_sem, R0.out, R1.out, R2.out, R3.out, R4.out]) rfl ?_
      have hb1 := HB.out
      exact ⟨by rw [HV.out.1, HV.out.2], ((((hb1.setCell (Nat.le_refl _) _).setCell (Nat.le_refl _) _).setCell (Nat.le_refl _) _).setCell (Nat.le_refl _) _).setCell (Nat.le_refl _) _⟩
end Go.Proofs.Ytbhfokfdijnhhaa
