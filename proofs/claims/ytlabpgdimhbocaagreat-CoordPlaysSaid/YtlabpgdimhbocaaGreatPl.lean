/- The place of an item in a rising list: contracts of slices.Clip, slices.BinarySearchFunc, package state's own, place, tomb, hidden. Conditions: the lengths' bounds and that the list rises, typed at each. -/
import Derived.Test.YtlabpgdimhbocaaGreatOg
import Derived.Test.YtlabpgdimhbocaaGreatItem
import Derived.IntWalk
namespace Go.Proofs.YtlabpgdimhbocaaGreat
set_option linter.unusedVariables false
set_option linter.unusedSimpArgs false
open Go.ChangeShapes Go.WideShapes Go.ChangeAt Go.RowKit

theorem clip_any (A : Option Addr) (n c : Nat) (w : World) (h : n ≤ c) (hc : c ≤ maxLen) : Calls Tryz.prog 69 #[.slice A n c] w fun e w' => e = .returned (.slice A n n) ∧ w = w' := by
  unfold maxLen at hc
  go_enter Tryz.func69, Tryz.ntmps69
  go_wp2_with fail
  go_ret
  exact ⟨rfl, rfl⟩

theorem RowAt.none_nil {w : World} {M : List It} (h : ItemsAt w none M) : M = [] := by
  cases M with
  | nil => rfl
  | cons a M => obtain ⟨b, off, e, _⟩ := h (by simp); cases e

set_option maxHeartbeats 400000 in
theorem own_any (A : Option Addr) (c : Nat) (L : List It) (w : World) (hL : ItemsAt w A L) (hn : L.length ≤ 2199023255552) : Calls Tryz.prog 65 #[.slice A L.length c] w (RetOw L w) := by
  have HL := hide hL
  have HN := hide (fun h : A = none => RowAt.none_nil (by rw [h] at hL; exact hL))
  clear hL
  obtain ⟨i0, hi, hz0, hz1, hz2⟩ := info_parts Tryz.infoItem
  go_enter Tryz.func65, Tryz.ntmps65
  go_wp2_with (at_builtin; refine wpList_append_row _ rfl (.const (.slice none 0 0)) (.tmp 3) 37 rfl w.heap.size 78 i0 _ 5 40 Tryz.underlying37 hi hz0 hz1 hz2 rfl (by omega) It.cells_len (.slice none 0 0) [] rfl (OwnL.nil_ _ _ _ _ _) A c L rfl HL.out HN.out (fun m _ => It.cells_one m) (by simp only [List.length_nil, maxLen]; omega) (by simp only [List.length_nil]; omega) (Nat.le_refl _) ?_; intro v1 w1 hown1 hg1 _)
  go_ret
  refine ⟨_, rfl, by rw [List.nil_append] at hown1; exact hown1, (Below.refl _ _).grown hg1 (Nat.le_refl _) (fun k hk => by simp [Value.ownBlock] at hk)⟩

set_option maxHeartbeats 400000 in
theorem cmp_any (y x : It) (w : World) : Calls Tryz.prog 94 #[y.val, x.val] w fun e w' => e = .returned (.int .i64 (if ltB y x then -1 else 1)) ∧ Below w.heap.size w w' := by
  cases hl : ltB y x
  all_goals
    go_enter Tryz.func94, Tryz.ntmps94
    go_wp2_with fail
    refine (Calls.mono (pless_any y x _) ?_); rintro e w1 ⟨rfl, hg1⟩
    rw [hl]
    go_wp2_with fail
    go_ret
    exact ⟨rfl, below_step (below_alloc (below_alloc (Below.refl _ _) _) _) hg1⟩

/-- A comparison that tells, of every item, whether it stands ahead of x. -/
def Asks (F : FuncId) (x : It) : Prop := ∀ (y : It) (w : World), Calls Tryz.prog F #[y.val, x.val] w fun e w' => e = .returned (.int .i64 (if ltB y x then -1 else 1)) ∧ Below w.heap.size w w'
set_option maxHeartbeats 1600000 in
theorem bsf_any (F : FuncId) (hcf : Enters Tryz.prog F) (x : It) (A : Option Addr) (c : Nat) (L : List It) (w : World) (hL : ItemsAt w A L) (hn : L.length ≤ 4611686018427387904) (hr : Rising L) (hF : Asks F x) :
    Calls Tryz.prog 93 #[.slice A L.length c, x.val, .func (.func F) #[] #[]] w fun e w' => e = .returned (.tuple #[.int .i64 (lowI x L), .bool false]) ∧ Below w.heap.size w w' := by
  have HL := hide hL
  have HR := hide hr
  unfold Enters at hcf
  clear hL hr
  have hll := low_le x L
  go_enter Tryz.func93, Tryz.ntmps93
  go_wp2_with fail
  go_loopw [9, 10] (fun a b wr => ∃ i j : Nat, a = .int .i64 i ∧ b = .int .i64 j ∧ i ≤ lowI x L ∧ lowI x L ≤ j ∧ j ≤ L.length ∧ Below (w.alloc (.cells x.cells.toArray 78)).heap.size (w.alloc (.cells x.cells.toArray 78)) wr) (fun a b _ => (intOf b).toNat - (intOf a).toNat)
  case atStart => exact ⟨0, L.length, rfl, rfl, by omega, hll, by omega, Below.refl _ _⟩
  case round =>
    obtain ⟨i, j, rfl, rfl, hi, hj, hjl, hb⟩ := hrel
    have hbw : Below w.heap.size w wr := ((Below.refl _ _).alloc (Nat.le_refl _) _).trans (hb.mono (by simp))
    obtain ⟨x0, x1, x2, x3, x4⟩ := box_item (g := w.heap.size) (x := x) ((hb.block _ (by simp)).trans (heap_alloc_new w _))
    have hsz : w.heap.size < wr.heap.size := by have := hb.size; simp at this; omega
    have HB := hide hb
    have HW := hide hbw
    clear hb hbw
    have hnc := near_cells wr
    by_cases hij : i < j
    · have bij : decide ((i : Int) < (j : Int)) = true := decide_eq_true (by omega)
      go_wp2_with fail
      obtain ⟨h, hh, hih, hhj⟩ : ∃ h : Nat, ((i : Int) + (j : Int)) / 2 = (h : Int) ∧ i ≤ h ∧ h < j := ⟨(i + j) / 2, by omega, by omega, by omega⟩
      rw [hh]
      clear hh
      obtain ⟨bl, off, rfl, hbb, y0, y1, y2, y3, y4⟩ := ItemsAt.item HL.out HW.out (k := h) (by omega)
      have hbl : bl < wr.heap.size := Nat.lt_of_lt_of_le hbb HW.out.size
      have hhL : (h : Int) < (L.length : Int) := by omega
      have H1 := hide (fun hf : ltB (L[h]'(by omega)) x = false => Nat.le_of_not_lt fun hlt => by
        have := low_lt x L h (by omega) hlt
        rw [this] at hf; cases hf)
      have H2 := hide (fun ht : ltB (L[h]'(by omega)) x = true => Nat.lt_of_not_le fun hle => by
        have := low_ge (x := x) (j := h) HR.out (by omega) hle
        rw [this] at ht; cases ht)
      generalize L[h]'(by omega) = y at *
      have hFy := hF y
      cases hl : ltB y x
      all_goals
        rw [hl] at hFy
        refine wp_region_near (by kernel_rfl) (by kernel_rfl) ?_
        repeat (go_big_quiet_step (exact near_of (hFy _)))
        refine wpQuiet_nil ?_
        intro _ hw'
        obtain ⟨s1, rfl⟩ := hw'
        go_wp2_with fail
      · go_roundw
        case rel => exact ⟨i, h, rfl, rfl, hi, H1.out hl, by omega, below_step HB.out s1.is⟩
        case measure => simp [intOf]; omega
      · go_roundw
        case rel => exact ⟨h + 1, j, by go_num, rfl, H2.out hl, hj, hjl, below_step HB.out s1.is⟩
        case measure => simp [intOf]; omega
    · have bij : decide ((i : Int) < (j : Int)) = false := decide_eq_false (by omega)
      obtain rfl : i = lowI x L := by omega
      by_cases hlt : lowI x L < L.length
      · obtain ⟨bl, off, rfl, hbb, y0, y1, y2, y3, y4⟩ := ItemsAt.item HL.out HW.out hlt
        have hbl : bl < wr.heap.size := Nat.lt_of_lt_of_le hbb HW.out.size
        have hFy := hF L[lowI x L]
        generalize L[lowI x L] = y at *
        have HI := hide hlt
        have hhL : (lowI x L : Int) < (L.length : Int) := by omega
        have bL : decide ((lowI x L : Int) < (L.length : Int)) = true := decide_eq_true (by omega)
        generalize hq : lowI x L = q at *
        have HQ := hide hq
        clear hq
        cases hl : ltB y x
        all_goals
          rw [hl] at hFy
          go_wp2_with fail
          refine wp_region_near (by kernel_rfl) (by kernel_rfl) ?_
          repeat (go_big_quiet_step (exact near_of (hFy _)))
          refine wpQuiet_nil ?_
          intro _ hw'
          obtain ⟨s1, rfl⟩ := hw'
          go_wp2_with fail
          go_ret2
          exact ⟨by rw [HQ.out]; rfl, below_step HW.out s1.is⟩
      · have bL : decide ((lowI x L : Int) < (L.length : Int)) = false := decide_eq_false (by omega)
        generalize hq : lowI x L = q at *
        have HQ := hide hq
        clear hq
        go_wp2_with fail
        refine wp_region_near (by kernel_rfl) (by kernel_rfl) ?_
        repeat (go_big_quiet_step (fail))
        refine wpQuiet_nil ?_
        intro _ hw'
        obtain ⟨s1, rfl⟩ := hw'
        go_wp2_with fail
        go_ret2
        exact ⟨by rw [HQ.out]; rfl, below_step HW.out s1.is⟩

theorem asks_cmp (x : It) : Asks 94 x := fun y w => cmp_any y x w
set_option maxHeartbeats 1600000 in
theorem place_any (x : It) (A : Option Addr) (c : Nat) (L : List It) (w : World) (hL : ItemsAt w A L) (hn : L.length ≤ 4611686018427387904) (hr : Rising L) :
    Calls Tryz.prog 78 #[.slice A L.length c, x.val] w fun e w' => e = .returned (.tuple #[.int .i64 (lowI x L), .bool (sameAt x L)]) ∧ Below w.heap.size w w' := by
  have HL := hide hL
  have HR := hide hr
  clear hL hr
  have hcf : Enters Tryz.prog 94 := fun args W => by kernel_rfl
  have HC := hide hcf
  clear hcf
  have hbox : Below w.heap.size w (w.alloc (.cells x.cells.toArray 78)) := below_alloc (Below.refl _ _) _
  have HB := hide hbox
  clear hbox
  go_enter Tryz.func78, Tryz.ntmps78
  go_wp2_with fail
  refine (Calls.mono (bsf_any 94 HC.out x A c L _ (HL.out.below HB.out) hn HR.out (asks_cmp x)) ?_); rintro e w1 ⟨rfl, hg1⟩
  obtain ⟨x0, x1, x2, x3, x4⟩ := box_item (g := w.heap.size) (x := x) ((hg1.block _ (by simp)).trans (heap_alloc_new w _))
  have hsz : w.heap.size < w1.heap.size := by have := hg1.size; simp at this; omega
  have HW := hide (below_step HB.out hg1)
  clear hg1
  have hnc := near_cells w1
  by_cases hlt : lowI x L < L.length
  · obtain ⟨bl, off, rfl, hbb, y0, y1, y2, y3, y4⟩ := ItemsAt.item HL.out HW.out hlt
    have hbl : bl < w1.heap.size := Nat.lt_of_lt_of_le hbb HW.out.size
    have hsa := sameAt_in hlt
    generalize L[lowI x L] = y at *
    have HS := hide hsa
    clear hsa
    have hhL : (lowI x L : Int) < (L.length : Int) := by omega
    have bL : decide ((lowI x L : Int) < (L.length : Int)) = true := decide_eq_true (by omega)
    generalize hq : lowI x L = q at *
    have HQ := hide hq
    clear hq
    go_wp2_with fail
    refine wp_region_near (by kernel_rfl) (by kernel_rfl) ?_
    repeat (go_big_quiet_step (exact near_of (psame_any y x _)))
    refine wpQuiet_nil ?_
    intro _ hw'
    obtain ⟨s1, rfl⟩ := hw'
    go_wp2_with fail
    go_ret2
    exact ⟨by rw [HS.out, HQ.out]; rfl, below_step HW.out s1.is⟩
  · have bL : decide ((lowI x L : Int) < (L.length : Int)) = false := decide_eq_false (by omega)
    have HS := hide (sameAt_out (x := x) (l := L) (by omega))
    generalize hq : lowI x L = q at *
    have HQ := hide hq
    clear hq
    go_wp2_with fail
    refine wp_region_near (by kernel_rfl) (by kernel_rfl) ?_
    repeat (go_big_quiet_step (fail))
    refine wpQuiet_nil ?_
    intro _ hw'
    obtain ⟨s1, rfl⟩ := hw'
    go_wp2_with fail
    go_ret2
    exact ⟨by rw [HS.out, HQ.out]; rfl, below_step HW.out s1.is⟩

def tombAt (s : Int) (L : List It) : It := match L[lowI (tombOf s) L]? with
  | some t => if sameAt (tombOf s) L then t else ⟨0, 0, 0, 0, 0⟩
  | none => ⟨0, 0, 0, 0, 0⟩
set_option maxHeartbeats 1600000 in
theorem tomb_any (s : Int) (A : Option Addr) (c : Nat) (L : List It) (w : World) (hL : ItemsAt w A L) (hn : L.length ≤ 4611686018427387904) (hr : Rising L) :
    Calls Tryz.prog 92 #[.slice A L.length c, .int .i64 s] w fun e w' => e = .returned (.tuple #[(tombAt s L).val, .bool (sameAt (tombOf s) L)]) ∧ Below w.heap.size w w' := by
  have HL := hide hL
  have HR := hide hr
  clear hL hr
  cases hs : sameAt (tombOf s) L
  · have HT : Hid (tombAt s L = ⟨0, 0, 0, 0, 0⟩) := hide (by unfold tombAt; rw [hs]; cases L[lowI (tombOf s) L]? <;> rfl)
    go_enter Tryz.func92, Tryz.ntmps92
    go_wp2_with fail
    refine (Calls.mono (place_any (tombOf s) A c L _ (HL.out.below (by go_grown)) hn HR.out) ?_); rintro e w1 ⟨rfl, hg1⟩; obtain ⟨hc1, hf1⟩ := bcell hg1
    rw [hs]
    go_wp2_with fail
    have hb1 : Below w.heap.size w w1 := below_step (below_alloc (Below.refl _ _) _) hg1
    obtain ⟨r0, r1, r2, r3, r4⟩ := box_item (put_res (⟨0, 0, 0, 0, 0⟩ : It) ((hg1.block w.heap.size (by simp)).trans (heap_alloc_new w _)))
    refine bodyPost_ret (v := .tuple #[((⟨0, 0, 0, 0, 0⟩ : It)).val, .bool false]) (by simp [results, Tryz.results92, go_sem, r0, r1, r2, r3, r4]) rfl ?_
    exact ⟨by rw [HT.out], ((((hb1.setCell (Nat.le_refl _) _).setCell (Nat.le_refl _) _).setCell (Nat.le_refl _) _).setCell (Nat.le_refl _) _).setCell (Nat.le_refl _) _⟩
  · obtain ⟨hlt, hse⟩ := sameAt_true hs
    have HT : Hid (tombAt s L = L[lowI (tombOf s) L]) := hide (by unfold tombAt; rw [hs, List.getElem?_eq_getElem hlt]; rfl)
    have hrow := HL.out
    obtain ⟨bl, off, rfl, hbb, y0, y1, y2, y3, y4⟩ := ItemsAt.item HL.out (Below.refl _ _) hlt
    have hhL : (lowI (tombOf s) L : Int) < (L.length : Int) := by omega
    generalize L[lowI (tombOf s) L] = y at *
    clear hse hrow
    have HP := hide (fun W hW => place_any (tombOf s) (some ⟨bl, off, none⟩) c L W (HL.out.below hW) hn HR.out)
    generalize lowI (tombOf s) L = q at *
    go_enter Tryz.func92, Tryz.ntmps92
    go_wp2_with fail
    refine (Calls.mono (HP.out _ (below_alloc (Below.refl _ _) _)) ?_); rintro e w1 ⟨rfl, hg1⟩; obtain ⟨hc1, hf1⟩ := bcell hg1
    rw [hs]
    have hb1 : Below w.heap.size w w1 := below_step (below_alloc (Below.refl _ _) _) hg1
    go_wp2_with fail
    obtain ⟨r0, r1, r2, r3, r4⟩ := box_item (put_res y ((hg1.block w.heap.size (by simp)).trans (heap_alloc_new w _)))
    refine bodyPost_ret (v := .tuple #[(y).val, .bool true]) (by simp [results, Tryz.results92, go_sem, r0, r1, r2, r3, r4]) rfl ?_
    exact ⟨by rw [HT.out], ((((hb1.setCell (Nat.le_refl _) _).setCell (Nat.le_refl _) _).setCell (Nat.le_refl _) _).setCell (Nat.le_refl _) _).setCell (Nat.le_refl _) _⟩
end Go.Proofs.YtlabpgdimhbocaaGreat
