/- Whether a list is a state: the contract of state.Ok. Condition: the list's length is at most 2^62. -/
import Derived.Test.YtlabpgdimhbocaaGreatPh
namespace Go.Proofs.YtlabpgdimhbocaaGreat
set_option linter.unusedVariables false
set_option linter.unusedSimpArgs false
open Go.ChangeShapes Go.WideShapes Go.ChangeAt Go.RowKit

theorem RowAt.take_ {w : World} {A : Option Addr} {L : List It} (h : ItemsAt w A L) (k : Nat) : ItemsAt w A (L.take k) := fun hne => by
  obtain ⟨b, off, e, hlt, hc⟩ := h (fun e => hne (by rw [e]; simp))
  refine ⟨b, off, e, hlt, fun i hi j u hu => hc i (by simp at hi; omega) j u ?_⟩
  rw [List.getElem_take] at hu
  exact hu
theorem hidden_n (A : Option Addr) (c n : Nat) (L : List It) (x : It) (w : World) (hnL : L.length = n) (hL : ItemsAt w A L) (hn : n ≤ 4611686018427387904) (hs : IsState L) :
    Calls Tryz.prog 77 #[.slice A n c, x.val] w fun e w' => e = .returned (.bool (hidB L x)) ∧ Below w.heap.size w w' := by
  subst hnL
  exact hidden_any A c L x w hL hn hs.2.1 hs.1
theorem pst_no {L : List It} {k : Nat} (h : ¬ IsState (L.take k)) : stateB L = false := stateB_false fun e => h (e.take k)
theorem pst_bad {L : List It} {k : Nat} (hk : k < L.length) (h : goodB L[k] = false) : stateB L = false := pst_no (k := k + 1) fun e => by
  have := ((isState_snoc hk).1 e).2.1
  rw [goodB_true this] at h; cases h
theorem pst_drop {L : List It} {k : Nat} (hk : k < L.length) (h0 : 0 < k) (h : ltB (L[k - 1]'(by omega)) L[k] = false) : stateB L = false := pst_no (k := k + 1) fun e => by
  have := ((isState_snoc hk).1 e).2.2.1 h0
  rw [ltB_true this] at h; cases h
theorem pst_hid {L : List It} {k : Nat} (hk : k < L.length) (h : hidB (L.take k) L[k] = true) : stateB L = false := pst_no (k := k + 1) fun e => by
  obtain ⟨t, ht, hh⟩ := List.any_eq_true.1 h
  exact ((isState_snoc hk).1 e).2.2.2 t ht (by simpa [hidesB] using hh)
theorem pst_on {L : List It} {k : Nat} (hk : k < L.length) (hs : IsState (L.take k)) (h1 : goodB L[k] = true) (h2 : ∀ h : 0 < k, ltB (L[k - 1]'(by omega)) L[k] = true) (h3 : hidB (L.take k) L[k] = false) : IsState (L.take (k + 1)) := by
  rw [isState_snoc hk]
  refine ⟨hs, by simpa only [goodB, decide_eq_true_eq] using h1, fun h => by simpa only [ltB, decide_eq_true_eq] using h2 h, fun t ht hh => ?_⟩
  have : hidB (L.take k) L[k] = true := List.any_eq_true.2 ⟨t, ht, hidesB_true hh⟩
  rw [this] at h3; cases h3

set_option maxHeartbeats 3200000 in
set_option maxRecDepth 100000 in
theorem pok_any (A : Option Addr) (c : Nat) (L : List It) (w : World) (hL : ItemsAt w A L) (hlc : L.length ≤ c) (hn : L.length ≤ 4611686018427387904) :
    Calls Tryz.prog 66 #[.slice A L.length c] w fun e w' => e = .returned (.bool (stateB L)) ∧ Below w.heap.size w w' := by
  have HL := hide hL
  clear hL
  go_enter Tryz.func66, Tryz.ntmps66
  go_wp2_with fail
  go_loopw [7] (fun i wr => ∃ k : Nat, i = .int .i64 k ∧ k ≤ L.length ∧ Below w.heap.size w wr ∧ IsState (L.take k)) (fun i _ => L.length - (intOf i).toNat)
  case atStart => exact ⟨0, rfl, by omega, Below.refl _ _, by rw [List.take_zero]; exact IsState.nil_⟩
  case round =>
    obtain ⟨k, rfl, hk, hb, hs⟩ := hrel
    have HS := hide hs
    have HB := hide hb
    clear hs hb
    by_cases hlt : k < L.length
    · obtain ⟨bl, off, rfl, hbb, y0, y1, y2, y3, y4⟩ := ItemsAt.item HL.out HB.out hlt
      have hbl : bl < wr.heap.size := Nat.lt_of_lt_of_le hbb HB.out.size
      have hkl : (L.take k).length = k := by rw [List.length_take]; omega
      have HH := hide (fun x W hW => hidden_n (some ⟨bl, off, none⟩) c k (L.take k) x W hkl (RowAt.take_ (RowAt.below HL.out hW) k) (by omega) HS.out)
      have H1 := hide (pst_bad hlt)
      have H2 := hide (pst_drop hlt)
      have H3 := hide (pst_hid hlt)
      have H4 := hide (pst_on hlt HS.out)
      clear hkl
      have hkc : (k : Int) ≤ (c : Int) := by omega
      by_cases h0 : 0 < k
      · obtain ⟨bl', off', hA, hbb', z0, z1, z2, z3, z4⟩ := ItemsAt.item HL.out HB.out (k := k - 1) (by omega)
        injection hA with hA
        injection hA with hA1 hA2
        subst hA1 hA2
        have b0 : decide ((0 : Int) < (k : Int)) = true := decide_eq_true (by omega)
        have e1 : IntKind.i64.wrap ((k : Int) - 1) = (k : Int) - 1 := IntWalk.i64_in _ (by omega)
        have e2 : ((k : Int) - 1).toNat = k - 1 := by omega
        have e3 : (0 : Int) ≤ (k : Int) - 1 := by omega
        have e4 : (k : Int) - 1 < (L.length : Int) := by omega
        have e5 : (1 : Int) ≤ (k : Int) := by omega
        have e6 : (k : Int) - 1 < (L.length : Int) := by omega
        have H5 := hide (H2.out h0)
        have H6 := hide (fun h1 (h2 : ltB (L[k - 1]'(by omega)) L[k] = true) h3 => H4.out h1 (fun _ => h2) h3)
        clear H2 H4
        generalize L[k] = y at *
        generalize L[k - 1] = z at *
        cases hg : goodB y
        · clear HH z0 z1 z2 z3 z4
          go_wp2_with fail
          refine wp_name (fun W => Below wr.heap.size wr W ∧ W.heap[wr.heap.size]? = some (.cells y.cells.toArray 78 (0, 0))) ⟨below_alloc (Below.refl _ _) _, heap_alloc_new _ _⟩ ?_
          rintro W ⟨hbW, hxW⟩
          have HBW := hide (below_step HB.out hbW)
          obtain ⟨x0, x1, x2, x3, x4⟩ := box_item hxW
          have hxl : wr.heap.size < W.heap.size := (Array.getElem?_eq_some_iff.1 hxW).1
          have hbl2 : bl < W.heap.size := by omega
          have hnc := near_cells W
          refine wp_region_near (by kernel_rfl) (by kernel_rfl) ?_
          repeat (go_big_quiet_step (((go_at_call 50; exact near_of (pgood_any y _)))))
          refine wpQuiet_nil ?_
          intro _ hw'
          obtain ⟨s1, rfl⟩ := hw'
          go_wp2_with fail
          go_ret
          exact ⟨by rw [H1.out hg]; rfl, below_step HBW.out s1.is⟩
        · cases hl : ltB z y
          · go_wp2_with fail
            refine wp_name (fun W => Below wr.heap.size wr W ∧ W.heap[wr.heap.size]? = some (.cells y.cells.toArray 78 (0, 0))) ⟨below_alloc (Below.refl _ _) _, heap_alloc_new _ _⟩ ?_
            rintro W ⟨hbW, hxW⟩
            have HBW := hide (below_step HB.out hbW)
            obtain ⟨x0, x1, x2, x3, x4⟩ := box_item hxW
            have hxl : wr.heap.size < W.heap.size := (Array.getElem?_eq_some_iff.1 hxW).1
            have hbl2 : bl < W.heap.size := by omega
            have hnc := near_cells W
            have z0 := (hbW.cell (p := ⟨bl, _, none⟩) hbl).trans z0
            have z1 := (hbW.cell (p := ⟨bl, _, none⟩) hbl).trans z1
            have z2 := (hbW.cell (p := ⟨bl, _, none⟩) hbl).trans z2
            have z3 := (hbW.cell (p := ⟨bl, _, none⟩) hbl).trans z3
            have z4 := (hbW.cell (p := ⟨bl, _, none⟩) hbl).trans z4
            refine wp_region_near (by kernel_rfl) (by kernel_rfl) ?_
            repeat (go_big_quiet_step ((first | (go_at_call 50; exact near_of (pgood_any y _)) | (go_at_call 76; exact near_of (pless_any z y _)))))
            refine wpQuiet_nil ?_
            intro _ hw'
            obtain ⟨s1, rfl⟩ := hw'
            go_wp2_with fail
            go_ret
            exact ⟨by rw [H5.out hl]; rfl, below_step HBW.out s1.is⟩
          · cases hh : hidB (L.take k) y
            all_goals
              go_wp2_with fail
              refine wp_name (fun W => Below wr.heap.size wr W ∧ W.heap[wr.heap.size]? = some (.cells y.cells.toArray 78 (0, 0))) ⟨below_alloc (Below.refl _ _) _, heap_alloc_new _ _⟩ ?_
              rintro W ⟨hbW, hxW⟩
              have HBW := hide (below_step HB.out hbW)
              obtain ⟨x0, x1, x2, x3, x4⟩ := box_item hxW
              have hxl : wr.heap.size < W.heap.size := (Array.getElem?_eq_some_iff.1 hxW).1
              have hbl2 : bl < W.heap.size := by omega
              have hnc := near_cells W
              have z0 := (hbW.cell (p := ⟨bl, _, none⟩) hbl).trans z0
              have z1 := (hbW.cell (p := ⟨bl, _, none⟩) hbl).trans z1
              have z2 := (hbW.cell (p := ⟨bl, _, none⟩) hbl).trans z2
              have z3 := (hbW.cell (p := ⟨bl, _, none⟩) hbl).trans z3
              have z4 := (hbW.cell (p := ⟨bl, _, none⟩) hbl).trans z4
              refine wp_region_near (by kernel_rfl) (by kernel_rfl) ?_
              repeat (go_big_quiet_step ((first | (go_at_call 50; exact near_of (pgood_any y _)) | (go_at_call 76; exact near_of (pless_any z y _)) | (go_at_call 77; exact near_of (HH.out y _ (below_step HBW.out (Near.is _)))))))
              refine wpQuiet_nil ?_
              intro _ hw'
              obtain ⟨s1, rfl⟩ := hw'
              rw [hh]
              go_wp2_with fail
            · go_roundw
              case rel => exact ⟨k + 1, by go_num, by omega, below_step HBW.out s1.is, H6.out hg hl hh⟩
              case measure => simp [intOf]; omega
            · go_ret
              exact ⟨by rw [H3.out hh]; rfl, below_step HBW.out s1.is⟩
      · have b0 : decide ((0 : Int) < (k : Int)) = false := decide_eq_false (by omega)
        clear H2
        have H4' := hide (fun h1 h3 => H4.out h1 (fun h => absurd h h0) h3)
        clear H4
        generalize L[k] = y at *
        cases hg : goodB y
        · go_wp2_with fail
          refine wp_name (fun W => Below wr.heap.size wr W ∧ W.heap[wr.heap.size]? = some (.cells y.cells.toArray 78 (0, 0))) ⟨below_alloc (Below.refl _ _) _, heap_alloc_new _ _⟩ ?_
          rintro W ⟨hbW, hxW⟩
          have HBW := hide (below_step HB.out hbW)
          obtain ⟨x0, x1, x2, x3, x4⟩ := box_item hxW
          have hxl : wr.heap.size < W.heap.size := (Array.getElem?_eq_some_iff.1 hxW).1
          have hbl2 : bl < W.heap.size := by omega
          have hnc := near_cells W
          refine wp_region_near (by kernel_rfl) (by kernel_rfl) ?_
          repeat (go_big_quiet_step (((go_at_call 50; exact near_of (pgood_any y _)))))
          refine wpQuiet_nil ?_
          intro _ hw'
          obtain ⟨s1, rfl⟩ := hw'
          go_wp2_with fail
          go_ret
          exact ⟨by rw [H1.out hg]; rfl, below_step HBW.out s1.is⟩
        · cases hh : hidB (L.take k) y
          all_goals
            go_wp2_with fail
            refine wp_name (fun W => Below wr.heap.size wr W ∧ W.heap[wr.heap.size]? = some (.cells y.cells.toArray 78 (0, 0))) ⟨below_alloc (Below.refl _ _) _, heap_alloc_new _ _⟩ ?_
            rintro W ⟨hbW, hxW⟩
            have HBW := hide (below_step HB.out hbW)
            obtain ⟨x0, x1, x2, x3, x4⟩ := box_item hxW
            have hxl : wr.heap.size < W.heap.size := (Array.getElem?_eq_some_iff.1 hxW).1
            have hbl2 : bl < W.heap.size := by omega
            have hnc := near_cells W
            refine wp_region_near (by kernel_rfl) (by kernel_rfl) ?_
            repeat (go_big_quiet_step ((first | (go_at_call 50; exact near_of (pgood_any y _)) | (go_at_call 77; exact near_of (HH.out y _ (below_step HBW.out (Near.is _)))))))
            refine wpQuiet_nil ?_
            intro _ hw'
            obtain ⟨s1, rfl⟩ := hw'
            rw [hh]
            go_wp2_with fail
          · go_roundw
            case rel => exact ⟨k + 1, by go_num, by omega, below_step HBW.out s1.is, H4'.out hg hh⟩
            case measure => simp [intOf]; omega
          · go_ret
            exact ⟨by rw [H3.out hh]; rfl, below_step HBW.out s1.is⟩
    · have HF : Hid (stateB L = true) := hide (stateB_true (by have := HS.out; rwa [List.take_of_length_le (by omega)] at this))
      go_wp2_with fail
      go_ret
      exact ⟨by rw [HF.out]; rfl, HB.out⟩
end Go.Proofs.YtlabpgdimhbocaaGreat
