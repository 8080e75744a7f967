/- clepsydralaw8.at, and skip.List.Level of a level that is none: contracts. Conditions: the slice reads. -/
import Derived.Test.YtkhagbifbcdpnaaSkQ
namespace Go.Proofs.Ytkhagbifbcdpnaa
set_option linter.unusedVariables false
set_option linter.unusedSimpArgs false
open Go.ChangeShapes Go.WideShapes Go.ChangeAt Go.RowKit

theorem level_out (p : Nat) (k : Int) (w : World) (hk : k < 1 ∨ 6 < k) : Calls Try.prog 13 #[.pointer (some ⟨p, 0, none⟩), .int .i64 k] w fun e w' => e = .returned (.slice none 0 0) ∧ w' = w := by
  by_cases h1 : k < 1
  · go_enter Try.func13, Try.ntmps13
    go_wp2_with fail
    go_ret
    exact ⟨rfl, rfl⟩
  · have h6 : 6 < k := by omega
    have h61 : ¬ k < 1 := by omega
    go_enter Try.func13, Try.ntmps13
    go_wp2_with fail
    go_ret
    exact ⟨rfl, rfl⟩
set_option maxHeartbeats 1600000 in
theorem skat_any (A : Option Addr) (c : Nat) (L : List It) (x : It) (w : World) (hL : ItemsAt w A L) (hr : Rising L) (hn : L.length ≤ 1099511627776) :
    Calls Try.prog 16 #[.slice A L.length c, x.val] w fun e w' => e = .returned (.tuple #[.int .i64 (lowI x L), .bool (sameAt x L)]) ∧ Below w.heap.size w w' := by
  have hll := low_le x L
  have hba := below_alloc (Below.refl w.heap.size w) (.cells x.cells.toArray 30)
  have HB0 := hide hba
  have HBX := hide (BxAt.box (x := x) (heap_alloc_new w (.cells x.cells.toArray 30)))
  have HL := hide hL
  have HR := hide hr
  clear hba hL hr
  go_enter Try.func16, Try.ntmps16
  go_wp2_with fail
  go_loopw [6] (fun i wr => ∃ j : Nat, i = .int .i64 j ∧ j ≤ lowI x L ∧ Below (w.alloc (.cells x.cells.toArray 30)).heap.size (w.alloc (.cells x.cells.toArray 30)) wr) (fun i _ => lowI x L - (intOf i).toNat)
  case atStart => exact ⟨0, rfl, by omega, Below.refl _ _⟩
  case round =>
    obtain ⟨j, rfl, hj, hb⟩ := hrel
    have HB := hide (below_step HB0.out hb)
    have HBX1 := hide (BxAt.kept HBX.out hb.size (hb.block _ HBX.out.lt))
    have HBW := hide hb
    clear hb
    obtain ⟨lx, x0, x1, x2, x3, x4⟩ := HBX1.out
    have hnc := near_cells wr
    by_cases hjn : j < L.length
    · obtain ⟨bl, off, hA, hbb, y0, y1, y2, y3, y4⟩ := ItemsAt.item HL.out HB.out hjn
      subst hA
      have hblw : bl < wr.heap.size := Nat.lt_of_lt_of_le hbb HB.out.size
      have hjI : (j : Int) < (L.length : Int) := by omega
      have hjB : decide ((j : Int) < (L.length : Int)) = true := decide_eq_true hjI
      have HLS := hide (fun W => rless_any L[j] x W)
      have HSM := hide (fun W => rsame_any L[j] x W)
      by_cases hjl : j < lowI x L
      · rw [low_lt x L j hjn hjl] at HLS
        generalize L[j] = y at *
        clear HSM
        go_wp2_with fail
        refine wp_region_near (by kernel_rfl) (by kernel_rfl) ?_
        repeat (go_big_quiet_step ((first | (go_at_call 9; exact near_of (HLS.out _)))))
        refine wpQuiet_nil ?_
        intro _ hw'
        obtain ⟨s1, rfl⟩ := hw'
        go_wp2_with fail
        go_roundw
        case rel => exact ⟨j + 1, by go_num, by omega, below_step HBW.out s1.is⟩
        case measure => simp [intOf]; omega
      · have hjq : j = lowI x L := by omega
        have hst : sameB L[j] x = sameAt x L := by subst hjq; exact (sameAt_in hjn).symm
        rw [low_ge HR.out hjn (by omega)] at HLS
        rw [hst] at HSM
        generalize L[j] = y at *
        have HJ := hide hjq
        clear hjq hst
        obtain ⟨sb, hsb⟩ : ∃ sb, sameAt x L = sb := ⟨_, rfl⟩
        rw [hsb] at HSM
        have HSB := hide hsb
        clear hsb
        go_wp2_with fail
        refine wp_region_near (by kernel_rfl) (by kernel_rfl) ?_
        repeat (go_big_quiet_step ((first | (go_at_call 9; exact near_of (HLS.out _)))))
        refine wpQuiet_nil ?_
        intro _ hw'
        obtain ⟨s1, rfl⟩ := hw'
        have hb2 := s1.is
        obtain ⟨w5, hw5⟩ : ∃ w5, s1.at_ = w5 := ⟨_, rfl⟩
        rw [hw5] at hb2 ⊢
        clear hw5
        have e2 : ∀ o, w5.cell? ⟨bl, o, none⟩ = wr.cell? ⟨bl, o, none⟩ := fun o => hb2.cell (p := ⟨bl, o, none⟩) hblw
        rw [← e2] at y0 y1 y2 y3 y4
        clear x0 x1 x2 x3 x4 hnc HLS lx e2
        have HB5 := hide (below_step HB.out hb2)
        have HBX5 := hide (BxAt.kept HBX1.out hb2.size (hb2.block _ HBX1.out.lt))
        have hblw5 := Nat.lt_of_lt_of_le hblw hb2.size
        clear hb2
        obtain ⟨lx, x0, x1, x2, x3, x4⟩ := HBX5.out
        have hnc := near_cells w5
        go_wp2_with fail
        refine wp_region_near (by kernel_rfl) (by kernel_rfl) ?_
        repeat (go_big_quiet_step ((first | (go_at_call 27; exact near_of (HSM.out _)))))
        refine wpQuiet_nil ?_
        intro _ hw'
        obtain ⟨s2, rfl⟩ := hw'
        go_wp2_with fail
        refine bodyPost_ret (v := .tuple #[.int .i64 j, .bool sb]) (by simp [results, Try.results16, go_sem]) rfl ?_
        refine ⟨?_, below_step HB5.out s2.is⟩
        rw [HJ.out, HSB.out]
    · have hjI : ¬ (j : Int) < (L.length : Int) := by omega
      have hjB : decide ((j : Int) < (L.length : Int)) = false := decide_eq_false hjI
      have HJ : Hid (j = lowI x L) := hide (by omega)
      have HSB : Hid (sameAt x L = false) := hide (sameAt_out (by omega))
      go_wp2_with fail
      refine wp_region_near (by kernel_rfl) (by kernel_rfl) ?_
      repeat (go_big_quiet_step (fail))
      refine wpQuiet_nil ?_
      intro _ hw'
      obtain ⟨s1, rfl⟩ := hw'
      have hb2 := s1.is
      obtain ⟨w5, hw5⟩ : ∃ w5, s1.at_ = w5 := ⟨_, rfl⟩
      rw [hw5] at hb2 ⊢
      clear hw5 x0 x1 x2 x3 x4 hnc lx
      have HB5 := hide (below_step HB.out hb2)
      have HBX5 := hide (BxAt.kept HBX1.out hb2.size (hb2.block _ HBX1.out.lt))
      clear hb2
      obtain ⟨lx, x0, x1, x2, x3, x4⟩ := HBX5.out
      have hnc := near_cells w5
      go_wp2_with fail
      refine wp_region_near (by kernel_rfl) (by kernel_rfl) ?_
      repeat (go_big_quiet_step (fail))
      refine wpQuiet_nil ?_
      intro _ hw'
      obtain ⟨s2, rfl⟩ := hw'
      go_wp2_with fail
      refine bodyPost_ret (v := .tuple #[.int .i64 j, .bool false]) (by simp [results, Try.results16, go_sem]) rfl ?_
      refine ⟨?_, below_step HB5.out s2.is⟩
      rw [HJ.out, HSB.out]
end Go.Proofs.Ytkhagbifbcdpnaa
