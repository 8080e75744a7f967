/- The walk of clepsydralaw13.MergeIters: it returns true. Conditions: the arguments are readable. -/
import Derived.Test.YtfmckinlgaejeaaM13
import Derived.Test.YtfmckinlgaejeaaMItW
import Derived.Test.YtfmckinlgaejeaaBits
namespace Go.Proofs.Ytfmckinlgaejeaa.mergeIters
set_option linter.unusedVariables false
set_option linter.unusedSimpArgs false
open Go.ChangeShapes Go.WideShapes Go.ChangeAt Go.RowKit

theorem rows_allI {w : World} {R L0 : List (Sv It)} (h : R.map (·.L) = rowsL (L0.map (·.L))) : R.length ≤ 8 ∧ ∀ r ∈ R, Rising r.L ∧ r.L.length ≤ 40 := by
  constructor
  · have := congrArg List.length h
    unfold rowsL at this
    simp at this
    omega
  · intro r hr
    have hm : r.L ∈ R.map (·.L) := List.mem_map.2 ⟨r, hr, rfl⟩
    rw [h] at hm
    unfold rowsL at hm
    obtain ⟨l, hl, e⟩ := List.mem_map.1 hm
    rw [← e]
    exact ⟨rk_up _, rk_len _⟩
theorem len_RI : ∀ (R : List (Sv It)), (∀ r ∈ R, r.L.length ≤ 40) → lenR (lsR R) ≤ R.length * 40
  | [], _ => by simp [lenR, lsR]
  | r :: R, h => by
    have h1 := h r List.mem_cons_self
    have h2 := len_RI R (fun r hr => h r (List.mem_cons_of_mem _ hr))
    simp [lenR, lsR] at h2 ⊢
    omega
theorem sum_lenR (R : List (Sv It)) : sumLen R = lenR (lsR R) := by
  unfold sumLen lenR lsR
  rw [List.map_map]
  rfl
set_option maxRecDepth 100000 in
set_option maxHeartbeats 6400000 in
theorem walk {w : World} (A0 : Option Addr) (c0 : Nat) (L0 : List (Sv It)) (lc0 : L0.length ≤ c0) (cm0 : c0 ≤ maxLen) (r0 : RowAt (fun s => [s.val]) 1 w A0 L0) (w0 : ∀ s ∈ L0, Sv.good It.cells 5 It.wf w s)
    (A1 : Option Addr) (c1 : Nat) (L1 : List It) (lc1 : L1.length ≤ c1) (cm1 : c1 ≤ maxLen) (r1 : RowAt It.cells 5 w A1 L1) (w1 : ∀ a ∈ L1, a.wf)
    (A2 : Option Addr) (c2 : Nat) (L2 : List Int) (lc2 : L2.length ≤ c2) (cm2 : c2 ≤ maxLen) (r2 : RowAt (fun a => [.int .i64 a]) 1 w A2 L2) (w2 : ∀ a ∈ L2, (Lit.int .i64 a).wf = true) :
    Calls Try.prog 6 #[.slice A0 L0.length c0, .slice A1 L1.length c1, .slice A2 L2.length c2] w fun e w' => e = .returned (.bool true) ∧ Below w.heap.size w w' := by
  have hlr := lrows_any A0 c0 L0 w r0 w0 (by unfold maxLen at cm0; omega)
  have HLR := hide hlr
  have HI1 := hide r1
  have HI2 := hide r2
  clear hlr r0 w0 lc0 cm0 r1 r2 w1 w2
  unfold maxLen at cm1 cm2
  go_enter Try.func6, Try.ntmps6
  go_wp2_with fail
  refine (Calls.mono HLR.out ?_); rintro e w2 ⟨v, R, rfl, ho, hmp, hrd, hb2⟩
  obtain ⟨hn8, hall⟩ := rows_allI (w := w) hmp
  obtain ⟨A, c, rfl, hrw, _, hnc, hcm⟩ := OwnL.row (cells := svC) (fun _ => rfl) ho
  have hlen := len_RI R (fun r hr => (hall r hr).2)
  have hrr := rrows_any A c R w2 ⟨hrw, fun r hr => (hrd r hr).1⟩ (by omega) (by rw [sum_lenR]; omega)
  have hM : mrgs R = mrgG (lenR (lsR R)) (lsR R) [] := by
    rw [mrgs_ls, mrgG_eq (R := lsR R) (fun l hl => by obtain ⟨r, hr, rfl⟩ := List.mem_map.1 hl; exact (hall r hr).1)]
    rfl
  rw [hM] at hrr
  have HRR := hide hrr
  have HNW : Hid (∀ W : World, Below w2.heap.size w2 W → Calls Try.prog 17 #[.slice A R.length c] W fun e w' => ∃ b, e = .returned (.pointer (some ⟨b, 0, none⟩)) ∧ Itr w' b (mrgG (lenR (lsR R)) (lsR R) []) 0 ∧ W.heap.size ≤ b ∧ Below W.heap.size W w') :=
    hide (fun W hW => itnew_any A c R W (hrw.below hW) (fun r hr => by obtain ⟨h1, h2, h3, _⟩ := hrd r hr; exact ⟨h1.below hW, h2, h3⟩) (by omega) (by omega))
  have HB2 := hide hb2
  generalize mrgG (lenR (lsR R)) (lsR R) [] = M at *
  clear ho hmp hrd hb2 hrw hall hlen hrr hM HLR
  go_wp2_with fail
  refine (Calls.mono HRR.out ?_); rintro e w3 ⟨⟨v3, rfl, ho3⟩, hb3⟩
  obtain ⟨A3, c3, rfl, hr3, _, hc3, hcm3⟩ := OwnL.row It.cells_len ho3
  have HM3 := hide hr3
  have HB3 := hide (below_step HB2.out hb3)
  have HNW3 := hide (HNW.out _ hb3)
  clear ho3 hr3 hb3 HNW HRR HB2
  unfold maxLen at hcm3
  go_wp2_with fail
  refine (Calls.mono HNW3.out ?_); rintro e w4 ⟨b, rfl, hit, hb, hbl⟩
  have HIT := hide hit
  have HBL := hide hbl
  clear hit hbl HNW3
  go_wp2_with fail
  refine (Calls.mono (awake13_any _) ?_); rintro e w5 ⟨rfl, hbl⟩
  have HIT5 := hide (HIT.out.below hbl)
  have HBL5 := hide (below_step HBL.out hbl)
  clear HIT HBL hbl
  go_wp2_with fail
  go_loopw [10, 11] (fun a i wr => ∃ (j k : Nat), a = .int .i64 j ∧ i = .int .i64 k ∧ k ≤ L1.length + 1 ∧ k ≤ 20 ∧ Itr wr b M j ∧ Below w3.heap.size w3 wr) (fun _ i _ => 21 - (intOf i).toNat)
  case atStart => exact ⟨0, 0, rfl, rfl, by omega, by omega, HIT5.out, HBL5.out⟩
  case round =>
    clear HIT5 HBL5
    obtain ⟨j, k, rfl, rfl, hk, hk20, hit, hbl⟩ := hrel
    have HIT := hide hit
    have HBL := hide hbl
    clear hit hbl
    obtain ⟨wh, rfl⟩ : ∃ wh, wh = wr := ⟨_, rfl⟩
    by_cases hgo : k < L1.length + 1 ∧ k < 20
    · obtain ⟨hk1, hk2⟩ := hgo
      have hk1I : (k : Int) ≤ (L1.length : Int) := by omega
      have hk1D : decide ((k : Int) ≤ (L1.length : Int)) = true := decide_eq_true hk1I
      have hk2I : (k : Int) < 20 := by omega
      have HK : Hid (∀ (h : k < L2.length), ∃ (b2 o2 : Nat) (n : Nat), A2 = some ⟨b2, o2, none⟩ ∧ wh.cell? ⟨b2, o2 + k, none⟩ = some (.int .i64 L2[k]) ∧ bits .and .i64 L2[k] 63 = (n : Int) ∧ n ≤ 63) := hide (fun h => by
        obtain ⟨b2, o2, e, hlt, hc⟩ := HI2.out.at_ h
        have hcc := hc k h 0 _ rfl
        simp only [Nat.mul_one, Nat.add_zero] at hcc
        refine ⟨b2, o2, (L2[k] % 64).toNat, e, keep_cell (below_step (HB3.out) HBL.out) hcc hlt, ?_, by omega⟩
        rw [and_mask_i64 L2[k] 6 63 (by omega) (by decide)]
        omega)
      go_upto_if 41 with fail
      go_cut [12] (fun v W => ∃ n : Nat, v = .int .i64 n ∧ n ≤ 63 ∧ W = wh)
      case first =>
        by_cases hk3 : k < L2.length
        · obtain ⟨b2, o2, n, rfl, hc, hn, hn2⟩ := HK.out hk3
          have hk3I : (k : Int) < (L2.length : Int) := by omega
          have hk0 : (0 : Int) ≤ (k : Int) := by omega
          generalize L2[k] = z at *
          clear HK
          go_wp2_with fail
          go_meet
          exact ⟨n, rfl, hn2, rfl⟩
        · have hk3I : ¬ (k : Int) < (L2.length : Int) := by omega
          clear HK
          go_wp2_with fail
          go_meet
          exact ⟨3, rfl, by omega, rfl⟩
      case rest =>
        clear HK
        obtain ⟨n, rfl, hn63, rfl⟩ := hcut
        go_wp2_with fail
        go_loopw [10, 13] (fun a i wr => ∃ (j m : Nat), a = .int .i64 j ∧ i = .int .i64 m ∧ m ≤ n ∧ Itr wr b M j ∧ Below w3.heap.size w3 wr) (fun _ i _ => n - (intOf i).toNat)
        case atStart => exact ⟨j, 0, rfl, rfl, by omega, HIT.out, HBL.out⟩
        case round =>
          clear HIT HBL
          obtain ⟨j, m, rfl, rfl, hm, hit, hbl⟩ := hrel
          obtain ⟨wq, rfl⟩ : ∃ wq, wq = wr := ⟨_, rfl⟩
          have HIT := hide hit
          have HBL := hide hbl
          clear hit hbl
          by_cases hmn : m < n
          · have hmI : (m : Int) < (n : Int) := by omega
            have hm1 : IntKind.i64.wrap ((m : Int) + 1) = (m : Int) + 1 := by rw [IntKind.wrap_i64]; omega
            by_cases hj : j < M.length
            · obtain ⟨y, hy⟩ : ∃ y, M[j]? = some y := ⟨_, List.getElem?_eq_getElem hj⟩
              have HNX := hide (next_hit b M j wq HIT.out y hy)
              have hjI : (j : Int) < (M.length : Int) := by omega
              have hjD : decide ((j : Int) < (M.length : Int)) = true := decide_eq_true hjI
              have hj0 : (0 : Int) ≤ (j : Int) := by omega
              have hj1 : IntKind.i64.wrap ((j : Int) + 1) = (j : Int) + 1 := by rw [IntKind.wrap_i64]; omega
              have HMJ : Hid (∀ W : World, Below w3.heap.size w3 W → ∃ bi oi, A3 = some ⟨bi, oi, none⟩ ∧ bi < w3.heap.size ∧ ItemAt W bi (oi + j * 5) y) := hide (fun W hW => by
                have := ItemsAt.item HM3.out hW hj
                rw [(List.getElem?_eq_some_iff.1 hy).2] at this
                exact this)
              clear hy
              go_wp2_with fail
              refine (Calls.mono HNX.out ?_); rintro e w6 ⟨rfl, hO, hs⟩
              have hb6 := Sets.below HBL.out hs (fun q e => by omega) HBL.out.size
              have hba := below_alloc (Below.refl w6.heap.size w6) (.cells #[.int .i64 y.s, .int .i64 y.k, .int .u64 y.t, .int .u64 y.v, .int .i64 y.x] 28)
              have hb7 := below_step hb6 hba
              obtain ⟨bi, oi, rfl, hbi, y0, y1, y2, y3, y4⟩ := HMJ.out _ hb7
              have hbi7 := Nat.lt_of_lt_of_le hbi hb7.size
              have HO7 := hide (hO.below hba)
              have HB7 := hide hb7
              have hr7 : Below (w6.alloc (.cells #[.int .i64 y.s, .int .i64 y.k, .int .u64 y.t, .int .u64 y.v, .int .i64 y.x] 28)).heap.size (w6.alloc (.cells #[.int .i64 y.s, .int .i64 y.k, .int .u64 y.t, .int .u64 y.v, .int .i64 y.x] 28)) (w6.alloc (.cells #[.int .i64 y.s, .int .i64 y.k, .int .u64 y.t, .int .u64 y.v, .int .i64 y.x] 28)) := Below.refl _ _
              have HR7 := hide hr7
              clear hO hs hb6 hba hb7 HMJ HIT HBL HNX hr7
              go_upto_region 17 with fail
              go_quiet (fail)
              go_wp2_with fail
              go_roundw
              case rel => exact ⟨j + 1, m + 1, by go_num, by go_num, by omega, .opened (HO7.out.below (below_drewN HR7.out nq)), below_step HB7.out (below_drewN HR7.out nq)⟩
              case measure => (simp [intOf] <;> omega)
            · have HNX := hide (next_miss b M j wq HIT.out (by omega))
              have hjI : ¬ (j : Int) < (M.length : Int) := by omega
              have hjD : decide ((j : Int) < (M.length : Int)) = false := decide_eq_false hjI
              go_wp2_with fail
              refine (Calls.mono HNX.out ?_); rintro e w6 ⟨rfl, hO, hs⟩
              have hb6 := Sets.below HBL.out hs (fun q e => by omega) HBL.out.size
              have hba := below_alloc (Below.refl w6.heap.size w6) (.cells #[.int .i64 0, .int .i64 0, .int .u64 0, .int .u64 0, .int .i64 0] 28)
              have hb7 := below_step hb6 hba
              have HO7 := hide (hO.below hba)
              have HB7 := hide hb7
              have HR7 := hide (Below.refl (w6.alloc (.cells #[.int .i64 0, .int .i64 0, .int .u64 0, .int .u64 0, .int .i64 0] 28)).heap.size (w6.alloc (.cells #[.int .i64 0, .int .i64 0, .int .u64 0, .int .u64 0, .int .i64 0] 28)))
              clear hO hs hb6 hba hb7 HIT HBL HNX
              go_upto_region 17 with fail
              go_quiet (fail)
              go_wp2_with fail
              go_roundw
              case rel => exact ⟨j, m + 1, by go_num, by go_num, by omega, .opened (HO7.out.below (below_drewN HR7.out nq)), below_step HB7.out (below_drewN HR7.out nq)⟩
              case measure => (simp [intOf] <;> omega)
          · obtain rfl : m = n := by omega
            have hmI : ¬ (m : Int) < (m : Int) := by omega
            by_cases hk3 : k < L1.length
            · obtain ⟨b1, o1, hA1, hlt1, x0, x1, x2, x3, x4⟩ := ItemsAt.item HI1.out (below_step HB3.out HBL.out) hk3
              subst hA1
              have hbq1 : b1 < wq.heap.size := Nat.lt_of_lt_of_le hlt1 (below_step HB3.out HBL.out).size
              have hk3I : (k : Int) < (L1.length : Int) := by omega
              have hk0 : (0 : Int) ≤ (k : Int) := by omega
              have HX : Hid (∀ W : World, Below w3.heap.size w3 W → ItemAt W b1 (o1 + k * 5) L1[k]) := hide (fun W hW => by
                obtain ⟨b', o', e, _, h⟩ := ItemsAt.item HI1.out (below_step HB3.out hW) hk3
                obtain ⟨rfl, rfl⟩ : b1 = b' ∧ o1 = o' := by injection e with h; injection h; exact ⟨by assumption, by assumption⟩
                exact h)
              have hlt3 : b1 < w3.heap.size := Nat.lt_of_lt_of_le hlt1 HB3.out.size
              generalize L1[k] = x at *
              have HSK := hide (itseek_any b M j x wq HIT.out)
              go_wp2_with fail
              refine (Calls.mono HSK.out ?_); rintro e w6 ⟨rfl, hO, hs⟩
              have HB6 := hide (Sets.below HBL.out hs (fun q e => by omega) HBL.out.size)
              have HO6 := hide hO
              clear hO hs HIT HBL HSK x0 x1 x2 x3 x4 hbq1
              go_wp2_with fail
              go_loopw [10] (fun a wr => ∃ j : Nat, a = .int .i64 j ∧ j ≤ lowI x M ∧ Itr wr b M (lowI x M) ∧ Below w3.heap.size w3 wr) (fun a _ => M.length - (intOf a).toNat)
              case atStart => exact ⟨0, rfl, by omega, .opened HO6.out, HB6.out⟩
              case round =>
                clear HO6 HB6
                obtain ⟨j, rfl, hj, hit, hbl⟩ := hrel
                obtain ⟨wl, rfl⟩ : ∃ wl, wl = wr := ⟨_, rfl⟩
                have HIT := hide hit
                have HBL := hide hbl
                have hll := low_le x M
                obtain ⟨x0, x1, x2, x3, x4⟩ := HX.out _ hbl
                have hbl1 : b1 < wl.heap.size := Nat.lt_of_lt_of_le hlt3 hbl.size
                have rx0 := fun s : Near wl => s.cell x0 hbl1
                have rx1 := fun s : Near wl => s.cell x1 hbl1
                have rx2 := fun s : Near wl => s.cell x2 hbl1
                have rx3 := fun s : Near wl => s.cell x3 hbl1
                have rx4 := fun s : Near wl => s.cell x4 hbl1
                clear hit hbl
                by_cases hjl : j < M.length
                · obtain ⟨bi, oi, rfl, hbi, y0, y1, y2, y3, y4⟩ := ItemsAt.item HM3.out HBL.out hjl
                  have hbil : bi < wl.heap.size := Nat.lt_of_lt_of_le hbi HBL.out.size
                  have HNL : Hid (ltB M[j] x = true → j < lowI x M) := hide (fun h => by
                    rcases Nat.lt_or_ge j (lowI x M) with h1 | h1
                    · exact h1
                    · have e : lowI x M = j := by omega
                      have := low_at x M (by omega)
                      simp only [e] at this
                      rw [h] at this
                      cases this)
                  have HNG : Hid (ltB M[j] x = false → j = lowI x M) := hide (fun h => by
                    rcases Nat.lt_or_ge j (lowI x M) with h1 | h1
                    · have := low_lt x M j hjl h1
                      rw [h] at this
                      cases this
                    · omega)
                  have HLS := hide (fun W => rless_any M[j] x W)
                  have hjI : (j : Int) < (M.length : Int) := by omega
                  have hd : decide ((j : Int) < (M.length : Int)) = true := decide_eq_true hjI
                  have hj0 : (0 : Int) ≤ (j : Int) := by omega
                  have hj1 : IntKind.i64.wrap ((j : Int) + 1) = (j : Int) + 1 := by rw [IntKind.wrap_i64]; omega
                  have ry0 := fun s : Near wl => s.cell y0 hbil
                  have ry1 := fun s : Near wl => s.cell y1 hbil
                  have ry2 := fun s : Near wl => s.cell y2 hbil
                  have ry3 := fun s : Near wl => s.cell y3 hbil
                  have ry4 := fun s : Near wl => s.cell y4 hbil
                  generalize M[j] = y at *
                  have HJ := hide hjl
                  clear hj hll hjl
                  cases hl : ltB y x with
                  | true =>
                    rw [hl] at HLS HNL HNG
                    clear hl
                    go_wp2_with fail
                    refine wp_region_near (by kernel_rfl) (by kernel_rfl) ?_
                    repeat (go_big_quiet_step ((first | (go_at_call 10; exact near_of (HLS.out _)))))
                    refine wpQuiet_nil ?_
                    intro _ hw'
                    obtain ⟨s1, rfl⟩ := hw'
                    clear rx0 rx1 rx2 rx3 rx4 ry0 ry1 ry2 ry3 ry4 x0 x1 x2 x3 x4 y0 y1 y2 y3 y4
                    have HJ2 := HNL.out trivial
                    go_wp2_with fail
                    go_roundw
                    case rel => exact ⟨j + 1, by go_num, by omega, HIT.out.below s1.is, below_step HBL.out s1.is⟩
                    case measure => (have := HJ.out; simp [intOf] <;> omega)
                  | false =>
                    rw [hl] at HLS HNL HNG
                    clear hl
                    go_wp2_with fail
                    refine wp_region_near (by kernel_rfl) (by kernel_rfl) ?_
                    repeat (go_big_quiet_step ((first | (go_at_call 10; exact near_of (HLS.out _)))))
                    refine wpQuiet_nil ?_
                    intro _ hw'
                    obtain ⟨s1, rfl⟩ := hw'
                    clear rx0 rx1 rx2 rx3 rx4 ry0 ry1 ry2 ry3 ry4 x0 x1 x2 x3 x4 y0 y1 y2 y3 y4 hj1
                    go_wp2_with fail
                    go_roundw
                    case rel => exact ⟨j, k + 1, by go_num, by go_num, by omega, by omega, by rw [HNG.out trivial]; exact HIT.out.below s1.is, below_step HBL.out s1.is⟩
                    case measure => (simp [intOf] <;> omega)
                · have HJE : Hid (j = lowI x M) := hide (by omega)
                  have hjI : ¬ (j : Int) < (M.length : Int) := by omega
                  have hd : decide ((j : Int) < (M.length : Int)) = false := decide_eq_false hjI
                  clear hj hll
                  go_wp2_with fail
                  refine wp_region_near (by kernel_rfl) (by kernel_rfl) ?_
                  repeat (go_big_quiet_step (fail))
                  refine wpQuiet_nil ?_
                  intro _ hw'
                  obtain ⟨s1, rfl⟩ := hw'
                  clear rx0 rx1 rx2 rx3 rx4 x0 x1 x2 x3 x4
                  go_wp2_with fail
                  go_roundw
                  case rel => exact ⟨j, k + 1, by go_num, by go_num, by omega, by omega, by rw [HJE.out]; exact HIT.out.below s1.is, below_step HBL.out s1.is⟩
                  case measure => (simp [intOf] <;> omega)
            · have hk3I : ¬ (k : Int) < (L1.length : Int) := by omega
              go_wp2_with fail
              go_roundw
              case rel => exact ⟨j, k + 1, by go_num, by go_num, by omega, by omega, HIT.out, HBL.out⟩
              case measure => (simp [intOf] <;> omega)
    · have hgD : ¬ (k : Int) ≤ (L1.length : Int) ∨ ((k : Int) ≤ (L1.length : Int) ∧ ¬ (k : Int) < 20) := by omega
      rcases hgD with h | ⟨h1, h2⟩
      · have hd : decide ((k : Int) ≤ (L1.length : Int)) = false := decide_eq_false h
        go_wp2_with fail
        go_ret
        exact ⟨rfl, below_step HB3.out HBL.out⟩
      · have hd : decide ((k : Int) ≤ (L1.length : Int)) = true := decide_eq_true h1
        go_wp2_with fail
        go_ret
        exact ⟨rfl, below_step HB3.out HBL.out⟩
end Go.Proofs.Ytfmckinlgaejeaa.mergeIters
