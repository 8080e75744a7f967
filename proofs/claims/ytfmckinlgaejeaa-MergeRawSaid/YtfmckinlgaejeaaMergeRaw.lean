/- The walk of clepsydralaw13.MergeRaw: it returns true. Conditions: the arguments are readable. -/
import Derived.Test.YtfmckinlgaejeaaM13
import Derived.Test.YtfmckinlgaejeaaMItW
import Derived.Test.YtfmckinlgaejeaaWout
import Derived.Test.YtfmckinlgaejeaaBits
namespace Go.Proofs.Ytfmckinlgaejeaa.mergeRaw
set_option linter.unusedVariables false
set_option linter.unusedSimpArgs false
open Go.ChangeShapes Go.WideShapes Go.ChangeAt Go.RowKit

theorem lenR_60 : ∀ (R : List (Sv It)), (∀ r ∈ R, r.L.length ≤ 60) → lenR (lsR R) ≤ R.length * 60
  | [], _ => by simp [lenR, lsR]
  | r :: R, h => by
    have h1 := h r List.mem_cons_self
    have h2 := lenR_60 R (fun r hr => h r (List.mem_cons_of_mem _ hr))
    simp [lenR, lsR] at h2 ⊢
    omega
theorem next_ex (b : Nat) (M : List It) (j : Nat) (w : World) (h : Itr w b M j) :
    Calls Try.prog 18 #[.pointer (some ⟨b, 0, none⟩)] w fun e w' => ∃ (y : It) (ok : Bool) (j' : Nat), e = .returned (.tuple #[y.val, .bool ok]) ∧ ItO w' b M j' ∧ Sets (fun c => c = b) w w' := by
  by_cases hj : j < M.length
  · refine Calls.mono (next_hit b M j w h M[j] (List.getElem?_eq_getElem hj)) ?_
    rintro e w' ⟨rfl, h1, h2⟩
    exact ⟨_, _, j + 1, rfl, h1, h2⟩
  · refine Calls.mono (next_miss b M j w h (by omega)) ?_
    rintro e w' ⟨rfl, h1, h2⟩
    exact ⟨_, _, j, rfl, h1, h2⟩
theorem og_items {base : Nat} {w : World} {v : Value} {L : List It} (h : Og base w v L) : ∃ A c, v = .slice A L.length c ∧ ItemsAt w A L := by
  rcases h with ⟨rfl, rfl⟩ | ⟨g, cap, R, rfl, _, hg, _⟩
  · exact ⟨none, 0, rfl, RowAt.nil_⟩
  · refine ⟨_, cap, rfl, fun _ => ⟨g, 0, rfl, (Array.getElem?_eq_some_iff.1 hg).1, fun k hk j u hu => ?_⟩⟩
    have hf := flat_at L R k hk j u hu
    rw [show 0 + k * 5 + j = k * 5 + j by omega, cell_of_row w g _ _ _ _ hg]
    simpa using hf
theorem keep_len (p : It → Bool) (L : List It) : (keepL p L).length ≤ L.length := List.length_filter_le _ _
theorem keep_sub {p : It → Bool} {L : List It} {x : It} (h : x ∈ keepL p L) : x ∈ L := (List.mem_filter.1 h).1
set_option maxRecDepth 100000 in
set_option maxHeartbeats 6400000 in
theorem walk {w : World} (A0 : Option Addr) (c0 : Nat) (L0 : List (Sv It)) (lc0 : L0.length ≤ c0) (cm0 : c0 ≤ maxLen) (r0 : RowAt (fun s => [s.val]) 1 w A0 L0) (w0 : ∀ s ∈ L0, Sv.good It.cells 5 It.wf w s)
    (x : It) (w1 : x.wf) (a2 : Int) (w2 : (Lit.int .i64 a2).wf = true) :
    Calls Try.prog 7 #[.slice A0 L0.length c0, x.val, .int .i64 a2] w fun e w' => e = .returned (.bool true) ∧ Below w.heap.size w w' := by
  have hba := below_alloc (Below.refl w.heap.size w) (.cells #[.int .i64 x.s, .int .i64 x.k, .int .u64 x.t, .int .u64 x.v, .int .i64 x.x] 28)
  have hgn := heap_alloc_new w (.cells #[.int .i64 x.s, .int .i64 x.k, .int .u64 x.t, .int .u64 x.v, .int .i64 x.x] 28)
  have HR := hide (r0.below hba)
  have HG := hide (fun s hs => (w0 s hs).below hba)
  have HBA := hide hba
  have hgl : w.heap.size < (w.alloc (.cells #[.int .i64 x.s, .int .i64 x.k, .int .u64 x.t, .int .u64 x.v, .int .i64 x.x] 28)).heap.size := by simp
  obtain ⟨wx, hwx⟩ : ∃ wx, w.alloc (.cells #[.int .i64 x.s, .int .i64 x.k, .int .u64 x.t, .int .u64 x.v, .int .i64 x.x] 28) = wx := ⟨_, rfl⟩
  rw [hwx] at hgn HR HG HBA hgl
  have HX : Hid (∀ W : World, Below wx.heap.size wx W → W.cell? ⟨w.heap.size, 0, none⟩ = some (.int .i64 x.s) ∧ W.cell? ⟨w.heap.size, 1, none⟩ = some (.int .i64 x.k) ∧ W.cell? ⟨w.heap.size, 2, none⟩ = some (.int .u64 x.t) ∧ W.cell? ⟨w.heap.size, 3, none⟩ = some (.int .u64 x.v) ∧ W.cell? ⟨w.heap.size, 4, none⟩ = some (.int .i64 x.x)) := hide (fun W hW => box_item ((hW.block _ hgl).trans hgn))
  obtain ⟨m, hm, hm2⟩ : ∃ m : Nat, bits .and .i64 a2 255 = (m : Int) ∧ m ≤ 255 := ⟨(a2 % 256).toNat, by rw [and_mask_i64 a2 8 255 (by omega) (by decide)]; omega, by omega⟩
  have HB0 := hide (Below.refl wx.heap.size wx)
  unfold maxLen at cm0
  clear r0 w0 hba hgn w1 w2
  by_cases h8 : 8 < L0.length
  · have h8I : (8 : Int) < (L0.length : Int) := by omega
    go_enter Try.func7, Try.ntmps7
    go_upto_region 1 with fail
    try rw [hwx]
    clear hwx
    go_wp2_with fail
    refine (Calls.mono (awake13_any _) ?_); rintro e w5 ⟨rfl, hbl⟩
    have HBL := hide (below_step HBA.out hbl)
    clear hbl
    go_wp2_with fail
    go_ret
    exact ⟨rfl, HBL.out⟩
  have h8I : ¬ (8 : Int) < (L0.length : Int) := by omega
  go_enter Try.func7, Try.ntmps7
  go_upto_region 1 with fail
  try rw [hwx]
  clear hwx
  go_wp2_with fail
  go_loopw [7] (fun i wr => ∃ k : Nat, i = .int .i64 k ∧ k ≤ L0.length ∧ (∀ j (hj : j < L0.length), j < k → (L0[j]).L.length ≤ 60) ∧ Below wx.heap.size wx wr) (fun i _ => L0.length - (intOf i).toNat)
  case atStart => exact ⟨0, rfl, by omega, fun j hj h => by omega, HB0.out⟩
  case round =>
    clear HB0
    obtain ⟨k, rfl, hk, hall, hb⟩ := hrel
    have HALL := hide hall
    have HB := hide hb
    clear hall hb
    by_cases hkl : k < L0.length
    · obtain ⟨bl, off, rfl, hbl, hcr⟩ := HR.out.at_ hkl
      have hc0 : wr.cell? ⟨bl, off + k, none⟩ = some (L0[k]).val := keep_cell HB.out (by simpa using hcr k hkl 0 _ rfl) hbl
      have hkI : (k : Int) < (L0.length : Int) := by omega
      have HS : Hid ((L0[k]).L.length ≤ 60 → ∀ j (hj : j < L0.length), j < k + 1 → (L0[j]).L.length ≤ 60) := hide (fun h j hj hjk => by
        by_cases e : j = k
        · subst e; exact h
        · exact HALL.out j hj (by omega))
      generalize L0[k] = s at *
      obtain ⟨Ai, ci, Li⟩ := s
      simp only at HS
      clear hcr
      by_cases h60 : 60 < Li.length
      · have h60I : (60 : Int) < (Li.length : Int) := by omega
        clear HS
        go_wp2_with fail
        refine (Calls.mono (awake13_any _) ?_); rintro e w5 ⟨rfl, hbl⟩
        have HBL := hide (below_step HBA.out (below_step HB.out hbl))
        clear hbl
        go_wp2_with fail
        go_ret
        exact ⟨rfl, HBL.out⟩
      · have h60I : ¬ (60 : Int) < (Li.length : Int) := by omega
        go_wp2_with fail
        go_roundw
        case rel => exact ⟨k + 1, by go_num, by omega, HS.out (by omega), HB.out⟩
        case measure => (simp [intOf] <;> omega)
    · obtain rfl : k = L0.length := by omega
      have hkI : ¬ (L0.length : Int) < (L0.length : Int) := by omega
      have hl60 := lenR_60 L0 (fun r hr => by
        obtain ⟨j, hj, rfl⟩ := List.mem_iff_getElem.1 hr
        exact HALL.out j hj hj)
      have HML := hide (mrgG_len (lenR (lsR L0)) (lsR L0) [])
      have HMW := hide (mrgG_from It.wf (lenR (lsR L0)) (lsR L0) [] (fun l hl y hy => by
        obtain ⟨r, hr, rfl⟩ := List.mem_map.1 hl
        exact (HG.out r hr).ok y hy) (fun y hy => by cases hy))
      have HNW := hide (itnew_any A0 c0 L0 wr (HR.out.below HB.out) (fun r hr => by have h := HG.out r hr; exact ⟨h.row.below HB.out, h.lc, h.cm⟩) (by omega) (by omega))
      have HMR : Hid (∀ W : World, Below wx.heap.size wx W → Calls Try.prog 13 #[.slice A0 L0.length c0] W (RetSl (mrgG (lenR (lsR L0)) (lsR L0) []) W)) := hide (fun W hW => mrows_any A0 c0 L0 W (HR.out.below hW) (fun r hr => by have h := HG.out r hr; exact ⟨h.row.below hW, h.lc, h.cm⟩) (by omega) (by omega))
      have hlr : lenR (lsR L0) ≤ 480 := by omega
      generalize lenR (lsR L0) = lr at *
      generalize mrgG lr (lsR L0) [] = M at *
      clear hl60 HALL HR HG
      go_wp2_with fail
      refine (Calls.mono HNW.out ?_); rintro e w4 ⟨b, rfl, hit, hb, hbl⟩
      have HIT := hide hit
      have HBL := hide (below_step HB.out hbl)
      have hb' : wx.heap.size ≤ b := Nat.le_trans HB.out.size hb
      clear hit hbl HNW HB hb
      go_wp2_with fail
      go_loopw [9] (fun i wr => ∃ (k j : Nat), i = .int .i64 k ∧ k ≤ m ∧ Itr wr b M j ∧ Below wx.heap.size wx wr) (fun i _ => m - (intOf i).toNat)
      case atStart => exact ⟨0, 0, rfl, by omega, HIT.out, HBL.out⟩
      case round =>
        clear HIT HBL
        obtain ⟨k, j, rfl, hk, hit, hbl⟩ := hrel
        obtain ⟨wq, rfl⟩ : ∃ wq, wq = wr := ⟨_, rfl⟩
        have HIT := hide hit
        have HBL := hide hbl
        obtain ⟨x0, x1, x2, x3, x4⟩ := HX.out _ hbl
        clear hit hbl
        by_cases hkm : k < m
        · have hkmI : (k : Int) < (m : Int) := by omega
          have hk0 : (0 : Int) ≤ (k : Int) := by omega
          by_cases h6 : k % 7 = 6
          · have h6I : ((k : Int) % 7 == 6) = true := by rw [beq_iff_eq]; omega
            have HSK := hide (itseek_any b M j x wq HIT.out)
            go_wp2_with fail
            refine (Calls.mono HSK.out ?_); rintro e w6 ⟨rfl, hO, hs⟩
            have HB6 := hide (Sets.below HBL.out hs (fun q e => by omega) HBL.out.size)
            have HNX := hide (next_ex b M (lowI x M) w6 (.opened hO))
            clear hO hs HSK
            go_wp2_with fail
            refine (Calls.mono HNX.out ?_); rintro e w7 ⟨y, ok, j2, rfl, hO, hs⟩
            have HB7 := hide (Sets.below HB6.out hs (fun q e => by omega) HB6.out.size)
            have HO7 := hide hO
            clear hO hs HNX
            go_wp2_with fail
            go_roundw
            case rel => exact ⟨k + 1, j2, by go_num, by omega, .opened HO7.out, HB7.out⟩
            case measure => (simp [intOf] <;> omega)
          · have h6I : ((k : Int) % 7 == 6) = false := by rw [beq_eq_false_iff_ne]; omega
            have HNX := hide (next_ex b M j wq HIT.out)
            go_wp2_with fail
            refine (Calls.mono HNX.out ?_); rintro e w7 ⟨y, ok, j2, rfl, hO, hs⟩
            have HB7 := hide (Sets.below HBL.out hs (fun q e => by omega) HBL.out.size)
            have HO7 := hide hO
            clear hO hs HNX
            go_wp2_with fail
            go_roundw
            case rel => exact ⟨k + 1, j2, by go_num, by omega, .opened HO7.out, HB7.out⟩
            case measure => (simp [intOf] <;> omega)
        · obtain rfl : k = m := by omega
          have hkmI : ¬ (k : Int) < (k : Int) := by omega
          have hML : M.length ≤ 480 := by have := HML.out; simp only [List.length_nil] at this; omega
          clear x0 x1 x2 x3 x4 HIT
          go_wp2_with fail
          refine (Calls.mono (HMR.out _ HBL.out) ?_); rintro e w6 ⟨v6, rfl, ⟨A6, c6, rfl, h6, _, _⟩, hb6⟩
          have HCL := hide (clean_any A6 c6 M w6 h6 HMW.out (by omega))
          have HB6 := hide (below_step HBL.out hb6)
          clear h6 hb6 HBL
          go_wp2_with fail
          refine (Calls.mono HCL.out ?_); rintro e w7 ⟨⟨v7, rfl, ho7⟩, hb7⟩
          obtain ⟨A7, c7, rfl, h7⟩ := og_items ho7
          have hw7 : ∀ y ∈ cleanL M, y.wf := fun y hy => HMW.out y (keep_sub hy)
          have hl7 : (cleanL M).length ≤ 480 := Nat.le_trans (keep_len _ M) hML
          have HB7 := hide (below_step HB6.out hb7)
          obtain ⟨x0, x1, x2, x3, x4⟩ := HX.out _ HB7.out
          have HWO := hide (wout_any A7 c7 (cleanL M) x.v w7 h7 hw7 (by omega))
          have HW7 := hide hw7
          clear ho7 hb7 h7 hw7 HCL HB6
          generalize cleanL M = M7 at *
          go_wp2_with fail
          refine (Calls.mono HWO.out ?_); rintro e w8 ⟨⟨v8, rfl, ho8⟩, hb8⟩
          obtain ⟨A8, c8, rfl, h8⟩ := og_items ho8
          have hw8 : ∀ y ∈ keepL (oldT x.v) (cleanL M7), y.wf := fun y hy => HW7.out y (keep_sub (keep_sub hy))
          have hl8 : (keepL (oldT x.v) (cleanL M7)).length ≤ 480 := Nat.le_trans (keep_len _ _) (Nat.le_trans (keep_len _ M7) hl7)
          have HB8 := hide (below_step HB7.out hb8)
          clear x0 x1 x2 x3 x4
          obtain ⟨x0, x1, x2, x3, x4⟩ := HX.out _ HB8.out
          have HWO8 := hide (wout_any A8 c8 _ x.v w8 h8 hw8 (by omega))
          clear ho8 hb8 h8 hw8 HWO HB7
          generalize keepL (oldT x.v) (cleanL M7) = M8 at *
          go_wp2_with fail
          refine (Calls.mono HWO8.out ?_); rintro e w9 ⟨⟨v9, rfl, ho9⟩, hb9⟩
          obtain ⟨A9, c9, rfl, h9⟩ := og_items ho9
          have hl9 : (keepL (oldT x.v) (cleanL M8)).length ≤ M8.length := Nat.le_trans (keep_len _ _) (keep_len _ M8)
          have HB9 := hide (below_step HB8.out hb9)
          clear ho9 hb9 h9 HWO8 HB8 x0 x1 x2 x3 x4
          generalize keepL (oldT x.v) (cleanL M8) = M9 at *
          have hlI : (M9.length : Int) ≤ (M8.length : Int) := by omega
          have hlD : decide ((M9.length : Int) ≤ (M8.length : Int)) = true := decide_eq_true hlI
          go_wp2_with fail
          refine (Calls.mono (awake13_any _) ?_); rintro e w10 ⟨rfl, hb10⟩
          have HB10 := hide (below_step HB9.out hb10)
          clear hb10
          go_wp2_with fail
          go_ret
          exact ⟨rfl, below_step HBA.out HB10.out⟩
end Go.Proofs.Ytfmckinlgaejeaa.mergeRaw
