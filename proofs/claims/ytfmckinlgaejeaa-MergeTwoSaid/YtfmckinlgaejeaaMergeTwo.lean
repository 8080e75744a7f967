/- The walk of clepsydralaw13.MergeTwo: it returns true. Conditions: the arguments are readable. -/
import Derived.Test.YtfmckinlgaejeaaM13
import Derived.Test.YtfmckinlgaejeaaMTwo
import Derived.Test.YtfmckinlgaejeaaREq
import Derived.Deep.RegionHeld3
namespace Go.Proofs.Ytfmckinlgaejeaa.mergeTwo
set_option linter.unusedVariables false
set_option linter.unusedSimpArgs false
open Go.ChangeShapes Go.WideShapes Go.ChangeAt Go.RowKit

theorem rows_all {w : World} {R L0 : List (Sv It)} (h : R.map (·.L) = rowsL (L0.map (·.L))) (hg : ∀ s ∈ L0, Sv.good It.cells 5 It.wf w s) : R.length ≤ 8 ∧ ∀ r ∈ R, Rising r.L ∧ r.L.length ≤ 40 ∧ ∀ x ∈ r.L, x.wf := by
  constructor
  · have := congrArg List.length h
    unfold rowsL at this
    simp at this
    omega
  · intro r hr
    have hm : r.L ∈ R.map (·.L) := List.mem_map.2 ⟨r, hr, rfl⟩
    rw [h] at hm
    unfold rowsL at hm
    obtain ⟨l, hl, e⟩ := List.mem_map.1 hm
    obtain ⟨s, hs, rfl⟩ := List.mem_map.1 (List.mem_of_mem_take hl)
    rw [← e]
    exact ⟨rk_up _, rk_len _, fun x hx => (hg s hs).ok x (rk_mem hx)⟩
theorem drop_flat {R : List (Sv It)} {n k q : Nat} (hn : R.length = n) (hk : k < n) (hq : q = n - (k + 1)) (hqn : q < R.length) : ((lsR R).drop (n - (k + 1))).flatten = (R[q]).L ++ ((lsR R).drop (n - k)).flatten := by
  subst hq
  have h1 : n - (k + 1) < (lsR R).length := by rw [lsR_len]; omega
  rw [List.drop_eq_getElem_cons h1, List.flatten_cons]
  congr 1
  · simp [lsR]
  · congr 2; omega
theorem len_R : ∀ (R : List (Sv It)), (∀ r ∈ R, r.L.length ≤ 40) → lenR (lsR R) ≤ R.length * 40
  | [], _ => by simp [lenR, lsR]
  | r :: R, h => by
    have h1 := h r List.mem_cons_self
    have h2 := len_R R (fun r hr => h r (List.mem_cons_of_mem _ hr))
    simp [lenR, lsR] at h2 ⊢
    omega
theorem og_items {base : Nat} {w : World} {v : Value} {L : List It} (h : Og base w v L) : ∃ A c, v = .slice A L.length c ∧ ItemsAt w A L := by
  rcases h with ⟨rfl, rfl⟩ | ⟨g, cap, R, rfl, _, hg, _⟩
  · exact ⟨none, 0, rfl, RowAt.nil_⟩
  · refine ⟨_, cap, rfl, fun _ => ⟨g, 0, rfl, (Array.getElem?_eq_some_iff.1 hg).1, fun k hk j u hu => ?_⟩⟩
    have hf := flat_at L R k hk j u hu
    rw [show 0 + k * 5 + j = k * 5 + j by omega, cell_of_row w g _ _ _ _ hg]
    simpa using hf
theorem flat_wf {R : List (Sv It)} (h : ∀ r ∈ R, ∀ x ∈ r.L, x.wf) : ∀ x ∈ (lsR R).flatten, x.wf := by
  intro x hx
  rw [List.mem_flatten] at hx
  obtain ⟨l, hl, hx⟩ := hx
  obtain ⟨r, hr, rfl⟩ := List.mem_map.1 hl
  exact h r hr x hx

set_option maxRecDepth 100000 in
set_option maxHeartbeats 6400000 in
theorem walk {w : World} (A0 : Option Addr) (c0 : Nat) (L0 : List (Sv It)) (lc0 : L0.length ≤ c0) (cm0 : c0 ≤ maxLen) (r0 : RowAt (fun s => [s.val]) 1 w A0 L0) (w0 : ∀ s ∈ L0, Sv.good It.cells 5 It.wf w s) :
    Calls Try.prog 4 #[.slice A0 L0.length c0] w fun e w' => e = .returned (.bool true) ∧ Below w.heap.size w w' := by
  have hlr := lrows_any A0 c0 L0 w r0 w0 (by unfold maxLen at cm0; omega)
  have HLR := hide hlr
  have HW0 := hide w0
  clear hlr r0 w0 lc0 cm0
  go_enter Try.func4, Try.ntmps4
  go_wp2_with fail
  refine (Calls.mono HLR.out ?_); rintro e w2 ⟨v, R, rfl, ho, hmp, hrd, hb2⟩
  obtain ⟨hn8, hall⟩ := rows_all hmp HW0.out
  obtain ⟨A, c, rfl, hrw, _, hnc, hcm⟩ := OwnL.row (cells := svC) (fun _ => rfl) ho
  have HRW := hide hrw
  have HRD : Hid (∀ r ∈ R, ItemsAt w2 r.A r.L ∧ r.L.length ≤ r.c ∧ r.c ≤ maxLen) := hide (fun r hr => ⟨(hrd r hr).1, (hrd r hr).2.1, (hrd r hr).2.2.1⟩)
  have HALL := hide hall
  have HB2 := hide hb2
  obtain ⟨n, hn⟩ : ∃ n, R.length = n := ⟨_, rfl⟩
  have HN := hide hn
  rw [hn] at hn8 hnc ⊢
  have hn8I : (n : Int) ≤ 8 := by omega
  clear ho hmp hrd hb2 hrw hall HLR HW0 hn
  unfold maxLen at hcm
  go_wp2_with fail
  go_loopw [4, 5] (fun v i wr => ∃ (k : Nat) (O : List It), i = .int .i64 ((n : Int) - 1 - (k : Int)) ∧ k ≤ n ∧ Sl wr v O ∧ RowOf ((lsR R).drop (n - k)).flatten O ∧ O.length ≤ 40 * k ∧ Below w2.heap.size w2 wr) (fun _ i _ => (intOf i + 1).toNat)
  case atStart =>
    refine ⟨0, [], by simp, by omega, Sl.nil_ _, ?_, by simp, Below.refl _ _⟩
    rw [show (lsR R).drop (n - 0) = [] from List.drop_of_length_le (by rw [lsR_len, HN.out]; omega)]
    exact rowOf_nil
  case round =>
    obtain ⟨k, O, rfl, hk, hsl, hro, hlO, hb⟩ := hrel
    obtain ⟨A4, c4, rfl, hr4, hc4, hcm4⟩ := hsl
    have HR4 := hide hr4
    have HRO := hide hro
    have HB := hide hb
    clear hr4 hro
    by_cases hkn : k < n
    · obtain ⟨q, hq⟩ : ∃ q : Nat, (n : Int) - 1 - (k : Int) = q := ⟨n - (k + 1), by omega⟩
      have HQ : Hid (q = n - (k + 1)) := hide (by omega)
      have hqI : (q : Int) < (n : Int) := by omega
      have hq0 : (0 : Int) ≤ (q : Int) := by omega
      have hql : q < R.length := by rw [HN.out]; omega
      have HDF := hide (drop_flat HN.out hkn HQ.out hql)
      have HQI := hide hq
      rw [hq]
      obtain ⟨bg, og, rfl, hbg, hcr⟩ := HRW.out.at_ hql
      have hcq0 : w2.cell? ⟨bg, og + q, none⟩ = some (R[q]).val := by simpa using hcr q hql 0 _ rfl
      obtain ⟨iq, iq1, iq2⟩ := HRD.out R[q] (List.getElem_mem _)
      obtain ⟨uq, lq, _⟩ := HALL.out R[q] (List.getElem_mem _)
      have HCR : Hid (∀ (j : Nat) (hj : j < R.length) (W : World), Below w2.heap.size w2 W → W.cell? ⟨bg, og + j, none⟩ = some (R[j]).val) := hide (fun j hj W hW => (hW.cell (p := ⟨bg, _, none⟩) hbg).trans (by simpa using hcr j hj 0 _ rfl))
      generalize R[q] = s at *
      obtain ⟨sA, sc, sL⟩ := s
      simp only at iq iq1 iq2 uq lq HDF
      have HC : Hid (∀ W : World, Below w2.heap.size w2 W → W.cell? ⟨bg, og + q, none⟩ = some (.slice sA sL.length sc)) := hide (fun W hW => (hW.cell (p := ⟨bg, _, none⟩) hbg).trans hcq0)
      have HIQ := hide iq
      have HUQ := hide uq
      have hcq := HC.out _ HB.out
      have hba := below_alloc (Below.refl wr.heap.size wr) (.cells #[.slice sA sL.length sc, .slice A4 O.length c4] 22)
      have hm2 := m2_any wr.heap.size ⟨sA, sc, sL⟩ ⟨A4, c4, O⟩ (wr.alloc (.cells #[.slice sA sL.length sc, .slice A4 O.length c4] 22)) (heap_alloc_new wr _) ((HIQ.out.below HB.out).below hba) iq1 iq2 (HR4.out.below hba) hc4 hcm4 (by show sL.length + O.length ≤ _; omega)
      have HM2 := hide hm2
      have HBA := hide (below_step HB.out hba)
      clear hcr hcq0 iq uq hm2 hba hb hq
      go_wp2_with fail
      refine (Calls.mono HM2.out ?_); rintro e w5 ⟨v5, rfl, hs5, hb5⟩
      have HS5 := hide hs5
      have HB5 := hide (below_step HBA.out hb5)
      clear hs5 hb5 HM2 hcq
      have HM7 : Hid (∀ W : World, Below (w5.alloc (.cells #[.slice sA sL.length sc, .slice sA sL.length sc] 22)).heap.size (w5.alloc (.cells #[.slice sA sL.length sc, .slice sA sL.length sc] 22)) W → Calls Try.prog 13 #[.slice (some ⟨w5.heap.size, 0, none⟩) 2 2] W (RetSl sL W)) := by
        refine hide fun W hW => ?_
        have h5 := below_step HB5.out (below_alloc (Below.refl w5.heap.size w5) (.cells #[.slice sA sL.length sc, .slice sA sL.length sc] 22))
        have hi := (HIQ.out.below h5).below hW
        have := m2_any w5.heap.size ⟨sA, sc, sL⟩ ⟨sA, sc, sL⟩ W ((hW.block _ (by simp)).trans (heap_alloc_new w5 _)) hi iq1 iq2 hi iq1 iq2 (by show sL.length + sL.length ≤ _; omega)
        rw [mrgT_self HUQ.out] at this
        exact this
      have hcq := HC.out _ HB5.out
      go_upto_region 7 with fail
      go_region_held3 (fun W' => W'.cell? ⟨bg, og + q, none⟩ = some (.slice sA sL.length sc)) (exact HC.out _ (below_step HB5.out (by repeat (first | exact HB8.out | exact HB7.out | exact Below.refl _ _ | refine below_alloc ?_ _ | refine Below.drew ?_)))) (first
        | (go_at_call 13; refine (Calls.mono (HM7.out _ (by repeat (first | exact Below.refl _ _ | refine Below.drew ?_))) ?_); rintro e v7 ⟨x7, rfl, hs7, hb7⟩; obtain ⟨A7, c7, rfl, hr7, _⟩ := hs7; have HB7 : Hid (Below w5.heap.size w5 v7) := hide (below_step (by repeat (first | exact Below.refl _ _ | refine below_alloc ?_ _ | refine Below.drew ?_)) hb7); have HEQ := hide (fun (W : World) (hW : Below v7.heap.size v7 W) => requal_any A7 sA c7 sc sL sL W (hr7.below hW) ((HIQ.out.below (below_step HB5.out HB7.out)).below hW) (by omega) (by omega)); clear hr7 hb7)
        | (go_at_call 14; refine (Calls.mono (HEQ.out _ (by repeat (first | exact Below.refl _ _ | refine Below.drew ?_))) ?_); rintro e v8 ⟨rfl, hb8⟩; rw [show eqL sL sL = true from eqL_iff.2 rfl]; have HB8 : Hid (Below w5.heap.size w5 v8) := hide (below_step (by repeat (first | exact HB7.out | refine Below.drew ?_)) hb8); clear hb8))
      clear HM7 HEQ HB7 hcq
      go_wp2_with fail
      go_loopw [6] (fun i wq => ∃ t : Nat, i = .int .i64 t ∧ t ≤ n ∧ Below w5.heap.size w5 wq) (fun i _ => n - (intOf i).toNat)
      case atStart => exact ⟨0, rfl, by omega, HB8.out⟩
      case round =>
        clear HB8
        obtain ⟨t, rfl, ht, hbt⟩ := hrel
        obtain ⟨wq, rfl⟩ : ∃ wq, wq = wr := ⟨_, rfl⟩
        have HBT := hide hbt
        clear hbt
        by_cases htn : t < n
        · have htl : t < R.length := by rw [HN.out]; exact htn
          have htI : (t : Int) < (n : Int) := by omega
          have h25 := below_step HB5.out HBT.out
          have hct := HCR.out t htl wq h25
          have hcq := HC.out _ h25
          have hbgw : bg < wq.heap.size := Nat.lt_of_lt_of_le hbg h25.size
          obtain ⟨it, _, _⟩ := HRD.out R[t] (List.getElem_mem _)
          obtain ⟨_, lt, _⟩ := HALL.out R[t] (List.getElem_mem _)
          generalize R[t] = u at *
          obtain ⟨tA, tc, tL⟩ := u
          simp only at it lt
          replace hct : wq.cell? ⟨bg, og + t, none⟩ = some (.slice tA tL.length tc) := hct
          have H1 := hide (fun (W : World) (hW : Below wq.heap.size wq W) => overlap_any sA tA sc tc sL tL W ((HIQ.out.below h25).below hW) ((it.below h25).below hW) (by omega) (by omega))
          have H2 := hide (fun (W : World) (hW : Below wq.heap.size wq W) => overlap_any tA sA tc sc tL sL W ((it.below h25).below hW) ((HIQ.out.below h25).below hW) (by omega) (by omega))
          rw [ovB_comm tL sL] at H2
          generalize ovB sL tL = o at *
          have rct := fun s : Near wq => s.cell hct hbgw
          have rcq := fun s : Near wq => s.cell hcq hbgw
          clear it lt h25
          cases o with
          | false =>
            go_wp2_with fail
            refine wp_region_near (by kernel_rfl) (by kernel_rfl) ?_
            repeat (go_big_quiet_step (first | (go_at_call 11; with_reducible exact near_of (H1.out _ (Near.is _))) | (go_at_call 11; with_reducible exact near_of (H2.out _ (Near.is _)))))
            refine wpQuiet_nil ?_
            intro _ hw'
            obtain ⟨s1, rfl⟩ := hw'
            clear rct rcq hct hcq
            go_wp2_with fail
            go_roundw
            case rel => exact ⟨t + 1, by go_num, by omega, below_step HBT.out s1.is⟩
            case measure => (simp [intOf] <;> omega)
          | true =>
            go_wp2_with fail
            refine wp_region_near (by kernel_rfl) (by kernel_rfl) ?_
            repeat (go_big_quiet_step (first | (go_at_call 11; with_reducible exact near_of (H1.out _ (Near.is _))) | (go_at_call 11; with_reducible exact near_of (H2.out _ (Near.is _)))))
            refine wpQuiet_nil ?_
            intro _ hw'
            obtain ⟨s1, rfl⟩ := hw'
            clear rct rcq hct hcq
            go_wp2_with fail
            go_roundw
            case rel => exact ⟨t + 1, by go_num, by omega, below_step HBT.out s1.is⟩
            case measure => (simp [intOf] <;> omega)
        · obtain rfl : t = n := by omega
          have htI : ¬ (t : Int) < (t : Int) := by omega
          have hml := mrgT_len sL O
          have HS9 := hide (HS5.out.below HBT.out)
          have HB9 := hide (below_step HB5.out HBT.out)
          have HRO2 : Hid (RowOf ((lsR R).drop (t - (k + 1))).flatten (mrgT sL O)) := hide (by rw [HDF.out]; exact mrgT_row HUQ.out HRO.out)
          clear HS5 HBT
          go_wp2_with fail
          go_roundw
          case rel => exact ⟨k + 1, mrgT sL O, by have := HQI.out; congr 1; omega, by omega, HS9.out, HRO2.out, by omega, HB9.out⟩
          case measure => (simp [intOf] <;> omega)
    · obtain rfl : k = n := by omega
      have hi : (k : Int) - 1 - (k : Int) = -1 := by omega
      rw [hi]
      have hRO : RowOf (lsR R).flatten O := by
        have := HRO.out
        rw [Nat.sub_self, List.drop_zero] at this
        exact this
      have hOw : ∀ x ∈ O, x.wf := fun x hx => flat_wf (fun r hr => (HALL.out r hr).2.2) x ((hRO.mem x).1 hx).1
      have hlen : lenR (lsR R) ≤ 320 := by
        have := len_R R (fun r hr => (HALL.out r hr).2.1)
        rw [HN.out] at this
        omega
      have hTO : mrgG (lenR (lsR R)) (lsR R) [] = O := (mrgG_flat (by
        intro l hl
        obtain ⟨r, hr, rfl⟩ := List.mem_map.1 hl
        exact (HALL.out r hr).1)).uniq hRO
      have hmr := mrows_any A c R wr (HRW.out.below hb) (fun r hr => ⟨(HRD.out r hr).1.below hb, (HRD.out r hr).2⟩) (by rw [HN.out]; omega) (by omega)
      rw [HN.out, hTO] at hmr
      have HMR := hide hmr
      have HOW := hide hOw
      have hlO2 : O.length ≤ 320 := by omega
      clear hRO hOw hlen hTO hmr HRO HRD HRW HALL hb
      go_wp2_with fail
      refine (Calls.mono HMR.out ?_); rintro e w5 ⟨v5, rfl, hs5, hb5⟩
      obtain ⟨A5, c5, rfl, hr5, _, _⟩ := hs5
      have HB5 := hide (below_step HB.out hb5)
      have H45 := hide (HR4.out.below hb5)
      have HR5 := hide hr5
      clear hr5 hb5 HR4 HMR
      go_wp2_with fail
      refine (Calls.mono (requal_any A4 A5 c4 c5 O O _ H45.out HR5.out (by omega) (by omega)) ?_); rintro e w6 ⟨rfl, hb6⟩
      rw [show eqL O O = true from eqL_iff.2 rfl]
      have HB6 := hide (below_step HB5.out hb6)
      have H46 := hide (H45.out.below hb6)
      clear hb6 H45 HR5
      go_wp2_with fail
      refine (Calls.mono (clean_any A4 c4 O _ H46.out HOW.out (by omega)) ?_); rintro e w7 ⟨⟨v7, rfl, ho7⟩, hb7⟩
      obtain ⟨A7, c7, rfl, hr7⟩ := og_items ho7
      have HB7 := hide (below_step HB6.out hb7)
      have H47 := hide (H46.out.below hb7)
      have HR7 := hide hr7
      have hcl := clean_len O
      have HCW : Hid (∀ x ∈ cleanL O, x.wf) := hide (fun x hx => HOW.out x (clean_mem hx))
      clear ho7 hr7 hb7 H46
      go_wp2_with fail
      refine (Calls.mono (clean_any A7 c7 (cleanL O) _ HR7.out HCW.out (by omega)) ?_); rintro e w8 ⟨⟨v8, rfl, ho8⟩, hb8⟩
      rw [clean_clean] at ho8
      obtain ⟨A8, c8, rfl, hr8⟩ := og_items ho8
      have HB8 := hide (below_step HB7.out hb8)
      have H48 := hide (H47.out.below hb8)
      have HR8 := hide hr8
      clear ho8 hr8 hb8 H47 HR7
      go_wp2_with fail
      refine (Calls.mono (clean_any A4 c4 O _ H48.out HOW.out (by omega)) ?_); rintro e w9 ⟨⟨v9, rfl, ho9⟩, hb9⟩
      obtain ⟨A9, c9, rfl, hr9⟩ := og_items ho9
      have HB9 := hide (below_step HB8.out hb9)
      have HR89 := hide (HR8.out.below hb9)
      have HR9 := hide hr9
      clear ho9 hr9 hb9 H48 HR8
      generalize cleanL O = Q at *
      go_wp2_with fail
      refine (Calls.mono (requal_any A8 A9 c8 c9 Q Q _ HR89.out HR9.out (by omega) (by omega)) ?_); rintro e w10 ⟨rfl, hb10⟩
      rw [show eqL Q Q = true from eqL_iff.2 rfl]
      have HB10 := hide (below_step HB9.out hb10)
      clear hb10
      go_wp2_with fail
      refine (Calls.mono (awake13_any _) ?_); rintro e w11 ⟨rfl, hb11⟩
      have HB11 := hide (below_step HB2.out (below_step HB10.out hb11))
      clear hb11
      go_wp2_with fail
      go_ret
      exact ⟨rfl, HB11.out⟩
end Go.Proofs.Ytfmckinlgaejeaa.mergeTwo
