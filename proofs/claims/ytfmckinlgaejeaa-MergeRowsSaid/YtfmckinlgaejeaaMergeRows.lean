/- The walk of clepsydralaw13.MergeRows: it returns true. Conditions: the arguments are readable. -/
import Derived.Test.YtfmckinlgaejeaaM13
import Derived.Test.YtfmckinlgaejeaaMRowsP
import Derived.Test.YtfmckinlgaejeaaRClean
import Derived.Test.YtfmckinlgaejeaaRFil
import Derived.Test.YtfmckinlgaejeaaREq
import Derived.Test.YtfmckinlgaejeaaPSt
namespace Go.Proofs.Ytfmckinlgaejeaa.mergeRows
set_option linter.unusedVariables false
set_option linter.unusedSimpArgs false
open Go.ChangeShapes Go.WideShapes Go.ChangeAt Go.RowKit

theorem rows_allR {w : World} {R L0 : List (Sv It)} (h : R.map (·.L) = rowsL (L0.map (·.L))) (hg : ∀ s ∈ L0, Sv.good It.cells 5 It.wf w s) : R.length ≤ 8 ∧ ∀ r ∈ R, Rising r.L ∧ r.L.length ≤ 40 ∧ ∀ x ∈ r.L, x.wf ∧ It.good x := by
  constructor
  · have := congrArg List.length h
    unfold rowsL at this
    simp at this
    omega
  · intro r hr
    have hm : r.L ∈ R.map (·.L) := List.mem_map.2 ⟨r, hr, rfl⟩
    rw [h] at hm
    unfold rowsL at hm
    obtain ⟨l, hl, e⟩ := List.mem_map.1 hm
    obtain ⟨s, hs, rfl⟩ := List.mem_map.1 (List.mem_of_mem_take hl)
    rw [← e]
    exact ⟨rk_up _, rk_len _, fun x hx => ⟨(hg s hs).ok x (rk_mem hx), rk_good hx⟩⟩
theorem len_RR : ∀ (R : List (Sv It)), (∀ r ∈ R, r.L.length ≤ 40) → lenR (lsR R) ≤ R.length * 40
  | [], _ => by simp [lenR, lsR]
  | r :: R, h => by
    have h1 := h r List.mem_cons_self
    have h2 := len_RR R (fun r hr => h r (List.mem_cons_of_mem _ hr))
    simp [lenR, lsR] at h2 ⊢
    omega
theorem sum_lenRR (R : List (Sv It)) : sumLen R = lenR (lsR R) := by
  unfold sumLen lenR lsR
  rw [List.map_map]
  rfl
theorem flat_len40 {R : List (List It)} (h : ∀ l ∈ R, l.length ≤ 40) (k : Nat) : (R.take k).flatten.length ≤ k * 40 := by
  induction R generalizing k with
  | nil => simp
  | cons r R ih =>
    cases k with
    | zero => simp
    | succ k =>
      have h1 := h r List.mem_cons_self
      have h2 := ih (fun l hl => h l (List.mem_cons_of_mem _ hl)) k
      simp only [List.take_succ_cons, List.flatten_cons, List.length_append]
      omega
theorem og_sl {base : Nat} {w : World} {v : Value} {L : List It} (h : Og base w v L) : Sl w v L := by
  rcases h with ⟨rfl, rfl⟩ | ⟨g, cap, R, rfl, _, hg, h1, h2, _⟩
  · exact Sl.nil_ w
  · exact ⟨_, cap, rfl, row_items hg, h1, h2⟩
theorem req_sl {v u : Value} {L : List It} {w : World} (h : Sl w v L) (k : Sl w u L) (hn : L.length ≤ 4611686018427387904) : Calls Try.prog 14 #[v, u] w fun e w' => e = .returned (.bool true) ∧ Below w.heap.size w w' := by
  obtain ⟨A, c, rfl, hL, _, _⟩ := h
  obtain ⟨B, d, rfl, hM, _, _⟩ := k
  have := requal_any A B c d L L w hL hM hn hn
  rw [show eqL L L = true from eqL_iff.2 rfl] at this
  exact this
set_option maxRecDepth 100000 in
set_option maxHeartbeats 6400000 in
theorem walk {w : World} (A0 : Option Addr) (c0 : Nat) (L0 : List (Sv It)) (lc0 : L0.length ≤ c0) (cm0 : c0 ≤ maxLen) (r0 : RowAt (fun s => [s.val]) 1 w A0 L0) (w0 : ∀ s ∈ L0, Sv.good It.cells 5 It.wf w s)
    (a1 : Int) (w1 : (Lit.int .u64 a1).wf = true) :
    Calls Try.prog 8 #[.slice A0 L0.length c0, .int .u64 a1] w fun e w' => e = .returned (.bool true) ∧ Below w.heap.size w w' := by
  have hlr := lrows_any A0 c0 L0 w r0 w0 (by unfold maxLen at cm0; omega)
  have HLR := hide hlr
  have HW0 := hide w0
  clear hlr r0 w0 lc0 cm0 w1
  go_enter Try.func8, Try.ntmps8
  go_wp2_with fail
  refine (Calls.mono HLR.out ?_); rintro e w2 ⟨v, R, rfl, ho, hmp, hrd, hb2⟩
  obtain ⟨hn8, hall⟩ := rows_allR hmp HW0.out
  obtain ⟨A, c, rfl, hrw, _, hnc, hcm⟩ := OwnL.row (cells := svC) (fun _ => rfl) ho
  have hlen := len_RR R (fun r hr => (hall r hr).2.1)
  have hrr : ∀ W : World, Below w2.heap.size w2 W → Calls Try.prog 16 #[.slice A R.length c] W fun e w' => (∃ v, e = .returned v ∧ OwnL It.cells 5 28 W.heap.size w' v (mrgG (lenR (lsR R)) (lsR R) [])) ∧ Below W.heap.size W w' := fun W hW => by
    have h := rrows_any A c R W ⟨hrw.below hW, fun r hr => (hrd r hr).1.below hW⟩ (by omega) (by rw [sum_lenRR]; omega)
    rw [mrgs_ls, show R.map (·.L) = lsR R from rfl, ← mrgG_eq (R := lsR R) (fun l hl => by obtain ⟨r, hr, rfl⟩ := List.mem_map.1 hl; exact (hall r hr).1)] at h
    exact h
  have hmr := mrows_any A c R w2 hrw (fun r hr => by obtain ⟨h1, h2, h3, _⟩ := hrd r hr; exact ⟨h1, h2, h3⟩) (by omega) (by omega)
  have hflat := mrgG_flat (R := lsR R) (fun l hl => by obtain ⟨r, hr, rfl⟩ := List.mem_map.1 hl; exact (hall r hr).1)
  have hmem : ∀ x ∈ (lsR R).flatten, x.wf ∧ It.good x := fun x hx => by
    obtain ⟨l, hl, hx⟩ := List.mem_flatten.1 hx
    obtain ⟨r, hr, rfl⟩ := List.mem_map.1 hl
    exact (hall r hr).2.2 x hx
  have hof := clean_ofL hflat (fun y hy => (hmem y hy).2) (fun y hy => by have := (hmem y hy).1; unfold It.wf at this; omega)
  have hUw : ∀ x ∈ mrgG (lenR (lsR R)) (lsR R) [], x.wf := fun x hx => (hmem x ((hflat.mem x).1 hx).1).1
  have hUl := mrgG_len (lenR (lsR R)) (lsR R) []
  have HRR := hide hrr
  have HMR := hide hmr
  have HOF := hide hof
  have HUW := hide hUw
  have hUl2 : (mrgG (lenR (lsR R)) (lsR R) []).length ≤ 320 := by simp only [List.length_nil] at hUl; omega
  have HRD := hide (fun r hr => (hrd r hr).1)
  have HRW := hide hrw
  have HAL := hide (fun r hr => (hall r hr).2.1)
  have HB2 := hide hb2
  have HCH := hide (clean_hid (L := mrgG (lenR (lsR R)) (lsR R) []) (fun y hy => by have := hUw y hy; unfold It.wf at this; omega))
  generalize mrgG (lenR (lsR R)) (lsR R) [] = U at *
  obtain ⟨n, hn⟩ : ∃ n, R.length = n := ⟨_, rfl⟩
  have HN := hide hn
  rw [hn] at HRR HMR hn8 ⊢
  clear ho hmp hrd hb2 hrw hall hlen hrr hmr hflat hmem hof hUw hUl HLR HW0 hn
  go_wp2_with fail
  refine (Calls.mono HMR.out ?_); rintro e w3 ⟨va, rfl, hsa, hb3⟩
  have HSA := hide hsa
  have HB3 := hide hb3
  clear hsa hb3 HMR
  go_wp2_with fail
  refine (Calls.mono (HRR.out _ HB3.out) ?_); rintro e w4 ⟨⟨vb, rfl, hob⟩, hb4⟩
  have HSA := hide (HSA.out.below hb4)
  have HSB := hide (Ow.sl hob)
  have HB4 := hide (below_step HB3.out hb4)
  clear hob hb4 HRR HB3
  obtain ⟨Ab, cb, rfl, hib, hcb1, hcb2⟩ := HSB.out
  have HCL := hide (clean_any Ab cb U w4 hib HUW.out (by omega))
  have HIB := hide hib
  clear hib
  go_wp2_with fail
  refine (Calls.mono HCL.out ?_); rintro e w5 ⟨⟨vc, rfl, hoc⟩, hb5⟩
  have HSC := hide (og_sl hoc)
  have HSA := hide (HSA.out.below hb5)
  have HSB := hide (HSB.out.below hb5)
  have HIB := hide (HIB.out.below hb5)
  have HB5 := hide (below_step HB4.out hb5)
  have HRC := hide (rclean_any Ab cb U w5 HIB.out (by omega))
  clear hoc hb5 HCL HB4
  go_wp2_with fail
  refine (Calls.mono HRC.out ?_); rintro e w6 ⟨vd, rfl, hod, hb6⟩
  rw [← HCH.out] at hod
  have HSD := hide (Ow.sl hod)
  have HSA := hide (HSA.out.below hb6)
  have HSB := hide (HSB.out.below hb6)
  have HIB := hide (HIB.out.below hb6)
  have HSC := hide (HSC.out.below hb6)
  have HB6 := hide (below_step HB5.out hb6)
  clear hod hb6 HRC HB5
  have HE1 := hide (req_sl HSA.out HSB.out (by omega))
  go_wp2_with fail
  refine (Calls.mono HE1.out ?_); rintro e w7 ⟨rfl, hb7⟩
  have HSC := hide (HSC.out.below hb7)
  have HSD := hide (HSD.out.below hb7)
  have HIB := hide (HIB.out.below hb7)
  have HB7 := hide (below_step HB6.out hb7)
  have hcl : (cleanL U).length ≤ 320 := Nat.le_trans (clean_len U) hUl2
  have HE2 := hide (req_sl HSC.out HSD.out (by omega))
  clear hb7 HE1 HB6 HSA HSB
  go_wp2_with fail
  refine (Calls.mono HE2.out ?_); rintro e w8 ⟨rfl, hb8⟩
  have HSC := hide (HSC.out.below hb8)
  have HSD := hide (HSD.out.below hb8)
  have HIB := hide (HIB.out.below hb8)
  have HB8 := hide (below_step HB7.out hb8)
  have HWO := hide (wout_any Ab cb U a1 w8 HIB.out HUW.out (by omega))
  clear hb8 HE2 HB7 HIB
  go_wp2_with fail
  refine (Calls.mono HWO.out ?_); rintro e w9 ⟨⟨ve, rfl, hoe⟩, hb9⟩
  rw [keep_pur] at hoe
  have HSE := hide (og_sl hoe)
  have HSC := hide (HSC.out.below hb9)
  have HSD := hide (HSD.out.below hb9)
  have HB9 := hide (below_step HB8.out hb9)
  obtain ⟨Ad, cd, rfl, hid, hcd1, hcd2⟩ := HSD.out
  have HPU := hide (rpurge_any Ad cd (cleanL U) a1 w9 hid (by omega))
  have hlp : ((cleanL U).filter (purP a1)).length ≤ 320 := Nat.le_trans (List.length_filter_le _ _) hcl
  clear hoe hb9 HWO HB8 hid
  generalize hP : (cleanL U).filter (purP a1) = Pu at *
  clear hP
  go_wp2_with fail
  refine (Calls.mono HPU.out ?_); rintro e w10 ⟨vf, rfl, hof, hb10⟩
  have HSF := hide (Ow.sl hof)
  have HSE := hide (HSE.out.below hb10)
  have HSC := hide (HSC.out.below hb10)
  have HB10 := hide (below_step HB9.out hb10)
  have HE3 := hide (req_sl HSE.out HSF.out (by omega))
  clear hof hb10 HPU HB9
  go_wp2_with fail
  refine (Calls.mono HE3.out ?_); rintro e w11 ⟨rfl, hb11⟩
  have HSC := hide (HSC.out.below hb11)
  have HB11 := hide (below_step HB10.out hb11)
  clear hb11 HE3 HSE HSF HSD HB10
  go_wp2_with fail
  go_loopw [10, 11] (fun v i wr => ∃ k : Nat, i = .int .i64 k ∧ k ≤ n ∧ Ow w11.heap.size wr v ((lsR R).take k).flatten ∧ Below w11.heap.size w11 wr) (fun _ i _ => n - (intOf i).toNat)
  case atStart => exact ⟨0, rfl, by omega, by simp; exact Ow.nil_ _ _, Below.refl _ _⟩
  case round =>
    obtain ⟨k, rfl, hk, how, hb⟩ := hrel
    have HOW := hide how
    have HB := hide (below_step HB11.out hb)
    have HB0 := hide hb
    have HSC := hide (HSC.out.below hb)
    clear how hb
    by_cases hkn : k < n
    · have hkR : k < R.length := by rw [HN.out]; exact hkn
      obtain ⟨bl, off, rfl, hbl, hcr⟩ := HRW.out.at_ hkR
      have hc0 := keep_cell HB.out (show w2.cell? ⟨bl, off + k, none⟩ = some (R[k]).val by simpa using hcr k hkR 0 _ rfl) hbl
      have hri := (HRD.out R[k] (List.getElem_mem _)).below HB.out
      have hrl := HAL.out R[k] (List.getElem_mem _)
      have htk : ((lsR R).take (k + 1)).flatten = ((lsR R).take k).flatten ++ (R[k]).L := by
        rw [List.take_succ_eq_append_getElem (by rw [lsR_len]; exact hkR), List.flatten_append]
        simp [lsR]
      have HTK := hide htk
      have hfl : ((lsR R).take k).flatten.length ≤ k * 40 := flat_len40 (fun l hl => by obtain ⟨r, hr, rfl⟩ := List.mem_map.1 hl; exact HAL.out r hr) k
      have hknI : (k : Int) < (n : Int) := by omega
      have hk0 : (0 : Int) ≤ (k : Int) := by omega
      have HRI := hide hri
      generalize R[k] = r at *
      obtain ⟨rA, rc, rL⟩ := r
      simp only at hrl HRI HTK
      have hbs := HB0.out.size
      replace hc0 : wr.cell? ⟨bl, off + k, none⟩ = some (.slice rA rL.length rc) := hc0
      generalize ((lsR R).take k).flatten = F at *
      clear hcr htk hri
      go_wp2_with (at_builtin; refine wpList_append_items rfl (.tmp 48) (.tmp 52) rfl w11.heap.size w11.heap.size w11 _ _ F rA rL.length rc rL rfl rfl rfl HRI.out HOW.out HB0.out (Nat.le_refl _) hbs (by omega) ?_; intro v12 w12 ho12 hb12 hg12; have HO12 := hide ho12; have HB12 := hide hb12; clear ho12 hb12 hg12)
      go_roundw
      case rel => exact ⟨k + 1, by go_num, by omega, by rw [HTK.out]; exact HO12.out, HB12.out⟩
      case measure => (simp [intOf] <;> omega)
    · obtain rfl : k = n := by omega
      have hknI : ¬ (k : Int) < (k : Int) := by omega
      have hall : ((lsR R).take k).flatten = (lsR R).flatten := by rw [List.take_of_length_le (by rw [lsR_len, HN.out]; omega)]
      have hfl : ((lsR R).take k).flatten.length ≤ k * 40 := flat_len40 (fun l hl => by obtain ⟨r, hr, rfl⟩ := List.mem_map.1 hl; exact HAL.out r hr) k
      rw [hall] at HOW hfl
      obtain ⟨Ax, cx, rfl, hix, _, _⟩ := HOW.out.sl
      have hpo := pof_any Ax cx (lsR R).flatten wr hix (by omega)
      rw [HOF.out] at hpo
      have HPO := hide hpo
      unfold RetOf at HPO
      clear hall hix hpo HOF HRW HRD HAL HN HUW HCH
      generalize (lsR R).flatten = F at *
      go_wp2_with fail
      refine (Calls.mono HPO.out ?_); rintro e w13 ⟨vo, rfl, hoo, hb13⟩
      have HSO := hide (og_sl hoo)
      have HSC := hide (HSC.out.below hb13)
      have HB13 := hide (below_step HB.out hb13)
      have HE4 := hide (req_sl HSC.out HSO.out (by omega))
      clear hoo hb13 HPO
      go_wp2_with fail
      refine (Calls.mono HE4.out ?_); rintro e w14 ⟨rfl, hb14⟩
      have HB14 := hide (below_step HB13.out hb14)
      clear hb14
      go_wp2_with fail
      refine (Calls.mono (awake13_any _) ?_); rintro e w15 ⟨rfl, hb15⟩
      have HB15 := hide (below_step HB14.out hb15)
      clear hb15
      go_wp2_with fail
      go_ret
      exact ⟨rfl, below_step HB2.out HB15.out⟩
end Go.Proofs.Ytfmckinlgaejeaa.mergeRows
