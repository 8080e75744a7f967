/- The walk of clepsydralaw9.MemJoins: it returns true. Conditions: the arguments are readable. -/
import Derived.Test.YtoejhekmfgkklaaMem2
import Derived.Test.YtoejhekmfgkklaaREq
namespace Go.Proofs.Ytoejhekmfgkklaa.memJoins
set_option linter.unusedVariables false
set_option linter.unusedSimpArgs false
open Go.ChangeShapes Go.WideShapes Go.ChangeAt Go.RowKit

theorem joins (L M : List It) : puts M (puts L []) = puts L (puts (M ++ L) []) := by
  have h1 := puts_top (puts_top isTop_nil L) M
  have h2 := puts_top (puts_top isTop_nil (M ++ L)) L
  exact h1.uniq (h2.congr (fun x => by
    simp only [List.mem_append, List.mem_reverse, List.not_mem_nil, or_false]
    constructor
    · rintro (h | h | h)
      · exact .inr h
      · exact .inl h
      · exact .inr h
    · rintro (h | h)
      · exact .inr (.inl h)
      · exact .inl h))

set_option maxRecDepth 100000 in
set_option maxHeartbeats 3200000 in
theorem walk {w : World} (A0 : Option Addr) (c0 : Nat) (L0 : List It) (lc0 : L0.length ≤ c0) (cm0 : c0 ≤ maxLen) (r0 : RowAt It.cells 5 w A0 L0) (w0 : ∀ a ∈ L0, a.wf)
    (A1 : Option Addr) (c1 : Nat) (L1 : List It) (lc1 : L1.length ≤ c1) (cm1 : c1 ≤ maxLen) (r1 : RowAt It.cells 5 w A1 L1) (w1 : ∀ a ∈ L1, a.wf) :
    Calls Try.prog 6 #[.slice A0 L0.length c0, .slice A1 L1.length c1] w fun e w' => e = .returned (.bool true) ∧ Below w.heap.size w w' := by
  have R0 := hide r0
  have R1 := hide r1
  have W0 := hide w0
  have W1 := hide w1
  clear r0 w0 r1 w1 lc0 cm0 lc1 cm1
  by_cases h0 : 60 < L0.length
  case pos =>
    have d0 : (60 : Int) < (L0.length : Int) := by omega
    go_enter Try.func6, Try.ntmps6
    go_wp2_with fail
    refine (Calls.mono (awake9_any _) ?_); rintro e w1 ⟨rfl, hb⟩
    have HB := hide hb
    clear hb
    go_wp2_with fail
    go_ret
    exact ⟨rfl, HB.out⟩
  have d0 : ¬ (60 : Int) < (L0.length : Int) := by omega
  by_cases h1 : 60 < L1.length
  case pos =>
    have d1 : (60 : Int) < (L1.length : Int) := by omega
    go_enter Try.func6, Try.ntmps6
    go_wp2_with fail
    refine (Calls.mono (awake9_any _) ?_); rintro e w1 ⟨rfl, hb⟩
    have HB := hide hb
    clear hb
    go_wp2_with fail
    go_ret
    exact ⟨rfl, HB.out⟩
  have d1 : ¬ (60 : Int) < (L1.length : Int) := by omega
  have HLO : Hid (∀ a, A0 = some a → L0 ≠ [] → a.block < w.heap.size) := hide (old_block R0.out)
  have HLP : Hid (∀ a, A1 = some a → L1 ≠ [] → a.block < w.heap.size) := hide (old_block R1.out)
  cases hb0 : anyI (fun x => !goodB x) L0 <;> cases hb1 : anyI (fun x => !goodB x) L1
  · have HE0 : Hid (apE false L0 = 0) := hide (by unfold apE; simp [hb0])
    have HE1 : Hid (apE false L1 = 0) := hide (by unfold apE; simp [hb1])
    have HE3 : Hid (apE false (L1 ++ L0) = 0) := hide (by unfold apE; rw [show anyI (fun x => !goodB x) (L1 ++ L0) = false by unfold anyI at *; rw [List.any_append, hb0, hb1]; rfl]; rfl)
    clear hb0 hb1
    go_enter Try.func6, Try.ntmps6
    go_wp2_with fail
    refine (Calls.mono (new_mo _) ?_); rintro e w1 ⟨bx, px, X, rfl, hx⟩
    have HX := hide hx
    clear hx
    go_wp2_with fail
    refine (Calls.mono (new_mo _) ?_); rintro e w2 ⟨by_, py, Y, rfl, hy⟩
    have HM := hide (M2.mk2 HX.out hy)
    clear hy HX
    go_wp2_with fail
    refine (Calls.mono (apply2_any HM.out A0 c0 L0 (R0.out.below HM.out.ax.low) W0.out (by simp only [List.length_singleton]; omega) (HM.out.ax.notOld' HLO.out)) ?_); rintro e w3 ⟨X1, n1, rfl, hm, hi, hl, _⟩
    rw [HE0.out]
    have HM1 := hide hm
    have HI1 := hide hi
    have hl1 : X1.length ≤ 61 := by simp only [List.length_singleton] at hl; omega
    clear hm hi hl HM
    go_wp2_with fail
    refine (Calls.mono (apply2_any HM1.out A1 c1 L1 (R1.out.below HM1.out.ax.low) W1.out (by omega) (HM1.out.ax.notOld' HLP.out)) ?_); rintro e w4 ⟨X2, n2, rfl, hm, hi, hl, _⟩
    rw [HE1.out]
    have HM2 := hide hm
    have HI2 := hide hi
    have hl2 : X2.length ≤ 121 := by omega
    have HOE := hide (own_empty It.cells 5 24 w4.heap.size w4 (Nat.le_refl _))
    have hb4 := below_alloc (Below.refl w4.heap.size w4) (.cells #[] 24)
    have HR0 := hide ((R0.out.below hm.ax.low).below hb4)
    have HR1 := hide ((R1.out.below hm.ax.low).below hb4)
    have HB4 := hide hb4
    have hz4 := hb4.size
    clear hm hi hl HM1 hl1 hb4
    go_wp2_with (at_builtin; first
      | (refine wpList_append_items rfl (.tmp 35) (.tmp 36) rfl w4.heap.size w4.heap.size w4 _ _ [] A1 L1.length c1 L1 rfl rfl rfl HR1.out HOE.out HB4.out (Nat.le_refl _) hz4 (by simp only [List.length_nil]; omega) ?_; intro v5 w5 ho5 hb5 hg5; have HO5 := hide ho5; have HB5 := hide hb5; have HR5 := hide ((R0.out.below HM2.out.ax.low).below hb5); clear ho5 hg5 HOE HR0 HR1 hb5)
      | (refine wpList_append_items rfl (.tmp 37) (.tmp 38) rfl w4.heap.size w4.heap.size w4 _ _ ([] ++ L1) A0 L0.length c0 L0 rfl rfl rfl HR5.out HO5.out HB5.out (Nat.le_refl _) HB5.out.size (by simp only [List.nil_append]; omega) ?_; intro v6 w6 ho6 hb6 hg6; have HO6 := hide ho6; have HB6 := hide hb6; clear ho6 hg6 hb6))
    obtain ⟨A6, c6, rfl, hr6, hlow6, _, _⟩ := OwnL.row It.cells_len HO6.out
    rw [List.nil_append] at HO6 hr6
    have HR6 := hide hr6
    have HM6 := hide (HM2.out.below HB6.out)
    have hlL : ([] ++ L1 ++ L0).length = (L1 ++ L0).length := rfl
    have HNB : Hid (∀ a, A6 = some a → ¬ MBlk by_ py [Y] a.block) := hide (fun a ha hc => by
      have h1 := HM2.out.ay.at_.lt _ hc
      obtain ⟨ab, ao, asx⟩ := a
      have h2 := (hlow6 ab ao asx ha).1
      simp only at h1 h2
      omega)
    clear hr6 hlow6 HM2 HB6 HB5 HB4 hz4 HR5
    refine (Calls.mono (apply2_any HM6.out.swap A6 c6 (L1 ++ L0) HR6.out (fun x hx => (List.mem_append.1 hx).elim (W1.out x) (W0.out x)) (by simp only [List.length_singleton, List.length_append]; omega) (fun a ha _ => HNB.out a ha)) ?_); rintro e w7 ⟨Y1, n3, rfl, hm, hi, hl, _⟩
    rw [HE3.out]
    have HM7 := hide hm.swap
    have HI3 := hide hi
    have hl3 : Y1.length ≤ 121 := by simp only [List.length_singleton, List.length_append] at hl; omega
    clear hm hi hl HM6 HNB HR6
    go_wp2_with fail
    refine (Calls.mono (apply2_any HM7.out.swap A0 c0 L0 (R0.out.below HM7.out.ax.low) W0.out (by omega) (HM7.out.ay.notOld' HLO.out)) ?_); rintro e w8 ⟨Y2, n4, rfl, hm, hi, hl, _⟩
    rw [HE0.out]
    have HM8 := hide hm.swap
    have HI4 := hide hi
    have hl4 : Y2.length ≤ 181 := by omega
    have HJ : Hid (itsF X2 = itsF Y2) := hide (by
      rw [HI4.out, HI3.out, HI2.out, HI1.out]
      unfold apL
      rw [if_pos HE0.out, if_pos HE1.out, if_pos HE3.out, if_pos HE0.out]
      exact joins L0 L1)
    clear hm hi hl HM7 HI1 HI2 HI3 HI4
    go_wp2_with fail
    refine (Calls.mono (mitems_any _ _ X2 _ _ _ HM8.out.ax.at_ (by omega)) ?_); rintro e w9 ⟨v1, rfl, ho, hb⟩
    have HM9 := hide (HM8.out.below hb)
    have HV1 := hide ho
    clear ho hb HM8
    go_wp2_with fail
    refine (Calls.mono (mitems_any _ _ Y2 _ _ _ HM9.out.ay.at_ (by omega)) ?_); rintro e w10 ⟨v2, rfl, ho, hb⟩
    have HB10 := hide (HM9.out.below hb).ax.low
    obtain ⟨Av, cv, rfl, hrv, _, _⟩ := (HV1.out.below hb).sl
    obtain ⟨Au, cu, rfl, hru, _, _⟩ := ho.sl
    have HRV := hide hrv
    have HRU := hide hru
    have hlx : (itsF X2).length ≤ 200 := by rw [its_len]; omega
    have hly : (itsF Y2).length ≤ 200 := by rw [its_len]; omega
    clear ho hb hrv hru HV1 HM9
    go_wp2_with fail
    refine (Calls.mono (requal_any Av Au cv cu _ _ _ HRV.out HRU.out (by omega) (by omega)) ?_); rintro e w11 ⟨rfl, hb⟩
    rw [show eqL (itsF X2) (itsF Y2) = true from eqL_iff.2 HJ.out]
    have HB11 := hide (below_step HB10.out hb)
    clear hb
    go_wp2_with fail
    refine (Calls.mono (awake9_any _) ?_); rintro e w12 ⟨rfl, hb⟩
    have HB12 := hide (below_step HB11.out hb)
    clear hb
    go_wp2_with fail
    go_ret
    exact ⟨rfl, HB12.out⟩
  · have HE0 : Hid (apE false L0 = 0) := hide (by unfold apE; simp [hb0])
    have HE1 : Hid (apE false L1 = 1) := hide (by unfold apE; simp [hb1])
    have HE3 : Hid (apE false (L1 ++ L0) = 1) := hide (by unfold apE; rw [show anyI (fun x => !goodB x) (L1 ++ L0) = true by unfold anyI at *; rw [List.any_append, hb0, hb1]; rfl]; rfl)
    clear hb0 hb1
    go_enter Try.func6, Try.ntmps6
    go_wp2_with fail
    refine (Calls.mono (new_mo _) ?_); rintro e w1 ⟨bx, px, X, rfl, hx⟩
    have HX := hide hx
    clear hx
    go_wp2_with fail
    refine (Calls.mono (new_mo _) ?_); rintro e w2 ⟨by_, py, Y, rfl, hy⟩
    have HM := hide (M2.mk2 HX.out hy)
    clear hy HX
    go_wp2_with fail
    refine (Calls.mono (apply2_any HM.out A0 c0 L0 (R0.out.below HM.out.ax.low) W0.out (by simp only [List.length_singleton]; omega) (HM.out.ax.notOld' HLO.out)) ?_); rintro e w3 ⟨X1, n1, rfl, hm, hi, hl, _⟩
    rw [HE0.out]
    have HM1 := hide hm
    have HI1 := hide hi
    have hl1 : X1.length ≤ 61 := by simp only [List.length_singleton] at hl; omega
    clear hm hi hl HM
    go_wp2_with fail
    refine (Calls.mono (apply2_any HM1.out A1 c1 L1 (R1.out.below HM1.out.ax.low) W1.out (by omega) (HM1.out.ax.notOld' HLP.out)) ?_); rintro e w4 ⟨X2, n2, rfl, hm, hi, hl, _⟩
    rw [HE1.out]
    have HM2 := hide hm
    have HI2 := hide hi
    have hl2 : X2.length ≤ 121 := by omega
    have HOE := hide (own_empty It.cells 5 24 w4.heap.size w4 (Nat.le_refl _))
    have hb4 := below_alloc (Below.refl w4.heap.size w4) (.cells #[] 24)
    have HR0 := hide ((R0.out.below hm.ax.low).below hb4)
    have HR1 := hide ((R1.out.below hm.ax.low).below hb4)
    have HB4 := hide hb4
    have hz4 := hb4.size
    clear hm hi hl HM1 hl1 hb4
    go_wp2_with (at_builtin; first
      | (refine wpList_append_items rfl (.tmp 35) (.tmp 36) rfl w4.heap.size w4.heap.size w4 _ _ [] A1 L1.length c1 L1 rfl rfl rfl HR1.out HOE.out HB4.out (Nat.le_refl _) hz4 (by simp only [List.length_nil]; omega) ?_; intro v5 w5 ho5 hb5 hg5; have HO5 := hide ho5; have HB5 := hide hb5; have HR5 := hide ((R0.out.below HM2.out.ax.low).below hb5); clear ho5 hg5 HOE HR0 HR1 hb5)
      | (refine wpList_append_items rfl (.tmp 37) (.tmp 38) rfl w4.heap.size w4.heap.size w4 _ _ ([] ++ L1) A0 L0.length c0 L0 rfl rfl rfl HR5.out HO5.out HB5.out (Nat.le_refl _) HB5.out.size (by simp only [List.nil_append]; omega) ?_; intro v6 w6 ho6 hb6 hg6; have HO6 := hide ho6; have HB6 := hide hb6; clear ho6 hg6 hb6))
    obtain ⟨A6, c6, rfl, hr6, hlow6, _, _⟩ := OwnL.row It.cells_len HO6.out
    rw [List.nil_append] at HO6 hr6
    have HR6 := hide hr6
    have HM6 := hide (HM2.out.below HB6.out)
    have hlL : ([] ++ L1 ++ L0).length = (L1 ++ L0).length := rfl
    have HNB : Hid (∀ a, A6 = some a → ¬ MBlk by_ py [Y] a.block) := hide (fun a ha hc => by
      have h1 := HM2.out.ay.at_.lt _ hc
      obtain ⟨ab, ao, asx⟩ := a
      have h2 := (hlow6 ab ao asx ha).1
      simp only at h1 h2
      omega)
    clear hr6 hlow6 HM2 HB6 HB5 HB4 hz4 HR5
    refine (Calls.mono (apply2_any HM6.out.swap A6 c6 (L1 ++ L0) HR6.out (fun x hx => (List.mem_append.1 hx).elim (W1.out x) (W0.out x)) (by simp only [List.length_singleton, List.length_append]; omega) (fun a ha _ => HNB.out a ha)) ?_); rintro e w7 ⟨Y1, n3, rfl, hm, hi, hl, _⟩
    rw [HE3.out]
    have HM7 := hide hm.swap
    have HI3 := hide hi
    have hl3 : Y1.length ≤ 121 := by simp only [List.length_singleton, List.length_append] at hl; omega
    clear hm hi hl HM6 HNB HR6
    go_wp2_with fail
    refine (Calls.mono (awake9_any _) ?_); rintro e w8 ⟨rfl, hb⟩
    have HB8 := hide (below_step HM7.out.ax.low hb)
    clear hb
    go_wp2_with fail
    go_ret
    exact ⟨rfl, HB8.out⟩
  · have HE0 : Hid (apE false L0 = 1) := hide (by unfold apE; simp [hb0])
    have HE1 : Hid (apE false L1 = 0) := hide (by unfold apE; simp [hb1])
    have HE3 : Hid (apE false (L1 ++ L0) = 1) := hide (by unfold apE; rw [show anyI (fun x => !goodB x) (L1 ++ L0) = true by unfold anyI at *; rw [List.any_append, hb0, hb1]; rfl]; rfl)
    clear hb0 hb1
    go_enter Try.func6, Try.ntmps6
    go_wp2_with fail
    refine (Calls.mono (new_mo _) ?_); rintro e w1 ⟨bx, px, X, rfl, hx⟩
    have HX := hide hx
    clear hx
    go_wp2_with fail
    refine (Calls.mono (new_mo _) ?_); rintro e w2 ⟨by_, py, Y, rfl, hy⟩
    have HM := hide (M2.mk2 HX.out hy)
    clear hy HX
    go_wp2_with fail
    refine (Calls.mono (apply2_any HM.out A0 c0 L0 (R0.out.below HM.out.ax.low) W0.out (by simp only [List.length_singleton]; omega) (HM.out.ax.notOld' HLO.out)) ?_); rintro e w3 ⟨X1, n1, rfl, hm, hi, hl, _⟩
    rw [HE0.out]
    have HM1 := hide hm
    have HI1 := hide hi
    have hl1 : X1.length ≤ 61 := by simp only [List.length_singleton] at hl; omega
    clear hm hi hl HM
    go_wp2_with fail
    refine (Calls.mono (apply2_any HM1.out A1 c1 L1 (R1.out.below HM1.out.ax.low) W1.out (by omega) (HM1.out.ax.notOld' HLP.out)) ?_); rintro e w4 ⟨X2, n2, rfl, hm, hi, hl, _⟩
    rw [HE1.out]
    have HM2 := hide hm
    have HI2 := hide hi
    have hl2 : X2.length ≤ 121 := by omega
    have HOE := hide (own_empty It.cells 5 24 w4.heap.size w4 (Nat.le_refl _))
    have hb4 := below_alloc (Below.refl w4.heap.size w4) (.cells #[] 24)
    have HR0 := hide ((R0.out.below hm.ax.low).below hb4)
    have HR1 := hide ((R1.out.below hm.ax.low).below hb4)
    have HB4 := hide hb4
    have hz4 := hb4.size
    clear hm hi hl HM1 hl1 hb4
    go_wp2_with (at_builtin; first
      | (refine wpList_append_items rfl (.tmp 35) (.tmp 36) rfl w4.heap.size w4.heap.size w4 _ _ [] A1 L1.length c1 L1 rfl rfl rfl HR1.out HOE.out HB4.out (Nat.le_refl _) hz4 (by simp only [List.length_nil]; omega) ?_; intro v5 w5 ho5 hb5 hg5; have HO5 := hide ho5; have HB5 := hide hb5; have HR5 := hide ((R0.out.below HM2.out.ax.low).below hb5); clear ho5 hg5 HOE HR0 HR1 hb5)
      | (refine wpList_append_items rfl (.tmp 37) (.tmp 38) rfl w4.heap.size w4.heap.size w4 _ _ ([] ++ L1) A0 L0.length c0 L0 rfl rfl rfl HR5.out HO5.out HB5.out (Nat.le_refl _) HB5.out.size (by simp only [List.nil_append]; omega) ?_; intro v6 w6 ho6 hb6 hg6; have HO6 := hide ho6; have HB6 := hide hb6; clear ho6 hg6 hb6))
    obtain ⟨A6, c6, rfl, hr6, hlow6, _, _⟩ := OwnL.row It.cells_len HO6.out
    rw [List.nil_append] at HO6 hr6
    have HR6 := hide hr6
    have HM6 := hide (HM2.out.below HB6.out)
    have hlL : ([] ++ L1 ++ L0).length = (L1 ++ L0).length := rfl
    have HNB : Hid (∀ a, A6 = some a → ¬ MBlk by_ py [Y] a.block) := hide (fun a ha hc => by
      have h1 := HM2.out.ay.at_.lt _ hc
      obtain ⟨ab, ao, asx⟩ := a
      have h2 := (hlow6 ab ao asx ha).1
      simp only at h1 h2
      omega)
    clear hr6 hlow6 HM2 HB6 HB5 HB4 hz4 HR5
    refine (Calls.mono (apply2_any HM6.out.swap A6 c6 (L1 ++ L0) HR6.out (fun x hx => (List.mem_append.1 hx).elim (W1.out x) (W0.out x)) (by simp only [List.length_singleton, List.length_append]; omega) (fun a ha _ => HNB.out a ha)) ?_); rintro e w7 ⟨Y1, n3, rfl, hm, hi, hl, _⟩
    rw [HE3.out]
    have HM7 := hide hm.swap
    have HI3 := hide hi
    have hl3 : Y1.length ≤ 121 := by simp only [List.length_singleton, List.length_append] at hl; omega
    clear hm hi hl HM6 HNB HR6
    go_wp2_with fail
    refine (Calls.mono (awake9_any _) ?_); rintro e w8 ⟨rfl, hb⟩
    have HB8 := hide (below_step HM7.out.ax.low hb)
    clear hb
    go_wp2_with fail
    go_ret
    exact ⟨rfl, HB8.out⟩
  · have HE0 : Hid (apE false L0 = 1) := hide (by unfold apE; simp [hb0])
    have HE1 : Hid (apE false L1 = 1) := hide (by unfold apE; simp [hb1])
    have HE3 : Hid (apE false (L1 ++ L0) = 1) := hide (by unfold apE; rw [show anyI (fun x => !goodB x) (L1 ++ L0) = true by unfold anyI at *; rw [List.any_append, hb0, hb1]; rfl]; rfl)
    clear hb0 hb1
    go_enter Try.func6, Try.ntmps6
    go_wp2_with fail
    refine (Calls.mono (new_mo _) ?_); rintro e w1 ⟨bx, px, X, rfl, hx⟩
    have HX := hide hx
    clear hx
    go_wp2_with fail
    refine (Calls.mono (new_mo _) ?_); rintro e w2 ⟨by_, py, Y, rfl, hy⟩
    have HM := hide (M2.mk2 HX.out hy)
    clear hy HX
    go_wp2_with fail
    refine (Calls.mono (apply2_any HM.out A0 c0 L0 (R0.out.below HM.out.ax.low) W0.out (by simp only [List.length_singleton]; omega) (HM.out.ax.notOld' HLO.out)) ?_); rintro e w3 ⟨X1, n1, rfl, hm, hi, hl, _⟩
    rw [HE0.out]
    have HM1 := hide hm
    have HI1 := hide hi
    have hl1 : X1.length ≤ 61 := by simp only [List.length_singleton] at hl; omega
    clear hm hi hl HM
    go_wp2_with fail
    refine (Calls.mono (apply2_any HM1.out A1 c1 L1 (R1.out.below HM1.out.ax.low) W1.out (by omega) (HM1.out.ax.notOld' HLP.out)) ?_); rintro e w4 ⟨X2, n2, rfl, hm, hi, hl, _⟩
    rw [HE1.out]
    have HM2 := hide hm
    have HI2 := hide hi
    have hl2 : X2.length ≤ 121 := by omega
    have HOE := hide (own_empty It.cells 5 24 w4.heap.size w4 (Nat.le_refl _))
    have hb4 := below_alloc (Below.refl w4.heap.size w4) (.cells #[] 24)
    have HR0 := hide ((R0.out.below hm.ax.low).below hb4)
    have HR1 := hide ((R1.out.below hm.ax.low).below hb4)
    have HB4 := hide hb4
    have hz4 := hb4.size
    clear hm hi hl HM1 hl1 hb4
    go_wp2_with (at_builtin; first
      | (refine wpList_append_items rfl (.tmp 35) (.tmp 36) rfl w4.heap.size w4.heap.size w4 _ _ [] A1 L1.length c1 L1 rfl rfl rfl HR1.out HOE.out HB4.out (Nat.le_refl _) hz4 (by simp only [List.length_nil]; omega) ?_; intro v5 w5 ho5 hb5 hg5; have HO5 := hide ho5; have HB5 := hide hb5; have HR5 := hide ((R0.out.below HM2.out.ax.low).below hb5); clear ho5 hg5 HOE HR0 HR1 hb5)
      | (refine wpList_append_items rfl (.tmp 37) (.tmp 38) rfl w4.heap.size w4.heap.size w4 _ _ ([] ++ L1) A0 L0.length c0 L0 rfl rfl rfl HR5.out HO5.out HB5.out (Nat.le_refl _) HB5.out.size (by simp only [List.nil_append]; omega) ?_; intro v6 w6 ho6 hb6 hg6; have HO6 := hide ho6; have HB6 := hide hb6; clear ho6 hg6 hb6))
    obtain ⟨A6, c6, rfl, hr6, hlow6, _, _⟩ := OwnL.row It.cells_len HO6.out
    rw [List.nil_append] at HO6 hr6
    have HR6 := hide hr6
    have HM6 := hide (HM2.out.below HB6.out)
    have hlL : ([] ++ L1 ++ L0).length = (L1 ++ L0).length := rfl
    have HNB : Hid (∀ a, A6 = some a → ¬ MBlk by_ py [Y] a.block) := hide (fun a ha hc => by
      have h1 := HM2.out.ay.at_.lt _ hc
      obtain ⟨ab, ao, asx⟩ := a
      have h2 := (hlow6 ab ao asx ha).1
      simp only at h1 h2
      omega)
    clear hr6 hlow6 HM2 HB6 HB5 HB4 hz4 HR5
    refine (Calls.mono (apply2_any HM6.out.swap A6 c6 (L1 ++ L0) HR6.out (fun x hx => (List.mem_append.1 hx).elim (W1.out x) (W0.out x)) (by simp only [List.length_singleton, List.length_append]; omega) (fun a ha _ => HNB.out a ha)) ?_); rintro e w7 ⟨Y1, n3, rfl, hm, hi, hl, _⟩
    rw [HE3.out]
    have HM7 := hide hm.swap
    have HI3 := hide hi
    have hl3 : Y1.length ≤ 121 := by simp only [List.length_singleton, List.length_append] at hl; omega
    clear hm hi hl HM6 HNB HR6
    go_wp2_with fail
    refine (Calls.mono (awake9_any _) ?_); rintro e w8 ⟨rfl, hb⟩
    have HB8 := hide (below_step HM7.out.ax.low hb)
    clear hb
    go_wp2_with fail
    go_ret
    exact ⟨rfl, HB8.out⟩
end Go.Proofs.Ytoejhekmfgkklaa.memJoins
