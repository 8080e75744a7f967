/- The walk of clepsydralaw27.AxiomEven: it returns true. No condition. -/
import Derived.Test.YtebnifpclebliaaAxEv
import Derived.Test.YtebnifpclebliaaAxW
import Derived.Deep.RegionLaw
namespace Go.Proofs.Ytebnifpclebliaa.axiomEven
set_option linter.unusedVariables false
set_option linter.unusedSimpArgs false
open Go.ChangeShapes Go.WideShapes Go.ChangeAt Go.RowKit

theorem ow_made (w : World) (base : Nat) (hb : base ≤ w.heap.size) : Ow base (w.alloc (.cells #[] 32)) (.slice (some ⟨w.heap.size, 0, none⟩) 0 0) [] :=
  ⟨by simp, .inr ⟨w.heap.size, 0, #[], rfl, hb, heap_alloc_new w _, by simp, by simp, by simp, by simp⟩⟩
set_option maxHeartbeats 8000000 in
set_option maxRecDepth 100000 in
theorem walk {w : World} (A0 : Option Addr) (c0 : Nat) (L0 : List Int) (lc0 : L0.length ≤ c0) (cm0 : c0 ≤ maxLen) (r0 : RowAt (fun a => [.int .i64 a]) 1 w A0 L0) (w0 : ∀ a ∈ L0, (Lit.int .i64 a).wf = true)
    (a1 : Int) (w1 : (Lit.int .i64 a1).wf = true) (a2 : Int) (w2 : (Lit.int .u64 a2).wf = true) :
    Calls Try.prog 3 #[.slice A0 L0.length c0, .int .i64 a1, .int .u64 a2] w fun e w' => e = .returned (.bool true) ∧ Below w.heap.size w w' := by
  have hl0 : L0.length ≤ 9223372036854775807 := by simp only [maxLen] at cm0; omega
  have HP := hide (puts_any A0 c0 L0 w r0 hl0)
  have HM1 := hide (and_mask_i64 a1 8 255 (by omega) (by decide))
  obtain ⟨F, hF⟩ : ∃ F, bits .and .u64 a2 255 = F := ⟨_, rfl⟩
  clear r0 w0 w1 w2 lc0 cm0
  obtain ⟨N, hN⟩ : ∃ N, min L0.length 30 = N := ⟨_, rfl⟩
  rw [hN] at HP
  have hN30 : N ≤ 30 := by omega
  clear hN
  go_enter Try.func3, Try.ntmps3
  go_wp2_with fail
  refine (Calls.mono HP.out ?_); rintro e w1 ⟨⟨v1, rfl, ho1⟩, hg1⟩
  obtain ⟨A, c, rfl, hA, _, hAc, hAm⟩ := OwnL.row An.cells_len ho1
  have hlen := putsN_len L0 N
  generalize putsN L0 N = I at *
  have HB1 := hide hg1
  have hF1 := fold_any A c I w1 hA (by omega)
  have hlI := itemsL_len I
  have hfI := ofL_len (itemsL I)
  have hst := ofL_state (itemsL I)
  generalize ofL (itemsL I) = S at *
  have HF1 := hide hF1
  have hS30 : S.length ≤ 30 := by omega
  have HST := hide hst
  clear ho1 hg1 hA hF1 hlI hfI hAc hlen hst HP
  go_wp2_with fail
  refine (Calls.mono HF1.out ?_); rintro e w2 ⟨v2, rfl, ho2, hg2⟩
  have HB2 := hide (below_step HB1.out hg2)
  obtain ⟨As, cs, rfl, hSA, hSc, hSm⟩ := Og.sl ho2
  have HSA := hide hSA
  clear ho2 hg2 HF1 HB1 hSA
  by_cases h0 : S.length = 0
  · have hS0 : S = [] := List.eq_nil_of_length_eq_zero h0
    have d0 : ((S.length : Int) == 0) = true := by simp [h0]
    have HS0 := hide hS0
    clear hS0 h0
    go_wp2_with fail
    have hr := even_two (w := w2.alloc (.cells #[.slice As S.length cs, .slice none 0 0] 24)) (g := w2.heap.size) ⟨As, cs, S⟩ ⟨none, 0, []⟩ F (heap_alloc_new w2 _)
        (Sl.below (Sl.mk_ HSA.out hSc hSm) (below_alloc (Below.refl _ _) _)) (Sl.nil_ _) (by dsimp only; omega) (by simp)
    try dsimp only at hr
    rw [show (evenB S [] F && evenB [] S F) = true by rw [HS0.out]; rfl] at hr
    have HR := hide hr
    clear hr
    refine (Calls.mono HR.out ?_); rintro e w3 ⟨rfl, hg3⟩
    have HB3 := hide (below_step (below_alloc HB2.out _) hg3)
    clear hg3 HR
    go_wp2_with fail
    refine (Calls.mono (awake27_any _) ?_); rintro e w4 ⟨rfl, hg4⟩
    have HB4 := hide (below_step HB3.out hg4)
    clear hg4
    go_wp2_with fail
    go_ret
    exact ⟨rfl, HB4.out⟩
  have d0 : ((S.length : Int) == 0) = false := by simp [h0]
  have hSp : (0 : Int) < S.length := by omega
  have hSz : ¬ (S.length : Int) = 0 := by omega
  have hmB : 0 ≤ bits .and .i64 a1 255 := by rw [HM1.out]; omega
  obtain ⟨k, hk⟩ : ∃ k : Nat, (bits .and .i64 a1 255).tmod (S.length : Int) = k := ⟨_, (Int.toNat_of_nonneg (Int.tmod_nonneg _ hmB)).symm⟩
  have hkS : (k : Int) < S.length := by rw [← hk]; exact Int.tmod_lt_of_pos _ hSp
  have hkN : k < S.length := by omega
  have hne : S ≠ [] := fun e => by rw [e] at hkN; simp at hkN
  obtain ⟨b, off, rfl, hbb, _⟩ := HSA.out hne
  obtain ⟨b', off', e', _, y0, y1, y2, y3, y4⟩ := ItemsAt.item HSA.out (Below.refl _ _) hkN
  injection e' with e'
  injection e' with e1 e2 _
  subst e1 e2
  have HE1 := hide (even_less HST.out hkN F)
  have HE2 := hide (even_full HST.out hkN F)
  have hln := less_len hkN
  have HLE : Hid (S.take k ++ S.drop (k + 1) = lessL S k) := hide rfl
  have hkc : (k : Int) < (cs : Int) := by omega
  clear h0 hne hmB
  obtain ⟨m, hm⟩ : ∃ m, k + 1 = m := ⟨_, rfl⟩
  have hmw : IntKind.i64.wrap ((k : Int) + 1) = (m : Int) := by rw [IntKind.wrap_i64]; omega
  have HTK : Hid (∀ W, Below w2.heap.size w2 W → ItemsAt W (some ⟨b, off, none⟩) (S.take k)) := hide (fun W hW => RowAt.below (RowAt.take_ HSA.out k) hW)
  have HDR : Hid (∀ W, Below w2.heap.size w2 W → ItemsAt W (some ⟨b, off + m * 5, none⟩) (S.drop m)) := hide (fun W hW => RowAt.below (items_drop HSA.out m) hW)
  have HLE2 : Hid (S.take k ++ S.drop m = lessL S k) := hide (by rw [← hm]; rfl)
  have hk0 : k ≤ cs := by omega
  have hm1 : m ≤ S.length := by omega
  have hm2 : m ≤ cs := by omega
  have hmk := hide hm
  clear hm HLE
  have hBd : Below w2.heap.size w2 (w2.alloc (.cells #[] 32)).drew := (below_alloc (Below.refl _ _) _).drew
  have HBD := hide hBd
  have HOM : Hid (Ow w2.heap.size (w2.alloc (.cells #[] 32)).drew (.slice (some ⟨w2.heap.size, 0, none⟩) 0 0) []) := hide (OwnL.below (ow_made w2 w2.heap.size (Nat.le_refl _)) (Below.refl _ _).drew)
  clear hBd
  have tk1 : True := trivial
  have tk2 : True := trivial
  by_cases hcap : m < cs
  · have hcap2 : ¬ cs = m := by omega
    go_upto_region 6 with fail
    go_region_law (first
      | (have _t := tk1; refine step_append_items rfl (.tmp 31) (.tmp 34) rfl w2.heap.size _ [] rfl HOM.out (some ⟨b, off, none⟩) k cs (S.take k) rfl (by simp; omega) (HTK.out _ HBD.out) HBD.out.size (by simp; omega) ?_; intro v3 x3 ho3 hg3; have O3 := hide ho3; have B3 := hide (HBD.out.grown hg3 HBD.out.size (fun g hg => (OwnL.lt HOM.out g hg).1)); clear ho3 hg3 tk1 _t)
      | (have _t := tk2; refine step_append_items rfl (.tmp 35) (.tmp 39) rfl w2.heap.size _ _ rfl O3.out (some ⟨b, off + m * 5, none⟩) (S.length - m) (cs - m) (S.drop m) rfl (by simp) (HDR.out _ B3.out) B3.out.size (by simp; omega) ?_; intro v4 x4 ho4 hg4; have O4 := hide ho4; have B4 := hide (B3.out.grown hg4 B3.out.size (fun g hg => (OwnL.lt O3.out g hg).1)); clear ho4 hg4 tk2 _t))
    obtain ⟨b2, off2, e2, _, q0, q1, q2, q3, q4⟩ := ItemsAt.item HSA.out B4.out hkN
    injection e2 with e2
    injection e2 with e3 e4 _
    subst e3 e4
    have hb4 := B4.out.size
    have hbx : b < x4.heap.size := by omega
    have HL4 := hide (Ow.sl O4.out)
    rw [List.nil_append, HLE2.out] at HL4
    have HS4 : Hid (Sl x4 (.slice (some ⟨b, off, none⟩) S.length cs) S) := hide (Sl.mk_ (RowAt.below HSA.out B4.out) hSc hSm)
    have HB4 := hide (below_step HB2.out B4.out)
    generalize lessL S k = LS at *
    generalize S[k] = x at *
    obtain ⟨Al, cl, rfl, hAl, hcl, hcm⟩ := HL4.out
    replace HL4 : Hid (Sl x4 (.slice Al LS.length cl) LS) := hide (Sl.mk_ hAl hcl hcm)
    clear y0 y1 y2 y3 y4 O4 hAl HSA B4 O3 B3 HTK HDR HLE2 HOM HBD HST
    have hx := HE2.out
    by_cases h1 : x.k = 1
    · have b1 : (x.k == 1) = true := by simp [h1]
      rw [decide_eq_true h1, Bool.true_or] at hx
      have HW := hide hx
      clear hx h1 HE2
      go_wp2_with fail
      have hr := even_two (w := x4.alloc (.cells #[.slice (some ⟨b, off, none⟩) S.length cs, .slice Al LS.length cl] 24)) (g := x4.heap.size) ⟨some ⟨b, off, none⟩, cs, S⟩ ⟨Al, cl, LS⟩ F (heap_alloc_new x4 _) (Sl.below HS4.out (below_alloc (Below.refl _ _) _)) (Sl.below HL4.out (below_alloc (Below.refl _ _) _)) (by dsimp only; omega) (by dsimp only; omega)
      try dsimp only at hr
      rw [HW.out, HE1.out] at hr
      refine (Calls.mono hr ?_); rintro e x5 ⟨rfl, hg5⟩
      have hb5 := below_step (below_alloc (Below.refl x4.heap.size x4) _) hg5
      have HB5 := hide (below_step HB4.out hb5)
      have HS5 := hide (Sl.below HS4.out hb5)
      have HL5 := hide (Sl.below HL4.out hb5)
      clear hr hg5 hb5 HB4 HS4 HL4
      go_wp2_with fail
      have hr := even_two (w := x5.alloc (.cells #[.slice Al LS.length cl, .slice (some ⟨b, off, none⟩) S.length cs] 24)) (g := x5.heap.size) ⟨Al, cl, LS⟩ ⟨some ⟨b, off, none⟩, cs, S⟩ F (heap_alloc_new x5 _) (Sl.below HL5.out (below_alloc (Below.refl _ _) _)) (Sl.below HS5.out (below_alloc (Below.refl _ _) _)) (by dsimp only; omega) (by dsimp only; omega)
      try dsimp only at hr
      rw [HW.out, HE1.out] at hr
      refine (Calls.mono hr ?_); rintro e x6 ⟨rfl, hg6⟩
      have hb6 := below_step (below_alloc (Below.refl x5.heap.size x5) _) hg6
      have HB6 := hide (below_step HB5.out hb6)
      have HS6 := hide (Sl.below HS5.out hb6)
      clear hr hg6 hb6 HB5 HS5 HL5
      go_wp2_with fail
      have hr := even_onel (w := x6.alloc (.cells #[.slice (some ⟨b, off, none⟩) S.length cs] 24)) (g := x6.heap.size) ⟨some ⟨b, off, none⟩, cs, S⟩ F (heap_alloc_new x6 _) (Sl.below HS6.out (below_alloc (Below.refl _ _) _)) (by dsimp only; omega)
      try dsimp only at hr
      refine (Calls.mono hr ?_); rintro e x7 ⟨rfl, hg7⟩
      have HB7 := hide (below_step (below_alloc HB6.out _) hg7)
      clear hr hg7 HB6
      go_wp2_with fail
      refine (Calls.mono (awake27_any _) ?_); rintro e x8 ⟨rfl, hg8⟩
      have HB8 := hide (below_step HB7.out hg8)
      clear hg8
      go_wp2_with fail
      go_ret
      exact ⟨rfl, HB8.out⟩
    have b1 : (x.k == 1) = false := by simp [h1]
    rw [decide_eq_false h1, Bool.false_or] at hx
    by_cases h2 : F < x.v
    · rw [decide_eq_true h2] at hx
      have HW := hide hx
      clear hx h1 HE2
      go_wp2_with fail
      have hr := even_two (w := x4.alloc (.cells #[.slice (some ⟨b, off, none⟩) S.length cs, .slice Al LS.length cl] 24)) (g := x4.heap.size) ⟨some ⟨b, off, none⟩, cs, S⟩ ⟨Al, cl, LS⟩ F (heap_alloc_new x4 _) (Sl.below HS4.out (below_alloc (Below.refl _ _) _)) (Sl.below HL4.out (below_alloc (Below.refl _ _) _)) (by dsimp only; omega) (by dsimp only; omega)
      try dsimp only at hr
      rw [HW.out, HE1.out] at hr
      refine (Calls.mono hr ?_); rintro e x5 ⟨rfl, hg5⟩
      have hb5 := below_step (below_alloc (Below.refl x4.heap.size x4) _) hg5
      have HB5 := hide (below_step HB4.out hb5)
      have HS5 := hide (Sl.below HS4.out hb5)
      have HL5 := hide (Sl.below HL4.out hb5)
      clear hr hg5 hb5 HB4 HS4 HL4
      go_wp2_with fail
      have hr := even_two (w := x5.alloc (.cells #[.slice Al LS.length cl, .slice (some ⟨b, off, none⟩) S.length cs] 24)) (g := x5.heap.size) ⟨Al, cl, LS⟩ ⟨some ⟨b, off, none⟩, cs, S⟩ F (heap_alloc_new x5 _) (Sl.below HL5.out (below_alloc (Below.refl _ _) _)) (Sl.below HS5.out (below_alloc (Below.refl _ _) _)) (by dsimp only; omega) (by dsimp only; omega)
      try dsimp only at hr
      rw [HW.out, HE1.out] at hr
      refine (Calls.mono hr ?_); rintro e x6 ⟨rfl, hg6⟩
      have hb6 := below_step (below_alloc (Below.refl x5.heap.size x5) _) hg6
      have HB6 := hide (below_step HB5.out hb6)
      have HS6 := hide (Sl.below HS5.out hb6)
      clear hr hg6 hb6 HB5 HS5 HL5
      go_wp2_with fail
      have hr := even_onel (w := x6.alloc (.cells #[.slice (some ⟨b, off, none⟩) S.length cs] 24)) (g := x6.heap.size) ⟨some ⟨b, off, none⟩, cs, S⟩ F (heap_alloc_new x6 _) (Sl.below HS6.out (below_alloc (Below.refl _ _) _)) (by dsimp only; omega)
      try dsimp only at hr
      refine (Calls.mono hr ?_); rintro e x7 ⟨rfl, hg7⟩
      have HB7 := hide (below_step (below_alloc HB6.out _) hg7)
      clear hr hg7 HB6
      go_wp2_with fail
      refine (Calls.mono (awake27_any _) ?_); rintro e x8 ⟨rfl, hg8⟩
      have HB8 := hide (below_step HB7.out hg8)
      clear hg8
      go_wp2_with fail
      go_ret
      exact ⟨rfl, HB8.out⟩
    · rw [decide_eq_false h2] at hx
      have HW := hide hx
      clear hx h1 HE2
      go_wp2_with fail
      have hr := even_two (w := x4.alloc (.cells #[.slice (some ⟨b, off, none⟩) S.length cs, .slice Al LS.length cl] 24)) (g := x4.heap.size) ⟨some ⟨b, off, none⟩, cs, S⟩ ⟨Al, cl, LS⟩ F (heap_alloc_new x4 _) (Sl.below HS4.out (below_alloc (Below.refl _ _) _)) (Sl.below HL4.out (below_alloc (Below.refl _ _) _)) (by dsimp only; omega) (by dsimp only; omega)
      try dsimp only at hr
      rw [HW.out, HE1.out] at hr
      refine (Calls.mono hr ?_); rintro e x5 ⟨rfl, hg5⟩
      have hb5 := below_step (below_alloc (Below.refl x4.heap.size x4) _) hg5
      have HB5 := hide (below_step HB4.out hb5)
      have HS5 := hide (Sl.below HS4.out hb5)
      have HL5 := hide (Sl.below HL4.out hb5)
      clear hr hg5 hb5 HB4 HS4 HL4
      go_wp2_with fail
      have hr := even_two (w := x5.alloc (.cells #[.slice Al LS.length cl, .slice (some ⟨b, off, none⟩) S.length cs] 24)) (g := x5.heap.size) ⟨Al, cl, LS⟩ ⟨some ⟨b, off, none⟩, cs, S⟩ F (heap_alloc_new x5 _) (Sl.below HL5.out (below_alloc (Below.refl _ _) _)) (Sl.below HS5.out (below_alloc (Below.refl _ _) _)) (by dsimp only; omega) (by dsimp only; omega)
      try dsimp only at hr
      rw [HW.out, HE1.out] at hr
      refine (Calls.mono hr ?_); rintro e x6 ⟨rfl, hg6⟩
      have hb6 := below_step (below_alloc (Below.refl x5.heap.size x5) _) hg6
      have HB6 := hide (below_step HB5.out hb6)
      have HS6 := hide (Sl.below HS5.out hb6)
      clear hr hg6 hb6 HB5 HS5 HL5
      go_wp2_with fail
      have hr := even_onel (w := x6.alloc (.cells #[.slice (some ⟨b, off, none⟩) S.length cs] 24)) (g := x6.heap.size) ⟨some ⟨b, off, none⟩, cs, S⟩ F (heap_alloc_new x6 _) (Sl.below HS6.out (below_alloc (Below.refl _ _) _)) (by dsimp only; omega)
      try dsimp only at hr
      refine (Calls.mono hr ?_); rintro e x7 ⟨rfl, hg7⟩
      have HB7 := hide (below_step (below_alloc HB6.out _) hg7)
      clear hr hg7 HB6
      go_wp2_with fail
      refine (Calls.mono (awake27_any _) ?_); rintro e x8 ⟨rfl, hg8⟩
      have HB8 := hide (below_step HB7.out hg8)
      clear hg8
      go_wp2_with fail
      go_ret
      exact ⟨rfl, HB8.out⟩
  · obtain rfl : cs = m := by omega
    have HDN : Hid (S.drop cs = []) := hide (List.drop_eq_nil_of_le (by omega))
    have HLE3 : Hid (S.take k ++ [] = lessL S k) := hide (by rw [← HDN.out]; exact HLE2.out)
    clear HDN
    go_upto_region 6 with fail
    go_region_law (first
      | (have _t := tk1; refine step_append_items rfl (.tmp 31) (.tmp 34) rfl w2.heap.size _ [] rfl HOM.out (some ⟨b, off, none⟩) k cs (S.take k) rfl (by simp; omega) (HTK.out _ HBD.out) HBD.out.size (by simp; omega) ?_; intro v3 x3 ho3 hg3; have O3 := hide ho3; have B3 := hide (HBD.out.grown hg3 HBD.out.size (fun g hg => (OwnL.lt HOM.out g hg).1)); clear ho3 hg3 tk1 _t)
      | (have _t := tk2; refine step_append_items rfl (.tmp 35) (.tmp 39) rfl w2.heap.size _ _ rfl O3.out (some ⟨b, off, none⟩) 0 0 [] rfl rfl RowAt.nil_ B3.out.size (by simp; omega) ?_; intro v4 x4 ho4 hg4; have O4 := hide ho4; have B4 := hide (B3.out.grown hg4 B3.out.size (fun g hg => (OwnL.lt O3.out g hg).1)); clear ho4 hg4 tk2 _t))
    obtain ⟨b2, off2, e2, _, q0, q1, q2, q3, q4⟩ := ItemsAt.item HSA.out B4.out hkN
    injection e2 with e2
    injection e2 with e3 e4 _
    subst e3 e4
    have hb4 := B4.out.size
    have hbx : b < x4.heap.size := by omega
    have HL4 := hide (Ow.sl O4.out)
    rw [List.nil_append, HLE3.out] at HL4
    have HS4 : Hid (Sl x4 (.slice (some ⟨b, off, none⟩) S.length cs) S) := hide (Sl.mk_ (RowAt.below HSA.out B4.out) hSc hSm)
    have HB4 := hide (below_step HB2.out B4.out)
    generalize lessL S k = LS at *
    generalize S[k] = x at *
    obtain ⟨Al, cl, rfl, hAl, hcl, hcm⟩ := HL4.out
    replace HL4 : Hid (Sl x4 (.slice Al LS.length cl) LS) := hide (Sl.mk_ hAl hcl hcm)
    clear HLE3 y0 y1 y2 y3 y4 O4 hAl HSA B4 O3 B3 HTK HDR HLE2 HOM HBD HST
    have hx := HE2.out
    by_cases h1 : x.k = 1
    · have b1 : (x.k == 1) = true := by simp [h1]
      rw [decide_eq_true h1, Bool.true_or] at hx
      have HW := hide hx
      clear hx h1 HE2
      go_wp2_with fail
      have hr := even_two (w := x4.alloc (.cells #[.slice (some ⟨b, off, none⟩) S.length cs, .slice Al LS.length cl] 24)) (g := x4.heap.size) ⟨some ⟨b, off, none⟩, cs, S⟩ ⟨Al, cl, LS⟩ F (heap_alloc_new x4 _) (Sl.below HS4.out (below_alloc (Below.refl _ _) _)) (Sl.below HL4.out (below_alloc (Below.refl _ _) _)) (by dsimp only; omega) (by dsimp only; omega)
      try dsimp only at hr
      rw [HW.out, HE1.out] at hr
      refine (Calls.mono hr ?_); rintro e x5 ⟨rfl, hg5⟩
      have hb5 := below_step (below_alloc (Below.refl x4.heap.size x4) _) hg5
      have HB5 := hide (below_step HB4.out hb5)
      have HS5 := hide (Sl.below HS4.out hb5)
      have HL5 := hide (Sl.below HL4.out hb5)
      clear hr hg5 hb5 HB4 HS4 HL4
      go_wp2_with fail
      have hr := even_two (w := x5.alloc (.cells #[.slice Al LS.length cl, .slice (some ⟨b, off, none⟩) S.length cs] 24)) (g := x5.heap.size) ⟨Al, cl, LS⟩ ⟨some ⟨b, off, none⟩, cs, S⟩ F (heap_alloc_new x5 _) (Sl.below HL5.out (below_alloc (Below.refl _ _) _)) (Sl.below HS5.out (below_alloc (Below.refl _ _) _)) (by dsimp only; omega) (by dsimp only; omega)
      try dsimp only at hr
      rw [HW.out, HE1.out] at hr
      refine (Calls.mono hr ?_); rintro e x6 ⟨rfl, hg6⟩
      have hb6 := below_step (below_alloc (Below.refl x5.heap.size x5) _) hg6
      have HB6 := hide (below_step HB5.out hb6)
      have HS6 := hide (Sl.below HS5.out hb6)
      clear hr hg6 hb6 HB5 HS5 HL5
      go_wp2_with fail
      have hr := even_onel (w := x6.alloc (.cells #[.slice (some ⟨b, off, none⟩) S.length cs] 24)) (g := x6.heap.size) ⟨some ⟨b, off, none⟩, cs, S⟩ F (heap_alloc_new x6 _) (Sl.below HS6.out (below_alloc (Below.refl _ _) _)) (by dsimp only; omega)
      try dsimp only at hr
      refine (Calls.mono hr ?_); rintro e x7 ⟨rfl, hg7⟩
      have HB7 := hide (below_step (below_alloc HB6.out _) hg7)
      clear hr hg7 HB6
      go_wp2_with fail
      refine (Calls.mono (awake27_any _) ?_); rintro e x8 ⟨rfl, hg8⟩
      have HB8 := hide (below_step HB7.out hg8)
      clear hg8
      go_wp2_with fail
      go_ret
      exact ⟨rfl, HB8.out⟩
    have b1 : (x.k == 1) = false := by simp [h1]
    rw [decide_eq_false h1, Bool.false_or] at hx
    by_cases h2 : F < x.v
    · rw [decide_eq_true h2] at hx
      have HW := hide hx
      clear hx h1 HE2
      go_wp2_with fail
      have hr := even_two (w := x4.alloc (.cells #[.slice (some ⟨b, off, none⟩) S.length cs, .slice Al LS.length cl] 24)) (g := x4.heap.size) ⟨some ⟨b, off, none⟩, cs, S⟩ ⟨Al, cl, LS⟩ F (heap_alloc_new x4 _) (Sl.below HS4.out (below_alloc (Below.refl _ _) _)) (Sl.below HL4.out (below_alloc (Below.refl _ _) _)) (by dsimp only; omega) (by dsimp only; omega)
      try dsimp only at hr
      rw [HW.out, HE1.out] at hr
      refine (Calls.mono hr ?_); rintro e x5 ⟨rfl, hg5⟩
      have hb5 := below_step (below_alloc (Below.refl x4.heap.size x4) _) hg5
      have HB5 := hide (below_step HB4.out hb5)
      have HS5 := hide (Sl.below HS4.out hb5)
      have HL5 := hide (Sl.below HL4.out hb5)
      clear hr hg5 hb5 HB4 HS4 HL4
      go_wp2_with fail
      have hr := even_two (w := x5.alloc (.cells #[.slice Al LS.length cl, .slice (some ⟨b, off, none⟩) S.length cs] 24)) (g := x5.heap.size) ⟨Al, cl, LS⟩ ⟨some ⟨b, off, none⟩, cs, S⟩ F (heap_alloc_new x5 _) (Sl.below HL5.out (below_alloc (Below.refl _ _) _)) (Sl.below HS5.out (below_alloc (Below.refl _ _) _)) (by dsimp only; omega) (by dsimp only; omega)
      try dsimp only at hr
      rw [HW.out, HE1.out] at hr
      refine (Calls.mono hr ?_); rintro e x6 ⟨rfl, hg6⟩
      have hb6 := below_step (below_alloc (Below.refl x5.heap.size x5) _) hg6
      have HB6 := hide (below_step HB5.out hb6)
      have HS6 := hide (Sl.below HS5.out hb6)
      clear hr hg6 hb6 HB5 HS5 HL5
      go_wp2_with fail
      have hr := even_onel (w := x6.alloc (.cells #[.slice (some ⟨b, off, none⟩) S.length cs] 24)) (g := x6.heap.size) ⟨some ⟨b, off, none⟩, cs, S⟩ F (heap_alloc_new x6 _) (Sl.below HS6.out (below_alloc (Below.refl _ _) _)) (by dsimp only; omega)
      try dsimp only at hr
      refine (Calls.mono hr ?_); rintro e x7 ⟨rfl, hg7⟩
      have HB7 := hide (below_step (below_alloc HB6.out _) hg7)
      clear hr hg7 HB6
      go_wp2_with fail
      refine (Calls.mono (awake27_any _) ?_); rintro e x8 ⟨rfl, hg8⟩
      have HB8 := hide (below_step HB7.out hg8)
      clear hg8
      go_wp2_with fail
      go_ret
      exact ⟨rfl, HB8.out⟩
    · rw [decide_eq_false h2] at hx
      have HW := hide hx
      clear hx h1 HE2
      go_wp2_with fail
      have hr := even_two (w := x4.alloc (.cells #[.slice (some ⟨b, off, none⟩) S.length cs, .slice Al LS.length cl] 24)) (g := x4.heap.size) ⟨some ⟨b, off, none⟩, cs, S⟩ ⟨Al, cl, LS⟩ F (heap_alloc_new x4 _) (Sl.below HS4.out (below_alloc (Below.refl _ _) _)) (Sl.below HL4.out (below_alloc (Below.refl _ _) _)) (by dsimp only; omega) (by dsimp only; omega)
      try dsimp only at hr
      rw [HW.out, HE1.out] at hr
      refine (Calls.mono hr ?_); rintro e x5 ⟨rfl, hg5⟩
      have hb5 := below_step (below_alloc (Below.refl x4.heap.size x4) _) hg5
      have HB5 := hide (below_step HB4.out hb5)
      have HS5 := hide (Sl.below HS4.out hb5)
      have HL5 := hide (Sl.below HL4.out hb5)
      clear hr hg5 hb5 HB4 HS4 HL4
      go_wp2_with fail
      have hr := even_two (w := x5.alloc (.cells #[.slice Al LS.length cl, .slice (some ⟨b, off, none⟩) S.length cs] 24)) (g := x5.heap.size) ⟨Al, cl, LS⟩ ⟨some ⟨b, off, none⟩, cs, S⟩ F (heap_alloc_new x5 _) (Sl.below HL5.out (below_alloc (Below.refl _ _) _)) (Sl.below HS5.out (below_alloc (Below.refl _ _) _)) (by dsimp only; omega) (by dsimp only; omega)
      try dsimp only at hr
      rw [HW.out, HE1.out] at hr
      refine (Calls.mono hr ?_); rintro e x6 ⟨rfl, hg6⟩
      have hb6 := below_step (below_alloc (Below.refl x5.heap.size x5) _) hg6
      have HB6 := hide (below_step HB5.out hb6)
      have HS6 := hide (Sl.below HS5.out hb6)
      clear hr hg6 hb6 HB5 HS5 HL5
      go_wp2_with fail
      have hr := even_onel (w := x6.alloc (.cells #[.slice (some ⟨b, off, none⟩) S.length cs] 24)) (g := x6.heap.size) ⟨some ⟨b, off, none⟩, cs, S⟩ F (heap_alloc_new x6 _) (Sl.below HS6.out (below_alloc (Below.refl _ _) _)) (by dsimp only; omega)
      try dsimp only at hr
      refine (Calls.mono hr ?_); rintro e x7 ⟨rfl, hg7⟩
      have HB7 := hide (below_step (below_alloc HB6.out _) hg7)
      clear hr hg7 HB6
      go_wp2_with fail
      refine (Calls.mono (awake27_any _) ?_); rintro e x8 ⟨rfl, hg8⟩
      have HB8 := hide (below_step HB7.out hg8)
      clear hg8
      go_wp2_with fail
      go_ret
      exact ⟨rfl, HB8.out⟩
end Go.Proofs.Ytebnifpclebliaa.axiomEven
