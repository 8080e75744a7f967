/- clepsydraref26.Call: onRound: contracts. Conditions: the call as it lies. -/
import Derived.Test.YtikecafblampeaaRcU
namespace Go.Proofs.Ytikecafblampeaa
set_option linter.unusedVariables false
set_option linter.unusedSimpArgs false
open Go.ChangeShapes Go.WideShapes Go.ChangeAt Go.RowKit
/-- What On answers, and what the call is behind it. -/
def RcP (w0 w : World) (base p cb : Nat) (K' : Cs) (M : List Mg) (e : Ending) (w' : World) : Prop := ∃ (ok : Bool) (A : Option Addr) (c : Nat) (N : List Mg) (cb' : Nat), e = .returned (.tuple #[.bool ok, .slice A N.length c]) ∧ Stay base w' A N ∧ N.map Mg.bare = M ∧ CallO w0 w' base p cb' K' ∧ Sets (fun g => g = p ∨ g = cb) w w'
set_option maxRecDepth 100000 in
set_option maxHeartbeats 3200000 in
theorem rcon_old {w0 w : World} {base p cb : Nat} {K : Cs} (h : CallO w0 w base p cb K) (hr : K.rd = true) (hn : K.n ≤ 7) (m : Mg) (hm : m.rd w0) {f : Nat} (hf : m.f = (f : Int)) (hfn : f < K.n) (hk : m.k = 3) :
    Calls Try.prog 38 #[.pointer (some ⟨p, 0, none⟩), m.val] w (RcP w0 w base p cb (endK K 21 m.n) []) := by
  obtain ⟨mk, mf, mt, mi, mv, mA, mc, mL⟩ := m
  simp only at hk hf hm
  subst hf
  have HK := hide hk
  clear hk
  obtain ⟨ml, hml⟩ : ∃ ml, mL.length = ml := ⟨_, rfl⟩
  have HML := hide hml
  have HM := hide hm
  have hba := below_alloc (Below.refl w.heap.size w) (.cells #[.int .i64 mk, .int .i64 f, .int .i64 mt, .int .u64 mi, .int .u64 mv, .slice mA ml mc] 30)
  have hz := heap_alloc_new w (.cells #[.int .i64 mk, .int .i64 f, .int .i64 mt, .int .u64 mi, .int .u64 mv, .slice mA ml mc] 30)
  obtain ⟨w1, hw1⟩ : ∃ w1, w.alloc (.cells #[.int .i64 mk, .int .i64 f, .int .i64 mt, .int .u64 mi, .int .u64 mv, .slice mA ml mc] 30) = w1 := ⟨_, rfl⟩
  rw [hw1] at hba hz
  obtain ⟨gm, hgm⟩ : ∃ gm, w.heap.size = gm := ⟨_, rfl⟩
  rw [hgm] at hz
  have h1 := h.below hba
  have hlt := h.lt
  have hgp : gm ≠ p := by omega
  have hgc : gm ≠ cb := by omega
  obtain ⟨Ai, ci, hit, hcl⟩ := h1.cells
  have HCL := hide hcl
  have HIT := hide hit
  have H1 := hide h1
  have HH := hide h
  have HBA := hide hba
  have HZ := hide hz
  have HW1 := hide hw1
  have HGM := hide hgm
  obtain ⟨n, hnn⟩ : ∃ n, K.n = n := ⟨_, rfl⟩
  have HNN := hide hnn
  rw [hnn] at hfn hn
  have hpl := h1.lt
  have hgl := (Array.getElem?_eq_some_iff.1 hz).1
  have hfI : (f : Int) < (n : Int) := by omega
  have hf0 : (0 : Int) ≤ (f : Int) := by omega
  clear hlt hcl hit h1 h hba hz hw1 hgm hm hnn
  show Calls Try.prog 38 #[.pointer (some ⟨p, 0, none⟩), .agg #[.int .i64 mk, .int .i64 f, .int .i64 mt, .int .u64 mi, .int .u64 mv, .slice mA mL.length mc]] w _
  rw [hml]
  clear hml
  go_enter Try.func38, Try.ntmps38
  go_upto_region 1 with fail
  rw [HW1.out, HGM.out]
  clear HW1
  obtain ⟨m0, m1, m2, m3, m4, m5⟩ := six_cells HZ.out
  obtain ⟨c0, c1, c2, c3, c4, c5, c6, c7, c8, c9, c10, c11, c13, c14, cc⟩ := HCL.out w1 (Below.refl _ _)
  rw [HNN.out] at c1 c10
  have hck := cc f (by rw [HNN.out]; exact hfn)
  clear cc c4 c5 c6 c7 c13
  rw [HK.out] at m0
  have HE := hide (rcend_any H1.out hr 21 mv)
  clear c0 c1 c2 c3 c8 c9 c10 c11 c14 hck
  go_wp2_with fail
  refine (Calls.mono HE.out ?_); rintro e w2 ⟨rfl, hc2, hs2⟩
  have HC2 := hide hc2
  have HS2 := hide hs2
  clear m0 m1 m2 m3 m4 m5 hc2 hs2 HE
  go_wp2_with fail
  refine bodyPost_ret (v := .tuple #[.bool true, .slice none 0 0]) (by simp [results, Try.results38]) rfl ?_
  exact ⟨true, none, 0, [], cb, rfl, stay_nil _ _, rfl, HC2.out, (Sets.of (S := fun g => g = p ∨ g = cb) HBA.out).trans HS2.out (fun _ _ h => .inl h)⟩
set_option maxRecDepth 100000 in
set_option maxHeartbeats 3200000 in
theorem rcon_skip {w0 w : World} {base p cb : Nat} {K : Cs} (h : CallO w0 w base p cb K) (hr : K.rd = true) (hn : K.n ≤ 7) (m : Mg) (hm : m.rd w0) {f : Nat} (hf : m.f = (f : Int)) (hfn : f < K.n) (hk : m.k ≠ 3) (hno : m.k ≠ wantK K ∨ m.n ≠ K.ver ∨ K.C f = true) :
    Calls Try.prog 38 #[.pointer (some ⟨p, 0, none⟩), m.val] w (RcP w0 w base p cb K []) := by
  obtain ⟨mk, mf, mt, mi, mv, mA, mc, mL⟩ := m
  simp only at hk hno hf hm
  subst hf
  obtain ⟨ml, hml⟩ : ∃ ml, mL.length = ml := ⟨_, rfl⟩
  have HML := hide hml
  have HM := hide hm
  have hba := below_alloc (Below.refl w.heap.size w) (.cells #[.int .i64 mk, .int .i64 f, .int .i64 mt, .int .u64 mi, .int .u64 mv, .slice mA ml mc] 30)
  have hz := heap_alloc_new w (.cells #[.int .i64 mk, .int .i64 f, .int .i64 mt, .int .u64 mi, .int .u64 mv, .slice mA ml mc] 30)
  obtain ⟨w1, hw1⟩ : ∃ w1, w.alloc (.cells #[.int .i64 mk, .int .i64 f, .int .i64 mt, .int .u64 mi, .int .u64 mv, .slice mA ml mc] 30) = w1 := ⟨_, rfl⟩
  rw [hw1] at hba hz
  obtain ⟨gm, hgm⟩ : ∃ gm, w.heap.size = gm := ⟨_, rfl⟩
  rw [hgm] at hz
  have h1 := h.below hba
  have hlt := h.lt
  have hgp : gm ≠ p := by omega
  have hgc : gm ≠ cb := by omega
  obtain ⟨Ai, ci, hit, hcl⟩ := h1.cells
  have HCL := hide hcl
  have HIT := hide hit
  have H1 := hide h1
  have HH := hide h
  have HBA := hide hba
  have HZ := hide hz
  have HW1 := hide hw1
  have HGM := hide hgm
  obtain ⟨n, hnn⟩ : ∃ n, K.n = n := ⟨_, rfl⟩
  have HNN := hide hnn
  rw [hnn] at hfn hn
  have hpl := h1.lt
  have hgl := (Array.getElem?_eq_some_iff.1 hz).1
  have hfI : (f : Int) < (n : Int) := by omega
  have hf0 : (0 : Int) ≤ (f : Int) := by omega
  clear hlt hcl hit h1 h hba hz hw1 hgm hm hnn
  show Calls Try.prog 38 #[.pointer (some ⟨p, 0, none⟩), .agg #[.int .i64 mk, .int .i64 f, .int .i64 mt, .int .u64 mi, .int .u64 mv, .slice mA mL.length mc]] w _
  rw [hml]
  clear hml
  go_enter Try.func38, Try.ntmps38
  go_upto_region 1 with fail
  rw [HW1.out, HGM.out]
  clear HW1
  obtain ⟨m0, m1, m2, m3, m4, m5⟩ := six_cells HZ.out
  obtain ⟨c0, c1, c2, c3, c4, c5, c6, c7, c8, c9, c10, c11, c13, c14, cc⟩ := HCL.out w1 (Below.refl _ _)
  rw [HNN.out] at c1 c10
  have hck := cc f (by rw [HNN.out]; exact hfn)
  clear cc c4 c5 c6 c7 c13
  have hk3 : (mk == 3) = false := beq_eq_false_iff_ne.2 hk
  clear hk c0 c1 c2 c3 c11 c14
  by_cases hph : K.ph = 2
  · rw [hph] at c9
    by_cases hkw : mk = 9
    · subst hkw
      by_cases hv : mv = K.ver
      · have hc : K.C f = true := by
          rcases hno with hx | hx | hx
          · exact absurd (by unfold wantK; rw [if_pos hph]) hx
          · exact absurd hv hx
          · exact hx
        rw [hc] at hck
        clear hno hc
        subst hv
        go_upto_region 7 with fail
        go_region
        go_wp2_with fail
        refine bodyPost_ret (v := .tuple #[.bool false, .slice none 0 0]) (by simp [results, Try.results38]) rfl ?_
        exact ⟨false, none, 0, [], cb, rfl, stay_nil _ _, rfl, H1.out.below (Below.refl _ _).drew, (Sets.of (S := fun g => g = p ∨ g = cb) HBA.out).drew⟩
      · have hvI : (mv == K.ver) = false := beq_eq_false_iff_ne.2 hv
        have hvJ : (mv != K.ver) = true := bne_iff_ne.2 hv
        clear hno hck
        go_upto_region 7 with fail
        go_region
        go_wp2_with fail
        refine bodyPost_ret (v := .tuple #[.bool false, .slice none 0 0]) (by simp [results, Try.results38]) rfl ?_
        exact ⟨false, none, 0, [], cb, rfl, stay_nil _ _, rfl, H1.out.below (Below.refl _ _).drew, (Sets.of (S := fun g => g = p ∨ g = cb) HBA.out).drew⟩
    · have hkI : (mk == 9) = false := beq_eq_false_iff_ne.2 hkw
      have hkJ : (mk != 9) = true := bne_iff_ne.2 hkw
      clear hno hck
      go_upto_region 7 with fail
      go_region
      go_wp2_with fail
      refine bodyPost_ret (v := .tuple #[.bool false, .slice none 0 0]) (by simp [results, Try.results38]) rfl ?_
      exact ⟨false, none, 0, [], cb, rfl, stay_nil _ _, rfl, H1.out.below (Below.refl _ _).drew, (Sets.of (S := fun g => g = p ∨ g = cb) HBA.out).drew⟩
  · have hphI : (K.ph == 2) = false := beq_eq_false_iff_ne.2 hph
    by_cases hkw : mk = 7
    · subst hkw
      by_cases hv : mv = K.ver
      · have hc : K.C f = true := by
          rcases hno with hx | hx | hx
          · exact absurd (by unfold wantK; rw [if_neg hph]) hx
          · exact absurd hv hx
          · exact hx
        rw [hc] at hck
        clear hno hc
        subst hv
        go_upto_region 7 with fail
        go_region
        go_wp2_with fail
        refine bodyPost_ret (v := .tuple #[.bool false, .slice none 0 0]) (by simp [results, Try.results38]) rfl ?_
        exact ⟨false, none, 0, [], cb, rfl, stay_nil _ _, rfl, H1.out.below (Below.refl _ _).drew, (Sets.of (S := fun g => g = p ∨ g = cb) HBA.out).drew⟩
      · have hvI : (mv == K.ver) = false := beq_eq_false_iff_ne.2 hv
        have hvJ : (mv != K.ver) = true := bne_iff_ne.2 hv
        clear hno hck
        go_upto_region 7 with fail
        go_region
        go_wp2_with fail
        refine bodyPost_ret (v := .tuple #[.bool false, .slice none 0 0]) (by simp [results, Try.results38]) rfl ?_
        exact ⟨false, none, 0, [], cb, rfl, stay_nil _ _, rfl, H1.out.below (Below.refl _ _).drew, (Sets.of (S := fun g => g = p ∨ g = cb) HBA.out).drew⟩
    · have hkI : (mk == 7) = false := beq_eq_false_iff_ne.2 hkw
      have hkJ : (mk != 7) = true := bne_iff_ne.2 hkw
      clear hno hck
      go_upto_region 7 with fail
      go_region
      go_wp2_with fail
      refine bodyPost_ret (v := .tuple #[.bool false, .slice none 0 0]) (by simp [results, Try.results38]) rfl ?_
      exact ⟨false, none, 0, [], cb, rfl, stay_nil _ _, rfl, H1.out.below (Below.refl _ _).drew, (Sets.of (S := fun g => g = p ∨ g = cb) HBA.out).drew⟩
end Go.Proofs.Ytikecafblampeaa
