/- The walk of clepsydralaw19.TreeSame: it returns true. Conditions: the arguments are readable. -/
import Derived.Test.YthpbohheddkfiaaTPl
import Derived.Test.YthpbohheddkfiaaApp
import Derived.Test.YthpbohheddkfiaaOg
import Derived.Test.YthpbohheddkfiaaSsE
namespace Go.Proofs.Ythpbohheddkfiaa.treeSame
set_option linter.unusedVariables false
set_option linter.unusedSimpArgs false
open Go.ChangeShapes Go.WideShapes Go.ChangeAt Go.RowKit

theorem tof_o {w w1 : World} (A : Option Addr) (c : Nat) (L : List It) (hl : L.length ≤ 2000) (hL : ItemsAt w1 A L) (hw : ∀ x ∈ L, x.wf) (hb : Below w.heap.size w w1) :
    Calls Try.prog 7 #[.slice A L.length c] w1 fun e w' => ∃ b, e = .returned (.pointer (some ⟨b, 0, none⟩)) ∧ TreeO w w' b (serL L) ∧ w1.heap.size ≤ b ∧ Below w1.heap.size w1 w' :=
  Calls.mono (tof_any A c L w1 hl hL) (by
    rintro e w' ⟨b, rfl, h⟩
    exact ⟨b, rfl, (h.o (serL_wf hw) (serL_2000 hl)).from_ hb, h.old, h.low⟩)
theorem some_addr {g g' o o' : Nat} (h : (some ⟨g, o, none⟩ : Option Addr) = some ⟨g', o', none⟩) : g = g' ∧ o = o' := by injection h with h; injection h; exact ⟨by assumption, by assumption⟩
theorem og_block {base : Nat} {w : World} {v : Value} {L : List It} (h : Ow base w v L) (hL : 0 < L.length) :
    ∃ g c, v = .slice (some ⟨g, 0, none⟩) L.length c ∧ base ≤ g ∧ g < w.heap.size ∧ ItemsAt w (some ⟨g, 0, none⟩) L ∧ ∀ o, w.frozen? ⟨g, o, none⟩ = false := by
  have hs := h.sl
  rcases h.og with ⟨_, e⟩ | ⟨g, c, R, rfl, hb, hh, _⟩
  · subst e; simp at hL
  · obtain ⟨A, c', e, hr, _⟩ := hs
    injection e with e1 e2 e3
    subst e1
    exact ⟨g, c, rfl, hb, (Array.getElem?_eq_some_iff.1 hh).1, hr, row_free hh⟩
set_option maxRecDepth 100000 in
set_option maxHeartbeats 6400000 in
theorem walk {w : World} (A0 : Option Addr) (c0 : Nat) (L0 : List It) (lc0 : L0.length ≤ c0) (cm0 : c0 ≤ maxLen) (r0 : RowAt It.cells 5 w A0 L0) (w0 : ∀ a ∈ L0, a.wf)
    (a1 : Int) (w1 : (Lit.int .i64 a1).wf = true) (a2 : Int) (w2 : (Lit.int .i64 a2).wf = true) :
    Calls Try.prog 3 #[.slice A0 L0.length c0, .int .i64 a1, .int .i64 a2] w fun e w' => e = .returned (.bool true) ∧ Below w.heap.size w w' := by
  have R0 := hide r0
  have W0 := hide w0
  have b1 := bounds_i64 w1
  have b2 := bounds_i64 w2
  have HSL := hide (Sl.mk_ r0 lc0 cm0)
  clear r0 w0 lc0 cm0 w1 w2
  by_cases h60 : 60 < L0.length
  · have hI : (60 : Int) < (L0.length : Int) := by omega
    go_enter Try.func3, Try.ntmps3
    go_wp2_with fail
    refine (Calls.mono (awake19_any w) ?_); rintro e w3 ⟨rfl, hb⟩
    go_wp2_with fail
    go_ret
    exact ⟨rfl, hb⟩
  have hI : ¬ (60 : Int) < (L0.length : Int) := by omega
  have HRO := hide (rof_sl HSL.out (by omega))
  have hql := ofL_len L0
  have HQM : Hid (∀ x ∈ ofL L0, x.wf ∧ It.good x) := hide (fun x hx => ⟨W0.out x (mem_ofL hx).1, (mem_ofL hx).2⟩)
  generalize ofL L0 = Q at *
  have hq60 : Q.length ≤ 60 := by omega
  have HQW : Hid (∀ x ∈ Q, x.wf) := hide (fun x hx => (HQM.out x hx).1)
  clear hql h60
  go_enter Try.func3, Try.ntmps3
  go_wp2_with fail
  refine (Calls.mono HRO.out ?_); rintro e w3 ⟨v, rfl, hsl, hb3⟩
  obtain ⟨Aq, cq, rfl, hrq, _, _⟩ := hsl
  have HRQ := hide hrq
  have HB3 := hide hb3
  clear hrq hb3 HRO HSL
  go_wp2_with fail
  refine (Calls.mono (tof_o Aq cq Q (by omega) HRQ.out HQW.out HB3.out) ?_); rintro e w4 ⟨a, rfl, hA, haold, hb4⟩
  have HA := hide hA
  have HRQ4 := hide (HRQ.out.below hb4)
  have HB4 := hide (below_step HB3.out hb4)
  have HXA := hide (And.intro haold hb4)
  have hal := below_alloc (Below.refl w4.heap.size w4) (.cells #[] 33)
  have HE := hide (own_emptyE It.cells 5 33 w4.heap.size w4 (Nat.le_refl _))
  have HAL := hide hal
  have HRQ5 := hide (HRQ4.out.below hal)
  clear hA hb4 hal haold
  go_wp2_with (at_builtin; refine wpList_append_items rfl (.tmp 22) (.tmp 23) rfl w4.heap.size w4.heap.size w4 _ _ [] Aq Q.length cq Q rfl rfl rfl HRQ5.out HE.out HAL.out (Nat.le_refl _) HAL.out.size (by simp only [List.length_nil]; omega) ?_; intro v6 w6 ho6 hb6 hg6; rw [List.nil_append] at ho6; obtain ⟨A6, c6, rfl, hr6, _, _⟩ := Ow.sl ho6; have HR6 := hide hr6; have HB6 := hide hb6; clear ho6 hb6 hg6 hr6)
  have HRQ6 := hide (HRQ4.out.below HB6.out)
  refine (Calls.mono (tof_o A6 c6 Q (by omega) HR6.out HQW.out (below_step HB4.out HB6.out)) ?_); rintro e w7 ⟨b, rfl, hB, hbb, hb7⟩
  have hA7 := (HA.out.below HB6.out).below hb7
  have hab : a ≠ b := fun e => by have := (HA.out.below HB6.out).lt; omega
  have HAB := hide hab
  have HRQ7 := hide (HRQ6.out.below hb7)
  have HSM := hide (tsame_any hA7 hB hab)
  rw [show decide (nodeT (serL Q) 8 0 = nodeT (serL Q) 8 0) = true from decide_eq_true rfl] at HSM
  have HL7 := hide (And.intro hA7.lt hB.lt)
  have HAQ : Hid (∀ ad, Aq = some ad → Q ≠ [] → ad.block < w7.heap.size ∧ ad.block ≠ a ∧ ad.block ≠ b) := hide (fun ad had hn => by
    obtain ⟨g, off, e, hlt, _⟩ := HRQ.out hn
    rw [had] at e
    obtain rfl := Option.some.inj e
    have h1 := HB3.out
    exact ⟨Nat.lt_of_lt_of_le hlt (Nat.le_trans (Nat.le_trans HXA.out.2.size HB6.out.size) hb7.size), fun e => by have := HXA.out.1; simp only at e; omega, fun e => by have := Nat.le_trans HXA.out.2.size HB6.out.size; simp only at e; omega⟩)
  clear hA7 hB hbb hb7 hab HA HE HAL HRQ HRQ4 HRQ5 HRQ6 HR6 HB4 HB6
  go_wp2_with fail
  refine (Calls.mono HSM.out ?_); rintro e w8 ⟨rfl, hA, hB, hs8⟩
  have HB8 := hide hB
  have HRA := hide (root_any hA)
  have HA8 := hide hA
  have HS8 := hide hs8
  clear hA hB hs8 HSM
  obtain ⟨y, hy⟩ : ∃ y, nodeT (serL Q) 8 0 = y := ⟨_, rfl⟩
  have HY := hide hy
  rw [hy] at HRA
  clear hy
  go_wp2_with fail
  refine (Calls.mono HRA.out ?_); rintro e w9 ⟨rfl, hA, hs9⟩
  have hB := HB8.out.apart HA8.out (fun e => HAB.out e.symm) hs9
  have HRB := hide (root_any hB)
  rw [HY.out] at HRB
  have HA9 := hide hA
  have HB9 := hide hB
  have HS9 := hide (HS8.out.trans (hs9.mono_ (T := fun g => g = a ∨ g = b) (fun _ _ e => .inl e)) (fun _ _ h => h))
  clear hA hB hs9 HRA HA8 HB8 HS8
  go_wp2_with fail
  refine (Calls.mono HRB.out ?_); rintro e w10 ⟨rfl, hB, hs10⟩
  have hA := HA9.out.apart HB9.out HAB.out hs10
  have HS10 := hide (HS9.out.trans (hs10.mono_ (T := fun g => g = a ∨ g = b) (fun _ _ e => .inr e)) (fun _ _ h => h))
  have HD := hide (differ_any (w0 := w) (w := w10) (pa := some a) (pb := some b) (fun q hq => by obtain rfl := Option.some.inj hq; exact hA) (fun q hq => by obtain rfl := Option.some.inj hq; exact hB) (fun q hq e => HAB.out ((Option.some.inj hq).trans (Option.some.inj e).symm)) hA.low.size)
  rw [difL_self] at HD
  unfold ptrV at HD
  simp only [Option.map_some] at HD
  clear hA hB hs10 HRB HA9 HB9 HS9
  go_wp2_with fail
  refine (Calls.mono HD.out ?_); rintro e w11 ⟨v11, rfl, ho, hta, _, hs11⟩
  obtain ⟨A11, c11, rfl, _, _⟩ := OwnL.vals ho
  have HA := hide (hta a rfl)
  have hS11 := HS10.out.trans hs11 (fun g _ e => by
    rcases e with e | e
    · exact .inl (Option.some.inj e).symm
    · exact .inr (Option.some.inj e).symm)
  have HQR := hide (HRQ7.out.sets hS11 (fun ad had hn e => by
    have := HAQ.out ad had hn
    rcases e with e | e
    · exact this.2.1 e
    · exact this.2.2 e))
  clear ho hta hs11 hS11 HD HS10 HRQ7 HAQ HL7 HAB
  by_cases hq0 : Q.length = 0
  · have hqI : (Q.length : Int) = 0 := by omega
    have hqD : ((Q.length : Int) == 0) = true := beq_iff_eq.2 hqI
    go_wp2_with fail
    refine (Calls.mono (awake19_any w11) ?_); rintro e w12 ⟨rfl, hb⟩
    have HF := hide (below_step HA.out.low hb)
    clear hb
    go_wp2_with fail
    go_ret
    exact ⟨rfl, HF.out⟩
  have hpos : 0 < Q.length := by omega
  have hqI : ¬ (Q.length : Int) = 0 := by omega
  have hqD : ((Q.length : Int) == 0) = false := beq_eq_false_iff_ne.2 hqI
  obtain ⟨m, hm, hm0, hm1⟩ : ∃ m : Int, bits .and .i64 a1 255 = m ∧ 0 ≤ m ∧ m ≤ 255 := ⟨_, rfl, by rw [and_mask_i64 a1 8 255 (by omega) (by decide)]; omega⟩
  obtain ⟨k, hk⟩ : ∃ k : Nat, m % (Q.length : Int) = k := ⟨(m % (Q.length : Int)).toNat, (Int.toNat_of_nonneg (Int.emod_nonneg _ (by omega))).symm⟩
  have hkl : k < Q.length := by have := Int.emod_lt_of_pos m (show 0 < (Q.length : Int) by omega); omega
  have hal := below_alloc (Below.refl w11.heap.size w11) (.cells #[] 33)
  have HE := hide (own_emptyE It.cells 5 33 w11.heap.size w11 (Nat.le_refl _))
  have HAL := hide hal
  have HQR5 := hide (HQR.out.below hal)
  clear hal
  go_wp2_with (at_builtin; refine wpList_append_items rfl (.tmp 61) (.tmp 62) rfl w11.heap.size w11.heap.size w11 _ _ [] Aq Q.length cq Q rfl rfl rfl HQR5.out HE.out HAL.out (Nat.le_refl _) HAL.out.size (by simp only [List.length_nil]; omega) ?_; intro v12 w12 ho12 hb12 hg12; rw [List.nil_append] at ho12; obtain ⟨g, c12, rfl, hgb, hgl, hr12, hz12⟩ := og_block ho12 hpos; obtain ⟨_, _, e12, _, x0, x1, x2, x3, x4⟩ := ItemsAt.item hr12 (Below.refl _ _) hkl; obtain ⟨rfl, rfl⟩ := some_addr e12; simp only [Nat.zero_add] at x0 x1 x2 x3 x4; have HR12 := hide hr12; have HB12 := hide hb12; have z4 := hz12 (k * 5 + 4); clear ho12 hb12 hg12 hr12 hz12 e12)
  have hx0 : (Q[k]'hkl).s = ((Q[k]'hkl).s.toNat : Int) := by have := good_s (HQM.out _ (List.getElem_mem hkl)).2; omega
  obtain ⟨s, hs⟩ : ∃ s : Nat, (Q[k]'hkl).s.toNat = s := ⟨_, rfl⟩
  rw [hs] at hx0
  have HXS := hide hx0
  rw [hx0] at x0
  have HSB : Hid (s < 256) := hide (by have := good_s (HQM.out _ (List.getElem_mem hkl)).2; omega)
  obtain ⟨M, hM⟩ : ∃ M, Q.set k (withX (Q[k]'hkl) a2) = M := ⟨_, rfl⟩
  have hMl : M.length = Q.length := by rw [← hM, List.length_set]
  have HRM : Hid (ItemsAt (w12.setCell ⟨g, k * 5 + 4, none⟩ (.int .i64 a2)) (some ⟨g, 0, none⟩) M) := hide (by rw [← hM]; exact items_setX HR12.out hkl a2)
  have HMW : Hid (∀ x ∈ M, x.wf) := hide (fun x hx => by
    rw [← hM] at hx
    rcases List.mem_or_eq_of_mem_set hx with h | rfl
    · exact HQW.out x h
    · have h := HQW.out _ (List.getElem_mem hkl)
      unfold It.wf withX at *
      exact ⟨h.1, h.2.1, h.2.2.1, h.2.2.2.1, b2⟩)
  have HFG : Hid (∀ t, t ≠ s → serL Q t = serL M t) := hide (fun t ht => by
    rw [← hM]
    exact (serL_set hkl a2 (fun e => ht (by have := HXS.out; omega))).symm)
  have HSZ : Hid (Sets (fun c => c = g) w12 (w12.setCell ⟨g, k * 5 + 4, none⟩ (.int .i64 a2))) := hide ((Sets.refl (S := fun c => c = g) w12).set (g := g) (fun _ => rfl) _ _)
  have x0z : (w12.setCell ⟨g, k * 5 + 4, none⟩ (.int .i64 a2)).cell? ⟨g, k * 5, none⟩ = some (.int .i64 (s : Int)) := (World.cell?_setCell_other _ _ _ _ (by intro h; injection h with _ h2; omega)).trans x0
  obtain ⟨wz, hwz⟩ : ∃ wz, w12.setCell ⟨g, k * 5 + 4, none⟩ (.int .i64 a2) = wz := ⟨_, rfl⟩
  rw [hwz] at HRM HSZ x0z ⊢
  have hbz : Below w11.heap.size w11 wz := Sets.below HB12.out HSZ.out (fun c e => by rw [e]; exact hgb) HB12.out.size
  have hglz : g < wz.heap.size := Nat.lt_of_lt_of_le hgl HSZ.out.size
  have hTO := tof_o (w := w) (some ⟨g, 0, none⟩) c12 M (by omega) HRM.out HMW.out (below_step HA.out.low hbz)
  rw [hMl] at hTO
  refine (Calls.mono hTO ?_); rintro e w13 ⟨c, rfl, hC, hcb, hb13⟩
  have hA13 := (HA.out.below hbz).below hb13
  have hac : a ≠ c := fun e => by have := (HA.out.below hbz).lt; omega
  have hal11 := HA.out.lt
  have HNE := hide hac
  have x13 := keep_cell hb13 x0z hglz
  have hg13 : g < w13.heap.size := Nat.lt_of_lt_of_le hglz hb13.size
  have hcl := hC.lt
  have HAg : Hid (¬ (g = a ∨ g = c)) := hide (by omega)
  have HDA := dif_apart (a := a) (c := c) HFG.out
  have HD := hide (differ_any (w0 := w) (w := w13) (pa := some a) (pb := some c) (fun q hq => by obtain rfl := Option.some.inj hq; exact hA13) (fun q hq => by obtain rfl := Option.some.inj hq; exact hC) (fun q hq e => hac ((Option.some.inj hq).trans (Option.some.inj e).symm)) hA13.low.size)
  unfold ptrV at HD
  simp only [Option.map_some] at HD
  obtain ⟨ya, hya⟩ : ∃ y, nodeT (serL Q) 8 0 = y := ⟨_, rfl⟩
  obtain ⟨yc, hyc⟩ : ∃ y, nodeT (serL M) 8 0 = y := ⟨_, rfl⟩
  have HYA := hide hya
  have HYC := hide hyc
  have HAL13 : Hid (a < w13.heap.size ∧ c < w13.heap.size) := hide ⟨hA13.lt, hcl⟩
  have HSETM := hide hM
  clear hTO hC hcb hb13 hA13 hac hal11 x0z hglz hcl hya hyc hwz hs x0 x1 x2 x3 x4 z4 HSZ HRM HR12 HB12 hbz hM hgl hgb
  rcases HDA with hd | hd
  · rw [hd] at HD
    have HDH := hide hd
    clear hd
    go_wp2_with fail
    refine (Calls.mono HD.out ?_); rintro e w14 ⟨v14, rfl, ho, hta, htc, hs14⟩
    obtain ⟨A14, c14, rfl, _, _⟩ := OwnL.vals ho
    have HTA := hide (hta a rfl)
    have HTC := hide (htc c rfl)
    clear ho hta htc hs14 HD x13 hg13
    go_upto_region 16 with fail
    refine j_startS [] (S := (fun _ : World => True)) (by kernel_rfl) ?_
    obtain ⟨ud, hud⟩ : ∃ ud, w14.drew = ud := ⟨_, rfl⟩
    have HTA : Hid (TreeO w ud a (serL Q)) := hide (by rw [← hud]; exact HTA.out.below (Below.refl _ _).drew)
    have HTC : Hid (TreeO w ud c (serL M)) := hide (by rw [← hud]; exact HTC.out.below (Below.refl _ _).drew)
    have HS : Hid ((fun _ : World => True) ud) := hide trivial
    rw [hud]
    have HSM := hide (tsame_any HTA.out HTC.out HNE.out)
    rw [HYA.out, HYC.out, show decide (ya = yc) = (ya == yc) from rfl] at HSM
    clear hud
    refine' wpAnyJ_take (i := 0) (v := _) [] ?hi0n1 (by kernel_rfl) (by kernel_rfl) (by kernel_rfl) (by kernel_rfl) (by kernel_rfl) (Or.inl ⟨?hw0n1, ?hy0n1⟩) HS.out ?rest0n1
    case hi0n1 => (simp only [List.getElem?_toArray, List.getElem?_cons_succ, List.getElem?_cons_zero]; rfl)
    case hw0n1 => rfl
    case hy0n1 => (intro w' hw'; go_simp; try with_reducible rfl)
    try simp only [Act.put, List.setIfInBounds_toArray, List.set_cons_zero, List.set_cons_succ]
    refine' wpAnyJ_take (i := 1) (v := _) [] ?hi1n2 (by kernel_rfl) (by kernel_rfl) (by kernel_rfl) (by kernel_rfl) (by kernel_rfl) (Or.inl ⟨?hw1n2, ?hy1n2⟩) HS.out ?rest1n2
    case hi1n2 => (simp only [List.getElem?_toArray, List.getElem?_cons_succ, List.getElem?_cons_zero]; rfl)
    case hw1n2 => rfl
    case hy1n2 => (intro w' hw'; go_simp; try with_reducible rfl)
    try simp only [Act.put, List.setIfInBounds_toArray, List.set_cons_zero, List.set_cons_succ]
    refine' wpAnyJ_take (i := 2) (v := _) [] ?hi2n3 (by kernel_rfl) (by kernel_rfl) (by kernel_rfl) (by kernel_rfl) (by kernel_rfl) (Or.inl ⟨?hw2n3, ?hy2n3⟩) HS.out ?rest2n3
    case hi2n3 => (simp only [List.getElem?_toArray, List.getElem?_cons_succ, List.getElem?_cons_zero]; rfl)
    case hw2n3 => rfl
    case hy2n3 => (intro w' hw'; go_simp; try with_reducible rfl)
    try simp only [Act.put, List.setIfInBounds_toArray, List.set_cons_zero, List.set_cons_succ]
    refine' wpAnyJ_take (i := 3) (v := _) [] ?hi3n4 (by kernel_rfl) (by kernel_rfl) (by kernel_rfl) (by kernel_rfl) (by kernel_rfl) (Or.inl ⟨?hw3n4, ?hy3n4⟩) HS.out ?rest3n4
    case hi3n4 => (simp only [List.getElem?_toArray, List.getElem?_cons_succ, List.getElem?_cons_zero]; rfl)
    case hw3n4 => rfl
    case hy3n4 => (intro w' hw'; go_simp; try with_reducible rfl)
    try simp only [Act.put, List.setIfInBounds_toArray, List.set_cons_zero, List.set_cons_succ]
    refine' wpAnyJ_take (i := 4) (v := _) [] ?hi4n5 (by kernel_rfl) (by kernel_rfl) (by kernel_rfl) (by kernel_rfl) (by kernel_rfl) (Or.inl ⟨?hw4n5, ?hy4n5⟩) HS.out ?rest4n5
    case hi4n5 => (simp only [List.getElem?_toArray, List.getElem?_cons_succ, List.getElem?_cons_zero]; rfl)
    case hw4n5 => rfl
    case hy4n5 => (intro w' hw'; go_simp; try with_reducible rfl)
    try simp only [Act.put, List.setIfInBounds_toArray, List.set_cons_zero, List.set_cons_succ]
    refine' wpAnyJ_take (i := 5) (v := _) [] ?hi5n6 (by kernel_rfl) (by kernel_rfl) (by kernel_rfl) (by kernel_rfl) (by kernel_rfl) (Or.inl ⟨?hw5n6, ?hy5n6⟩) HS.out ?rest5n6
    case hi5n6 => (simp only [List.getElem?_toArray, List.getElem?_cons_succ, List.getElem?_cons_zero]; rfl)
    case hw5n6 => rfl
    case hy5n6 => (intro w' hw'; go_simp; try with_reducible rfl)
    try simp only [Act.put, List.setIfInBounds_toArray, List.set_cons_zero, List.set_cons_succ]
    refine' wpAnyJ_take (i := 6) (v := _) [] ?hi6n7 (by kernel_rfl) (by kernel_rfl) (by kernel_rfl) (by kernel_rfl) (by kernel_rfl) (Or.inl ⟨?hw6n7, ?hy6n7⟩) HS.out ?rest6n7
    case hi6n7 => (simp only [List.getElem?_toArray, List.getElem?_cons_succ, List.getElem?_cons_zero]; rfl)
    case hw6n7 => rfl
    case hy6n7 => (intro w' hw'; go_simp; try with_reducible rfl)
    try simp only [Act.put, List.setIfInBounds_toArray, List.set_cons_zero, List.set_cons_succ]
    refine' wpAnyJ_take (i := 7) (v := _) [] ?hi7n8 (by kernel_rfl) (by kernel_rfl) (by kernel_rfl) (by kernel_rfl) (by kernel_rfl) (Or.inl ⟨?hw7n8, ?hy7n8⟩) HS.out ?rest7n8
    case hi7n8 => (simp only [List.getElem?_toArray, List.getElem?_cons_succ, List.getElem?_cons_zero]; rfl)
    case hw7n8 => rfl
    case hy7n8 => (intro w' hw'; go_simp; try with_reducible rfl)
    try simp only [Act.put, List.setIfInBounds_toArray, List.set_cons_zero, List.set_cons_succ]
    refine' wpAnyJ_take (i := 8) (v := _) [] ?hi8n9 (by kernel_rfl) (by kernel_rfl) (by kernel_rfl) (by kernel_rfl) (by kernel_rfl) (Or.inr ⟨?hw8n9, rfl⟩) HS.out ?rest8n9
    case hi8n9 => (simp only [List.getElem?_toArray, List.getElem?_cons_succ, List.getElem?_cons_zero]; rfl)
    case hw8n9 => rfl
    try simp only [Act.put, List.setIfInBounds_toArray, List.set_cons_zero, List.set_cons_succ]
    refine' wpAnyJ_take (i := 9) (v := _) [] ?hi9n10 (by kernel_rfl) (by kernel_rfl) (by kernel_rfl) (by kernel_rfl) (by kernel_rfl) (Or.inr ⟨?hw9n10, rfl⟩) HS.out ?rest9n10
    case hi9n10 => (simp only [List.getElem?_toArray, List.getElem?_cons_succ, List.getElem?_cons_zero]; rfl)
    case hw9n10 => rfl
    try simp only [Act.put, List.setIfInBounds_toArray, List.set_cons_zero, List.set_cons_succ]
    refine' wpAnyJ_take (i := 10) (v := _) [] ?hi10n11 (by kernel_rfl) (by kernel_rfl) (by kernel_rfl) (by kernel_rfl) (by kernel_rfl) (Or.inr ⟨?hw10n11, rfl⟩) HS.out ?rest10n11
    case hi10n11 => (simp only [List.getElem?_toArray, List.getElem?_cons_succ, List.getElem?_cons_zero]; rfl)
    case hw10n11 => rfl
    try simp only [Act.put, List.setIfInBounds_toArray, List.set_cons_zero, List.set_cons_succ]
    refine' wpAnyJ_take (i := 11) (v := _) [] ?hi11n12 (by kernel_rfl) (by kernel_rfl) (by kernel_rfl) (by kernel_rfl) (by kernel_rfl) (Or.inr ⟨?hw11n12, rfl⟩) HS.out ?rest11n12
    case hi11n12 => (simp only [List.getElem?_toArray, List.getElem?_cons_succ, List.getElem?_cons_zero]; rfl)
    case hw11n12 => rfl
    try simp only [Act.put, List.setIfInBounds_toArray, List.set_cons_zero, List.set_cons_succ]
    refine' wpAnyJ_take (i := 12) (v := _) [] ?hi12n13 (by kernel_rfl) (by kernel_rfl) (by kernel_rfl) (by kernel_rfl) (by kernel_rfl) (Or.inr ⟨?hw12n13, rfl⟩) HS.out ?rest12n13
    case hi12n13 => (simp only [List.getElem?_toArray, List.getElem?_cons_succ, List.getElem?_cons_zero]; rfl)
    case hw12n13 => rfl
    try simp only [Act.put, List.setIfInBounds_toArray, List.set_cons_zero, List.set_cons_succ]
    refine' wpAnyJ_take (i := 13) (v := _) [] ?hi13n14 (by kernel_rfl) (by kernel_rfl) (by kernel_rfl) (by kernel_rfl) (by kernel_rfl) (Or.inr ⟨?hw13n14, rfl⟩) HS.out ?rest13n14
    case hi13n14 => (simp only [List.getElem?_toArray, List.getElem?_cons_succ, List.getElem?_cons_zero]; rfl)
    case hw13n14 => rfl
    try simp only [Act.put, List.setIfInBounds_toArray, List.set_cons_zero, List.set_cons_succ]
    refine' wpAnyJ_take (i := 14) (v := _) [] ?hi14n15 (by kernel_rfl) (by kernel_rfl) (by kernel_rfl) (by kernel_rfl) (by kernel_rfl) (Or.inr ⟨?hw14n15, rfl⟩) HS.out ?rest14n15
    case hi14n15 => (simp only [List.getElem?_toArray, List.getElem?_cons_succ, List.getElem?_cons_zero]; rfl)
    case hw14n15 => rfl
    try simp only [Act.put, List.setIfInBounds_toArray, List.set_cons_zero, List.set_cons_succ]
    refine' wpAnyJ_take (i := 15) (v := _) [] ?hi15n16 (by kernel_rfl) (by kernel_rfl) (by kernel_rfl) (by kernel_rfl) (by kernel_rfl) (Or.inr ⟨?hw15n16, rfl⟩) HS.out ?rest15n16
    case hi15n16 => (simp only [List.getElem?_toArray, List.getElem?_cons_succ, List.getElem?_cons_zero]; rfl)
    case hw15n16 => rfl
    try simp only [Act.put, List.setIfInBounds_toArray, List.set_cons_zero, List.set_cons_succ]
    refine' wpAnyJ_take (i := 16) (v := _) [] ?hi16n17 (by kernel_rfl) (by kernel_rfl) (by kernel_rfl) (by kernel_rfl) (by kernel_rfl) (Or.inr ⟨?hw16n17, rfl⟩) HS.out ?rest16n17
    case hi16n17 => (simp only [List.getElem?_toArray, List.getElem?_cons_succ, List.getElem?_cons_zero]; rfl)
    case hw16n17 => rfl
    try simp only [Act.put, List.setIfInBounds_toArray, List.set_cons_zero, List.set_cons_succ]
    refine' wpAnyJ_take (i := 17) (v := _) [] ?hi17n18 (by kernel_rfl) (by kernel_rfl) (by kernel_rfl) (by kernel_rfl) (by kernel_rfl) (Or.inl ⟨?hw17n18, ?hy17n18⟩) HS.out ?rest17n18
    case hi17n18 => (simp only [List.getElem?_toArray, List.getElem?_cons_succ, List.getElem?_cons_zero]; rfl)
    case hw17n18 => rfl
    case hy17n18 => (intro w' hw'; go_simp; try with_reducible rfl)
    try simp only [Act.put, List.setIfInBounds_toArray, List.set_cons_zero, List.set_cons_succ]
    refine' wpAnyJ_take (i := 18) (v := _) [] ?hi18n19 (by kernel_rfl) (by kernel_rfl) (by kernel_rfl) (by kernel_rfl) (by kernel_rfl) (Or.inl ⟨?hw18n19, ?hy18n19⟩) HS.out ?rest18n19
    case hi18n19 => (simp only [List.getElem?_toArray, List.getElem?_cons_succ, List.getElem?_cons_zero]; rfl)
    case hw18n19 => rfl
    case hy18n19 => (intro w' hw'; go_simp; try with_reducible rfl)
    try simp only [Act.put, List.setIfInBounds_toArray, List.set_cons_zero, List.set_cons_succ]
    refine' wpAnyJ_take (i := 19) (v := _) [] ?hi19n20 (by kernel_rfl) (by kernel_rfl) (by kernel_rfl) (by kernel_rfl) (by kernel_rfl) (Or.inl ⟨?hw19n20, ?hy19n20⟩) HS.out ?rest19n20
    case hi19n20 => (simp only [List.getElem?_toArray, List.getElem?_cons_succ, List.getElem?_cons_zero]; rfl)
    case hw19n20 => rfl
    case hy19n20 => (intro w' hw'; go_simp; try with_reducible rfl)
    try simp only [Act.put, List.setIfInBounds_toArray, List.set_cons_zero, List.set_cons_succ]
    refine' wpAnyJ_take (i := 20) (v := _) [] ?hi20n21 (by kernel_rfl) (by kernel_rfl) (by kernel_rfl) (by kernel_rfl) (by kernel_rfl) (Or.inl ⟨?hw20n21, ?hy20n21⟩) HS.out ?rest20n21
    case hi20n21 => (simp only [List.getElem?_toArray, List.getElem?_cons_succ, List.getElem?_cons_zero]; rfl)
    case hw20n21 => rfl
    case hy20n21 => (intro w' hw'; go_simp; try with_reducible rfl)
    try simp only [Act.put, List.setIfInBounds_toArray, List.set_cons_zero, List.set_cons_succ]
    refine' wpAnyJ_take (i := 21) (v := _) [] ?hi21n22 (by kernel_rfl) (by kernel_rfl) (by kernel_rfl) (by kernel_rfl) (by kernel_rfl) (Or.inl ⟨?hw21n22, ?hy21n22⟩) HS.out ?rest21n22
    case hi21n22 => (simp only [List.getElem?_toArray, List.getElem?_cons_succ, List.getElem?_cons_zero]; rfl)
    case hw21n22 => rfl
    case hy21n22 => (intro w' hw'; go_simp; try with_reducible rfl)
    try simp only [Act.put, List.setIfInBounds_toArray, List.set_cons_zero, List.set_cons_succ]
    refine' wpAnyJ_take (i := 23) (v := _) [] ?hi23n23 (by kernel_rfl) (by kernel_rfl) (by kernel_rfl) (by kernel_rfl) (by kernel_rfl) (Or.inl ⟨?hw23n23, ?hy23n23⟩) HS.out ?rest23n23
    case hi23n23 => (simp only [List.getElem?_toArray, List.getElem?_cons_succ, List.getElem?_cons_zero]; rfl)
    case hw23n23 => rfl
    case hy23n23 => (intro w' hw'; go_simp; try with_reducible rfl)
    try simp only [Act.put, List.setIfInBounds_toArray, List.set_cons_zero, List.set_cons_succ]
    refine' wpAnyJ_take (i := 25) (v := _) [] ?hi25n24 (by kernel_rfl) (by kernel_rfl) (by kernel_rfl) (by kernel_rfl) (by kernel_rfl) (Or.inl ⟨?hw25n24, ?hy25n24⟩) HS.out ?rest25n24
    case hi25n24 => (simp only [List.getElem?_toArray, List.getElem?_cons_succ, List.getElem?_cons_zero]; rfl)
    case hw25n24 => rfl
    case hy25n24 => (intro w' hw'; go_simp; try with_reducible rfl)
    try simp only [Act.put, List.setIfInBounds_toArray, List.set_cons_zero, List.set_cons_succ]
    refine' wpAnyJ_step (i := 22) (o := _) (by kernel_rfl) ?ho22n25 (fun K hK => ?step22n25)
    case ho22n25 => (simp only [List.getElem?_toArray, List.getElem?_cons_succ, List.getElem?_cons_zero]; rfl)
    go_simp
    refine (Calls.mono HSM.out ?_); rintro e u1 ⟨rfl, ha, hc, hs⟩
    have HTA := hide ha
    have HTC := hide hc
    have HS : Hid ((fun _ : World => True) u1) := hide trivial
    clear ha hc hs
    refine hK.out _ _ HS.out ?_
    clear hK K HSM
    try simp only [Act.put, List.setIfInBounds_toArray, List.set_cons_zero, List.set_cons_succ]
    refine' wpAnyJ_step (i := 24) (o := _) (by kernel_rfl) ?ho24n26 (fun K hK => ?step24n26)
    case ho24n26 => (simp only [List.getElem?_toArray, List.getElem?_cons_succ, List.getElem?_cons_zero]; rfl)
    go_simp
    refine (Calls.mono (root_any HTA.out) ?_); rintro e u2 ⟨rfl, ha, hs⟩
    have hc := HTC.out.apart HTA.out (fun e => HNE.out e.symm) hs
    have HTA := hide ha
    have HTC := hide hc
    have HS : Hid ((fun _ : World => True) u2) := hide trivial
    clear ha hc hs
    try rw [HYA.out]
    refine hK.out _ _ HS.out ?_
    clear hK K
    try simp only [Act.put, List.setIfInBounds_toArray, List.set_cons_zero, List.set_cons_succ]
    refine' wpAnyJ_step (i := 26) (o := _) (by kernel_rfl) ?ho26n27 (fun K hK => ?step26n27)
    case ho26n27 => (simp only [List.getElem?_toArray, List.getElem?_cons_succ, List.getElem?_cons_zero]; rfl)
    go_simp
    refine (Calls.mono (root_any HTC.out) ?_); rintro e u3 ⟨rfl, hc, hs⟩
    have HLOW := hide hc.low
    have HS : Hid ((fun _ : World => True) u3) := hide trivial
    clear hc hs
    try rw [HYC.out]
    refine hK.out _ _ HS.out ?_
    clear hK K
    try simp only [Act.put, List.setIfInBounds_toArray, List.set_cons_zero, List.set_cons_succ]
    refine' wpAnyJ_take (i := 27) (v := _) [] ?hi27n28 (by kernel_rfl) (by kernel_rfl) (by kernel_rfl) (by kernel_rfl) (by kernel_rfl) (Or.inl ⟨?hw27n28, ?hy27n28⟩) HS.out ?rest27n28
    case hi27n28 => (simp only [List.getElem?_toArray, List.getElem?_cons_succ, List.getElem?_cons_zero]; rfl)
    case hw27n28 => rfl
    case hy27n28 => (intro w' hw'; go_simp; try with_reducible rfl)
    try simp only [Act.put, List.setIfInBounds_toArray, List.set_cons_zero, List.set_cons_succ]
    refine' wpAnyJ_take (i := 28) (v := _) [] ?hi28n29 (by kernel_rfl) (by kernel_rfl) (by kernel_rfl) (by kernel_rfl) (by kernel_rfl) (Or.inl ⟨?hw28n29, ?hy28n29⟩) HS.out ?rest28n29
    case hi28n29 => (simp only [List.getElem?_toArray, List.getElem?_cons_succ, List.getElem?_cons_zero]; rfl)
    case hw28n29 => rfl
    case hy28n29 => (intro w' hw'; go_simp; try with_reducible rfl)
    try simp only [Act.put, List.setIfInBounds_toArray, List.set_cons_zero, List.set_cons_succ]
    refine' wpAnyJ_take (i := 29) (v := _) [] ?hi29n30 (by kernel_rfl) (by kernel_rfl) (by kernel_rfl) (by kernel_rfl) (by kernel_rfl) (Or.inl ⟨?hw29n30, ?hy29n30⟩) HS.out ?rest29n30
    case hi29n30 => (simp only [List.getElem?_toArray, List.getElem?_cons_succ, List.getElem?_cons_zero]; rfl)
    case hw29n30 => rfl
    case hy29n30 => (intro w' hw'; go_simp; try with_reducible rfl)
    try simp only [Act.put, List.setIfInBounds_toArray, List.set_cons_zero, List.set_cons_succ]
    refine' wpAnyJ_take (i := 30) (v := _) [] ?hi30n31 (by kernel_rfl) (by kernel_rfl) (by kernel_rfl) (by kernel_rfl) (by kernel_rfl) (Or.inl ⟨?hw30n31, ?hy30n31⟩) HS.out ?rest30n31
    case hi30n31 => (simp only [List.getElem?_toArray, List.getElem?_cons_succ, List.getElem?_cons_zero]; rfl)
    case hw30n31 => rfl
    case hy30n31 => (intro w' hw'; go_simp; try with_reducible rfl)
    try simp only [Act.put, List.setIfInBounds_toArray, List.set_cons_zero, List.set_cons_succ]
    refine' wpAnyJ_step (i := 31) (o := _) (by kernel_rfl) ?ho31n32 (fun K hK => ?step31n32)
    case ho31n32 => (simp only [List.getElem?_toArray, List.getElem?_cons_succ, List.getElem?_cons_zero]; rfl)
    go_simp
    refine (Calls.mono (awake19_any u3) ?_); rintro e u4 ⟨rfl, hb⟩
    have HLOW := hide (below_step HLOW.out hb)
    have HS : Hid ((fun _ : World => True) u4) := hide trivial
    clear hb
    refine hK.out _ _ HS.out ?_
    clear hK K
    try simp only [Act.put, List.setIfInBounds_toArray, List.set_cons_zero, List.set_cons_succ]
    refine' wpAnyJ_take (i := 32) (v := _) [] ?hi32n33 (by kernel_rfl) (by kernel_rfl) (by kernel_rfl) (by kernel_rfl) (by kernel_rfl) (Or.inl ⟨?hw32n33, ?hy32n33⟩) HS.out ?rest32n33
    case hi32n33 => (simp only [List.getElem?_toArray, List.getElem?_cons_succ, List.getElem?_cons_zero]; rfl)
    case hw32n33 => rfl
    case hy32n33 => (intro w' hw'; go_simp; try with_reducible rfl)
    try simp only [Act.put, List.setIfInBounds_toArray, List.set_cons_zero, List.set_cons_succ]
    refine' wpAnyJ_take (i := 33) (v := _) [] ?hi33n34 (by kernel_rfl) (by kernel_rfl) (by kernel_rfl) (by kernel_rfl) (by kernel_rfl) (Or.inl ⟨?hw33n34, ?hy33n34⟩) HS.out ?rest33n34
    case hi33n34 => (simp only [List.getElem?_toArray, List.getElem?_cons_succ, List.getElem?_cons_zero]; rfl)
    case hw33n34 => rfl
    case hy33n34 => (intro w' hw'; go_simp; try with_reducible rfl)
    try simp only [Act.put, List.setIfInBounds_toArray, List.set_cons_zero, List.set_cons_succ]
    refine wpAnyJ_done (by kernel_rfl) ?_ _
    refine NoPanic.normal ?_
    go_wp2_with fail
    go_ret
    exact ⟨rfl, HLOW.out⟩
  · rw [hd] at HD
    have HDH := hide hd
    clear hd
    go_wp2_with fail
    refine (Calls.mono HD.out ?_); rintro e w14 ⟨v14, rfl, ho, hta, htc, hs14⟩
    have hbo := OwnL.lt ho
    obtain ⟨A14, c14, rfl, hv14, _, _⟩ := OwnL.vals ho
    obtain ⟨g9, o9, rfl, hg9, c9⟩ := RowAt.one hv14 (Below.refl _ _) (k := 0) (by simp)
    have c9 : w14.cell? ⟨g9, o9, none⟩ = some (.int .i64 (s : Int)) := c9
    have HA9 : Hid (¬ (g9 = a ∨ g9 = c)) := hide (by have := (hbo g9 rfl).1; have := HAL13.out; omega)
    have cg := hs14.cell hg13 (fun e => HAg.out (by
      rcases e with e | e
      · exact .inl (Option.some.inj e).symm
      · exact .inr (Option.some.inj e).symm)) x13
    have hgl : g < w14.heap.size := Nat.lt_of_lt_of_le hg13 hs14.size
    have HTA := hide (hta a rfl)
    have HTC := hide (htc c rfl)
    clear ho hta htc hs14 HD x13 hg13 hv14 hbo
    go_upto_region 16 with fail
    refine j_startS [] (S := (fun W : World => W.cell? ⟨g9, o9, none⟩ = some (.int .i64 (s : Int)) ∧ W.cell? ⟨g, k * 5, none⟩ = some (.int .i64 (s : Int)))) (by kernel_rfl) ?_
    obtain ⟨ud, hud⟩ : ∃ ud, w14.drew = ud := ⟨_, rfl⟩
    have HTA : Hid (TreeO w ud a (serL Q)) := hide (by rw [← hud]; exact HTA.out.below (Below.refl _ _).drew)
    have HTC : Hid (TreeO w ud c (serL M)) := hide (by rw [← hud]; exact HTC.out.below (Below.refl _ _).drew)
    have HS : Hid ((fun W : World => W.cell? ⟨g9, o9, none⟩ = some (.int .i64 (s : Int)) ∧ W.cell? ⟨g, k * 5, none⟩ = some (.int .i64 (s : Int))) ud) := hide (by rw [← hud]; exact ⟨c9, cg⟩)
    rw [hud]
    have HSM := hide (tsame_any HTA.out HTC.out HNE.out)
    rw [HYA.out, HYC.out, show decide (ya = yc) = (ya == yc) from rfl] at HSM
    have hg9 : g9 < ud.heap.size := by rw [← hud]; exact hg9
    have hgl : g < ud.heap.size := by rw [← hud]; exact hgl
    clear hud
    refine' wpAnyJ_take (i := 0) (v := _) [] ?hi0n1b (by kernel_rfl) (by kernel_rfl) (by kernel_rfl) (by kernel_rfl) (by kernel_rfl) (Or.inl ⟨?hw0n1b, ?hy0n1b⟩) HS.out ?rest0n1b
    case hi0n1b => (simp only [List.getElem?_toArray, List.getElem?_cons_succ, List.getElem?_cons_zero]; rfl)
    case hw0n1b => rfl
    case hy0n1b => (intro w' hw'; go_simp; try with_reducible rfl)
    try simp only [Act.put, List.setIfInBounds_toArray, List.set_cons_zero, List.set_cons_succ]
    refine' wpAnyJ_take (i := 1) (v := _) [] ?hi1n2b (by kernel_rfl) (by kernel_rfl) (by kernel_rfl) (by kernel_rfl) (by kernel_rfl) (Or.inl ⟨?hw1n2b, ?hy1n2b⟩) HS.out ?rest1n2b
    case hi1n2b => (simp only [List.getElem?_toArray, List.getElem?_cons_succ, List.getElem?_cons_zero]; rfl)
    case hw1n2b => rfl
    case hy1n2b => (intro w' hw'; go_simp; try with_reducible rfl)
    try simp only [Act.put, List.setIfInBounds_toArray, List.set_cons_zero, List.set_cons_succ]
    refine' wpAnyJ_take (i := 2) (v := _) [] ?hi2n3b (by kernel_rfl) (by kernel_rfl) (by kernel_rfl) (by kernel_rfl) (by kernel_rfl) (Or.inl ⟨?hw2n3b, ?hy2n3b⟩) HS.out ?rest2n3b
    case hi2n3b => (simp only [List.getElem?_toArray, List.getElem?_cons_succ, List.getElem?_cons_zero]; rfl)
    case hw2n3b => rfl
    case hy2n3b => (intro w' hw'; go_simp; try with_reducible rfl)
    try simp only [Act.put, List.setIfInBounds_toArray, List.set_cons_zero, List.set_cons_succ]
    refine' wpAnyJ_take (i := 3) (v := _) [] ?hi3n4b (by kernel_rfl) (by kernel_rfl) (by kernel_rfl) (by kernel_rfl) (by kernel_rfl) (Or.inl ⟨?hw3n4b, ?hy3n4b⟩) HS.out ?rest3n4b
    case hi3n4b => (simp only [List.getElem?_toArray, List.getElem?_cons_succ, List.getElem?_cons_zero]; rfl)
    case hw3n4b => rfl
    case hy3n4b => (intro w' hw'; go_simp; try with_reducible rfl)
    try simp only [Act.put, List.setIfInBounds_toArray, List.set_cons_zero, List.set_cons_succ]
    refine' wpAnyJ_take (i := 4) (v := _) [] ?hi4n5b (by kernel_rfl) (by kernel_rfl) (by kernel_rfl) (by kernel_rfl) (by kernel_rfl) (Or.inl ⟨?hw4n5b, ?hy4n5b⟩) HS.out ?rest4n5b
    case hi4n5b => (simp only [List.getElem?_toArray, List.getElem?_cons_succ, List.getElem?_cons_zero]; rfl)
    case hw4n5b => rfl
    case hy4n5b => (intro w' hw'; go_simp; try with_reducible rfl)
    try simp only [Act.put, List.setIfInBounds_toArray, List.set_cons_zero, List.set_cons_succ]
    refine' wpAnyJ_take (i := 5) (v := _) [] ?hi5n6b (by kernel_rfl) (by kernel_rfl) (by kernel_rfl) (by kernel_rfl) (by kernel_rfl) (Or.inl ⟨?hw5n6b, ?hy5n6b⟩) HS.out ?rest5n6b
    case hi5n6b => (simp only [List.getElem?_toArray, List.getElem?_cons_succ, List.getElem?_cons_zero]; rfl)
    case hw5n6b => rfl
    case hy5n6b => (intro w' hw'; go_simp; try with_reducible rfl)
    try simp only [Act.put, List.setIfInBounds_toArray, List.set_cons_zero, List.set_cons_succ]
    refine' wpAnyJ_take (i := 6) (v := _) [] ?hi6n7b (by kernel_rfl) (by kernel_rfl) (by kernel_rfl) (by kernel_rfl) (by kernel_rfl) (Or.inl ⟨?hw6n7b, ?hy6n7b⟩) HS.out ?rest6n7b
    case hi6n7b => (simp only [List.getElem?_toArray, List.getElem?_cons_succ, List.getElem?_cons_zero]; rfl)
    case hw6n7b => rfl
    case hy6n7b => (intro w' hw'; go_simp; try with_reducible rfl)
    try simp only [Act.put, List.setIfInBounds_toArray, List.set_cons_zero, List.set_cons_succ]
    refine' wpAnyJ_take (i := 7) (v := _) [] ?hi7n8b (by kernel_rfl) (by kernel_rfl) (by kernel_rfl) (by kernel_rfl) (by kernel_rfl) (Or.inl ⟨?hw7n8b, ?hy7n8b⟩) HS.out ?rest7n8b
    case hi7n8b => (simp only [List.getElem?_toArray, List.getElem?_cons_succ, List.getElem?_cons_zero]; rfl)
    case hw7n8b => rfl
    case hy7n8b => (intro w' hw'; go_simp; try with_reducible rfl)
    try simp only [Act.put, List.setIfInBounds_toArray, List.set_cons_zero, List.set_cons_succ]
    refine' wpAnyJ_take (i := 8) (v := _) [] ?hi8n9b (by kernel_rfl) (by kernel_rfl) (by kernel_rfl) (by kernel_rfl) (by kernel_rfl) (Or.inl ⟨?hw8n9b, ?hy8n9b⟩) HS.out ?rest8n9b
    case hi8n9b => (simp only [List.getElem?_toArray, List.getElem?_cons_succ, List.getElem?_cons_zero]; rfl)
    case hw8n9b => rfl
    case hy8n9b => (intro w' hw'; go_simp; try with_reducible rfl)
    try simp only [Act.put, List.setIfInBounds_toArray, List.set_cons_zero, List.set_cons_succ]
    refine' wpAnyJ_take (i := 9) (v := _) [] ?hi9n10b (by kernel_rfl) (by kernel_rfl) (by kernel_rfl) (by kernel_rfl) (by kernel_rfl) (Or.inl ⟨?hw9n10b, ?hy9n10b⟩) HS.out ?rest9n10b
    case hi9n10b => (simp only [List.getElem?_toArray, List.getElem?_cons_succ, List.getElem?_cons_zero]; rfl)
    case hw9n10b => rfl
    case hy9n10b => (intro w' hw'; go_simp; try with_reducible rfl)
    try simp only [Act.put, List.setIfInBounds_toArray, List.set_cons_zero, List.set_cons_succ]
    refine' wpAnyJ_take (i := 10) (v := _) [] ?hi10n11b (by kernel_rfl) (by kernel_rfl) (by kernel_rfl) (by kernel_rfl) (by kernel_rfl) (Or.inl ⟨?hw10n11b, ?hy10n11b⟩) HS.out ?rest10n11b
    case hi10n11b => (simp only [List.getElem?_toArray, List.getElem?_cons_succ, List.getElem?_cons_zero]; rfl)
    case hw10n11b => rfl
    case hy10n11b => (intro w' hw'; have h0 : w'.cell? ⟨g9, o9, none⟩ = some (.int .i64 (s : Int)) := hw'.1; go_simp; try with_reducible rfl)
    try simp only [Act.put, List.setIfInBounds_toArray, List.set_cons_zero, List.set_cons_succ]
    refine' wpAnyJ_take (i := 11) (v := _) [] ?hi11n12b (by kernel_rfl) (by kernel_rfl) (by kernel_rfl) (by kernel_rfl) (by kernel_rfl) (Or.inl ⟨?hw11n12b, ?hy11n12b⟩) HS.out ?rest11n12b
    case hi11n12b => (simp only [List.getElem?_toArray, List.getElem?_cons_succ, List.getElem?_cons_zero]; rfl)
    case hw11n12b => rfl
    case hy11n12b => (intro w' hw'; go_simp; try with_reducible rfl)
    try simp only [Act.put, List.setIfInBounds_toArray, List.set_cons_zero, List.set_cons_succ]
    refine' wpAnyJ_take (i := 12) (v := _) [] ?hi12n13b (by kernel_rfl) (by kernel_rfl) (by kernel_rfl) (by kernel_rfl) (by kernel_rfl) (Or.inl ⟨?hw12n13b, ?hy12n13b⟩) HS.out ?rest12n13b
    case hi12n13b => (simp only [List.getElem?_toArray, List.getElem?_cons_succ, List.getElem?_cons_zero]; rfl)
    case hw12n13b => rfl
    case hy12n13b => (intro w' hw'; go_simp; try with_reducible rfl)
    try simp only [Act.put, List.setIfInBounds_toArray, List.set_cons_zero, List.set_cons_succ]
    refine' wpAnyJ_take (i := 13) (v := _) [] ?hi13n14b (by kernel_rfl) (by kernel_rfl) (by kernel_rfl) (by kernel_rfl) (by kernel_rfl) (Or.inl ⟨?hw13n14b, ?hy13n14b⟩) HS.out ?rest13n14b
    case hi13n14b => (simp only [List.getElem?_toArray, List.getElem?_cons_succ, List.getElem?_cons_zero]; rfl)
    case hw13n14b => rfl
    case hy13n14b => (intro w' hw'; go_simp; try with_reducible rfl)
    try simp only [Act.put, List.setIfInBounds_toArray, List.set_cons_zero, List.set_cons_succ]
    refine' wpAnyJ_take (i := 14) (v := _) [] ?hi14n15b (by kernel_rfl) (by kernel_rfl) (by kernel_rfl) (by kernel_rfl) (by kernel_rfl) (Or.inl ⟨?hw14n15b, ?hy14n15b⟩) HS.out ?rest14n15b
    case hi14n15b => (simp only [List.getElem?_toArray, List.getElem?_cons_succ, List.getElem?_cons_zero]; rfl)
    case hw14n15b => rfl
    case hy14n15b => (intro w' hw'; go_simp; try with_reducible rfl)
    try simp only [Act.put, List.setIfInBounds_toArray, List.set_cons_zero, List.set_cons_succ]
    refine' wpAnyJ_take (i := 15) (v := _) [] ?hi15n16b (by kernel_rfl) (by kernel_rfl) (by kernel_rfl) (by kernel_rfl) (by kernel_rfl) (Or.inl ⟨?hw15n16b, ?hy15n16b⟩) HS.out ?rest15n16b
    case hi15n16b => (simp only [List.getElem?_toArray, List.getElem?_cons_succ, List.getElem?_cons_zero]; rfl)
    case hw15n16b => rfl
    case hy15n16b => (intro w' hw'; have h0 : w'.cell? ⟨g, k * 5, none⟩ = some (.int .i64 (s : Int)) := hw'.2; go_simp; try with_reducible rfl)
    try simp only [Act.put, List.setIfInBounds_toArray, List.set_cons_zero, List.set_cons_succ]
    refine' wpAnyJ_take (i := 16) (v := _) [] ?hi16n17b (by kernel_rfl) (by kernel_rfl) (by kernel_rfl) (by kernel_rfl) (by kernel_rfl) (Or.inl ⟨?hw16n17b, ?hy16n17b⟩) HS.out ?rest16n17b
    case hi16n17b => (simp only [List.getElem?_toArray, List.getElem?_cons_succ, List.getElem?_cons_zero]; rfl)
    case hw16n17b => rfl
    case hy16n17b => (intro w' hw'; go_simp; try with_reducible rfl)
    try simp only [Act.put, List.setIfInBounds_toArray, List.set_cons_zero, List.set_cons_succ]
    refine' wpAnyJ_take (i := 17) (v := _) [] ?hi17n18b (by kernel_rfl) (by kernel_rfl) (by kernel_rfl) (by kernel_rfl) (by kernel_rfl) (Or.inl ⟨?hw17n18b, ?hy17n18b⟩) HS.out ?rest17n18b
    case hi17n18b => (simp only [List.getElem?_toArray, List.getElem?_cons_succ, List.getElem?_cons_zero]; rfl)
    case hw17n18b => rfl
    case hy17n18b => (intro w' hw'; go_simp; try with_reducible rfl)
    try simp only [Act.put, List.setIfInBounds_toArray, List.set_cons_zero, List.set_cons_succ]
    refine' wpAnyJ_take (i := 18) (v := _) [] ?hi18n19b (by kernel_rfl) (by kernel_rfl) (by kernel_rfl) (by kernel_rfl) (by kernel_rfl) (Or.inl ⟨?hw18n19b, ?hy18n19b⟩) HS.out ?rest18n19b
    case hi18n19b => (simp only [List.getElem?_toArray, List.getElem?_cons_succ, List.getElem?_cons_zero]; rfl)
    case hw18n19b => rfl
    case hy18n19b => (intro w' hw'; go_simp; try with_reducible rfl)
    try simp only [Act.put, List.setIfInBounds_toArray, List.set_cons_zero, List.set_cons_succ]
    refine' wpAnyJ_take (i := 19) (v := _) [] ?hi19n20b (by kernel_rfl) (by kernel_rfl) (by kernel_rfl) (by kernel_rfl) (by kernel_rfl) (Or.inl ⟨?hw19n20b, ?hy19n20b⟩) HS.out ?rest19n20b
    case hi19n20b => (simp only [List.getElem?_toArray, List.getElem?_cons_succ, List.getElem?_cons_zero]; rfl)
    case hw19n20b => rfl
    case hy19n20b => (intro w' hw'; go_simp; try with_reducible rfl)
    try simp only [Act.put, List.setIfInBounds_toArray, List.set_cons_zero, List.set_cons_succ]
    refine' wpAnyJ_take (i := 20) (v := _) [] ?hi20n21b (by kernel_rfl) (by kernel_rfl) (by kernel_rfl) (by kernel_rfl) (by kernel_rfl) (Or.inl ⟨?hw20n21b, ?hy20n21b⟩) HS.out ?rest20n21b
    case hi20n21b => (simp only [List.getElem?_toArray, List.getElem?_cons_succ, List.getElem?_cons_zero]; rfl)
    case hw20n21b => rfl
    case hy20n21b => (intro w' hw'; go_simp; try with_reducible rfl)
    try simp only [Act.put, List.setIfInBounds_toArray, List.set_cons_zero, List.set_cons_succ]
    refine' wpAnyJ_take (i := 21) (v := _) [] ?hi21n22b (by kernel_rfl) (by kernel_rfl) (by kernel_rfl) (by kernel_rfl) (by kernel_rfl) (Or.inl ⟨?hw21n22b, ?hy21n22b⟩) HS.out ?rest21n22b
    case hi21n22b => (simp only [List.getElem?_toArray, List.getElem?_cons_succ, List.getElem?_cons_zero]; rfl)
    case hw21n22b => rfl
    case hy21n22b => (intro w' hw'; go_simp; try with_reducible rfl)
    try simp only [Act.put, List.setIfInBounds_toArray, List.set_cons_zero, List.set_cons_succ]
    refine' wpAnyJ_take (i := 23) (v := _) [] ?hi23n23b (by kernel_rfl) (by kernel_rfl) (by kernel_rfl) (by kernel_rfl) (by kernel_rfl) (Or.inl ⟨?hw23n23b, ?hy23n23b⟩) HS.out ?rest23n23b
    case hi23n23b => (simp only [List.getElem?_toArray, List.getElem?_cons_succ, List.getElem?_cons_zero]; rfl)
    case hw23n23b => rfl
    case hy23n23b => (intro w' hw'; go_simp; try with_reducible rfl)
    try simp only [Act.put, List.setIfInBounds_toArray, List.set_cons_zero, List.set_cons_succ]
    refine' wpAnyJ_take (i := 25) (v := _) [] ?hi25n24b (by kernel_rfl) (by kernel_rfl) (by kernel_rfl) (by kernel_rfl) (by kernel_rfl) (Or.inl ⟨?hw25n24b, ?hy25n24b⟩) HS.out ?rest25n24b
    case hi25n24b => (simp only [List.getElem?_toArray, List.getElem?_cons_succ, List.getElem?_cons_zero]; rfl)
    case hw25n24b => rfl
    case hy25n24b => (intro w' hw'; go_simp; try with_reducible rfl)
    try simp only [Act.put, List.setIfInBounds_toArray, List.set_cons_zero, List.set_cons_succ]
    refine' wpAnyJ_step (i := 22) (o := _) (by kernel_rfl) ?ho22n25b (fun K hK => ?step22n25b)
    case ho22n25b => (simp only [List.getElem?_toArray, List.getElem?_cons_succ, List.getElem?_cons_zero]; rfl)
    go_simp
    refine (Calls.mono HSM.out ?_); rintro e u1 ⟨rfl, ha, hc, hs⟩
    have HTA := hide ha
    have HTC := hide hc
    have HS : Hid ((fun W : World => W.cell? ⟨g9, o9, none⟩ = some (.int .i64 (s : Int)) ∧ W.cell? ⟨g, k * 5, none⟩ = some (.int .i64 (s : Int))) u1) := hide ⟨hs.cell hg9 HA9.out HS.out.1, hs.cell hgl HAg.out HS.out.2⟩
    have hg9 : g9 < u1.heap.size := Nat.lt_of_lt_of_le hg9 hs.size
    have hgl : g < u1.heap.size := Nat.lt_of_lt_of_le hgl hs.size
    clear ha hc hs
    refine hK.out _ _ HS.out ?_
    clear hK K HSM
    try simp only [Act.put, List.setIfInBounds_toArray, List.set_cons_zero, List.set_cons_succ]
    refine' wpAnyJ_step (i := 24) (o := _) (by kernel_rfl) ?ho24n26b (fun K hK => ?step24n26b)
    case ho24n26b => (simp only [List.getElem?_toArray, List.getElem?_cons_succ, List.getElem?_cons_zero]; rfl)
    go_simp
    refine (Calls.mono (root_any HTA.out) ?_); rintro e u2 ⟨rfl, ha, hs⟩
    have hc := HTC.out.apart HTA.out (fun e => HNE.out e.symm) hs
    have HTA := hide ha
    have HTC := hide hc
    have hs := hs.mono_ (T := fun g => g = a ∨ g = c) (fun _ _ e => .inl e)
    have HS : Hid ((fun W : World => W.cell? ⟨g9, o9, none⟩ = some (.int .i64 (s : Int)) ∧ W.cell? ⟨g, k * 5, none⟩ = some (.int .i64 (s : Int))) u2) := hide ⟨hs.cell hg9 HA9.out HS.out.1, hs.cell hgl HAg.out HS.out.2⟩
    have hg9 : g9 < u2.heap.size := Nat.lt_of_lt_of_le hg9 hs.size
    have hgl : g < u2.heap.size := Nat.lt_of_lt_of_le hgl hs.size
    clear ha hc hs
    try rw [HYA.out]
    refine hK.out _ _ HS.out ?_
    clear hK K
    try simp only [Act.put, List.setIfInBounds_toArray, List.set_cons_zero, List.set_cons_succ]
    refine' wpAnyJ_step (i := 26) (o := _) (by kernel_rfl) ?ho26n27b (fun K hK => ?step26n27b)
    case ho26n27b => (simp only [List.getElem?_toArray, List.getElem?_cons_succ, List.getElem?_cons_zero]; rfl)
    go_simp
    refine (Calls.mono (root_any HTC.out) ?_); rintro e u3 ⟨rfl, hc, hs⟩
    have HLOW := hide hc.low
    have hs := hs.mono_ (T := fun g => g = a ∨ g = c) (fun _ _ e => .inr e)
    have HS : Hid ((fun W : World => W.cell? ⟨g9, o9, none⟩ = some (.int .i64 (s : Int)) ∧ W.cell? ⟨g, k * 5, none⟩ = some (.int .i64 (s : Int))) u3) := hide ⟨hs.cell hg9 HA9.out HS.out.1, hs.cell hgl HAg.out HS.out.2⟩
    have hg9 : g9 < u3.heap.size := Nat.lt_of_lt_of_le hg9 hs.size
    have hgl : g < u3.heap.size := Nat.lt_of_lt_of_le hgl hs.size
    clear hc hs
    try rw [HYC.out]
    refine hK.out _ _ HS.out ?_
    clear hK K
    try simp only [Act.put, List.setIfInBounds_toArray, List.set_cons_zero, List.set_cons_succ]
    refine' wpAnyJ_take (i := 27) (v := _) [] ?hi27n28b (by kernel_rfl) (by kernel_rfl) (by kernel_rfl) (by kernel_rfl) (by kernel_rfl) (Or.inl ⟨?hw27n28b, ?hy27n28b⟩) HS.out ?rest27n28b
    case hi27n28b => (simp only [List.getElem?_toArray, List.getElem?_cons_succ, List.getElem?_cons_zero]; rfl)
    case hw27n28b => rfl
    case hy27n28b => (intro w' hw'; go_simp; try with_reducible rfl)
    try simp only [Act.put, List.setIfInBounds_toArray, List.set_cons_zero, List.set_cons_succ]
    refine' wpAnyJ_take (i := 28) (v := _) [] ?hi28n29b (by kernel_rfl) (by kernel_rfl) (by kernel_rfl) (by kernel_rfl) (by kernel_rfl) (Or.inl ⟨?hw28n29b, ?hy28n29b⟩) HS.out ?rest28n29b
    case hi28n29b => (simp only [List.getElem?_toArray, List.getElem?_cons_succ, List.getElem?_cons_zero]; rfl)
    case hw28n29b => rfl
    case hy28n29b => (intro w' hw'; go_simp; try with_reducible rfl)
    try simp only [Act.put, List.setIfInBounds_toArray, List.set_cons_zero, List.set_cons_succ]
    refine' wpAnyJ_take (i := 29) (v := _) [] ?hi29n30b (by kernel_rfl) (by kernel_rfl) (by kernel_rfl) (by kernel_rfl) (by kernel_rfl) (Or.inl ⟨?hw29n30b, ?hy29n30b⟩) HS.out ?rest29n30b
    case hi29n30b => (simp only [List.getElem?_toArray, List.getElem?_cons_succ, List.getElem?_cons_zero]; rfl)
    case hw29n30b => rfl
    case hy29n30b => (intro w' hw'; go_simp; try with_reducible rfl)
    try simp only [Act.put, List.setIfInBounds_toArray, List.set_cons_zero, List.set_cons_succ]
    refine' wpAnyJ_take (i := 30) (v := _) [] ?hi30n31b (by kernel_rfl) (by kernel_rfl) (by kernel_rfl) (by kernel_rfl) (by kernel_rfl) (Or.inl ⟨?hw30n31b, ?hy30n31b⟩) HS.out ?rest30n31b
    case hi30n31b => (simp only [List.getElem?_toArray, List.getElem?_cons_succ, List.getElem?_cons_zero]; rfl)
    case hw30n31b => rfl
    case hy30n31b => (intro w' hw'; go_simp; try with_reducible rfl)
    try simp only [Act.put, List.setIfInBounds_toArray, List.set_cons_zero, List.set_cons_succ]
    refine' wpAnyJ_step (i := 31) (o := _) (by kernel_rfl) ?ho31n32b (fun K hK => ?step31n32b)
    case ho31n32b => (simp only [List.getElem?_toArray, List.getElem?_cons_succ, List.getElem?_cons_zero]; rfl)
    go_simp
    refine (Calls.mono (awake19_any u3) ?_); rintro e u4 ⟨rfl, hb⟩
    have HLOW := hide (below_step HLOW.out hb)
    have HS : Hid ((fun W : World => W.cell? ⟨g9, o9, none⟩ = some (.int .i64 (s : Int)) ∧ W.cell? ⟨g, k * 5, none⟩ = some (.int .i64 (s : Int))) u4) := hide ⟨keep_cell hb HS.out.1 hg9, keep_cell hb HS.out.2 hgl⟩
    clear hb
    refine hK.out _ _ HS.out ?_
    clear hK K
    try simp only [Act.put, List.setIfInBounds_toArray, List.set_cons_zero, List.set_cons_succ]
    refine' wpAnyJ_take (i := 32) (v := _) [] ?hi32n33b (by kernel_rfl) (by kernel_rfl) (by kernel_rfl) (by kernel_rfl) (by kernel_rfl) (Or.inl ⟨?hw32n33b, ?hy32n33b⟩) HS.out ?rest32n33b
    case hi32n33b => (simp only [List.getElem?_toArray, List.getElem?_cons_succ, List.getElem?_cons_zero]; rfl)
    case hw32n33b => rfl
    case hy32n33b => (intro w' hw'; go_simp; try with_reducible rfl)
    try simp only [Act.put, List.setIfInBounds_toArray, List.set_cons_zero, List.set_cons_succ]
    refine' wpAnyJ_take (i := 33) (v := _) [] ?hi33n34b (by kernel_rfl) (by kernel_rfl) (by kernel_rfl) (by kernel_rfl) (by kernel_rfl) (Or.inl ⟨?hw33n34b, ?hy33n34b⟩) HS.out ?rest33n34b
    case hi33n34b => (simp only [List.getElem?_toArray, List.getElem?_cons_succ, List.getElem?_cons_zero]; rfl)
    case hw33n34b => rfl
    case hy33n34b => (intro w' hw'; go_simp; try with_reducible rfl)
    try simp only [Act.put, List.setIfInBounds_toArray, List.set_cons_zero, List.set_cons_succ]
    refine wpAnyJ_done (by kernel_rfl) ?_ _
    refine NoPanic.normal ?_
    go_wp2_with fail
    go_ret
    exact ⟨rfl, HLOW.out⟩
end Go.Proofs.Ythpbohheddkfiaa.treeSame
