/- The walk of clepsydralaw19.TreeSeries: it returns true. Conditions: the arguments are readable. -/
import Derived.Test.YthpbohheddkfiaaTPl
import Derived.Test.YthpbohheddkfiaaREq
namespace Go.Proofs.Ythpbohheddkfiaa.treeSeries
set_option linter.unusedVariables false
set_option linter.unusedSimpArgs false
open Go.ChangeShapes Go.WideShapes Go.ChangeAt Go.RowKit

theorem tof_o {w w1 : World} (A : Option Addr) (c : Nat) (L : List It) (hl : L.length ≤ 2000) (hL : ItemsAt w1 A L) (hw : ∀ x ∈ L, x.wf) (hb : Below w.heap.size w w1) :
    Calls Try.prog 7 #[.slice A L.length c] w1 fun e w' => ∃ b, e = .returned (.pointer (some ⟨b, 0, none⟩)) ∧ TreeO w w' b (serL L) ∧ w1.heap.size ≤ b ∧ Below w1.heap.size w1 w' :=
  Calls.mono (tof_any A c L w1 hl hL) (by
    rintro e w' ⟨b, rfl, h⟩
    exact ⟨b, rfl, (h.o (serL_wf hw) (serL_2000 hl)).from_ hb, h.old, h.low⟩)
theorem ser_put {x : It} {t : Nat} (ht : x.s ≠ (t : Int)) : ∀ l : List It, serL (putL x l) t = serL l t
  | [] => by
    show List.filter (fun y => decide (y.s = (t : Int))) [x] = []
    rw [List.filter_cons, decide_eq_false ht]
    rfl
  | y :: l => by
    have dx : decide (x.s = (t : Int)) = false := decide_eq_false ht
    have ih := ser_put ht l
    unfold serL at ih ⊢
    unfold putL
    split
    · rw [List.filter_cons, List.filter_cons, ih]
    · split
      · rw [List.filter_cons, dx]
        rfl
      · rename_i h1 h2
        have hs : y.s = x.s := by
          unfold ltB at h1 h2
          rw [decide_eq_true_eq] at h1 h2
          unfold It.lt at h1 h2
          omega
        rw [List.filter_cons, dx, List.filter_cons, decide_eq_false (show ¬ y.s = (t : Int) by rw [hs]; exact ht)]
        rfl
theorem ser_add {x : It} {t : Nat} (ht : x.s ≠ (t : Int)) (l : List It) : serL (addL l x) t = serL l t := by
  unfold addL
  split
  · rfl
  split
  · rfl
  split
  · rfl
  · rw [← ser_put ht l]
    unfold serL
    rw [List.filter_filter]
    apply List.filter_congr
    intro y hy
    by_cases h : y.s = (t : Int)
    · have hh : hidesB x y = false := decide_eq_false (fun e => ht (by unfold It.hides at e; omega))
      rw [hh]
      simp
    · rw [decide_eq_false h]
      rfl
theorem addS_state {l : List It} (h : IsState l) (x : It) : addS l x = addL l x := by unfold addS; rw [stateB_true h]; rfl
theorem mem_addL {l : List It} {x y : It} (h : IsState l) (hy : y ∈ addL l x) : y ∈ l ∨ y = x := by
  unfold addL at hy
  split at hy
  · exact .inl hy
  split at hy
  · exact .inl hy
  split at hy
  · exact .inl hy
  · rcases (mem_putL h.2.1 y).1 (List.mem_filter.1 hy).1 with e | e
    · exact .inr e
    · exact .inl e.1
theorem difL_full {E : Nat → Nat → Bool} (h : ∀ l i, E l i = false) : ∀ l i, (difL E l i).length = 2 ^ l
  | 0, i => by rw [dif_leaf (h 0 i)]; rfl
  | l + 1, i => by rw [dif_no (h (l + 1) i), List.length_append, difL_full h l, difL_full h l, Nat.pow_succ]; omega
theorem full_a (b : Option Nat) (F G : Nat → List It) : (difL (sameN none b F G) 8 0).length = 256 := difL_full (fun l i => by simp [sameN]) 8 0
theorem full_b (a : Option Nat) (F G : Nat → List It) : (difL (sameN a none F G) 8 0).length = 256 := difL_full (fun l i => by simp [sameN]) 8 0
theorem item_box {w : World} {g : Nat} {x : It} {t : TypeId} {fr : Nat × Nat} (h : w.heap[g]? = some (.cells #[.int .i64 x.s, .int .i64 x.k, .int .u64 x.t, .int .u64 x.v, .int .i64 x.x] t fr)) : w.cell? ⟨g, 0, none⟩ = some (.int .i64 x.s) ∧ w.cell? ⟨g, 1, none⟩ = some (.int .i64 x.k) ∧ w.cell? ⟨g, 2, none⟩ = some (.int .u64 x.t) ∧ w.cell? ⟨g, 3, none⟩ = some (.int .u64 x.v) ∧ w.cell? ⟨g, 4, none⟩ = some (.int .i64 x.x) := it_cells5 h
set_option maxRecDepth 100000 in
set_option maxHeartbeats 1600000 in
theorem walk {w : World} (A0 : Option Addr) (c0 : Nat) (L0 : List It) (lc0 : L0.length ≤ c0) (cm0 : c0 ≤ maxLen) (r0 : RowAt It.cells 5 w A0 L0) (w0 : ∀ a ∈ L0, a.wf)
    (a1 : It) (w1 : a1.wf) :
    Calls Try.prog 4 #[.slice A0 L0.length c0, a1.val] w fun e w' => e = .returned (.bool true) ∧ Below w.heap.size w w' := by
  have hba := below_alloc (Below.refl w.heap.size w) (.cells #[.int .i64 a1.s, .int .i64 a1.k, .int .u64 a1.t, .int .u64 a1.v, .int .i64 a1.x] 33)
  have hz1 := heap_alloc_new w (.cells #[.int .i64 a1.s, .int .i64 a1.k, .int .u64 a1.t, .int .u64 a1.v, .int .i64 a1.x] 33)
  obtain ⟨wb, hwb⟩ : ∃ wb, w.alloc (.cells #[.int .i64 a1.s, .int .i64 a1.k, .int .u64 a1.t, .int .u64 a1.v, .int .i64 a1.x] 33) = wb := ⟨_, rfl⟩
  rw [hwb] at hba hz1
  obtain ⟨gx, hgx⟩ : ∃ gx, w.heap.size = gx := ⟨_, rfl⟩
  rw [hgx] at hz1
  have HR0 := hide (r0.below hba)
  have HSL := hide (Sl.mk_ (r0.below hba) lc0 cm0)
  have W0 := hide w0
  have W1 := hide w1
  have HBA := hide hba
  have HZ1 := hide hz1
  have HWB := hide hwb
  have HGX := hide hgx
  obtain ⟨x0, x1, x2, x3, x4⟩ := item_box hz1
  have lgx := (Array.getElem?_eq_some_iff.1 hz1).1
  have HX01 := hide x0
  clear r0 w0 lc0 cm0 w1 hba hwb hgx hz1
  by_cases h60 : 60 < L0.length
  · have hI : (60 : Int) < (L0.length : Int) := by omega
    go_enter Try.func4, Try.ntmps4
    go_upto_region 1 with fail
    try rw [HWB.out]
    try rw [HGX.out]
    go_wp2_with fail
    refine (Calls.mono (awake19_any wb) ?_); rintro e w3 ⟨rfl, hb⟩
    have HF := hide (below_step HBA.out hb)
    clear hb
    go_wp2_with fail
    go_ret
    exact ⟨rfl, HF.out⟩
  have hI : ¬ (60 : Int) < (L0.length : Int) := by omega
  have HOK := hide (rgood_any a1 wb)
  cases hg : goodB a1 with
  | false =>
    rw [hg] at HOK
    go_enter Try.func4, Try.ntmps4
    go_upto_region 1 with fail
    try rw [HWB.out]
    try rw [HGX.out]
    go_wp2_with fail
    refine (Calls.mono HOK.out ?_); rintro e w2 ⟨rfl, hb2⟩
    have HB2 := hide (below_step HBA.out hb2)
    clear hb2
    go_wp2_with fail
    refine (Calls.mono (awake19_any w2) ?_); rintro e w3 ⟨rfl, hb⟩
    have HF := hide (below_step HB2.out hb)
    clear hb
    go_wp2_with fail
    go_ret
    exact ⟨rfl, HF.out⟩
  | true =>
    rw [hg] at HOK
    have hgood : It.good a1 := by simpa only [goodB, decide_eq_true_eq] using hg
    obtain ⟨s, hs⟩ : ∃ s : Nat, a1.s = (s : Int) := ⟨a1.s.toNat, by have := good_s hgood; omega⟩
    have HSX := hide hs
    have HSB : Hid (s < 256) := hide (by have := good_s hgood; omega)
    have hql := ofL_len L0
    have HST := hide (ofL_state L0)
    have HQM : Hid (∀ x ∈ ofL L0, x.wf) := hide (fun x hx => W0.out x (mem_ofL hx).1)
    have HRO := hide (fun (u : World) (hu : Below wb.heap.size wb u) => rof_sl (HSL.out.below hu) (by omega))
    clear hg hgood hs
    go_enter Try.func4, Try.ntmps4
    go_upto_region 1 with fail
    try rw [HWB.out]
    try rw [HGX.out]
    go_wp2_with fail
    refine (Calls.mono HOK.out ?_); rintro e w2 ⟨rfl, hb2⟩
    have HROK := hide (HRO.out w2 hb2)
    have HB2 := hide hb2
    clear hb2 HRO HOK
    go_wp2_with fail
    refine (Calls.mono HROK.out ?_); rintro e w3 ⟨vq, rfl, hsl, hb3⟩
    have HB3 := hide (below_step HB2.out hb3)
    have x0 := keep_cell HB3.out x0 lgx
    have x1 := keep_cell HB3.out x1 lgx
    have x2 := keep_cell HB3.out x2 lgx
    have x3 := keep_cell HB3.out x3 lgx
    have x4 := keep_cell HB3.out x4 lgx
    obtain ⟨Q, hQ⟩ : ∃ Q, ofL L0 = Q := ⟨_, rfl⟩
    rw [hQ] at hql HST HQM hsl
    have HSQ := hide hsl
    have HADD := hide (raddx_sl hsl a1 (by omega))
    rw [addS_state HST.out] at HADD
    clear hsl hb3 HROK hQ
    go_wp2_with fail
    refine (Calls.mono HADD.out ?_); rintro e w4 ⟨vm, rfl, hslm, hb4⟩
    have HMM : Hid (∀ x ∈ addL Q a1, x.wf) := hide (fun x hx => by
      rcases mem_addL HST.out hx with h | rfl
      · exact HQM.out x h
      · exact W1.out)
    have hml : (addL Q a1).length ≤ 61 := by have := addL_len Q a1; omega
    have HFG : Hid (∀ t, t ≠ s → serL Q t = serL (addL Q a1) t) := hide (fun t ht => (ser_add (fun e => ht (by have := HSX.out; omega)) Q).symm)
    obtain ⟨M, hM⟩ : ∃ M, addL Q a1 = M := ⟨_, rfl⟩
    rw [hM] at HMM hml HFG hslm
    obtain ⟨Aq, cq, rfl, hrq, _, _⟩ := HSQ.out.below hb4
    obtain ⟨Am, cm, rfl, hrm, _, _⟩ := hslm
    have HRQ := hide hrq
    have HRM := hide hrm
    have HB4 := hide (below_step HB3.out hb4)
    have x0 := keep_cell hb4 x0 (Nat.lt_of_lt_of_le lgx HB3.out.size)
    have HX04 := hide x0
    clear hrq hrm hb4 HADD HSQ hM x0 x1 x2 x3 x4
    go_wp2_with fail
    refine (Calls.mono (tof_o (w := w) Aq cq Q (by omega) HRQ.out HQM.out (below_step HBA.out HB4.out)) ?_); rintro e w5 ⟨a, rfl, hA, hao, hb5⟩
    have HA := hide hA
    have HRM5 := hide (HRM.out.below hb5)
    have HRQ5 := hide (HRQ.out.below hb5)
    have HB5 := hide (below_step HB4.out hb5)
    have hgxa : gx < a := Nat.lt_of_lt_of_le (Nat.lt_of_lt_of_le lgx HB4.out.size) hao
    have hbA : Hid (w4.heap.size ≤ a ∧ w4.heap.size ≤ w5.heap.size) := hide ⟨hao, hb5.size⟩
    clear hA hb5 hao
    go_wp2_with fail
    refine (Calls.mono (tof_o (w := w) Am cm M (by omega) HRM5.out HMM.out (below_step HBA.out HB5.out)) ?_); rintro e w6 ⟨b, rfl, hB, hbo, hb6⟩
    have hA6 := HA.out.below hb6
    have hab : a ≠ b := fun e => by have := HA.out.lt; omega
    have HAB := hide hab
    have hgxb : gx < b := by have := HA.out.lt; omega
    have HRM6 := hide (HRM5.out.below hb6)
    have HRQ6 := hide (HRQ5.out.below hb6)
    have HB6 := hide (below_step HB5.out hb6)
    have x0 := keep_cell HB6.out HX01.out lgx
    have HX06 := hide x0
    have HL6 := hide (And.intro hA6.lt hB.lt)
    have HD := hide (differ_any (w0 := w) (w := w6) (pa := some a) (pb := some b) (fun q hq => by obtain rfl := Option.some.inj hq; exact hA6) (fun q hq => by obtain rfl := Option.some.inj hq; exact hB) (fun q hq e => hab ((Option.some.inj hq).trans (Option.some.inj e).symm)) hA6.low.size)
    unfold ptrV at HD
    simp only [Option.map_some] at HD
    have hDL : difL (sameN (some a) (some b) (serL Q) (serL M)) 8 0 = [] ∨ difL (sameN (some a) (some b) (serL Q) (serL M)) 8 0 = [s] := dif_apart HFG.out
    have HSF : Hid (Q = M → difL (sameN (some a) (some b) (serL Q) (serL M)) 8 0 = []) := hide (fun e => by rw [e]; exact difL_self)
    obtain ⟨D, hD⟩ : ∃ D, difL (sameN (some a) (some b) (serL Q) (serL M)) 8 0 = D := ⟨_, rfl⟩
    rw [hD] at HD hDL HSF
    have HDL := hide hDL
    have HAQ : Hid ((∀ ad, Aq = some ad → Q ≠ [] → ad.block ≠ a ∧ ad.block ≠ b) ∧ (∀ ad, Am = some ad → M ≠ [] → ad.block ≠ a ∧ ad.block ≠ b)) := hide (by
      have h1 := hbA.out
      have h2 := hbo
      constructor
      · intro ad had hn
        obtain ⟨g, off, e, hlt, _⟩ := HRQ.out hn
        rw [had] at e
        obtain rfl := Option.some.inj e
        simp only
        omega
      · intro ad had hn
        obtain ⟨g, off, e, hlt, _⟩ := HRM.out hn
        rw [had] at e
        obtain rfl := Option.some.inj e
        simp only
        omega)
    clear hA6 hB hbo hb6 hab HA HRM5 HRQ5 hDL hD x0 HX04 HX01
    go_wp2_with fail
    refine (Calls.mono HD.out ?_); rintro e w7 ⟨v7, rfl, ho, hta, htb, hs7⟩
    have hs7 := hs7.mono_ (T := fun g => g = a ∨ g = b) (fun g _ e => by
      rcases e with e | e
      · exact .inl (Option.some.inj e).symm
      · exact .inr (Option.some.inj e).symm)
    have hngx : ¬ (gx = a ∨ gx = b) := by omega
    have HNGX := hide hngx
    have lgx6 : gx < w6.heap.size := Nat.lt_of_lt_of_le lgx HB6.out.size
    have x7 := hs7.cell lgx6 hngx HX06.out
    rw [HSX.out] at x7
    have HX07 := hide x7
    have lgx7 : gx < w7.heap.size := Nat.lt_of_lt_of_le lgx6 hs7.size
    have HRQ7 := HRQ6.out.sets hs7 (fun ad had hn e => by
      have := HAQ.out.1 ad had hn
      rcases e with e | e
      · exact this.1 e
      · exact this.2 e)
    have HRM7 := HRM6.out.sets hs7 (fun ad had hn e => by
      have := HAQ.out.2 ad had hn
      rcases e with e | e
      · exact this.1 e
      · exact this.2 e)
    have HTA := hide (hta a rfl)
    have HTB := hide (htb b rfl)
    obtain ⟨A7, c7, rfl, hv7, hc7, hcm7⟩ := OwnL.vals ho
    have HV7 := hide hv7
    have HO7 := hide (OwnL.lt ho)
    have HEQ := hide (requal_any Aq Am cq cm Q M w7 HRQ7 HRM7 (by omega) (by omega))
    have HSG := hide (Nat.le_trans HBA.out.size HB6.out.size)
    clear hta htb hs7 ho hv7 x7 HRQ7 HRM7 HRQ6 HRM6 HX06 HD hc7 hcm7 hngx lgx6 HRQ HRM HAQ HBA HB2 HB3 HB4 HB5 HR0 HZ1 HWB HSL
    cases he : eqL Q M with
    | true =>
      rw [he] at HEQ
      have hQM := eqL_iff.1 he
      have hD0 := HSF.out hQM
      subst hD0
      have HQE := hide hQM
      clear he hQM
      go_wp2_with fail
      refine (Calls.mono HEQ.out ?_); rintro e w8 ⟨rfl, hb8⟩
      have HSM := hide (tsame_any (HTA.out.below hb8) (HTB.out.below hb8) HAB.out)
      rw [HQE.out, show decide (nodeT (serL M) 8 0 = nodeT (serL M) 8 0) = true from decide_eq_true rfl] at HSM
      clear hb8 HEQ
      go_wp2_with fail
      refine (Calls.mono HSM.out ?_); rintro e w9 ⟨rfl, hA, _, _⟩
      have HLOW := hide hA.low
      clear hA HSM
      go_wp2_with fail
      refine (Calls.mono (awake19_any w9) ?_); rintro e w10 ⟨rfl, hb⟩
      have HF := hide (below_step HLOW.out hb)
      clear hb
      go_wp2_with fail
      go_ret
      exact ⟨rfl, HF.out⟩
    | false =>
      rw [he] at HEQ
      clear he HSF
      go_wp2_with fail
      refine (Calls.mono HEQ.out ?_); rintro e w9 ⟨rfl, hb9⟩
      have HTA := hide (HTA.out.below hb9)
      have HTB := hide (HTB.out.below hb9)
      have HCX : Hid (w9.cell? ⟨gx, 0, none⟩ = some (.int .i64 (s : Int))) := hide (keep_cell hb9 HX07.out lgx7)
      have HV9 := hide (HV7.out.below hb9)
      have lgx9 : gx < w9.heap.size := Nat.lt_of_lt_of_le lgx7 hb9.size
      clear hb9 HEQ HV7 HX07 lgx7
      go_upto_region 11 with fail
      go_cut [68] (fun v W => v = .bool false ∧ TreeO w W a (serL Q) ∧ TreeO w W b (serL M) ∧ W.cell? ⟨gx, 0, none⟩ = some (.int .i64 (s : Int)) ∧ gx < W.heap.size)
      case first =>
        rcases HDL.out with rfl | rfl
        · clear HDL
          refine j_startS [] (S := (fun _ : World => True)) (by kernel_rfl) ?_
          obtain ⟨ud, hud⟩ : ∃ ud, w9.drew = ud := ⟨_, rfl⟩
          have HTA : Hid (TreeO w ud a (serL Q)) := hide (by rw [← hud]; exact HTA.out.below (Below.refl _ _).drew)
          have HTB : Hid (TreeO w ud b (serL M)) := hide (by rw [← hud]; exact HTB.out.below (Below.refl _ _).drew)
          have HUL : Hid (gx < ud.heap.size) := hide (by rw [← hud]; exact lgx9)
          have HCX : Hid (ud.cell? ⟨gx, 0, none⟩ = some (.int .i64 (s : Int))) := hide (by rw [← hud]; exact HCX.out)
          have HS : Hid ((fun _ : World => True) ud) := hide trivial
          rw [hud]
          clear hud
          refine' wpAnyJ_take (i := 0) (v := _) [] ?hi0n1 (by kernel_rfl) (by kernel_rfl) (by kernel_rfl) (by kernel_rfl) (by kernel_rfl) (Or.inl ⟨?hw0n1, ?hy0n1⟩) HS.out ?rest0n1
          case hi0n1 => (simp only [List.getElem?_toArray, List.getElem?_cons_succ, List.getElem?_cons_zero]; rfl)
          case hw0n1 => rfl
          case hy0n1 => (intro w' hw'; go_simp; try with_reducible rfl)
          try simp only [Act.put, List.setIfInBounds_toArray, List.set_cons_zero, List.set_cons_succ]
          refine' wpAnyJ_take (i := 1) (v := _) [] ?hi1n2 (by kernel_rfl) (by kernel_rfl) (by kernel_rfl) (by kernel_rfl) (by kernel_rfl) (Or.inl ⟨?hw1n2, ?hy1n2⟩) HS.out ?rest1n2
          case hi1n2 => (simp only [List.getElem?_toArray, List.getElem?_cons_succ, List.getElem?_cons_zero]; rfl)
          case hw1n2 => rfl
          case hy1n2 => (intro w' hw'; go_simp; try with_reducible rfl)
          try simp only [Act.put, List.setIfInBounds_toArray, List.set_cons_zero, List.set_cons_succ]
          refine' wpAnyJ_take (i := 2) (v := _) [] ?hi2n3 (by kernel_rfl) (by kernel_rfl) (by kernel_rfl) (by kernel_rfl) (by kernel_rfl) (Or.inl ⟨?hw2n3, ?hy2n3⟩) HS.out ?rest2n3
          case hi2n3 => (simp only [List.getElem?_toArray, List.getElem?_cons_succ, List.getElem?_cons_zero]; rfl)
          case hw2n3 => rfl
          case hy2n3 => (intro w' hw'; go_simp; try with_reducible rfl)
          try simp only [Act.put, List.setIfInBounds_toArray, List.set_cons_zero, List.set_cons_succ]
          refine' wpAnyJ_take (i := 3) (v := _) [] ?hi3n4 (by kernel_rfl) (by kernel_rfl) (by kernel_rfl) (by kernel_rfl) (by kernel_rfl) (Or.inl ⟨?hw3n4, ?hy3n4⟩) HS.out ?rest3n4
          case hi3n4 => (simp only [List.getElem?_toArray, List.getElem?_cons_succ, List.getElem?_cons_zero]; rfl)
          case hw3n4 => rfl
          case hy3n4 => (intro w' hw'; go_simp; try with_reducible rfl)
          try simp only [Act.put, List.setIfInBounds_toArray, List.set_cons_zero, List.set_cons_succ]
          refine' wpAnyJ_take (i := 4) (v := _) [] ?hi4n5 (by kernel_rfl) (by kernel_rfl) (by kernel_rfl) (by kernel_rfl) (by kernel_rfl) (Or.inl ⟨?hw4n5, ?hy4n5⟩) HS.out ?rest4n5
          case hi4n5 => (simp only [List.getElem?_toArray, List.getElem?_cons_succ, List.getElem?_cons_zero]; rfl)
          case hw4n5 => rfl
          case hy4n5 => (intro w' hw'; go_simp; try with_reducible rfl)
          try simp only [Act.put, List.setIfInBounds_toArray, List.set_cons_zero, List.set_cons_succ]
          refine' wpAnyJ_take (i := 5) (v := _) [] ?hi5n6 (by kernel_rfl) (by kernel_rfl) (by kernel_rfl) (by kernel_rfl) (by kernel_rfl) (Or.inl ⟨?hw5n6, ?hy5n6⟩) HS.out ?rest5n6
          case hi5n6 => (simp only [List.getElem?_toArray, List.getElem?_cons_succ, List.getElem?_cons_zero]; rfl)
          case hw5n6 => rfl
          case hy5n6 => (intro w' hw'; go_simp; try with_reducible rfl)
          try simp only [Act.put, List.setIfInBounds_toArray, List.set_cons_zero, List.set_cons_succ]
          refine' wpAnyJ_take (i := 6) (v := _) [] ?hi6n7 (by kernel_rfl) (by kernel_rfl) (by kernel_rfl) (by kernel_rfl) (by kernel_rfl) (Or.inl ⟨?hw6n7, ?hy6n7⟩) HS.out ?rest6n7
          case hi6n7 => (simp only [List.getElem?_toArray, List.getElem?_cons_succ, List.getElem?_cons_zero]; rfl)
          case hw6n7 => rfl
          case hy6n7 => (intro w' hw'; go_simp; try with_reducible rfl)
          try simp only [Act.put, List.setIfInBounds_toArray, List.set_cons_zero, List.set_cons_succ]
          refine' wpAnyJ_take (i := 7) (v := _) [] ?hi7n8 (by kernel_rfl) (by kernel_rfl) (by kernel_rfl) (by kernel_rfl) (by kernel_rfl) (Or.inl ⟨?hw7n8, ?hy7n8⟩) HS.out ?rest7n8
          case hi7n8 => (simp only [List.getElem?_toArray, List.getElem?_cons_succ, List.getElem?_cons_zero]; rfl)
          case hw7n8 => rfl
          case hy7n8 => (intro w' hw'; go_simp; try with_reducible rfl)
          try simp only [Act.put, List.setIfInBounds_toArray, List.set_cons_zero, List.set_cons_succ]
          refine' wpAnyJ_take (i := 8) (v := _) [] ?hi8n9 (by kernel_rfl) (by kernel_rfl) (by kernel_rfl) (by kernel_rfl) (by kernel_rfl) (Or.inr ⟨?hw8n9, rfl⟩) HS.out ?rest8n9
          case hi8n9 => (simp only [List.getElem?_toArray, List.getElem?_cons_succ, List.getElem?_cons_zero]; rfl)
          case hw8n9 => rfl
          try simp only [Act.put, List.setIfInBounds_toArray, List.set_cons_zero, List.set_cons_succ]
          refine' wpAnyJ_take (i := 9) (v := _) [] ?hi9n10 (by kernel_rfl) (by kernel_rfl) (by kernel_rfl) (by kernel_rfl) (by kernel_rfl) (Or.inr ⟨?hw9n10, rfl⟩) HS.out ?rest9n10
          case hi9n10 => (simp only [List.getElem?_toArray, List.getElem?_cons_succ, List.getElem?_cons_zero]; rfl)
          case hw9n10 => rfl
          try simp only [Act.put, List.setIfInBounds_toArray, List.set_cons_zero, List.set_cons_succ]
          refine' wpAnyJ_take (i := 10) (v := _) [] ?hi10n11 (by kernel_rfl) (by kernel_rfl) (by kernel_rfl) (by kernel_rfl) (by kernel_rfl) (Or.inr ⟨?hw10n11, rfl⟩) HS.out ?rest10n11
          case hi10n11 => (simp only [List.getElem?_toArray, List.getElem?_cons_succ, List.getElem?_cons_zero]; rfl)
          case hw10n11 => rfl
          try simp only [Act.put, List.setIfInBounds_toArray, List.set_cons_zero, List.set_cons_succ]
          refine' wpAnyJ_take (i := 11) (v := _) [] ?hi11n12 (by kernel_rfl) (by kernel_rfl) (by kernel_rfl) (by kernel_rfl) (by kernel_rfl) (Or.inr ⟨?hw11n12, rfl⟩) HS.out ?rest11n12
          case hi11n12 => (simp only [List.getElem?_toArray, List.getElem?_cons_succ, List.getElem?_cons_zero]; rfl)
          case hw11n12 => rfl
          try simp only [Act.put, List.setIfInBounds_toArray, List.set_cons_zero, List.set_cons_succ]
          refine' wpAnyJ_take (i := 12) (v := _) [] ?hi12n13 (by kernel_rfl) (by kernel_rfl) (by kernel_rfl) (by kernel_rfl) (by kernel_rfl) (Or.inr ⟨?hw12n13, rfl⟩) HS.out ?rest12n13
          case hi12n13 => (simp only [List.getElem?_toArray, List.getElem?_cons_succ, List.getElem?_cons_zero]; rfl)
          case hw12n13 => rfl
          try simp only [Act.put, List.setIfInBounds_toArray, List.set_cons_zero, List.set_cons_succ]
          refine' wpAnyJ_take (i := 13) (v := _) [] ?hi13n14 (by kernel_rfl) (by kernel_rfl) (by kernel_rfl) (by kernel_rfl) (by kernel_rfl) (Or.inr ⟨?hw13n14, rfl⟩) HS.out ?rest13n14
          case hi13n14 => (simp only [List.getElem?_toArray, List.getElem?_cons_succ, List.getElem?_cons_zero]; rfl)
          case hw13n14 => rfl
          try simp only [Act.put, List.setIfInBounds_toArray, List.set_cons_zero, List.set_cons_succ]
          refine' wpAnyJ_take (i := 14) (v := _) [] ?hi14n15 (by kernel_rfl) (by kernel_rfl) (by kernel_rfl) (by kernel_rfl) (by kernel_rfl) (Or.inl ⟨?hw14n15, ?hy14n15⟩) HS.out ?rest14n15
          case hi14n15 => (simp only [List.getElem?_toArray, List.getElem?_cons_succ, List.getElem?_cons_zero]; rfl)
          case hw14n15 => rfl
          case hy14n15 => (intro w' hw'; go_simp; try with_reducible rfl)
          try simp only [Act.put, List.setIfInBounds_toArray, List.set_cons_zero, List.set_cons_succ]
          refine' wpAnyJ_take (i := 15) (v := _) [] ?hi15n16 (by kernel_rfl) (by kernel_rfl) (by kernel_rfl) (by kernel_rfl) (by kernel_rfl) (Or.inl ⟨?hw15n16, ?hy15n16⟩) HS.out ?rest15n16
          case hi15n16 => (simp only [List.getElem?_toArray, List.getElem?_cons_succ, List.getElem?_cons_zero]; rfl)
          case hw15n16 => rfl
          case hy15n16 => (intro w' hw'; go_simp; try with_reducible rfl)
          try simp only [Act.put, List.setIfInBounds_toArray, List.set_cons_zero, List.set_cons_succ]
          refine wpAnyJ_done (by kernel_rfl) ?_ _
          refine NoPanic.normal ?_
          go_wp2_with fail
          go_meet
          exact ⟨rfl, HTA.out, HTB.out, HCX.out, HUL.out⟩
        · obtain ⟨g9, o9, rfl, hg9, c9⟩ := RowAt.one HV9.out (Below.refl _ _) (k := 0) (by simp)
          have c9 : w9.cell? ⟨g9, o9, none⟩ = some (.int .i64 (s : Int)) := c9
          clear HDL
          refine j_startS [] (S := (fun W : World => W.cell? ⟨g9, o9, none⟩ = some (.int .i64 (s : Int)) ∧ W.cell? ⟨gx, 0, none⟩ = some (.int .i64 (s : Int)))) (by kernel_rfl) ?_
          obtain ⟨ud, hud⟩ : ∃ ud, w9.drew = ud := ⟨_, rfl⟩
          have HTA : Hid (TreeO w ud a (serL Q)) := hide (by rw [← hud]; exact HTA.out.below (Below.refl _ _).drew)
          have HTB : Hid (TreeO w ud b (serL M)) := hide (by rw [← hud]; exact HTB.out.below (Below.refl _ _).drew)
          have HUL : Hid (gx < ud.heap.size) := hide (by rw [← hud]; exact lgx9)
          have HCX : Hid (ud.cell? ⟨gx, 0, none⟩ = some (.int .i64 (s : Int))) := hide (by rw [← hud]; exact HCX.out)
          have HS : Hid ((fun W : World => W.cell? ⟨g9, o9, none⟩ = some (.int .i64 (s : Int)) ∧ W.cell? ⟨gx, 0, none⟩ = some (.int .i64 (s : Int))) ud) := hide ⟨(by rw [← hud]; exact c9), HCX.out⟩
          rw [hud]
          clear hud
          refine' wpAnyJ_take (i := 0) (v := _) [] ?hi0n1b (by kernel_rfl) (by kernel_rfl) (by kernel_rfl) (by kernel_rfl) (by kernel_rfl) (Or.inl ⟨?hw0n1b, ?hy0n1b⟩) HS.out ?rest0n1b
          case hi0n1b => (simp only [List.getElem?_toArray, List.getElem?_cons_succ, List.getElem?_cons_zero]; rfl)
          case hw0n1b => rfl
          case hy0n1b => (intro w' hw'; go_simp; try with_reducible rfl)
          try simp only [Act.put, List.setIfInBounds_toArray, List.set_cons_zero, List.set_cons_succ]
          refine' wpAnyJ_take (i := 1) (v := _) [] ?hi1n2b (by kernel_rfl) (by kernel_rfl) (by kernel_rfl) (by kernel_rfl) (by kernel_rfl) (Or.inl ⟨?hw1n2b, ?hy1n2b⟩) HS.out ?rest1n2b
          case hi1n2b => (simp only [List.getElem?_toArray, List.getElem?_cons_succ, List.getElem?_cons_zero]; rfl)
          case hw1n2b => rfl
          case hy1n2b => (intro w' hw'; go_simp; try with_reducible rfl)
          try simp only [Act.put, List.setIfInBounds_toArray, List.set_cons_zero, List.set_cons_succ]
          refine' wpAnyJ_take (i := 2) (v := _) [] ?hi2n3b (by kernel_rfl) (by kernel_rfl) (by kernel_rfl) (by kernel_rfl) (by kernel_rfl) (Or.inl ⟨?hw2n3b, ?hy2n3b⟩) HS.out ?rest2n3b
          case hi2n3b => (simp only [List.getElem?_toArray, List.getElem?_cons_succ, List.getElem?_cons_zero]; rfl)
          case hw2n3b => rfl
          case hy2n3b => (intro w' hw'; go_simp; try with_reducible rfl)
          try simp only [Act.put, List.setIfInBounds_toArray, List.set_cons_zero, List.set_cons_succ]
          refine' wpAnyJ_take (i := 3) (v := _) [] ?hi3n4b (by kernel_rfl) (by kernel_rfl) (by kernel_rfl) (by kernel_rfl) (by kernel_rfl) (Or.inl ⟨?hw3n4b, ?hy3n4b⟩) HS.out ?rest3n4b
          case hi3n4b => (simp only [List.getElem?_toArray, List.getElem?_cons_succ, List.getElem?_cons_zero]; rfl)
          case hw3n4b => rfl
          case hy3n4b => (intro w' hw'; go_simp; try with_reducible rfl)
          try simp only [Act.put, List.setIfInBounds_toArray, List.set_cons_zero, List.set_cons_succ]
          refine' wpAnyJ_take (i := 4) (v := _) [] ?hi4n5b (by kernel_rfl) (by kernel_rfl) (by kernel_rfl) (by kernel_rfl) (by kernel_rfl) (Or.inl ⟨?hw4n5b, ?hy4n5b⟩) HS.out ?rest4n5b
          case hi4n5b => (simp only [List.getElem?_toArray, List.getElem?_cons_succ, List.getElem?_cons_zero]; rfl)
          case hw4n5b => rfl
          case hy4n5b => (intro w' hw'; go_simp; try with_reducible rfl)
          try simp only [Act.put, List.setIfInBounds_toArray, List.set_cons_zero, List.set_cons_succ]
          refine' wpAnyJ_take (i := 5) (v := _) [] ?hi5n6b (by kernel_rfl) (by kernel_rfl) (by kernel_rfl) (by kernel_rfl) (by kernel_rfl) (Or.inl ⟨?hw5n6b, ?hy5n6b⟩) HS.out ?rest5n6b
          case hi5n6b => (simp only [List.getElem?_toArray, List.getElem?_cons_succ, List.getElem?_cons_zero]; rfl)
          case hw5n6b => rfl
          case hy5n6b => (intro w' hw'; go_simp; try with_reducible rfl)
          try simp only [Act.put, List.setIfInBounds_toArray, List.set_cons_zero, List.set_cons_succ]
          refine' wpAnyJ_take (i := 6) (v := _) [] ?hi6n7b (by kernel_rfl) (by kernel_rfl) (by kernel_rfl) (by kernel_rfl) (by kernel_rfl) (Or.inl ⟨?hw6n7b, ?hy6n7b⟩) HS.out ?rest6n7b
          case hi6n7b => (simp only [List.getElem?_toArray, List.getElem?_cons_succ, List.getElem?_cons_zero]; rfl)
          case hw6n7b => rfl
          case hy6n7b => (intro w' hw'; go_simp; try with_reducible rfl)
          try simp only [Act.put, List.setIfInBounds_toArray, List.set_cons_zero, List.set_cons_succ]
          refine' wpAnyJ_take (i := 7) (v := _) [] ?hi7n8b (by kernel_rfl) (by kernel_rfl) (by kernel_rfl) (by kernel_rfl) (by kernel_rfl) (Or.inl ⟨?hw7n8b, ?hy7n8b⟩) HS.out ?rest7n8b
          case hi7n8b => (simp only [List.getElem?_toArray, List.getElem?_cons_succ, List.getElem?_cons_zero]; rfl)
          case hw7n8b => rfl
          case hy7n8b => (intro w' hw'; go_simp; try with_reducible rfl)
          try simp only [Act.put, List.setIfInBounds_toArray, List.set_cons_zero, List.set_cons_succ]
          refine' wpAnyJ_take (i := 8) (v := _) [] ?hi8n9b (by kernel_rfl) (by kernel_rfl) (by kernel_rfl) (by kernel_rfl) (by kernel_rfl) (Or.inl ⟨?hw8n9b, ?hy8n9b⟩) HS.out ?rest8n9b
          case hi8n9b => (simp only [List.getElem?_toArray, List.getElem?_cons_succ, List.getElem?_cons_zero]; rfl)
          case hw8n9b => rfl
          case hy8n9b => (intro w' hw'; go_simp; try with_reducible rfl)
          try simp only [Act.put, List.setIfInBounds_toArray, List.set_cons_zero, List.set_cons_succ]
          refine' wpAnyJ_take (i := 9) (v := _) [] ?hi9n10b (by kernel_rfl) (by kernel_rfl) (by kernel_rfl) (by kernel_rfl) (by kernel_rfl) (Or.inl ⟨?hw9n10b, ?hy9n10b⟩) HS.out ?rest9n10b
          case hi9n10b => (simp only [List.getElem?_toArray, List.getElem?_cons_succ, List.getElem?_cons_zero]; rfl)
          case hw9n10b => rfl
          case hy9n10b => (intro w' hw'; go_simp; try with_reducible rfl)
          try simp only [Act.put, List.setIfInBounds_toArray, List.set_cons_zero, List.set_cons_succ]
          refine' wpAnyJ_take (i := 10) (v := _) [] ?hi10n11b (by kernel_rfl) (by kernel_rfl) (by kernel_rfl) (by kernel_rfl) (by kernel_rfl) (Or.inl ⟨?hw10n11b, ?hy10n11b⟩) HS.out ?rest10n11b
          case hi10n11b => (simp only [List.getElem?_toArray, List.getElem?_cons_succ, List.getElem?_cons_zero]; rfl)
          case hw10n11b => rfl
          case hy10n11b => (intro w' hw'; have h0 : w'.cell? ⟨g9, o9, none⟩ = some (.int .i64 (s : Int)) := hw'.1; go_simp; try with_reducible rfl)
          try simp only [Act.put, List.setIfInBounds_toArray, List.set_cons_zero, List.set_cons_succ]
          refine' wpAnyJ_take (i := 11) (v := _) [] ?hi11n12b (by kernel_rfl) (by kernel_rfl) (by kernel_rfl) (by kernel_rfl) (by kernel_rfl) (Or.inl ⟨?hw11n12b, ?hy11n12b⟩) HS.out ?rest11n12b
          case hi11n12b => (simp only [List.getElem?_toArray, List.getElem?_cons_succ, List.getElem?_cons_zero]; rfl)
          case hw11n12b => rfl
          case hy11n12b => (intro w' hw'; go_simp; try with_reducible rfl)
          try simp only [Act.put, List.setIfInBounds_toArray, List.set_cons_zero, List.set_cons_succ]
          refine' wpAnyJ_take (i := 12) (v := _) [] ?hi12n13b (by kernel_rfl) (by kernel_rfl) (by kernel_rfl) (by kernel_rfl) (by kernel_rfl) (Or.inl ⟨?hw12n13b, ?hy12n13b⟩) HS.out ?rest12n13b
          case hi12n13b => (simp only [List.getElem?_toArray, List.getElem?_cons_succ, List.getElem?_cons_zero]; rfl)
          case hw12n13b => rfl
          case hy12n13b => (intro w' hw'; have h0 : w'.cell? ⟨gx, 0, none⟩ = some (.int .i64 (s : Int)) := hw'.2; go_simp; try with_reducible rfl)
          try simp only [Act.put, List.setIfInBounds_toArray, List.set_cons_zero, List.set_cons_succ]
          refine' wpAnyJ_take (i := 13) (v := _) [] ?hi13n14b (by kernel_rfl) (by kernel_rfl) (by kernel_rfl) (by kernel_rfl) (by kernel_rfl) (Or.inl ⟨?hw13n14b, ?hy13n14b⟩) HS.out ?rest13n14b
          case hi13n14b => (simp only [List.getElem?_toArray, List.getElem?_cons_succ, List.getElem?_cons_zero]; rfl)
          case hw13n14b => rfl
          case hy13n14b => (intro w' hw'; go_simp; try with_reducible rfl)
          try simp only [Act.put, List.setIfInBounds_toArray, List.set_cons_zero, List.set_cons_succ]
          refine' wpAnyJ_take (i := 14) (v := _) [] ?hi14n15b (by kernel_rfl) (by kernel_rfl) (by kernel_rfl) (by kernel_rfl) (by kernel_rfl) (Or.inl ⟨?hw14n15b, ?hy14n15b⟩) HS.out ?rest14n15b
          case hi14n15b => (simp only [List.getElem?_toArray, List.getElem?_cons_succ, List.getElem?_cons_zero]; rfl)
          case hw14n15b => rfl
          case hy14n15b => (intro w' hw'; go_simp; try with_reducible rfl)
          try simp only [Act.put, List.setIfInBounds_toArray, List.set_cons_zero, List.set_cons_succ]
          refine' wpAnyJ_take (i := 15) (v := _) [] ?hi15n16b (by kernel_rfl) (by kernel_rfl) (by kernel_rfl) (by kernel_rfl) (by kernel_rfl) (Or.inl ⟨?hw15n16b, ?hy15n16b⟩) HS.out ?rest15n16b
          case hi15n16b => (simp only [List.getElem?_toArray, List.getElem?_cons_succ, List.getElem?_cons_zero]; rfl)
          case hw15n16b => rfl
          case hy15n16b => (intro w' hw'; go_simp; try with_reducible rfl)
          try simp only [Act.put, List.setIfInBounds_toArray, List.set_cons_zero, List.set_cons_succ]
          refine wpAnyJ_done (by kernel_rfl) ?_ _
          refine NoPanic.normal ?_
          go_wp2_with fail
          go_meet
          exact ⟨rfl, HTA.out, HTB.out, HCX.out, HUL.out⟩
      case rest =>
        obtain ⟨rfl, hA, hB, hcx, hgl⟩ := hcut
        clear HTA HTB HCX HV9 lgx9
        have HTA := hide hA
        have HTB := hide hB
        have HCX := hide hcx
        have HGL := hide hgl
        clear hA hB hcx hgl HDL
        obtain ⟨wq, rfl⟩ : ∃ wq, wq = wc := ⟨_, rfl⟩
        go_upto_region 14 with fail
        go_loopw [10] (fun i wr => ∃ l : Nat, l ≤ 9 ∧ i = .int .i64 l ∧ TreeO w wr a (serL Q) ∧ TreeO w wr b (serL M) ∧ wr.cell? ⟨gx, 0, none⟩ = some (.int .i64 (s : Int)) ∧ gx < wr.heap.size) (fun i _ => 9 - (intOf i).toNat)
        case atStart => exact ⟨0, by omega, rfl, HTA.out, HTB.out, HCX.out, HGL.out⟩
        case round =>
          obtain ⟨l, hl9, rfl, hA, hB, hcx, hgl⟩ := hrel
          clear HTA HTB HCX HGL
          have HTA := hide hA
          have HTB := hide hB
          have HCX := hide hcx
          have HGL := hide hgl
          clear hA hB hcx hgl
          by_cases hl8 : l ≤ 8
          · have hlI : (l : Int) ≤ 8 := by omega
            have hl0 : (0 : Int) ≤ (l : Int) := by omega
            have hl0n : ¬ (l : Int) < 0 := by omega
            have hl64 : (l : Int) < 64 := by omega
            obtain ⟨h, hh⟩ : ∃ h, 2 ^ (8 - l) = h := ⟨_, rfl⟩
            have hsh : (256 : Int) / 2 ^ l = (h : Int) := by
              have e1 : (2 : Nat) ^ 8 = 2 ^ l * h := by rw [← hh, ← Nat.pow_add]; congr 1; omega
              have e2 : (256 : Int) = (2 : Int) ^ l * (h : Int) := by have := congrArg (fun n : Nat => (n : Int)) e1; simpa using this
              rw [e2]
              exact Int.mul_ediv_cancel_left _ (Int.ne_of_gt (Int.pow_pos (by decide)))
            obtain ⟨q, hq⟩ : ∃ q, s / 2 ^ l = q := ⟨_, rfl⟩
            have hsq : (s : Int) / 2 ^ l = (q : Int) := by rw [← hq]; simp
            have hh256 : h ≤ 256 := by rw [← hh]; exact Nat.le_trans (Nat.pow_le_pow_right (by omega) (show 8 - l ≤ 8 by omega)) (by decide)
            have HHE := hide hh
            have HNT : Hid (∀ i, i ≠ q → nodeT (serL Q) l i = nodeT (serL M) l i) := hide (fun i hi => nodeT_apart HFG.out l i (by rw [hq]; exact hi))
            clear hh hq
            obtain ⟨wq, rfl⟩ : ∃ wq, wq = wr := ⟨_, rfl⟩
            go_upto_region 17 with fail
            go_loopw [11] (fun i wr => ∃ i0 : Nat, i0 ≤ h ∧ i = .int .i64 i0 ∧ TreeO w wr a (serL Q) ∧ TreeO w wr b (serL M) ∧ wr.cell? ⟨gx, 0, none⟩ = some (.int .i64 (s : Int)) ∧ gx < wr.heap.size) (fun i _ => h - (intOf i).toNat)
            case atStart => exact ⟨0, by omega, rfl, HTA.out, HTB.out, HCX.out, HGL.out⟩
            case round =>
              obtain ⟨i, hi, rfl, hA, hB, hcx, hgl⟩ := hrel
              clear HTA HTB HCX HGL
              have HTA := hide hA
              have HTB := hide hB
              have HCX := hide hcx
              have HGL := hide hgl
              clear hA hB hgl
              by_cases hih : i < h
              · have hiI : (i : Int) < (h : Int) := by omega
                by_cases hiq : i = q
                · obtain rfl : q = i := hiq.symm
                  have hiqD : ((q : Int) == (q : Int)) = true := beq_iff_eq.2 rfl
                  go_wp2_with fail
                  go_roundw
                  case rel => exact ⟨q + 1, by omega, by go_num, HTA.out, HTB.out, HCX.out, HGL.out⟩
                  case measure => simp only [intOf]; omega
                · have hiqI : ¬ (i : Int) = (q : Int) := by omega
                  have hiqD : ((i : Int) == (q : Int)) = false := beq_eq_false_iff_ne.2 hiqI
                  have HNA := hide (node_any HTA.out l i hl8 (by rw [HHE.out]; exact hih))
                  have HNB := hide (fun (u : World) (hu : TreeO w u b (serL M)) => node_any hu l i hl8 (by rw [HHE.out]; exact hih))
                  rw [← HNT.out i hiq] at HNB
                  obtain ⟨y, hy⟩ : ∃ y, nodeT (serL Q) l i = y := ⟨_, rfl⟩
                  rw [hy] at HNA HNB
                  clear hiq hy
                  go_wp2_with fail
                  refine (Calls.mono HNA.out ?_); rintro e w10 ⟨rfl, hA, hs⟩
                  have hB := HTB.out.apart HTA.out (fun e => HAB.out e.symm) hs
                  have HCX := hide (hs.cell HGL.out (fun e => HNGX.out (.inl e)) HCX.out)
                  have HGL := hide (Nat.lt_of_lt_of_le HGL.out hs.size)
                  have HNC := hide (HNB.out w10 hB)
                  have HTA := hide hA
                  have HTB := hide hB
                  clear hA hB hs HNA HNB hcx
                  go_wp2_with fail
                  refine (Calls.mono HNC.out ?_); rintro e w11 ⟨rfl, hB, hs⟩
                  have hA := HTA.out.apart HTB.out HAB.out hs
                  have HCX := hide (hs.cell HGL.out (fun e => HNGX.out (.inr e)) HCX.out)
                  have HGL := hide (Nat.lt_of_lt_of_le HGL.out hs.size)
                  have HTA := hide hA
                  have HTB := hide hB
                  clear hA hB hs HNC
                  go_wp2_with fail
                  go_roundw
                  case rel => exact ⟨i + 1, by omega, by go_num, HTA.out, HTB.out, HCX.out, HGL.out⟩
                  case measure => simp only [intOf]; omega
              · have hiI : ¬ (i : Int) < (h : Int) := by omega
                clear hcx
                go_wp2_with fail
                go_roundw
                case rel => exact ⟨l + 1, by omega, by go_num, HTA.out, HTB.out, HCX.out, HGL.out⟩
                case measure => simp only [intOf]; omega
          · have hlI : ¬ (l : Int) ≤ 8 := by omega
            have HD1 := hide (differ_any (w0 := w) (w := wr) (pa := none) (pb := some b) (F := serL Q) (G := serL M) (fun q hq => by cases hq) (fun q hq => by obtain rfl := Option.some.inj hq; exact HTB.out) (fun q hq => by cases hq) HTA.out.low.size)
            unfold ptrV at HD1
            simp only [Option.map_some, Option.map_none] at HD1
            go_wp2_with fail
            refine (Calls.mono HD1.out ?_); rintro e w10 ⟨v10, rfl, ho, _, htb, hs⟩
            obtain ⟨A10, c10, rfl, _, _⟩ := OwnL.vals ho
            have hB := htb b rfl
            have hA := HTA.out.apart HTB.out HAB.out (hs.mono_ (T := fun g => g = b) (fun g _ e => by
              rcases e with e | e
              · cases e
              · exact (Option.some.inj e).symm))
            have HD2 := hide (differ_any (w0 := w) (w := w10) (pa := some a) (pb := none) (F := serL Q) (G := serL M) (fun q hq => by obtain rfl := Option.some.inj hq; exact hA) (fun q hq => by cases hq) (fun q hq e => by cases e) hA.low.size)
            unfold ptrV at HD2
            simp only [Option.map_some, Option.map_none] at HD2
            have hf1 := full_a (some b) (serL Q) (serL M)
            rw [hf1]
            clear ho htb hs hA hB HD1 hf1
            go_wp2_with fail
            refine (Calls.mono HD2.out ?_); rintro e w11 ⟨v11, rfl, ho, hta, _, _⟩
            obtain ⟨A11, c11, rfl, _, _⟩ := OwnL.vals ho
            have HLOW := hide (hta a rfl).low
            have hf2 := full_b (some a) (serL Q) (serL M)
            rw [hf2]
            clear ho hta HD2 hf2
            go_wp2_with fail
            refine (Calls.mono (awake19_any w11) ?_); rintro e w12 ⟨rfl, hb⟩
            have HF := hide (below_step HLOW.out hb)
            clear hb
            go_wp2_with fail
            go_ret
            exact ⟨rfl, HF.out⟩
end Go.Proofs.Ythpbohheddkfiaa.treeSeries
