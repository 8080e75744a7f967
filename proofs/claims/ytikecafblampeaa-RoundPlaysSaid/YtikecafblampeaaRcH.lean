/- clepsydraref26.Call: onRound, a message that counts: contracts. Conditions: the call as it lies. -/
import Derived.Test.YtikecafblampeaaRcO
namespace Go.Proofs.Ytikecafblampeaa
set_option linter.unusedVariables false
set_option linter.unusedSimpArgs false
open Go.ChangeShapes Go.WideShapes Go.ChangeAt Go.RowKit
set_option maxRecDepth 100000 in
set_option maxHeartbeats 3200000 in
theorem rcon_more1 {w0 w : World} {base p cb : Nat} {K : Cs} (h : CallO w0 w base p cb K) (hr : K.rd = true) (hn : K.n ≤ 7) (m : Mg) (hm : m.rd w0) {f : Nat} (hf : m.f = (f : Int)) (hfn : f < K.n) (hph : K.ph = 1) (hk : m.k = 7) (hv : m.n = K.ver) (hc : K.C f = false) (hLL : K.L.length ≤ 274877906944 ∧ m.L.length ≤ 274877906944) (hfull : ¬ (cntC (setC K.C f) K.n = K.n)) :
    Calls Try.prog 38 #[.pointer (some ⟨p, 0, none⟩), m.val] w (RcP w0 w base p cb (takeK K m) []) := by
  obtain ⟨mk, mf, mt, mi, mv, mA, mc, mL⟩ := m
  simp only at hk hv hLL hf hm
  subst hf
  subst hv
  have HKE := hide hk
  have HLL := hide hLL
  clear hk hLL
  obtain ⟨ml, hml⟩ : ∃ ml, mL.length = ml := ⟨_, rfl⟩
  have HML := hide hml
  have HM := hide hm
  have hba := below_alloc (Below.refl w.heap.size w) (.cells #[.int .i64 mk, .int .i64 f, .int .i64 mt, .int .u64 mi, .int .u64 K.ver, .slice mA ml mc] 30)
  have hz := heap_alloc_new w (.cells #[.int .i64 mk, .int .i64 f, .int .i64 mt, .int .u64 mi, .int .u64 K.ver, .slice mA ml mc] 30)
  obtain ⟨w1, hw1⟩ : ∃ w1, w.alloc (.cells #[.int .i64 mk, .int .i64 f, .int .i64 mt, .int .u64 mi, .int .u64 K.ver, .slice mA ml mc] 30) = w1 := ⟨_, rfl⟩
  rw [hw1] at hba hz
  obtain ⟨gm, hgm⟩ : ∃ gm, w.heap.size = gm := ⟨_, rfl⟩
  rw [hgm] at hz
  have h1 := h.below hba
  have hlt := h.lt
  have hgp : gm ≠ p := by omega
  have hgc : gm ≠ cb := by omega
  obtain ⟨Ai, ci, hit, hcl⟩ := h1.cells
  have HCL := hide hcl
  have HIT := hide hit
  have H1 := hide h1
  have HH := hide h
  have HBA := hide hba
  have HZ := hide hz
  have HW1 := hide hw1
  have HGM := hide hgm
  obtain ⟨n, hnn⟩ : ∃ n, K.n = n := ⟨_, rfl⟩
  have HNN := hide hnn
  rw [hnn] at hfn hn
  have hpl := h1.lt
  have hgl := (Array.getElem?_eq_some_iff.1 hz).1
  have hfI : (f : Int) < (n : Int) := by omega
  have hf0 : (0 : Int) ≤ (f : Int) := by omega
  clear hlt hcl hit h1 h hba hz hw1 hgm hm hnn
  show Calls Try.prog 38 #[.pointer (some ⟨p, 0, none⟩), .agg #[.int .i64 mk, .int .i64 f, .int .i64 mt, .int .u64 mi, .int .u64 K.ver, .slice mA mL.length mc]] w _
  rw [hml]
  clear hml
  go_enter Try.func38, Try.ntmps38
  go_upto_region 1 with fail
  rw [HW1.out, HGM.out]
  clear HW1
  obtain ⟨m0, m1, m2, m3, m4, m5⟩ := six_cells HZ.out
  obtain ⟨c0, c1, c2, c3, c4, c5, c6, c7, c8, c9, c10, c11, c13, c14, cc⟩ := HCL.out w1 (Below.refl _ _)
  rw [HNN.out] at c1 c10
  have hck := cc f (by rw [HNN.out]; exact hfn)
  clear cc c4 c5 c6 c7 c13
  rw [HKE.out] at m0
  rw [hc] at hck
  rw [hph] at c9
  rw [HNN.out] at hfull
  have hle := cntC_le (setC K.C f) n
  go_upto_region 7 with fail
  go_region
  go_upto_region 9 with fail
  obtain ⟨wa, hwa⟩ : ∃ wa, w1.drew = wa := ⟨_, rfl⟩
  have HBA1 : Hid (Below w1.heap.size w1 wa) := hide (by rw [← hwa]; exact (Below.refl _ _).drew)
  have H1a := hide (H1.out.below HBA1.out)
  rw [hwa]
  clear c0 c1 c2 c3 c8 c9 c10 c11 c14 hck m0 m1 m2 m3 m4 m5 hwa
  obtain ⟨m0, m1, m2, m3, m4, m5⟩ := six_cells ((HBA1.out.block gm hgl).trans HZ.out)
  obtain ⟨c0, c1, c2, c3, c4, c5, c6, c7, c8, c9, c10, c11, c13, c14, cc⟩ := HCL.out wa HBA1.out
  rw [HNN.out] at c10
  have hck := cc f (by rw [HNN.out]; exact hfn)
  obtain ⟨_, fz⟩ := H1a.out.frozen
  have fzf := fz f
  have hca : cb < wa.heap.size := H1a.out.lt.2
  clear cc c0 c1 c2 c3 c4 c5 c6 c7 c8 c9 c11 c13 c14 fz
  go_region
  obtain ⟨wb, hwb⟩ : ∃ wb, ((wa.drew).setCell ⟨cb, f, none⟩ (.bool true)) = wb := ⟨_, rfl⟩
  have H1b := hide (H1a.out.below (Below.refl wa.heap.size wa).drew)
  have hk2 : Sets (fun g => g = cb) wa ((wa.drew).setCell ⟨cb, f, none⟩ (.bool true)) := (Sets.refl (S := fun g => g = cb) wa).drew.set (g := cb) (fun _ => rfl) f _
  have h2 : CallO w0 ((wa.drew).setCell ⟨cb, f, none⟩ (.bool true)) base p cb { K with C := setC K.C f } := H1b.out.mark (by rw [HNN.out]; exact hfn)
  rw [hwb] at hk2 h2
  have hz2 : wb.heap[gm]? = some (.cells #[.int .i64 mk, .int .i64 f, .int .i64 mt, .int .u64 mi, .int .u64 K.ver, .slice mA ml mc] 30 (0, 0)) := (hk2.block gm (Nat.lt_of_lt_of_le hgl HBA1.out.size) hgc).trans ((HBA1.out.block gm hgl).trans HZ.out)
  have HZ2 := hide hz2
  have H2 := hide h2
  have HS2 : Hid (Sets (fun g => g = p ∨ g = cb) w wb) := hide ((Sets.of (S := fun g => g = p ∨ g = cb) (below_step HBA.out HBA1.out)).trans hk2 (fun _ _ h => .inr h))
  go_upto_region 10 with fail
  (first | rw [hwb] | (rw [show ((wa.setCell ⟨cb, f, none⟩ (.bool true)).drew) = ((wa.drew).setCell ⟨cb, f, none⟩ (.bool true)) from rfl]; rw [hwb]))
  have hgb : gm < wb.heap.size := (Array.getElem?_eq_some_iff.1 hz2).1
  clear hwb hk2 h2 hz2 m0 m1 m2 m3 m4 m5 c10 hck fzf H1 H1a H1b HCL HIT HZ HBA1 hca
  obtain ⟨Aj, cj, hit2, hfar2, hcl2⟩ := H2.out.cellsF
  have HCL2 := hide hcl2
  have HIT2 := hide hit2
  have HFAR2 := hide hfar2
  clear hit2 hcl2 hfar2
  have c9 : wb.cell? ⟨p, 9, none⟩ = some (.int .i64 K.ph) := (HCL2.out wb (Below.refl _ _)).c9
  rw [hph] at c9
  go_upto_region 11 with fail
  obtain ⟨ud, hud⟩ : ∃ ud, wb.drew = ud := ⟨_, rfl⟩
  have HUB : Hid (Below wb.heap.size wb ud) := hide (by rw [← hud]; exact (Below.refl _ _).drew)
  have HCU : Hid (∀ W, Below ud.heap.size ud W → CallC W p cb { K with C := setC K.C f } Aj cj) := hide (fun W hW => HCL2.out W (below_step HUB.out hW))
  have HUZ : Hid (ud.heap[gm]? = some (.cells #[.int .i64 mk, .int .i64 f, .int .i64 mt, .int .u64 mi, .int .u64 K.ver, .slice mA ml mc] 30 (0, 0))) := hide ((HUB.out.block gm hgb).trans HZ2.out)
  have HGU : Hid (gm < ud.heap.size) := hide (Nat.lt_of_lt_of_le hgb HUB.out.size)
  have HC2 := hide (H2.out.below HUB.out)
  obtain ⟨l1, hl1⟩ : ∃ l1, K.L.length = l1 := ⟨_, rfl⟩
  have HL1 := hide hl1
  have HJN := hide (rjoin_al (v := .slice Aj K.L.length cj) (u := .slice mA mL.length mc) (L := K.L) (M := mL) (w := ud) ⟨Aj, cj, rfl, HIT2.out.1.below HUB.out, HIT2.out.2.1, HIT2.out.2.2⟩ ⟨mA, mc, rfl, HM.out.1.below HC2.out.low, HM.out.2.1, HM.out.2.2⟩ HLL.out.1 HLL.out.2)
  clear hl1 c9 hgb
  refine j_startD [10] hud (by kernel_rfl) ?_
  clear hud
  refine' j_take (i := 0) (v := _) [8, 9, 10] ?hi0t1 (by kernel_rfl) (by kernel_rfl) (by kernel_rfl) (by kernel_rfl) (by kernel_rfl) (Or.inl ⟨?hw0t1, ?hy0t1⟩) ?rest0t1
  case hi0t1 => (simp only [List.getElem?_toArray, List.getElem?_cons_succ, List.getElem?_cons_zero]; rfl)
  case hw0t1 => rfl
  case hy0t1 => (intro w' hw'; go_simp; try with_reducible rfl)
  try simp only [Act.put, List.setIfInBounds_toArray, List.set_cons_zero, List.set_cons_succ]
  refine' j_take (i := 1) (v := _) [2, 3, 4, 7, 8, 9, 10] ?hi1t1 (by kernel_rfl) (by kernel_rfl) (by kernel_rfl) (by kernel_rfl) (by kernel_rfl) (Or.inl ⟨?hw1t1, ?hy1t1⟩) ?rest1t1
  case hi1t1 => (simp only [List.getElem?_toArray, List.getElem?_cons_succ, List.getElem?_cons_zero]; rfl)
  case hw1t1 => rfl
  case hy1t1 => (intro w' hw'; go_simp; try with_reducible rfl)
  try simp only [Act.put, List.setIfInBounds_toArray, List.set_cons_zero, List.set_cons_succ]
  refine' j_take (i := 2) (v := _) [3, 4, 7, 8, 9, 10] ?hi2t1 (by kernel_rfl) (by kernel_rfl) (by kernel_rfl) (by kernel_rfl) (by kernel_rfl) (Or.inl ⟨?hw2t1, ?hy2t1⟩) ?rest2t1
  case hi2t1 => (simp only [List.getElem?_toArray, List.getElem?_cons_succ, List.getElem?_cons_zero]; rfl)
  case hw2t1 => rfl
  case hy2t1 => (intro w' hw'; go_simp; try with_reducible rfl)
  try simp only [Act.put, List.setIfInBounds_toArray, List.set_cons_zero, List.set_cons_succ]
  refine' j_take (i := 3) (v := _) [4, 7, 8, 9, 10] ?hi3t1 (by kernel_rfl) (by kernel_rfl) (by kernel_rfl) (by kernel_rfl) (by kernel_rfl) (Or.inl ⟨?hw3t1, ?hy3t1⟩) ?rest3t1
  case hi3t1 => (simp only [List.getElem?_toArray, List.getElem?_cons_succ, List.getElem?_cons_zero]; rfl)
  case hw3t1 => rfl
  case hy3t1 => (intro w' hw'; go_simp; try with_reducible rfl)
  try simp only [Act.put, List.setIfInBounds_toArray, List.set_cons_zero, List.set_cons_succ]
  refine' j_take (i := 4) (v := _) [7, 8, 9, 10] ?hi4t1 (by kernel_rfl) (by kernel_rfl) (by kernel_rfl) (by kernel_rfl) (by kernel_rfl) (Or.inl ⟨?hw4t1, ?hy4t1⟩) ?rest4t1
  case hi4t1 => (simp only [List.getElem?_toArray, List.getElem?_cons_succ, List.getElem?_cons_zero]; rfl)
  case hw4t1 => rfl
  case hy4t1 => (intro w' hw'; have q11 : w'.cell? ⟨p, 11, none⟩ = some (.slice Aj K.L.length cj) := (HCU.out _ hw').c11; rw [HL1.out] at q11; go_simp; try with_reducible rfl)
  try simp only [Act.put, List.setIfInBounds_toArray, List.set_cons_zero, List.set_cons_succ]
  refine' j_take (i := 5) (v := _) [6, 7, 8, 9, 10] ?hi5t1 (by kernel_rfl) (by kernel_rfl) (by kernel_rfl) (by kernel_rfl) (by kernel_rfl) (Or.inl ⟨?hw5t1, ?hy5t1⟩) ?rest5t1
  case hi5t1 => (simp only [List.getElem?_toArray, List.getElem?_cons_succ, List.getElem?_cons_zero]; rfl)
  case hw5t1 => rfl
  case hy5t1 => (intro w' hw'; go_simp; try with_reducible rfl)
  try simp only [Act.put, List.setIfInBounds_toArray, List.set_cons_zero, List.set_cons_succ]
  refine' j_take (i := 6) (v := _) [7, 8, 9, 10] ?hi6t1 (by kernel_rfl) (by kernel_rfl) (by kernel_rfl) (by kernel_rfl) (by kernel_rfl) (Or.inl ⟨?hw6t1, ?hy6t1⟩) ?rest6t1
  case hi6t1 => (simp only [List.getElem?_toArray, List.getElem?_cons_succ, List.getElem?_cons_zero]; rfl)
  case hw6t1 => rfl
  case hy6t1 => (intro w' hw'; obtain ⟨q0, q1, q2, q3, q4, q5⟩ := six_cells ((hw'.block gm HGU.out).trans HUZ.out); go_simp; try with_reducible rfl)
  try simp only [Act.put, List.setIfInBounds_toArray, List.set_cons_zero, List.set_cons_succ]
  refine' wpAnyJ_step (i := 7) (o := _) (by kernel_rfl) ?ho7t1 (fun KK hK => ?step7t1)
  case ho7t1 => (simp only [List.getElem?_toArray, List.getElem?_cons_succ, List.getElem?_cons_zero]; rfl)
  go_simp
  rw [← HL1.out, ← HML.out]
  refine (Calls.mono (HJN.out) ?_); rintro e u1 ⟨vj, rfl, hsj, gg, haj⟩
  obtain ⟨Aw, cw, rfl, hsw⟩ := hsj
  have HSJ : Hid (Sl u1 (.slice Aw (joinL K.L mL).length cw) (joinL K.L mL)) := hide ⟨Aw, cw, rfl, hsw⟩
  have HBJ := hide gg
  have HAJ := hide haj
  have HC2a := hide (HC2.out.below gg)
  have S11 : Hid (u1.cell? ⟨p, 11, none⟩ = some (.slice Aj K.L.length cj)) := hide (HCU.out u1 gg).c11
  have SFZ := hide (HC2a.out.frozen.1 11)
  clear hsw haj
  refine hK.out _ _ gg (j_switch gg ?_)
  clear hK KK gg
  try simp only [Act.put, List.setIfInBounds_toArray, List.set_cons_zero, List.set_cons_succ]
  refine' j_take (i := 8) (v := _) [9, 10] ?hi8t1 (by kernel_rfl) (by kernel_rfl) (by kernel_rfl) (by kernel_rfl) (by kernel_rfl) (Or.inl ⟨?hw8t1, ?hy8t1⟩) ?rest8t1
  case hi8t1 => (simp only [List.getElem?_toArray, List.getElem?_cons_succ, List.getElem?_cons_zero]; rfl)
  case hw8t1 => rfl
  case hy8t1 => (intro w' hw'; go_simp; try with_reducible rfl)
  try simp only [Act.put, List.setIfInBounds_toArray, List.set_cons_zero, List.set_cons_succ]
  refine' j_take (i := 9) (v := _) [10] ?hi9t1 (by kernel_rfl) (by kernel_rfl) (by kernel_rfl) (by kernel_rfl) (by kernel_rfl) (Or.inl ⟨?hw9t1, ?hy9t1⟩) ?rest9t1
  case hi9t1 => (simp only [List.getElem?_toArray, List.getElem?_cons_succ, List.getElem?_cons_zero]; rfl)
  case hw9t1 => rfl
  case hy9t1 => (intro w' hw'; go_simp; try with_reducible rfl)
  try simp only [Act.put, List.setIfInBounds_toArray, List.set_cons_zero, List.set_cons_succ]
  refine' wpAnyJ_last (i := 10) (o := _) (by kernel_rfl) ?ho10t1 (by kernel_rfl) (fun KK hK => ?step10t1)
  case ho10t1 => (simp only [List.getElem?_toArray, List.getElem?_cons_succ, List.getElem?_cons_zero]; rfl)
  have s11 := S11.out
  have sf := SFZ.out
  go_simp
  refine hK.out _ _ ?_
  clear hK KK s11 sf
  try simp only [Act.put, List.setIfInBounds_toArray, List.set_cons_zero, List.set_cons_succ]
  refine wpAnyJ_done (by kernel_rfl) ?_ _
  refine NoPanic.normal ?_
  have hfj : FarV u1 base p cb (.slice Aw (joinL K.L mL).length cw) := by
    rcases HAJ.out with e | e
    · rw [e]; exact (HFAR2.out.up HUB.out.size).up HBJ.out.size
    · intro g hg
      have h1 := e g hg
      have h2 := HC2.out.lt
      have h3 := HC2.out.op
      exact ⟨by omega, by omega, by omega, by omega⟩
  have H3 := hide (HC2a.out.puti HSJ.out hfj)
  have hk3 : Sets (fun g => g = p) u1 (u1.setCell ⟨p, 11, none⟩ (.slice Aw (joinL K.L mL).length cw)) := (Sets.refl (S := fun g => g = p) u1).set (g := p) (fun _ => rfl) 11 _
  have HS3 : Hid (Sets (fun g => g = p ∨ g = cb) w (u1.setCell ⟨p, 11, none⟩ (.slice Aw (joinL K.L mL).length cw))) := hide ((HS2.out.trans (Sets.of (S := fun g => g = p ∨ g = cb) (below_step HUB.out HBJ.out)) (fun _ _ h => h)).trans hk3 (fun _ _ h => .inl h))
  obtain ⟨w3, hw3⟩ : ∃ w3, u1.setCell ⟨p, 11, none⟩ (.slice Aw (joinL K.L mL).length cw) = w3 := ⟨_, rfl⟩
  rw [hw3] at H3 HS3
  rw [hw3]
  clear hw3 hk3 hfj HC2a S11 SFZ HSJ HBJ HAJ HJN HC2 HGU HUZ HCU HUB HCL2 HIT2 HFAR2 HZ2 HS2 H2 HL1
  obtain ⟨K2, hK2⟩ : ∃ K2 : Cs, { K with C := setC K.C f, L := joinL K.L mL } = K2 := ⟨_, rfl⟩
  have HK2 := hide hK2
  have H3 : Hid (CallO w0 w3 base p cb K2) := hide (by rw [← hK2]; exact H3.out)
  have hK2p : K2.ph = 1 ∧ K2.n = K.n ∧ K2.rd = true := by rw [← hK2]; exact ⟨hph, rfl, hr⟩
  obtain ⟨hK2ph, hK2n, hK2r⟩ := hK2p
  have HK2R := hide hK2r
  have HK2P := hide hK2ph
  have HK2N := hide hK2n
  have HKC : Hid (K2.C = setC K.C f) := hide (by rw [← hK2])
  have hcn : cntC K2.C n = cntC (setC K.C f) n := by rw [HKC.out]
  rw [← hcn] at hfull hle
  obtain ⟨q, hq, hq7⟩ : ∃ q, cntC K2.C n = q ∧ q ≤ 7 := ⟨_, rfl, by have := cntC_le K2.C n; omega⟩
  rw [hq] at hfull hle
  have HALL : Hid (∀ W : World, Below w3.heap.size w3 W → Calls Try.prog 40 #[.pointer (some ⟨p, 0, none⟩)] W fun e w' => e = .returned (.int .i64 (q : Nat)) ∧ Below W.heap.size W w') := hide (fun W hW => by
    refine Calls.mono (rcall_any (H3.out.below hW) (by rw [hK2n, HNN.out]; exact hn)) ?_
    rintro e w' ⟨rfl, rfl⟩
    rw [hK2n, HNN.out, hq]
    exact ⟨rfl, Below.refl _ _⟩)
  have d1 : w3.cell? ⟨p, 1, none⟩ = some (.int .i64 n) := by
    obtain ⟨_, _, _, hx⟩ := H3.out.cells
    have := (hx w3 (Below.refl _ _)).c1
    rw [hK2n, HNN.out] at this
    exact this
  have hp3 : p < w3.heap.size := H3.out.lt.1
  have rd1 := fun s : Near w3 => s.cell d1 hp3
  clear hK2 hcn hK2ph hK2n hK2r
  go_upto_region 12 with fail
  refine wp_region_near (by kernel_rfl) (by kernel_rfl) ?_
  repeat (go_big_quiet_step ((first | (go_at_call 40; exact near_of (HALL.out _ (Near.is _))))))
  refine wpQuiet_nil ?_
  intro _ hw'
  obtain ⟨s4, rfl⟩ := hw'
  have H4 := hide (H3.out.below s4.is)
  have HS4 : Hid (Sets (fun g => g = p ∨ g = cb) w s4.at_) := hide (HS3.out.trans (Sets.of (S := fun g => g = p ∨ g = cb) s4.is) (fun _ _ h => h))
  obtain ⟨w4, hw4⟩ : ∃ w4, s4.at_ = w4 := ⟨_, rfl⟩
  rw [hw4] at H4 HS4
  rw [hw4]
  clear d1 hp3 rd1 hw4 HALL H3 HS3
  have HTK : Hid (takeK K ⟨mk, (f : Int), mt, mi, K.ver, mA, mc, mL⟩ = K2) := hide (by rw [← HK2.out]; unfold takeK; rw [if_pos hph]; rfl)
  have hqn : (q : Int) < (n : Int) := by omega
  go_wp2_with fail
  refine bodyPost_ret (v := .tuple #[.bool true, .slice none 0 0]) (by simp [results, Try.results38]) rfl ?_
  exact ⟨true, none, 0, [], cb, rfl, stay_nil _ _, rfl, by rw [HTK.out]; exact H4.out, HS4.out⟩
set_option maxRecDepth 100000 in
set_option maxHeartbeats 3200000 in
theorem rcon_more2 {w0 w : World} {base p cb : Nat} {K : Cs} (h : CallO w0 w base p cb K) (hr : K.rd = true) (hn : K.n ≤ 7) (m : Mg) (hm : m.rd w0) {f : Nat} (hf : m.f = (f : Int)) (hfn : f < K.n) (hph : K.ph = 2) (hk : m.k = 9) (hv : m.n = K.ver) (hc : K.C f = false) (hLL : K.L.length ≤ 274877906944 ∧ m.L.length ≤ 274877906944) (hfull : ¬ (cntC (setC K.C f) K.n = K.n)) :
    Calls Try.prog 38 #[.pointer (some ⟨p, 0, none⟩), m.val] w (RcP w0 w base p cb (takeK K m) []) := by
  obtain ⟨mk, mf, mt, mi, mv, mA, mc, mL⟩ := m
  simp only at hk hv hLL hf hm
  subst hf
  subst hv
  have HKE := hide hk
  have HLL := hide hLL
  clear hk hLL
  obtain ⟨ml, hml⟩ : ∃ ml, mL.length = ml := ⟨_, rfl⟩
  have HML := hide hml
  have HM := hide hm
  have hba := below_alloc (Below.refl w.heap.size w) (.cells #[.int .i64 mk, .int .i64 f, .int .i64 mt, .int .u64 mi, .int .u64 K.ver, .slice mA ml mc] 30)
  have hz := heap_alloc_new w (.cells #[.int .i64 mk, .int .i64 f, .int .i64 mt, .int .u64 mi, .int .u64 K.ver, .slice mA ml mc] 30)
  obtain ⟨w1, hw1⟩ : ∃ w1, w.alloc (.cells #[.int .i64 mk, .int .i64 f, .int .i64 mt, .int .u64 mi, .int .u64 K.ver, .slice mA ml mc] 30) = w1 := ⟨_, rfl⟩
  rw [hw1] at hba hz
  obtain ⟨gm, hgm⟩ : ∃ gm, w.heap.size = gm := ⟨_, rfl⟩
  rw [hgm] at hz
  have h1 := h.below hba
  have hlt := h.lt
  have hgp : gm ≠ p := by omega
  have hgc : gm ≠ cb := by omega
  obtain ⟨Ai, ci, hit, hcl⟩ := h1.cells
  have HCL := hide hcl
  have HIT := hide hit
  have H1 := hide h1
  have HH := hide h
  have HBA := hide hba
  have HZ := hide hz
  have HW1 := hide hw1
  have HGM := hide hgm
  obtain ⟨n, hnn⟩ : ∃ n, K.n = n := ⟨_, rfl⟩
  have HNN := hide hnn
  rw [hnn] at hfn hn
  have hpl := h1.lt
  have hgl := (Array.getElem?_eq_some_iff.1 hz).1
  have hfI : (f : Int) < (n : Int) := by omega
  have hf0 : (0 : Int) ≤ (f : Int) := by omega
  clear hlt hcl hit h1 h hba hz hw1 hgm hm hnn
  show Calls Try.prog 38 #[.pointer (some ⟨p, 0, none⟩), .agg #[.int .i64 mk, .int .i64 f, .int .i64 mt, .int .u64 mi, .int .u64 K.ver, .slice mA mL.length mc]] w _
  rw [hml]
  clear hml
  go_enter Try.func38, Try.ntmps38
  go_upto_region 1 with fail
  rw [HW1.out, HGM.out]
  clear HW1
  obtain ⟨m0, m1, m2, m3, m4, m5⟩ := six_cells HZ.out
  obtain ⟨c0, c1, c2, c3, c4, c5, c6, c7, c8, c9, c10, c11, c13, c14, cc⟩ := HCL.out w1 (Below.refl _ _)
  rw [HNN.out] at c1 c10
  have hck := cc f (by rw [HNN.out]; exact hfn)
  clear cc c4 c5 c6 c7 c13
  rw [HKE.out] at m0
  rw [hc] at hck
  rw [hph] at c9
  rw [HNN.out] at hfull
  have hle := cntC_le (setC K.C f) n
  go_upto_region 7 with fail
  go_region
  go_upto_region 9 with fail
  obtain ⟨wa, hwa⟩ : ∃ wa, w1.drew = wa := ⟨_, rfl⟩
  have HBA1 : Hid (Below w1.heap.size w1 wa) := hide (by rw [← hwa]; exact (Below.refl _ _).drew)
  have H1a := hide (H1.out.below HBA1.out)
  rw [hwa]
  clear c0 c1 c2 c3 c8 c9 c10 c11 c14 hck m0 m1 m2 m3 m4 m5 hwa
  obtain ⟨m0, m1, m2, m3, m4, m5⟩ := six_cells ((HBA1.out.block gm hgl).trans HZ.out)
  obtain ⟨c0, c1, c2, c3, c4, c5, c6, c7, c8, c9, c10, c11, c13, c14, cc⟩ := HCL.out wa HBA1.out
  rw [HNN.out] at c10
  have hck := cc f (by rw [HNN.out]; exact hfn)
  obtain ⟨_, fz⟩ := H1a.out.frozen
  have fzf := fz f
  have hca : cb < wa.heap.size := H1a.out.lt.2
  clear cc c0 c1 c2 c3 c4 c5 c6 c7 c8 c9 c11 c13 c14 fz
  go_region
  obtain ⟨wb, hwb⟩ : ∃ wb, ((wa.drew).setCell ⟨cb, f, none⟩ (.bool true)) = wb := ⟨_, rfl⟩
  have H1b := hide (H1a.out.below (Below.refl wa.heap.size wa).drew)
  have hk2 : Sets (fun g => g = cb) wa ((wa.drew).setCell ⟨cb, f, none⟩ (.bool true)) := (Sets.refl (S := fun g => g = cb) wa).drew.set (g := cb) (fun _ => rfl) f _
  have h2 : CallO w0 ((wa.drew).setCell ⟨cb, f, none⟩ (.bool true)) base p cb { K with C := setC K.C f } := H1b.out.mark (by rw [HNN.out]; exact hfn)
  rw [hwb] at hk2 h2
  have hz2 : wb.heap[gm]? = some (.cells #[.int .i64 mk, .int .i64 f, .int .i64 mt, .int .u64 mi, .int .u64 K.ver, .slice mA ml mc] 30 (0, 0)) := (hk2.block gm (Nat.lt_of_lt_of_le hgl HBA1.out.size) hgc).trans ((HBA1.out.block gm hgl).trans HZ.out)
  have HZ2 := hide hz2
  have H2 := hide h2
  have HS2 : Hid (Sets (fun g => g = p ∨ g = cb) w wb) := hide ((Sets.of (S := fun g => g = p ∨ g = cb) (below_step HBA.out HBA1.out)).trans hk2 (fun _ _ h => .inr h))
  go_upto_region 10 with fail
  (first | rw [hwb] | (rw [show ((wa.setCell ⟨cb, f, none⟩ (.bool true)).drew) = ((wa.drew).setCell ⟨cb, f, none⟩ (.bool true)) from rfl]; rw [hwb]))
  have hgb : gm < wb.heap.size := (Array.getElem?_eq_some_iff.1 hz2).1
  clear hwb hk2 h2 hz2 m0 m1 m2 m3 m4 m5 c10 hck fzf H1 H1a H1b HCL HIT HZ HBA1 hca
  obtain ⟨Aj, cj, hit2, hfar2, hcl2⟩ := H2.out.cellsF
  have HCL2 := hide hcl2
  have HIT2 := hide hit2
  have HFAR2 := hide hfar2
  clear hit2 hcl2 hfar2
  have c9 : wb.cell? ⟨p, 9, none⟩ = some (.int .i64 K.ph) := (HCL2.out wb (Below.refl _ _)).c9
  rw [hph] at c9
  go_upto_region 12 with fail
  obtain ⟨w3, hw3⟩ : ∃ w3, wb = w3 := ⟨_, rfl⟩
  obtain ⟨K2, hK2⟩ : ∃ K2 : Cs, { K with C := setC K.C f } = K2 := ⟨_, rfl⟩
  have HK2 := hide hK2
  have H3 : Hid (CallO w0 wb base p cb K2) := hide (by rw [← hK2]; exact H2.out)
  have HS3 := HS2
  have hK2p : K2.ph = 2 ∧ K2.n = K.n ∧ K2.rd = true := by rw [← hK2]; exact ⟨hph, rfl, hr⟩
  clear HCL2 HIT2 HFAR2 HZ2 HS2 H2 hgb
  rw [hw3] at H3 HS3
  rw [hw3]
  clear hw3 c9
  obtain ⟨hK2ph, hK2n, hK2r⟩ := hK2p
  have HK2R := hide hK2r
  have HK2P := hide hK2ph
  have HK2N := hide hK2n
  have HKC : Hid (K2.C = setC K.C f) := hide (by rw [← hK2])
  have hcn : cntC K2.C n = cntC (setC K.C f) n := by rw [HKC.out]
  rw [← hcn] at hfull hle
  obtain ⟨q, hq, hq7⟩ : ∃ q, cntC K2.C n = q ∧ q ≤ 7 := ⟨_, rfl, by have := cntC_le K2.C n; omega⟩
  rw [hq] at hfull hle
  have HALL : Hid (∀ W : World, Below w3.heap.size w3 W → Calls Try.prog 40 #[.pointer (some ⟨p, 0, none⟩)] W fun e w' => e = .returned (.int .i64 (q : Nat)) ∧ Below W.heap.size W w') := hide (fun W hW => by
    refine Calls.mono (rcall_any (H3.out.below hW) (by rw [hK2n, HNN.out]; exact hn)) ?_
    rintro e w' ⟨rfl, rfl⟩
    rw [hK2n, HNN.out, hq]
    exact ⟨rfl, Below.refl _ _⟩)
  have d1 : w3.cell? ⟨p, 1, none⟩ = some (.int .i64 n) := by
    obtain ⟨_, _, _, hx⟩ := H3.out.cells
    have := (hx w3 (Below.refl _ _)).c1
    rw [hK2n, HNN.out] at this
    exact this
  have hp3 : p < w3.heap.size := H3.out.lt.1
  have rd1 := fun s : Near w3 => s.cell d1 hp3
  clear hK2 hcn hK2ph hK2n hK2r
  go_upto_region 12 with fail
  refine wp_region_near (by kernel_rfl) (by kernel_rfl) ?_
  repeat (go_big_quiet_step ((first | (go_at_call 40; exact near_of (HALL.out _ (Near.is _))))))
  refine wpQuiet_nil ?_
  intro _ hw'
  obtain ⟨s4, rfl⟩ := hw'
  have H4 := hide (H3.out.below s4.is)
  have HS4 : Hid (Sets (fun g => g = p ∨ g = cb) w s4.at_) := hide (HS3.out.trans (Sets.of (S := fun g => g = p ∨ g = cb) s4.is) (fun _ _ h => h))
  obtain ⟨w4, hw4⟩ : ∃ w4, s4.at_ = w4 := ⟨_, rfl⟩
  rw [hw4] at H4 HS4
  rw [hw4]
  clear d1 hp3 rd1 hw4 HALL H3 HS3
  have HTK : Hid (takeK K ⟨mk, (f : Int), mt, mi, K.ver, mA, mc, mL⟩ = K2) := hide (by rw [← HK2.out]; unfold takeK; rw [if_neg (by omega)]; rfl)
  have hqn : (q : Int) < (n : Int) := by omega
  go_wp2_with fail
  refine bodyPost_ret (v := .tuple #[.bool true, .slice none 0 0]) (by simp [results, Try.results38]) rfl ?_
  exact ⟨true, none, 0, [], cb, rfl, stay_nil _ _, rfl, by rw [HTK.out]; exact H4.out, HS4.out⟩
set_option maxRecDepth 100000 in
set_option maxHeartbeats 3200000 in
theorem rcon_fill {w0 w : World} {base p cb : Nat} {K : Cs} (h : CallO w0 w base p cb K) (hr : K.rd = true) (hn : K.n ≤ 7) (m : Mg) (hm : m.rd w0) {f : Nat} (hf : m.f = (f : Int)) (hfn : f < K.n) (hph : K.ph = 1) (hk : m.k = 7) (hv : m.n = K.ver) (hc : K.C f = false) (hLL : K.L.length ≤ 274877906944 ∧ m.L.length ≤ 274877906944) (hfull : (cntC (setC K.C f) K.n = K.n)) :
    Calls Try.prog 38 #[.pointer (some ⟨p, 0, none⟩), m.val] w (RcP w0 w base p cb (fillK (takeK K m)) (sendK (fillK (takeK K m)) true)) := by
  obtain ⟨mk, mf, mt, mi, mv, mA, mc, mL⟩ := m
  simp only at hk hv hLL hf hm
  subst hf
  subst hv
  have HKE := hide hk
  have HLL := hide hLL
  clear hk hLL
  obtain ⟨ml, hml⟩ : ∃ ml, mL.length = ml := ⟨_, rfl⟩
  have HML := hide hml
  have HM := hide hm
  have hba := below_alloc (Below.refl w.heap.size w) (.cells #[.int .i64 mk, .int .i64 f, .int .i64 mt, .int .u64 mi, .int .u64 K.ver, .slice mA ml mc] 30)
  have hz := heap_alloc_new w (.cells #[.int .i64 mk, .int .i64 f, .int .i64 mt, .int .u64 mi, .int .u64 K.ver, .slice mA ml mc] 30)
  obtain ⟨w1, hw1⟩ : ∃ w1, w.alloc (.cells #[.int .i64 mk, .int .i64 f, .int .i64 mt, .int .u64 mi, .int .u64 K.ver, .slice mA ml mc] 30) = w1 := ⟨_, rfl⟩
  rw [hw1] at hba hz
  obtain ⟨gm, hgm⟩ : ∃ gm, w.heap.size = gm := ⟨_, rfl⟩
  rw [hgm] at hz
  have h1 := h.below hba
  have hlt := h.lt
  have hgp : gm ≠ p := by omega
  have hgc : gm ≠ cb := by omega
  obtain ⟨Ai, ci, hit, hcl⟩ := h1.cells
  have HCL := hide hcl
  have HIT := hide hit
  have H1 := hide h1
  have HH := hide h
  have HBA := hide hba
  have HZ := hide hz
  have HW1 := hide hw1
  have HGM := hide hgm
  obtain ⟨n, hnn⟩ : ∃ n, K.n = n := ⟨_, rfl⟩
  have HNN := hide hnn
  rw [hnn] at hfn hn
  have hpl := h1.lt
  have hgl := (Array.getElem?_eq_some_iff.1 hz).1
  have hfI : (f : Int) < (n : Int) := by omega
  have hf0 : (0 : Int) ≤ (f : Int) := by omega
  clear hlt hcl hit h1 h hba hz hw1 hgm hm hnn
  show Calls Try.prog 38 #[.pointer (some ⟨p, 0, none⟩), .agg #[.int .i64 mk, .int .i64 f, .int .i64 mt, .int .u64 mi, .int .u64 K.ver, .slice mA mL.length mc]] w _
  rw [hml]
  clear hml
  go_enter Try.func38, Try.ntmps38
  go_upto_region 1 with fail
  rw [HW1.out, HGM.out]
  clear HW1
  obtain ⟨m0, m1, m2, m3, m4, m5⟩ := six_cells HZ.out
  obtain ⟨c0, c1, c2, c3, c4, c5, c6, c7, c8, c9, c10, c11, c13, c14, cc⟩ := HCL.out w1 (Below.refl _ _)
  rw [HNN.out] at c1 c10
  have hck := cc f (by rw [HNN.out]; exact hfn)
  clear cc c4 c5 c6 c7 c13
  rw [HKE.out] at m0
  rw [hc] at hck
  rw [hph] at c9
  rw [HNN.out] at hfull
  have hle := cntC_le (setC K.C f) n
  go_upto_region 7 with fail
  go_region
  go_upto_region 9 with fail
  obtain ⟨wa, hwa⟩ : ∃ wa, w1.drew = wa := ⟨_, rfl⟩
  have HBA1 : Hid (Below w1.heap.size w1 wa) := hide (by rw [← hwa]; exact (Below.refl _ _).drew)
  have H1a := hide (H1.out.below HBA1.out)
  rw [hwa]
  clear c0 c1 c2 c3 c8 c9 c10 c11 c14 hck m0 m1 m2 m3 m4 m5 hwa
  obtain ⟨m0, m1, m2, m3, m4, m5⟩ := six_cells ((HBA1.out.block gm hgl).trans HZ.out)
  obtain ⟨c0, c1, c2, c3, c4, c5, c6, c7, c8, c9, c10, c11, c13, c14, cc⟩ := HCL.out wa HBA1.out
  rw [HNN.out] at c10
  have hck := cc f (by rw [HNN.out]; exact hfn)
  obtain ⟨_, fz⟩ := H1a.out.frozen
  have fzf := fz f
  have hca : cb < wa.heap.size := H1a.out.lt.2
  clear cc c0 c1 c2 c3 c4 c5 c6 c7 c8 c9 c11 c13 c14 fz
  go_region
  obtain ⟨wb, hwb⟩ : ∃ wb, ((wa.drew).setCell ⟨cb, f, none⟩ (.bool true)) = wb := ⟨_, rfl⟩
  have H1b := hide (H1a.out.below (Below.refl wa.heap.size wa).drew)
  have hk2 : Sets (fun g => g = cb) wa ((wa.drew).setCell ⟨cb, f, none⟩ (.bool true)) := (Sets.refl (S := fun g => g = cb) wa).drew.set (g := cb) (fun _ => rfl) f _
  have h2 : CallO w0 ((wa.drew).setCell ⟨cb, f, none⟩ (.bool true)) base p cb { K with C := setC K.C f } := H1b.out.mark (by rw [HNN.out]; exact hfn)
  rw [hwb] at hk2 h2
  have hz2 : wb.heap[gm]? = some (.cells #[.int .i64 mk, .int .i64 f, .int .i64 mt, .int .u64 mi, .int .u64 K.ver, .slice mA ml mc] 30 (0, 0)) := (hk2.block gm (Nat.lt_of_lt_of_le hgl HBA1.out.size) hgc).trans ((HBA1.out.block gm hgl).trans HZ.out)
  have HZ2 := hide hz2
  have H2 := hide h2
  have HS2 : Hid (Sets (fun g => g = p ∨ g = cb) w wb) := hide ((Sets.of (S := fun g => g = p ∨ g = cb) (below_step HBA.out HBA1.out)).trans hk2 (fun _ _ h => .inr h))
  go_upto_region 10 with fail
  (first | rw [hwb] | (rw [show ((wa.setCell ⟨cb, f, none⟩ (.bool true)).drew) = ((wa.drew).setCell ⟨cb, f, none⟩ (.bool true)) from rfl]; rw [hwb]))
  have hgb : gm < wb.heap.size := (Array.getElem?_eq_some_iff.1 hz2).1
  clear hwb hk2 h2 hz2 m0 m1 m2 m3 m4 m5 c10 hck fzf H1 H1a H1b HCL HIT HZ HBA1 hca
  obtain ⟨Aj, cj, hit2, hfar2, hcl2⟩ := H2.out.cellsF
  have HCL2 := hide hcl2
  have HIT2 := hide hit2
  have HFAR2 := hide hfar2
  clear hit2 hcl2 hfar2
  have c9 : wb.cell? ⟨p, 9, none⟩ = some (.int .i64 K.ph) := (HCL2.out wb (Below.refl _ _)).c9
  rw [hph] at c9
  go_upto_region 11 with fail
  obtain ⟨ud, hud⟩ : ∃ ud, wb.drew = ud := ⟨_, rfl⟩
  have HUB : Hid (Below wb.heap.size wb ud) := hide (by rw [← hud]; exact (Below.refl _ _).drew)
  have HCU : Hid (∀ W, Below ud.heap.size ud W → CallC W p cb { K with C := setC K.C f } Aj cj) := hide (fun W hW => HCL2.out W (below_step HUB.out hW))
  have HUZ : Hid (ud.heap[gm]? = some (.cells #[.int .i64 mk, .int .i64 f, .int .i64 mt, .int .u64 mi, .int .u64 K.ver, .slice mA ml mc] 30 (0, 0))) := hide ((HUB.out.block gm hgb).trans HZ2.out)
  have HGU : Hid (gm < ud.heap.size) := hide (Nat.lt_of_lt_of_le hgb HUB.out.size)
  have HC2 := hide (H2.out.below HUB.out)
  obtain ⟨l1, hl1⟩ : ∃ l1, K.L.length = l1 := ⟨_, rfl⟩
  have HL1 := hide hl1
  have HJN := hide (rjoin_al (v := .slice Aj K.L.length cj) (u := .slice mA mL.length mc) (L := K.L) (M := mL) (w := ud) ⟨Aj, cj, rfl, HIT2.out.1.below HUB.out, HIT2.out.2.1, HIT2.out.2.2⟩ ⟨mA, mc, rfl, HM.out.1.below HC2.out.low, HM.out.2.1, HM.out.2.2⟩ HLL.out.1 HLL.out.2)
  clear hl1 c9 hgb
  refine j_startD [10] hud (by kernel_rfl) ?_
  clear hud
  refine' j_take (i := 0) (v := _) [8, 9, 10] ?hi0t2 (by kernel_rfl) (by kernel_rfl) (by kernel_rfl) (by kernel_rfl) (by kernel_rfl) (Or.inl ⟨?hw0t2, ?hy0t2⟩) ?rest0t2
  case hi0t2 => (simp only [List.getElem?_toArray, List.getElem?_cons_succ, List.getElem?_cons_zero]; rfl)
  case hw0t2 => rfl
  case hy0t2 => (intro w' hw'; go_simp; try with_reducible rfl)
  try simp only [Act.put, List.setIfInBounds_toArray, List.set_cons_zero, List.set_cons_succ]
  refine' j_take (i := 1) (v := _) [2, 3, 4, 7, 8, 9, 10] ?hi1t2 (by kernel_rfl) (by kernel_rfl) (by kernel_rfl) (by kernel_rfl) (by kernel_rfl) (Or.inl ⟨?hw1t2, ?hy1t2⟩) ?rest1t2
  case hi1t2 => (simp only [List.getElem?_toArray, List.getElem?_cons_succ, List.getElem?_cons_zero]; rfl)
  case hw1t2 => rfl
  case hy1t2 => (intro w' hw'; go_simp; try with_reducible rfl)
  try simp only [Act.put, List.setIfInBounds_toArray, List.set_cons_zero, List.set_cons_succ]
  refine' j_take (i := 2) (v := _) [3, 4, 7, 8, 9, 10] ?hi2t2 (by kernel_rfl) (by kernel_rfl) (by kernel_rfl) (by kernel_rfl) (by kernel_rfl) (Or.inl ⟨?hw2t2, ?hy2t2⟩) ?rest2t2
  case hi2t2 => (simp only [List.getElem?_toArray, List.getElem?_cons_succ, List.getElem?_cons_zero]; rfl)
  case hw2t2 => rfl
  case hy2t2 => (intro w' hw'; go_simp; try with_reducible rfl)
  try simp only [Act.put, List.setIfInBounds_toArray, List.set_cons_zero, List.set_cons_succ]
  refine' j_take (i := 3) (v := _) [4, 7, 8, 9, 10] ?hi3t2 (by kernel_rfl) (by kernel_rfl) (by kernel_rfl) (by kernel_rfl) (by kernel_rfl) (Or.inl ⟨?hw3t2, ?hy3t2⟩) ?rest3t2
  case hi3t2 => (simp only [List.getElem?_toArray, List.getElem?_cons_succ, List.getElem?_cons_zero]; rfl)
  case hw3t2 => rfl
  case hy3t2 => (intro w' hw'; go_simp; try with_reducible rfl)
  try simp only [Act.put, List.setIfInBounds_toArray, List.set_cons_zero, List.set_cons_succ]
  refine' j_take (i := 4) (v := _) [7, 8, 9, 10] ?hi4t2 (by kernel_rfl) (by kernel_rfl) (by kernel_rfl) (by kernel_rfl) (by kernel_rfl) (Or.inl ⟨?hw4t2, ?hy4t2⟩) ?rest4t2
  case hi4t2 => (simp only [List.getElem?_toArray, List.getElem?_cons_succ, List.getElem?_cons_zero]; rfl)
  case hw4t2 => rfl
  case hy4t2 => (intro w' hw'; have q11 : w'.cell? ⟨p, 11, none⟩ = some (.slice Aj K.L.length cj) := (HCU.out _ hw').c11; rw [HL1.out] at q11; go_simp; try with_reducible rfl)
  try simp only [Act.put, List.setIfInBounds_toArray, List.set_cons_zero, List.set_cons_succ]
  refine' j_take (i := 5) (v := _) [6, 7, 8, 9, 10] ?hi5t2 (by kernel_rfl) (by kernel_rfl) (by kernel_rfl) (by kernel_rfl) (by kernel_rfl) (Or.inl ⟨?hw5t2, ?hy5t2⟩) ?rest5t2
  case hi5t2 => (simp only [List.getElem?_toArray, List.getElem?_cons_succ, List.getElem?_cons_zero]; rfl)
  case hw5t2 => rfl
  case hy5t2 => (intro w' hw'; go_simp; try with_reducible rfl)
  try simp only [Act.put, List.setIfInBounds_toArray, List.set_cons_zero, List.set_cons_succ]
  refine' j_take (i := 6) (v := _) [7, 8, 9, 10] ?hi6t2 (by kernel_rfl) (by kernel_rfl) (by kernel_rfl) (by kernel_rfl) (by kernel_rfl) (Or.inl ⟨?hw6t2, ?hy6t2⟩) ?rest6t2
  case hi6t2 => (simp only [List.getElem?_toArray, List.getElem?_cons_succ, List.getElem?_cons_zero]; rfl)
  case hw6t2 => rfl
  case hy6t2 => (intro w' hw'; obtain ⟨q0, q1, q2, q3, q4, q5⟩ := six_cells ((hw'.block gm HGU.out).trans HUZ.out); go_simp; try with_reducible rfl)
  try simp only [Act.put, List.setIfInBounds_toArray, List.set_cons_zero, List.set_cons_succ]
  refine' wpAnyJ_step (i := 7) (o := _) (by kernel_rfl) ?ho7t2 (fun KK hK => ?step7t2)
  case ho7t2 => (simp only [List.getElem?_toArray, List.getElem?_cons_succ, List.getElem?_cons_zero]; rfl)
  go_simp
  rw [← HL1.out, ← HML.out]
  refine (Calls.mono (HJN.out) ?_); rintro e u1 ⟨vj, rfl, hsj, gg, haj⟩
  obtain ⟨Aw, cw, rfl, hsw⟩ := hsj
  have HSJ : Hid (Sl u1 (.slice Aw (joinL K.L mL).length cw) (joinL K.L mL)) := hide ⟨Aw, cw, rfl, hsw⟩
  have HBJ := hide gg
  have HAJ := hide haj
  have HC2a := hide (HC2.out.below gg)
  have S11 : Hid (u1.cell? ⟨p, 11, none⟩ = some (.slice Aj K.L.length cj)) := hide (HCU.out u1 gg).c11
  have SFZ := hide (HC2a.out.frozen.1 11)
  clear hsw haj
  refine hK.out _ _ gg (j_switch gg ?_)
  clear hK KK gg
  try simp only [Act.put, List.setIfInBounds_toArray, List.set_cons_zero, List.set_cons_succ]
  refine' j_take (i := 8) (v := _) [9, 10] ?hi8t2 (by kernel_rfl) (by kernel_rfl) (by kernel_rfl) (by kernel_rfl) (by kernel_rfl) (Or.inl ⟨?hw8t2, ?hy8t2⟩) ?rest8t2
  case hi8t2 => (simp only [List.getElem?_toArray, List.getElem?_cons_succ, List.getElem?_cons_zero]; rfl)
  case hw8t2 => rfl
  case hy8t2 => (intro w' hw'; go_simp; try with_reducible rfl)
  try simp only [Act.put, List.setIfInBounds_toArray, List.set_cons_zero, List.set_cons_succ]
  refine' j_take (i := 9) (v := _) [10] ?hi9t2 (by kernel_rfl) (by kernel_rfl) (by kernel_rfl) (by kernel_rfl) (by kernel_rfl) (Or.inl ⟨?hw9t2, ?hy9t2⟩) ?rest9t2
  case hi9t2 => (simp only [List.getElem?_toArray, List.getElem?_cons_succ, List.getElem?_cons_zero]; rfl)
  case hw9t2 => rfl
  case hy9t2 => (intro w' hw'; go_simp; try with_reducible rfl)
  try simp only [Act.put, List.setIfInBounds_toArray, List.set_cons_zero, List.set_cons_succ]
  refine' wpAnyJ_last (i := 10) (o := _) (by kernel_rfl) ?ho10t2 (by kernel_rfl) (fun KK hK => ?step10t2)
  case ho10t2 => (simp only [List.getElem?_toArray, List.getElem?_cons_succ, List.getElem?_cons_zero]; rfl)
  have s11 := S11.out
  have sf := SFZ.out
  go_simp
  refine hK.out _ _ ?_
  clear hK KK s11 sf
  try simp only [Act.put, List.setIfInBounds_toArray, List.set_cons_zero, List.set_cons_succ]
  refine wpAnyJ_done (by kernel_rfl) ?_ _
  refine NoPanic.normal ?_
  have hfj : FarV u1 base p cb (.slice Aw (joinL K.L mL).length cw) := by
    rcases HAJ.out with e | e
    · rw [e]; exact (HFAR2.out.up HUB.out.size).up HBJ.out.size
    · intro g hg
      have h1 := e g hg
      have h2 := HC2.out.lt
      have h3 := HC2.out.op
      exact ⟨by omega, by omega, by omega, by omega⟩
  have H3 := hide (HC2a.out.puti HSJ.out hfj)
  have hk3 : Sets (fun g => g = p) u1 (u1.setCell ⟨p, 11, none⟩ (.slice Aw (joinL K.L mL).length cw)) := (Sets.refl (S := fun g => g = p) u1).set (g := p) (fun _ => rfl) 11 _
  have HS3 : Hid (Sets (fun g => g = p ∨ g = cb) w (u1.setCell ⟨p, 11, none⟩ (.slice Aw (joinL K.L mL).length cw))) := hide ((HS2.out.trans (Sets.of (S := fun g => g = p ∨ g = cb) (below_step HUB.out HBJ.out)) (fun _ _ h => h)).trans hk3 (fun _ _ h => .inl h))
  obtain ⟨w3, hw3⟩ : ∃ w3, u1.setCell ⟨p, 11, none⟩ (.slice Aw (joinL K.L mL).length cw) = w3 := ⟨_, rfl⟩
  rw [hw3] at H3 HS3
  rw [hw3]
  clear hw3 hk3 hfj HC2a S11 SFZ HSJ HBJ HAJ HJN HC2 HGU HUZ HCU HUB HCL2 HIT2 HFAR2 HZ2 HS2 H2 HL1
  obtain ⟨K2, hK2⟩ : ∃ K2 : Cs, { K with C := setC K.C f, L := joinL K.L mL } = K2 := ⟨_, rfl⟩
  have HK2 := hide hK2
  have H3 : Hid (CallO w0 w3 base p cb K2) := hide (by rw [← hK2]; exact H3.out)
  have hK2p : K2.ph = 1 ∧ K2.n = K.n ∧ K2.rd = true := by rw [← hK2]; exact ⟨hph, rfl, hr⟩
  obtain ⟨hK2ph, hK2n, hK2r⟩ := hK2p
  have HK2R := hide hK2r
  have HK2P := hide hK2ph
  have HK2N := hide hK2n
  have HKC : Hid (K2.C = setC K.C f) := hide (by rw [← hK2])
  have hcn : cntC K2.C n = cntC (setC K.C f) n := by rw [HKC.out]
  rw [← hcn] at hfull hle
  obtain ⟨q, hq, hq7⟩ : ∃ q, cntC K2.C n = q ∧ q ≤ 7 := ⟨_, rfl, by have := cntC_le K2.C n; omega⟩
  rw [hq] at hfull hle
  have HALL : Hid (∀ W : World, Below w3.heap.size w3 W → Calls Try.prog 40 #[.pointer (some ⟨p, 0, none⟩)] W fun e w' => e = .returned (.int .i64 (q : Nat)) ∧ Below W.heap.size W w') := hide (fun W hW => by
    refine Calls.mono (rcall_any (H3.out.below hW) (by rw [hK2n, HNN.out]; exact hn)) ?_
    rintro e w' ⟨rfl, rfl⟩
    rw [hK2n, HNN.out, hq]
    exact ⟨rfl, Below.refl _ _⟩)
  have d1 : w3.cell? ⟨p, 1, none⟩ = some (.int .i64 n) := by
    obtain ⟨_, _, _, hx⟩ := H3.out.cells
    have := (hx w3 (Below.refl _ _)).c1
    rw [hK2n, HNN.out] at this
    exact this
  have hp3 : p < w3.heap.size := H3.out.lt.1
  have rd1 := fun s : Near w3 => s.cell d1 hp3
  clear hK2 hcn hK2ph hK2n hK2r
  go_upto_region 12 with fail
  refine wp_region_near (by kernel_rfl) (by kernel_rfl) ?_
  repeat (go_big_quiet_step ((first | (go_at_call 40; exact near_of (HALL.out _ (Near.is _))))))
  refine wpQuiet_nil ?_
  intro _ hw'
  obtain ⟨s4, rfl⟩ := hw'
  have H4 := hide (H3.out.below s4.is)
  have HS4 : Hid (Sets (fun g => g = p ∨ g = cb) w s4.at_) := hide (HS3.out.trans (Sets.of (S := fun g => g = p ∨ g = cb) s4.is) (fun _ _ h => h))
  obtain ⟨w4, hw4⟩ : ∃ w4, s4.at_ = w4 := ⟨_, rfl⟩
  rw [hw4] at H4 HS4
  rw [hw4]
  clear d1 hp3 rd1 hw4 HALL H3 HS3
  have HTK : Hid (takeK K ⟨mk, (f : Int), mt, mi, K.ver, mA, mc, mL⟩ = K2) := hide (by rw [← HK2.out]; unfold takeK; rw [if_pos hph]; rfl)
  have hqn : ¬ (q : Int) < (n : Int) := by omega
  have HFK : Hid (fillK K2 = { K2 with ph := 2, C := fun _ => false }) := hide rfl
  obtain ⟨_, _, _, hx⟩ := H4.out.cells
  have d9 : w4.cell? ⟨p, 9, none⟩ = some (.int .i64 1) := by rw [← HK2P.out]; exact (hx w4 (Below.refl _ _)).c9
  have e9 : w4.frozen? ⟨p, 9, none⟩ = false := H4.out.frozen.1 9
  have H5 := hide (H4.out.putp { K2 with ph := 2 } 9 (.int .i64 2) (fun _ _ _ => rfl) rfl rfl rfl rfl rfl)
  have hk5 : Sets (fun g => g = p) w4 (w4.setCell ⟨p, 9, none⟩ (.int .i64 2)) := (Sets.refl (S := fun g => g = p) w4).set (g := p) (fun _ => rfl) 9 _
  have HS5 := hide (HS4.out.trans hk5 (fun _ _ h => .inl h))
  obtain ⟨w5, hw5⟩ : ∃ w5, w4.setCell ⟨p, 9, none⟩ (.int .i64 2) = w5 := ⟨_, rfl⟩
  rw [hw5] at H5 HS5
  have HW5 := hide hw5
  clear hx hk5 hw5
  go_upto_region 16 with fail
  rw [HW5.out]
  clear d9 e9 HW5 H4 HS4
  obtain ⟨_, _, _, hx⟩ := H5.out.cells
  have d1 : w5.cell? ⟨p, 1, none⟩ = some (.int .i64 n) := by
    have := (hx w5 (Below.refl _ _)).c1
    rw [show ({ K2 with ph := 2 } : Cs).n = K2.n from rfl, HK2N.out, HNN.out] at this
    exact this
  have d10 : w5.cell? ⟨p, 10, none⟩ = some (.slice (some ⟨cb, 0, none⟩) K2.n K2.n) := (hx w5 (Below.refl _ _)).c10
  have e10 : w5.frozen? ⟨p, 10, none⟩ = false := H5.out.frozen.1 10
  have hpl5 := H5.out.lt.1
  have hmk := fun W => run_make_bools n (by omega) W
  have hb6 := below_alloc (Below.refl w5.heap.size w5) (.cells (cntL n (fun _ => false)).toArray 4)
  have hz6 := heap_alloc_new w5 (.cells (cntL n (fun _ => false)).toArray 4)
  obtain ⟨w6, hw6⟩ : ∃ w6, w5.alloc (.cells (cntL n (fun _ => false)).toArray 4) = w6 := ⟨_, rfl⟩
  rw [hw6] at hb6 hz6
  have hk2n : K2.n = n := by rw [HK2N.out, HNN.out]
  have h7 := H5.out.putc (cb' := w5.heap.size) hb6 (Nat.le_refl _) (by show _ = some (Obj.cells (cntL K2.n (fun _ => false)).toArray 4 (0, 0)); rw [hk2n]; exact hz6)
  have H7 : Hid (CallO w0 (w6.setCell ⟨p, 10, none⟩ (.slice (some ⟨w5.heap.size, 0, none⟩) n n)) base p w5.heap.size (fillK K2)) := hide (by rw [← hk2n]; exact h7)
  have hk7 : Sets (fun g => g = p) w5 (w6.setCell ⟨p, 10, none⟩ (.slice (some ⟨w5.heap.size, 0, none⟩) n n)) := (Sets.of (S := fun g => g = p) hb6).set (g := p) (fun _ => rfl) 10 _
  have HS7 := hide (HS5.out.trans hk7 (fun _ _ h => .inl h))
  have HW6 := hide hw6
  clear hx hb6 hz6 hk7 hw6 h7
  go_upto_region 17 with fail
  rw [← World.setCell_alloc_past _ _ _ _ hpl5, HW6.out]
  obtain ⟨w7, hw7⟩ : ∃ w7, w6.setCell ⟨p, 10, none⟩ (.slice (some ⟨w5.heap.size, 0, none⟩) n n) = w7 := ⟨_, rfl⟩
  rw [hw7] at H7 HS7
  rw [hw7]
  have HSD := hide (rcsends_any H7.out (show (fillK K2).rd = true from HK2R.out) (show (fillK K2).n ≤ 7 by have : (fillK K2).n = n := hk2n; omega))
  clear hw7 HW6 hmk d1 d10 e10 hpl5 hk2n H5 HS5
  go_wp2_with fail
  refine (Calls.mono HSD.out ?_); rintro e w8 ⟨A8, c8, N8, rfl, h81, h83, h84⟩
  have HX8 := hide (And.intro h81 (And.intro h83 h84))
  clear h81 h83 h84 HSD
  go_wp2_with fail
  refine bodyPost_ret (v := .tuple #[.bool true, .slice A8 N8.length c8]) (by simp [results, Try.results38]) rfl ?_
  exact ⟨true, A8, c8, N8, w5.heap.size, rfl, HX8.out.1, by rw [HTK.out]; exact HX8.out.2.1, by rw [HTK.out]; exact H7.out.below HX8.out.2.2, HS7.out.trans (Sets.of (S := fun g => g = p ∨ g = cb) HX8.out.2.2) (fun _ _ h => h)⟩
set_option maxRecDepth 100000 in
set_option maxHeartbeats 3200000 in
theorem rcon_done {w0 w : World} {base p cb : Nat} {K : Cs} (h : CallO w0 w base p cb K) (hr : K.rd = true) (hn : K.n ≤ 7) (m : Mg) (hm : m.rd w0) {f : Nat} (hf : m.f = (f : Int)) (hfn : f < K.n) (hph : K.ph = 2) (hk : m.k = 9) (hv : m.n = K.ver) (hc : K.C f = false) (hLL : K.L.length ≤ 274877906944 ∧ m.L.length ≤ 274877906944) (hfull : (cntC (setC K.C f) K.n = K.n)) :
    Calls Try.prog 38 #[.pointer (some ⟨p, 0, none⟩), m.val] w (RcP w0 w base p cb (doneK (takeK K m)) (evenK (doneK (takeK K m)))) := by
  obtain ⟨mk, mf, mt, mi, mv, mA, mc, mL⟩ := m
  simp only at hk hv hLL hf hm
  subst hf
  subst hv
  have HKE := hide hk
  have HLL := hide hLL
  clear hk hLL
  obtain ⟨ml, hml⟩ : ∃ ml, mL.length = ml := ⟨_, rfl⟩
  have HML := hide hml
  have HM := hide hm
  have hba := below_alloc (Below.refl w.heap.size w) (.cells #[.int .i64 mk, .int .i64 f, .int .i64 mt, .int .u64 mi, .int .u64 K.ver, .slice mA ml mc] 30)
  have hz := heap_alloc_new w (.cells #[.int .i64 mk, .int .i64 f, .int .i64 mt, .int .u64 mi, .int .u64 K.ver, .slice mA ml mc] 30)
  obtain ⟨w1, hw1⟩ : ∃ w1, w.alloc (.cells #[.int .i64 mk, .int .i64 f, .int .i64 mt, .int .u64 mi, .int .u64 K.ver, .slice mA ml mc] 30) = w1 := ⟨_, rfl⟩
  rw [hw1] at hba hz
  obtain ⟨gm, hgm⟩ : ∃ gm, w.heap.size = gm := ⟨_, rfl⟩
  rw [hgm] at hz
  have h1 := h.below hba
  have hlt := h.lt
  have hgp : gm ≠ p := by omega
  have hgc : gm ≠ cb := by omega
  obtain ⟨Ai, ci, hit, hcl⟩ := h1.cells
  have HCL := hide hcl
  have HIT := hide hit
  have H1 := hide h1
  have HH := hide h
  have HBA := hide hba
  have HZ := hide hz
  have HW1 := hide hw1
  have HGM := hide hgm
  obtain ⟨n, hnn⟩ : ∃ n, K.n = n := ⟨_, rfl⟩
  have HNN := hide hnn
  rw [hnn] at hfn hn
  have hpl := h1.lt
  have hgl := (Array.getElem?_eq_some_iff.1 hz).1
  have hfI : (f : Int) < (n : Int) := by omega
  have hf0 : (0 : Int) ≤ (f : Int) := by omega
  clear hlt hcl hit h1 h hba hz hw1 hgm hm hnn
  show Calls Try.prog 38 #[.pointer (some ⟨p, 0, none⟩), .agg #[.int .i64 mk, .int .i64 f, .int .i64 mt, .int .u64 mi, .int .u64 K.ver, .slice mA mL.length mc]] w _
  rw [hml]
  clear hml
  go_enter Try.func38, Try.ntmps38
  go_upto_region 1 with fail
  rw [HW1.out, HGM.out]
  clear HW1
  obtain ⟨m0, m1, m2, m3, m4, m5⟩ := six_cells HZ.out
  obtain ⟨c0, c1, c2, c3, c4, c5, c6, c7, c8, c9, c10, c11, c13, c14, cc⟩ := HCL.out w1 (Below.refl _ _)
  rw [HNN.out] at c1 c10
  have hck := cc f (by rw [HNN.out]; exact hfn)
  clear cc c4 c5 c6 c7 c13
  rw [HKE.out] at m0
  rw [hc] at hck
  rw [hph] at c9
  rw [HNN.out] at hfull
  have hle := cntC_le (setC K.C f) n
  go_upto_region 7 with fail
  go_region
  go_upto_region 9 with fail
  obtain ⟨wa, hwa⟩ : ∃ wa, w1.drew = wa := ⟨_, rfl⟩
  have HBA1 : Hid (Below w1.heap.size w1 wa) := hide (by rw [← hwa]; exact (Below.refl _ _).drew)
  have H1a := hide (H1.out.below HBA1.out)
  rw [hwa]
  clear c0 c1 c2 c3 c8 c9 c10 c11 c14 hck m0 m1 m2 m3 m4 m5 hwa
  obtain ⟨m0, m1, m2, m3, m4, m5⟩ := six_cells ((HBA1.out.block gm hgl).trans HZ.out)
  obtain ⟨c0, c1, c2, c3, c4, c5, c6, c7, c8, c9, c10, c11, c13, c14, cc⟩ := HCL.out wa HBA1.out
  rw [HNN.out] at c10
  have hck := cc f (by rw [HNN.out]; exact hfn)
  obtain ⟨_, fz⟩ := H1a.out.frozen
  have fzf := fz f
  have hca : cb < wa.heap.size := H1a.out.lt.2
  clear cc c0 c1 c2 c3 c4 c5 c6 c7 c8 c9 c11 c13 c14 fz
  go_region
  obtain ⟨wb, hwb⟩ : ∃ wb, ((wa.drew).setCell ⟨cb, f, none⟩ (.bool true)) = wb := ⟨_, rfl⟩
  have H1b := hide (H1a.out.below (Below.refl wa.heap.size wa).drew)
  have hk2 : Sets (fun g => g = cb) wa ((wa.drew).setCell ⟨cb, f, none⟩ (.bool true)) := (Sets.refl (S := fun g => g = cb) wa).drew.set (g := cb) (fun _ => rfl) f _
  have h2 : CallO w0 ((wa.drew).setCell ⟨cb, f, none⟩ (.bool true)) base p cb { K with C := setC K.C f } := H1b.out.mark (by rw [HNN.out]; exact hfn)
  rw [hwb] at hk2 h2
  have hz2 : wb.heap[gm]? = some (.cells #[.int .i64 mk, .int .i64 f, .int .i64 mt, .int .u64 mi, .int .u64 K.ver, .slice mA ml mc] 30 (0, 0)) := (hk2.block gm (Nat.lt_of_lt_of_le hgl HBA1.out.size) hgc).trans ((HBA1.out.block gm hgl).trans HZ.out)
  have HZ2 := hide hz2
  have H2 := hide h2
  have HS2 : Hid (Sets (fun g => g = p ∨ g = cb) w wb) := hide ((Sets.of (S := fun g => g = p ∨ g = cb) (below_step HBA.out HBA1.out)).trans hk2 (fun _ _ h => .inr h))
  go_upto_region 10 with fail
  (first | rw [hwb] | (rw [show ((wa.setCell ⟨cb, f, none⟩ (.bool true)).drew) = ((wa.drew).setCell ⟨cb, f, none⟩ (.bool true)) from rfl]; rw [hwb]))
  have hgb : gm < wb.heap.size := (Array.getElem?_eq_some_iff.1 hz2).1
  clear hwb hk2 h2 hz2 m0 m1 m2 m3 m4 m5 c10 hck fzf H1 H1a H1b HCL HIT HZ HBA1 hca
  obtain ⟨Aj, cj, hit2, hfar2, hcl2⟩ := H2.out.cellsF
  have HCL2 := hide hcl2
  have HIT2 := hide hit2
  have HFAR2 := hide hfar2
  clear hit2 hcl2 hfar2
  have c9 : wb.cell? ⟨p, 9, none⟩ = some (.int .i64 K.ph) := (HCL2.out wb (Below.refl _ _)).c9
  rw [hph] at c9
  go_upto_region 12 with fail
  obtain ⟨w3, hw3⟩ : ∃ w3, wb = w3 := ⟨_, rfl⟩
  obtain ⟨K2, hK2⟩ : ∃ K2 : Cs, { K with C := setC K.C f } = K2 := ⟨_, rfl⟩
  have HK2 := hide hK2
  have H3 : Hid (CallO w0 wb base p cb K2) := hide (by rw [← hK2]; exact H2.out)
  have HS3 := HS2
  have hK2p : K2.ph = 2 ∧ K2.n = K.n ∧ K2.rd = true := by rw [← hK2]; exact ⟨hph, rfl, hr⟩
  clear HCL2 HIT2 HFAR2 HZ2 HS2 H2 hgb
  rw [hw3] at H3 HS3
  rw [hw3]
  clear hw3 c9
  obtain ⟨hK2ph, hK2n, hK2r⟩ := hK2p
  have HK2R := hide hK2r
  have HK2P := hide hK2ph
  have HK2N := hide hK2n
  have HKC : Hid (K2.C = setC K.C f) := hide (by rw [← hK2])
  have hcn : cntC K2.C n = cntC (setC K.C f) n := by rw [HKC.out]
  rw [← hcn] at hfull hle
  obtain ⟨q, hq, hq7⟩ : ∃ q, cntC K2.C n = q ∧ q ≤ 7 := ⟨_, rfl, by have := cntC_le K2.C n; omega⟩
  rw [hq] at hfull hle
  have HALL : Hid (∀ W : World, Below w3.heap.size w3 W → Calls Try.prog 40 #[.pointer (some ⟨p, 0, none⟩)] W fun e w' => e = .returned (.int .i64 (q : Nat)) ∧ Below W.heap.size W w') := hide (fun W hW => by
    refine Calls.mono (rcall_any (H3.out.below hW) (by rw [hK2n, HNN.out]; exact hn)) ?_
    rintro e w' ⟨rfl, rfl⟩
    rw [hK2n, HNN.out, hq]
    exact ⟨rfl, Below.refl _ _⟩)
  have d1 : w3.cell? ⟨p, 1, none⟩ = some (.int .i64 n) := by
    obtain ⟨_, _, _, hx⟩ := H3.out.cells
    have := (hx w3 (Below.refl _ _)).c1
    rw [hK2n, HNN.out] at this
    exact this
  have hp3 : p < w3.heap.size := H3.out.lt.1
  have rd1 := fun s : Near w3 => s.cell d1 hp3
  clear hK2 hcn hK2ph hK2n hK2r
  go_upto_region 12 with fail
  refine wp_region_near (by kernel_rfl) (by kernel_rfl) ?_
  repeat (go_big_quiet_step ((first | (go_at_call 40; exact near_of (HALL.out _ (Near.is _))))))
  refine wpQuiet_nil ?_
  intro _ hw'
  obtain ⟨s4, rfl⟩ := hw'
  have H4 := hide (H3.out.below s4.is)
  have HS4 : Hid (Sets (fun g => g = p ∨ g = cb) w s4.at_) := hide (HS3.out.trans (Sets.of (S := fun g => g = p ∨ g = cb) s4.is) (fun _ _ h => h))
  obtain ⟨w4, hw4⟩ : ∃ w4, s4.at_ = w4 := ⟨_, rfl⟩
  rw [hw4] at H4 HS4
  rw [hw4]
  clear d1 hp3 rd1 hw4 HALL H3 HS3
  have HTK : Hid (takeK K ⟨mk, (f : Int), mt, mi, K.ver, mA, mc, mL⟩ = K2) := hide (by rw [← HK2.out]; unfold takeK; rw [if_neg (by omega)]; rfl)
  have hqn : ¬ (q : Int) < (n : Int) := by omega
  obtain ⟨_, _, _, hx⟩ := H4.out.cells
  have d9 : w4.cell? ⟨p, 9, none⟩ = some (.int .i64 2) := by rw [← HK2P.out]; exact (hx w4 (Below.refl _ _)).c9
  have e9 : w4.frozen? ⟨p, 9, none⟩ = false := H4.out.frozen.1 9
  have H5 := hide (H4.out.putp { K2 with ph := 3 } 9 (.int .i64 3) (fun _ _ _ => rfl) rfl rfl rfl rfl rfl)
  have hk5 : Sets (fun g => g = p) w4 (w4.setCell ⟨p, 9, none⟩ (.int .i64 3)) := (Sets.refl (S := fun g => g = p) w4).set (g := p) (fun _ => rfl) 9 _
  have HS5 := hide (HS4.out.trans hk5 (fun _ _ h => .inl h))
  obtain ⟨w5, hw5⟩ : ∃ w5, w4.setCell ⟨p, 9, none⟩ (.int .i64 3) = w5 := ⟨_, rfl⟩
  rw [hw5] at H5 HS5
  have HW5 := hide hw5
  clear hx hk5 hw5
  go_upto_region 19 with fail
  rw [HW5.out]
  clear d9 e9 HW5 H4 HS4
  obtain ⟨_, _, _, hx⟩ := H5.out.cells
  have d8 : w5.cell? ⟨p, 8, none⟩ = some (.int .u64 K2.ver) := (hx w5 (Below.refl _ _)).c8
  have HEN := hide (rcend_any H5.out (show ({ K2 with ph := 3 } : Cs).rd = true from HK2R.out) 0 K2.ver)
  clear hx
  go_wp2_with fail
  refine (Calls.mono HEN.out ?_); rintro e w6 ⟨rfl, hc6, hs6⟩
  have H6 : Hid (CallO w0 w6 base p cb (doneK K2)) := hide hc6
  have HS6 := hide (HS5.out.trans hs6 (fun _ _ h => .inl h))
  have hk2n : K2.n = n := by rw [HK2N.out, HNN.out]
  obtain ⟨_, _, _, hx⟩ := hc6.cells
  have HCL6 : Hid (∀ W : World, Below w6.heap.size w6 W → (W.cell? ⟨p, 2, none⟩ = some (.int .i64 K2.at_) ∧ W.cell? ⟨p, 0, none⟩ = some (.int .u64 K2.id) ∧ W.cell? ⟨p, 8, none⟩ = some (.int .u64 K2.ver)) ∧ W.cell? ⟨p, 1, none⟩ = some (.int .i64 n)) := hide (fun W hW => ⟨⟨(hx W hW).c2, (hx W hW).c0, (hx W hW).c8⟩, by rw [← hk2n]; exact (hx W hW).c1⟩)
  have HK2n := hide hk2n
  clear hx hc6 hs6 HEN H5 HS5 d8 hk2n hfull hle hq
  go_wp2_with fail
  go_loopw [7, 8] (fun v i wr => ∃ (k : Nat) (N : List Mg), i = .int .i64 k ∧ k ≤ n ∧ OwnL Mg.cells 6 30 w6.heap.size wr v N ∧ (∀ x ∈ N, x.A = none ∧ x.c = 0 ∧ x.L = []) ∧ N.map Mg.bare = (List.range k).map (fun (j : Nat) => (⟨10, K2.at_, (j : Int), K2.id, K2.ver, none, 0, []⟩ : Mg)) ∧ Below w6.heap.size w6 wr) (fun _ i _ => 8 - (intOf i).toNat)
  case atStart => exact ⟨0, [], rfl, by omega, OwnL.nil_ _ _ _ _ _, (fun x hx => by cases hx), rfl, Below.refl _ _⟩
  case round =>
    obtain ⟨k, N, rfl, hk, hO, hrd, hN, hb⟩ := hrel
    have HO := hide hO
    have HRD := hide hrd
    have HN := hide hN
    have HB := hide hb
    have d1 := (HCL6.out wr hb).2
    have hNl : N.length ≤ 7 := by
      have h1 := congrArg List.length hN
      simp at h1
      omega
    clear hO hrd hN hb
    by_cases hkn : k < n
    · have hkI : (k : Int) < (n : Int) := by omega
      go_upto_region 24 with fail
      obtain ⟨ud, hud⟩ : ∃ ud, wr.drew = ud := ⟨_, rfl⟩
      have HUB : Hid (Below wr.heap.size wr ud) := hide (by rw [← hud]; exact (Below.refl _ _).drew)
      have HUW := hide (below_step HB.out HUB.out)
      have HCU : Hid (∀ W : World, Below ud.heap.size ud W → (W.cell? ⟨p, 2, none⟩ = some (.int .i64 K2.at_) ∧ W.cell? ⟨p, 0, none⟩ = some (.int .u64 K2.id) ∧ W.cell? ⟨p, 8, none⟩ = some (.int .u64 K2.ver))) := hide (fun W hW => (HCL6.out W (below_step HUW.out hW)).1)
      refine j_startD [16, 17] hud (by kernel_rfl) ?_
      clear hud d1
      refine' j_take (i := 0) (v := _) [16, 17] ?hi0t3 (by kernel_rfl) (by kernel_rfl) (by kernel_rfl) (by kernel_rfl) (by kernel_rfl) (Or.inl ⟨?hw0t3, ?hy0t3⟩) ?rest0t3
      case hi0t3 => (simp only [List.getElem?_toArray, List.getElem?_cons_succ, List.getElem?_cons_zero]; rfl)
      case hw0t3 => rfl
      case hy0t3 => (intro w' hw'; go_simp; try with_reducible rfl)
      try simp only [Act.put, List.setIfInBounds_toArray, List.set_cons_zero, List.set_cons_succ]
      refine' j_take (i := 1) (v := _) [2, 3, 4, 14, 15, 16, 17] ?hi1t3 (by kernel_rfl) (by kernel_rfl) (by kernel_rfl) (by kernel_rfl) (by kernel_rfl) (Or.inl ⟨?hw1t3, ?hy1t3⟩) ?rest1t3
      case hi1t3 => (simp only [List.getElem?_toArray, List.getElem?_cons_succ, List.getElem?_cons_zero]; rfl)
      case hw1t3 => rfl
      case hy1t3 => (intro w' hw'; go_simp; try with_reducible rfl)
      try simp only [Act.put, List.setIfInBounds_toArray, List.set_cons_zero, List.set_cons_succ]
      refine' j_take (i := 2) (v := _) [3, 4, 14, 15, 16, 17] ?hi2t3 (by kernel_rfl) (by kernel_rfl) (by kernel_rfl) (by kernel_rfl) (by kernel_rfl) (Or.inl ⟨?hw2t3, ?hy2t3⟩) ?rest2t3
      case hi2t3 => (simp only [List.getElem?_toArray, List.getElem?_cons_succ, List.getElem?_cons_zero]; rfl)
      case hw2t3 => rfl
      case hy2t3 => (intro w' hw'; go_simp; try with_reducible rfl)
      try simp only [Act.put, List.setIfInBounds_toArray, List.set_cons_zero, List.set_cons_succ]
      refine' j_take (i := 3) (v := _) [4, 14, 15, 16, 17] ?hi3t3 (by kernel_rfl) (by kernel_rfl) (by kernel_rfl) (by kernel_rfl) (by kernel_rfl) (Or.inl ⟨?hw3t3, ?hy3t3⟩) ?rest3t3
      case hi3t3 => (simp only [List.getElem?_toArray, List.getElem?_cons_succ, List.getElem?_cons_zero]; rfl)
      case hw3t3 => rfl
      case hy3t3 => (intro w' hw'; go_simp; try with_reducible rfl)
      try simp only [Act.put, List.setIfInBounds_toArray, List.set_cons_zero, List.set_cons_succ]
      refine' j_take (i := 4) (v := _) [14, 15, 16, 17] ?hi4t3 (by kernel_rfl) (by kernel_rfl) (by kernel_rfl) (by kernel_rfl) (by kernel_rfl) (Or.inl ⟨?hw4t3, ?hy4t3⟩) ?rest4t3
      case hi4t3 => (simp only [List.getElem?_toArray, List.getElem?_cons_succ, List.getElem?_cons_zero]; rfl)
      case hw4t3 => rfl
      case hy4t3 => (intro w' hw'; have q2 := (HCU.out _ hw').1; go_simp; try with_reducible rfl)
      try simp only [Act.put, List.setIfInBounds_toArray, List.set_cons_zero, List.set_cons_succ]
      refine' j_take (i := 5) (v := _) [14, 15, 16, 17] ?hi5t3 (by kernel_rfl) (by kernel_rfl) (by kernel_rfl) (by kernel_rfl) (by kernel_rfl) (Or.inl ⟨?hw5t3, ?hy5t3⟩) ?rest5t3
      case hi5t3 => (simp only [List.getElem?_toArray, List.getElem?_cons_succ, List.getElem?_cons_zero]; rfl)
      case hw5t3 => rfl
      case hy5t3 => (intro w' hw'; go_simp; try with_reducible rfl)
      try simp only [Act.put, List.setIfInBounds_toArray, List.set_cons_zero, List.set_cons_succ]
      refine' j_take (i := 6) (v := _) [7, 8, 9, 14, 15, 16, 17] ?hi6t3 (by kernel_rfl) (by kernel_rfl) (by kernel_rfl) (by kernel_rfl) (by kernel_rfl) (Or.inl ⟨?hw6t3, ?hy6t3⟩) ?rest6t3
      case hi6t3 => (simp only [List.getElem?_toArray, List.getElem?_cons_succ, List.getElem?_cons_zero]; rfl)
      case hw6t3 => rfl
      case hy6t3 => (intro w' hw'; go_simp; try with_reducible rfl)
      try simp only [Act.put, List.setIfInBounds_toArray, List.set_cons_zero, List.set_cons_succ]
      refine' j_take (i := 7) (v := _) [8, 9, 14, 15, 16, 17] ?hi7t3 (by kernel_rfl) (by kernel_rfl) (by kernel_rfl) (by kernel_rfl) (by kernel_rfl) (Or.inl ⟨?hw7t3, ?hy7t3⟩) ?rest7t3
      case hi7t3 => (simp only [List.getElem?_toArray, List.getElem?_cons_succ, List.getElem?_cons_zero]; rfl)
      case hw7t3 => rfl
      case hy7t3 => (intro w' hw'; go_simp; try with_reducible rfl)
      try simp only [Act.put, List.setIfInBounds_toArray, List.set_cons_zero, List.set_cons_succ]
      refine' j_take (i := 8) (v := _) [9, 14, 15, 16, 17] ?hi8t3 (by kernel_rfl) (by kernel_rfl) (by kernel_rfl) (by kernel_rfl) (by kernel_rfl) (Or.inl ⟨?hw8t3, ?hy8t3⟩) ?rest8t3
      case hi8t3 => (simp only [List.getElem?_toArray, List.getElem?_cons_succ, List.getElem?_cons_zero]; rfl)
      case hw8t3 => rfl
      case hy8t3 => (intro w' hw'; go_simp; try with_reducible rfl)
      try simp only [Act.put, List.setIfInBounds_toArray, List.set_cons_zero, List.set_cons_succ]
      refine' j_take (i := 9) (v := _) [14, 15, 16, 17] ?hi9t3 (by kernel_rfl) (by kernel_rfl) (by kernel_rfl) (by kernel_rfl) (by kernel_rfl) (Or.inl ⟨?hw9t3, ?hy9t3⟩) ?rest9t3
      case hi9t3 => (simp only [List.getElem?_toArray, List.getElem?_cons_succ, List.getElem?_cons_zero]; rfl)
      case hw9t3 => rfl
      case hy9t3 => (intro w' hw'; have q0 := (HCU.out _ hw').2.1; go_simp; try with_reducible rfl)
      try simp only [Act.put, List.setIfInBounds_toArray, List.set_cons_zero, List.set_cons_succ]
      refine' j_take (i := 10) (v := _) [11, 12, 13, 14, 15, 16, 17] ?hi10t3 (by kernel_rfl) (by kernel_rfl) (by kernel_rfl) (by kernel_rfl) (by kernel_rfl) (Or.inl ⟨?hw10t3, ?hy10t3⟩) ?rest10t3
      case hi10t3 => (simp only [List.getElem?_toArray, List.getElem?_cons_succ, List.getElem?_cons_zero]; rfl)
      case hw10t3 => rfl
      case hy10t3 => (intro w' hw'; go_simp; try with_reducible rfl)
      try simp only [Act.put, List.setIfInBounds_toArray, List.set_cons_zero, List.set_cons_succ]
      refine' j_take (i := 11) (v := _) [12, 13, 14, 15, 16, 17] ?hi11t3 (by kernel_rfl) (by kernel_rfl) (by kernel_rfl) (by kernel_rfl) (by kernel_rfl) (Or.inl ⟨?hw11t3, ?hy11t3⟩) ?rest11t3
      case hi11t3 => (simp only [List.getElem?_toArray, List.getElem?_cons_succ, List.getElem?_cons_zero]; rfl)
      case hw11t3 => rfl
      case hy11t3 => (intro w' hw'; go_simp; try with_reducible rfl)
      try simp only [Act.put, List.setIfInBounds_toArray, List.set_cons_zero, List.set_cons_succ]
      refine' j_take (i := 12) (v := _) [13, 14, 15, 16, 17] ?hi12t3 (by kernel_rfl) (by kernel_rfl) (by kernel_rfl) (by kernel_rfl) (by kernel_rfl) (Or.inl ⟨?hw12t3, ?hy12t3⟩) ?rest12t3
      case hi12t3 => (simp only [List.getElem?_toArray, List.getElem?_cons_succ, List.getElem?_cons_zero]; rfl)
      case hw12t3 => rfl
      case hy12t3 => (intro w' hw'; go_simp; try with_reducible rfl)
      try simp only [Act.put, List.setIfInBounds_toArray, List.set_cons_zero, List.set_cons_succ]
      refine' j_take (i := 13) (v := _) [14, 15, 16, 17] ?hi13t3 (by kernel_rfl) (by kernel_rfl) (by kernel_rfl) (by kernel_rfl) (by kernel_rfl) (Or.inl ⟨?hw13t3, ?hy13t3⟩) ?rest13t3
      case hi13t3 => (simp only [List.getElem?_toArray, List.getElem?_cons_succ, List.getElem?_cons_zero]; rfl)
      case hw13t3 => rfl
      case hy13t3 => (intro w' hw'; have q8 := (HCU.out _ hw').2.2; go_simp; try with_reducible rfl)
      try simp only [Act.put, List.setIfInBounds_toArray, List.set_cons_zero, List.set_cons_succ]
      refine' j_take (i := 14) (v := _) [15, 16, 17] ?hi14t3 (by kernel_rfl) (by kernel_rfl) (by kernel_rfl) (by kernel_rfl) (by kernel_rfl) (Or.inl ⟨?hw14t3, ?hy14t3⟩) ?rest14t3
      case hi14t3 => (simp only [List.getElem?_toArray, List.getElem?_cons_succ, List.getElem?_cons_zero]; rfl)
      case hw14t3 => rfl
      case hy14t3 => (intro w' hw'; go_simp; try with_reducible rfl)
      try simp only [Act.put, List.setIfInBounds_toArray, List.set_cons_zero, List.set_cons_succ]
      refine' wpAnyJ_step (i := 15) (o := _) (by kernel_rfl) ?ho15t3 (fun KK hK => ?step15t3)
      case ho15t3 => (simp only [List.getElem?_toArray, List.getElem?_cons_succ, List.getElem?_cons_zero]; rfl)
      go_simp
      have ha := below_alloc (Below.refl ud.heap.size ud) (.cells #[.int .i64 10, .int .i64 K2.at_, .int .i64 k, .int .u64 K2.id, .int .u64 K2.ver, .slice none 0 0] 30)
      have HN1 : Hid (RowAt Mg.cells 6 (ud.alloc (.cells #[.int .i64 10, .int .i64 K2.at_, .int .i64 k, .int .u64 K2.id, .int .u64 K2.ver, .slice none 0 0] 30)) (some ⟨ud.heap.size, 0, none⟩) [(⟨10, K2.at_, (k : Int), K2.id, K2.ver, none, 0, []⟩ : Mg)]) := hide (RowAt.new_one (cells := Mg.cells) (sz := 6) (y := ⟨10, K2.at_, (k : Int), K2.id, K2.ver, none, 0, []⟩) (heap_alloc_new ud (.cells #[.int .i64 10, .int .i64 K2.at_, .int .i64 k, .int .u64 K2.id, .int .u64 K2.ver, .slice none 0 0] 30)))
      have HBA2 := hide (below_step HUW.out ha)
      have HOW := hide (OwnL.below HO.out (below_step HUB.out ha))
      refine hK.out _ _ ha (j_switch ha ?_)
      clear hK KK ha
      try simp only [Act.put, List.setIfInBounds_toArray, List.set_cons_zero, List.set_cons_succ]
      refine' wpAnyJ_last (i := 16) (o := _) (by kernel_rfl) ?ho16t3 (by kernel_rfl) (fun KK hK => ?step16t3)
      case ho16t3 => (simp only [List.getElem?_toArray, List.getElem?_cons_succ, List.getElem?_cons_zero]; rfl)
      refine step_app_msg rfl (.tmp 108) (.tmp 123) rfl rfl w6.heap.size _ N rfl HOW.out (some ⟨ud.heap.size, 0, none⟩) 1 1 [(⟨10, K2.at_, (k : Int), K2.id, K2.ver, none, 0, []⟩ : Mg)] rfl rfl HN1.out (by omega) HBA2.out.size ?_
      intro v8 w8 ho8 hg8 hm8
      have HO8 := hide ho8
      have HB8 := hide (HBA2.out.grown hg8 HBA2.out.size (fun q hq => (OwnL.lt HOW.out q hq).1))
      clear ho8 hg8 hm8
      refine hK.out _ _ ?_
      clear hK KK
      try simp only [Act.put, List.setIfInBounds_toArray, List.set_cons_zero, List.set_cons_succ]
      refine' wpAnyJ_last (i := 17) (o := _) (by kernel_rfl) ?ho17t3 (by kernel_rfl) (fun KK hK => ?step17t3)
      case ho17t3 => (simp only [List.getElem?_toArray, List.getElem?_cons_succ, List.getElem?_cons_zero]; rfl)
      go_simp
      refine hK.out _ _ ?_
      clear hK KK
      try simp only [Act.put, List.setIfInBounds_toArray, List.set_cons_zero, List.set_cons_succ]
      refine wpAnyJ_done (by kernel_rfl) ?_ _
      refine NoPanic.normal ?_
      have HS8 : Hid ((N ++ [(⟨10, K2.at_, (k : Int), K2.id, K2.ver, none, 0, []⟩ : Mg)]).map Mg.bare = (List.range (k + 1)).map (fun (j : Nat) => (⟨10, K2.at_, (j : Int), K2.id, K2.ver, none, 0, []⟩ : Mg))) := hide (by rw [List.map_append, HN.out, List.range_succ, List.map_append]; rfl)
      go_wp2_with fail
      go_roundw
      case rel => exact ⟨k + 1, N ++ [(⟨10, K2.at_, (k : Int), K2.id, K2.ver, none, 0, []⟩ : Mg)], by go_num, by omega, HO8.out, (fun y hy => by
        rcases List.mem_append.1 hy with h | h
        · exact HRD.out y h
        · rw [List.mem_singleton.1 h]; exact ⟨rfl, rfl, rfl⟩), HS8.out, HB8.out⟩
      case measure => (simp [intOf] <;> omega)
    · obtain rfl : n = k := by omega
      have hkI : ¬ (n : Int) < (n : Int) := by omega
      obtain ⟨A8, c8, rfl, hr8, hge8, _, _⟩ := OwnL.row Mg.cells_len HO.out
      have HR8 : Hid (Stay base wr A8 N) := hide (stay_of hr8 (fun a ha => by
        have h3 := (hge8 a.block a.off a.spot (by rw [ha])).1
        have h4 := H6.out.lt.1
        have h5 := H6.out.op
        omega) (fun x hx => by obtain ⟨e1, e2, e3⟩ := HRD.out x hx; exact ⟨mg0_rd _ x e1 e3 e2, fun a ha => by rw [e1] at ha; cases ha⟩))
      clear hr8 hge8
      go_wp2_with fail
      refine bodyPost_ret (v := .tuple #[.bool true, .slice A8 N.length c8]) (by simp [results, Try.results38]) rfl ?_
      refine ⟨true, A8, c8, N, cb, rfl, HR8.out, ?_, by rw [HTK.out]; exact H6.out.below HB.out, HS6.out.trans (Sets.of (S := fun g => g = p ∨ g = cb) HB.out) (fun _ _ h => h)⟩
      rw [HTK.out]
      unfold evenK
      rw [show (doneK K2).n = n from HK2n.out]
      exact HN.out
end Go.Proofs.Ytikecafblampeaa
