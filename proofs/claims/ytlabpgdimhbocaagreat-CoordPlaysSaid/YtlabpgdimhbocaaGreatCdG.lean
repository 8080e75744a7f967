/- clepsydraref26.Call of a client's call: On of an answer to a get: a contract. Conditions: the call as it lies; lengths. -/
import Derived.Test.YtlabpgdimhbocaaGreatCdN
namespace Go.Proofs.YtlabpgdimhbocaaGreat
set_option linter.unusedVariables false
set_option linter.unusedSimpArgs false
open Go.ChangeShapes Go.WideShapes Go.ChangeAt Go.RowKit
/-- A call's block with one more kept. -/
theorem CallD.keep {w0 w u u9 : World} {D : Nat → Prop} {p cb : Nat} {K : Cs} {x : Mg} {v : Value} (h : CallD w0 u D p cb K) (hb : Below u.heap.size u u9) (ho : OwnL Mg.cells 6 39 u.heap.size u9 v (K.G ++ [x])) (hx : x.rd w0) (hw : w.heap.size ≤ u.heap.size) (hd : ∀ g, D g → Xn D w u g) (h0 : w0.heap.size ≤ w.heap.size) :
    CallD w0 (u9.setCell ⟨p, 12, none⟩ v) (Xn D w (u9.setCell ⟨p, 12, none⟩ v)) p cb { K with G := K.G ++ [x] } := by
  have h9 := h.below hb
  obtain ⟨vi, vg, va, q1, ⟨q2, q2f⟩, q3, q4, q4f⟩ := h9.row
  have k : Sets (fun g => g = p) u9 (u9.setCell ⟨p, 12, none⟩ v) := (Sets.refl (S := fun g => g = p) u9).set (g := p) (fun _ => rfl) 12 v
  obtain ⟨A, c, rfl, hr, _, hc1, hc2⟩ := OwnL.row Mg.cells_len ho
  have hlt := OwnL.lt ho
  have hpl := h.lt
  refine ⟨⟨vi, _, va, set_of_list (o := 12) q1 _, ⟨sl_sets_ q2 k (fun g hg e => (q2f g hg).2.1 e), q2f.up (fun g hg => .inl hg)⟩, ⟨A, c, rfl, ?_, hc1, hc2, ?_, ?_⟩, ⟨sl_sets_ q4 k (fun g hg e => (q4f g hg).2.1 e), q4f.up (fun g hg => .inl hg)⟩⟩, (k.block cb h9.lt.2 (fun e => h9.ne e.symm)).trans h9.cnt, Sets.below h9.low k (fun g e => by rw [e]; exact (h9.ds p h9.dp).1) h9.low.size, .inl h9.dp, .inl h9.dc, h9.ne, ?_⟩
  · exact RowAt.sets hr k (fun a ha _ e => by have := (hlt a.block (by rw [ha]; rfl)).1; omega)
  · intro y hy
    rcases List.mem_append.1 hy with h1 | h1
    · obtain ⟨_, _, _, _, _, _, hrd, _⟩ := q3
      exact hrd y h1
    · rw [List.mem_singleton] at h1
      rw [h1]; exact hx
  · intro g hg
    have h1 := hlt g hg
    exact ⟨.inr ⟨Nat.le_trans hw h1.1, Nat.lt_of_lt_of_le h1.2 k.size⟩, by omega, by omega⟩
  · intro g hg
    rcases hg with hg | hg
    · exact ⟨(h9.ds g hg).1, Nat.lt_of_lt_of_le (h9.ds g hg).2 k.size⟩
    · exact ⟨Nat.le_trans h0 hg.1, hg.2⟩
set_option maxRecDepth 100000 in
set_option maxHeartbeats 800000 in
theorem rd_got {w0 w : World} {D : Nat → Prop} {p cb : Nat} {K : Cs} (h : CallD w0 w D p cb K) (m : Mg) (hm : m.rd w0) (hr : K.rd = false) (href : refD K m = false) (hn7 : K.n ≤ 7) (hk : K.ck = 3) (hk5 : m.k = 5) (hml : m.L.length ≤ 1000000) (hG : K.G.length ≤ 900) (hL : ∀ g ∈ K.G, g.L.length ≤ 1000000) :
    Calls Tryz.prog 13 #[.pointer (some ⟨p, 0, none⟩), m.val] w (RdP w0 w D p cb (goK { K with G := K.G ++ [m] } m.f.toNat) true) := by
  have HKK := hide hk
  have HK5 := hide hk5
  have HN7 := hide hn7
  have HGL0 := hide hG
  have HLL0 := hide hL
  have HML := hide hml
  obtain ⟨KF, hKF⟩ : ∃ KF, goK { K with G := K.G ++ [m] } m.f.toNat = KF := ⟨_, rfl⟩
  rw [hKF]
  have HKF := hide hKF
  clear hk hk5 hn7 hG hL hml hKF
  have hmw := hm.below h.low
  have hba := below_alloc (Below.refl w.heap.size w) (.cells #[.int .i64 m.k, .int .i64 m.f, .int .i64 m.t, .int .u64 m.id, .int .u64 m.n, .slice m.A m.L.length m.c] 39)
  have hz := heap_alloc_new w (.cells #[.int .i64 m.k, .int .i64 m.f, .int .i64 m.t, .int .u64 m.id, .int .u64 m.n, .slice m.A m.L.length m.c] 39)
  obtain ⟨w1, hw1⟩ : ∃ w1, w.alloc (.cells #[.int .i64 m.k, .int .i64 m.f, .int .i64 m.t, .int .u64 m.id, .int .u64 m.n, .slice m.A m.L.length m.c] 39) = w1 := ⟨_, rfl⟩
  rw [hw1] at hba hz
  obtain ⟨gm, hgm⟩ : ∃ gm, w.heap.size = gm := ⟨_, rfl⟩
  rw [hgm] at hz
  have h1 := h.below hba
  obtain ⟨Ai, ci, _, hcl⟩ := h1.cells
  have HMOK : Hid (∀ W : World, Below w1.heap.size w1 W → Calls Tryz.prog 24 #[m.val] W fun e w' => e = .returned (.bool (mokB m)) ∧ Below W.heap.size W w') := hide (fun W hW => rmok_any m W ((hmw.1.below hba).below hW))
  unfold Mg.val at HMOK
  have HCL := hide hcl
  have H1 := hide h1
  have HBA := hide hba
  have HZ := hide hz
  have HW1 := hide hw1
  have HGM := hide hgm
  have HM := hide hm
  have hpl := h1.lt.1
  have hcbl := h1.lt.2
  have hgl := (Array.getElem?_eq_some_iff.1 hz).1
  have HH := hide h
  clear hcl h1 h hba hz hw1 hgm hm hmw
  go_enter Tryz.func13, Tryz.ntmps13
  go_upto_region 1 with fail
  rw [HW1.out, HGM.out]
  clear HW1
  obtain ⟨m0, m1, m2, m3, m4, m5⟩ := six_cells HZ.out
  obtain ⟨c0, c1, c2, c3, c4, c5, c6, c7, c8, c9, c10, c11, c13, c14, cc⟩ := HCL.out w1 (Below.refl _ _)
  rw [hr] at c3
  have r0 := fun s : Near w1 => s.cell c0 hpl
  have r1 := fun s : Near w1 => s.cell c1 hpl
  have r2 := fun s : Near w1 => s.cell c2 hpl
  have q0 := fun s : Near w1 => s.cell m0 hgl
  have q1 := fun s : Near w1 => s.cell m1 hgl
  have q2 := fun s : Near w1 => s.cell m2 hgl
  have q3 := fun s : Near w1 => s.cell m3 hgl
  have q4 := fun s : Near w1 => s.cell m4 hgl
  have q5 := fun s : Near w1 => s.cell m5 hgl
  have h9 := href
  unfold refD at h9
  simp only [Bool.or_eq_false_iff, Bool.not_eq_false', beq_iff_eq, decide_eq_false_iff_not] at h9
  obtain ⟨⟨⟨⟨⟨hA, hB⟩, hC⟩, hD⟩, hE⟩, hF⟩ := h9
  clear href
  have hmf := mokBf hB
  obtain ⟨i, hi⟩ : ∃ i : Nat, m.f = (i : Int) := ⟨m.f.toNat, by omega⟩
  have hi7 : i < K.n := by omega
  have hit : m.f.toNat = i := by omega
  rw [hit] at hF
  rw [hB] at HMOK
  rw [hA] at c14
  have dC : (m.t != K.at_) = false := by simp [hC]
  have dD : (m.id != K.id) = false := by simp [hD]
  have dE : ¬ (K.n : Int) ≤ (i : Int) := by omega
  have hi0 : (0 : Int) ≤ (i : Int) := by omega
  have hiI : (i : Int) < (K.n : Int) := by omega
  have r14 := fun s : Near w1 => s.cell c14 hpl
  rw [hi] at HMOK m1 HZ q1
  have HIT := hide hit
  have HII := hide hi
  have HCC := hide cc
  have HMF := hide hmf
  clear hA hB hC hD hE hit hmf hi c0 c1 c2 c3 c4 c5 c6 c7 c8 c9 c10 c11 c13 c14 cc m0 m1 m2 m3 m4 m5
  refine wp_region_near (by kernel_rfl) (by kernel_rfl) ?_
  repeat (go_big_quiet_step ((first | (go_at_call 24; exact near_of (HMOK.out _ (Near.is _))))))
  refine wpQuiet_nil ?_
  intro _ hw'
  obtain ⟨s4, rfl⟩ := hw'
  clear r0 r1 r2 r14 q0 q1 q2 q3 q4 q5
  have H4 := hide (H1.out.below s4.is)
  have HB4 := hide (below_step HBA.out s4.is)
  have HS41 := hide s4.is
  have HZ4 := hide ((s4.is.block gm hgl).trans HZ.out)
  obtain ⟨w4, hw4⟩ : ∃ w4, s4.at_ = w4 := ⟨_, rfl⟩
  rw [hw4] at H4 HB4 HZ4 HS41
  rw [hw4]
  clear hw4
  obtain ⟨m0, m1, m2, m3, m4, m5⟩ := six_cells HZ4.out
  obtain ⟨c0, c1, c2, c3, c4, c5, c6, c7, c8, c9, c10, c11, c13, c14, cc⟩ := HCL.out w4 HS41.out
  rw [hr] at c3
  have cci := cc i hi7
  rw [hF] at cci
  have hpl := H4.out.lt.1
  have hcbl := H4.out.lt.2
  have hgl := (Array.getElem?_eq_some_iff.1 HZ4.out).1
  clear c0 c1 c2 c5 c6 c7 c8 c9 c11 c13 c14 cc hF
  go_upto_region 5 with fail
  have r10 := fun s : Near w4 => s.cell c10 hpl
  have q1 := fun s : Near w4 => s.cell m1 hgl
  have rci := fun s : Near w4 => s.cell cci hcbl
  clear c3 c10 m1 cci
  refine wp_region_near (by kernel_rfl) (by kernel_rfl) ?_
  repeat (go_big_quiet_step (fail))
  refine wpQuiet_nil ?_
  intro _ hw'
  obtain ⟨s5, rfl⟩ := hw'
  clear r10 q1 rci
  have H5 := hide (H4.out.below s5.is)
  have HB5 := hide (below_step HB4.out s5.is)
  have HZ5 := hide ((s5.is.block gm hgl).trans HZ4.out)
  have c4 := keep_cell s5.is c4 hpl
  have HS51 := hide (below_step HS41.out s5.is)
  obtain ⟨w5, hw5⟩ : ∃ w5, s5.at_ = w5 := ⟨_, rfl⟩
  rw [hw5] at H5 HB5 HZ5 c4 HS51
  rw [hw5]
  clear hw5 m0 m2 m3 m4 m5
  obtain ⟨m0, m1, m2, m3, m4, m5⟩ := six_cells HZ5.out
  have hpl := H5.out.lt.1
  have hcbl := H5.out.lt.2
  have hgl := (Array.getElem?_eq_some_iff.1 HZ5.out).1
  have hkI : (K.ck == 3) = true := beq_iff_eq.2 HKK.out
  rw [HK5.out] at m0 HZ5
  have HMX : Hid ((⟨5, (i : Int), m.t, m.id, m.n, m.A, m.c, m.L⟩ : Mg) = m) := hide (by rw [← HK5.out, ← HII.out])
  obtain ⟨vi, vg, va, hq1, _, hq3, _⟩ := H5.out.row
  obtain ⟨Ag, cg, rfl, hgr, _, _, _, _⟩ := hq3
  obtain ⟨gl, hgl2⟩ : ∃ gl, K.G.length = gl := ⟨_, rfl⟩
  have HGN := hide hgl2
  have hgl9 : gl ≤ 900 := by have := HGL0.out; omega
  have HC0 : Hid (∀ W : World, Below w5.heap.size w5 W → W.cell? ⟨p, 12, none⟩ = some (.slice Ag gl cg) ∧ W.frozen? ⟨p, 12, none⟩ = false) := hide (fun W hW => by
    have hk := (hW.block p hpl).trans hq1
    exact ⟨by rw [← hgl2]; exact (cell_of_list (o := 12) hk).trans rfl, by simp [World.frozen?, hk]⟩)
  have HR0 := hide hgr
  clear hq1 hgr hgl2 m1 m2 m3 m4 m5 dC dD dE
  have HPG : Hid (gm ≠ p) := hide (by have := HH.out.lt.1; have := HGM.out; omega)
  go_upto_block 0 with fail
  go_cut [] (fun W => CallD w0 W (Xn D w W) p cb { K with G := K.G ++ [m] } ∧ Sets (fun g => g = p ∨ g = cb) w W ∧ W.heap[gm]? = some (.cells #[.int .i64 5, .int .i64 (i : Int), .int .i64 m.t, .int .u64 m.id, .int .u64 m.n, .slice m.A m.L.length m.c] 39 (0, 0)))
  case first =>
    go_upto_region 14 with fail
    clear m0 c4
    obtain ⟨ud, hud⟩ : ∃ ud, w5.drew = ud := ⟨_, rfl⟩
    have HUD : Hid (Below w5.heap.size w5 ud) := hide (by rw [← hud]; exact (Below.refl _ _).drew)
    have HCF : Hid (∀ W : World, Below ud.heap.size ud W → W.cell? ⟨p, 12, none⟩ = some (.slice Ag gl cg) ∧ W.frozen? ⟨p, 12, none⟩ = false) := hide (fun W hW => HC0.out W (below_step HUD.out hW))
    have HCX : Hid (∀ W : World, Below ud.heap.size ud W → W.cell? ⟨gm, 0, none⟩ = some (.int .i64 5) ∧ W.cell? ⟨gm, 1, none⟩ = some (.int .i64 (i : Int)) ∧ W.cell? ⟨gm, 2, none⟩ = some (.int .i64 m.t) ∧ W.cell? ⟨gm, 3, none⟩ = some (.int .u64 m.id) ∧ W.cell? ⟨gm, 4, none⟩ = some (.int .u64 m.n) ∧ W.cell? ⟨gm, 5, none⟩ = some (.slice m.A m.L.length m.c)) := hide (fun W hW => six_cells (((below_step HUD.out hW).block gm hgl).trans HZ5.out))
    have HRW : Hid (∀ W : World, Below ud.heap.size ud W → RowAt Mg.cells 6 W Ag K.G) := hide (fun W hW => HR0.out.below (below_step HUD.out hW))
    have HS : Hid (Below ud.heap.size ud ud) := hide (Below.refl _ _)
    refine j_start [12] (by kernel_rfl) ?_
    rw [hud]
    clear hud
    refine' wpAnyJ_take (i := 0) (v := _) [10, 11, 12] ?hi0n1 (by kernel_rfl) (by kernel_rfl) (by kernel_rfl) (by kernel_rfl) (by kernel_rfl) (Or.inl ⟨?hw0n1, ?hy0n1⟩) HS.out ?rest0n1
    case hi0n1 => (simp only [List.getElem?_toArray, List.getElem?_cons_succ, List.getElem?_cons_zero]; rfl)
    case hw0n1 => rfl
    case hy0n1 => (intro w' hw'; go_simp; try with_reducible rfl)
    try simp only [Act.put, List.setIfInBounds_toArray, List.set_cons_zero, List.set_cons_succ]
    refine' wpAnyJ_take (i := 2) (v := _) [3, 4, 5, 6, 9, 10, 11, 12] ?hi2n2 (by kernel_rfl) (by kernel_rfl) (by kernel_rfl) (by kernel_rfl) (by kernel_rfl) (Or.inl ⟨?hw2n2, ?hy2n2⟩) HS.out ?rest2n2
    case hi2n2 => (simp only [List.getElem?_toArray, List.getElem?_cons_succ, List.getElem?_cons_zero]; rfl)
    case hw2n2 => rfl
    case hy2n2 => (intro w' hw'; go_simp; try with_reducible rfl)
    try simp only [Act.put, List.setIfInBounds_toArray, List.set_cons_zero, List.set_cons_succ]
    refine' wpAnyJ_take (i := 3) (v := _) [4, 5, 6, 9, 10, 11, 12] ?hi3n3 (by kernel_rfl) (by kernel_rfl) (by kernel_rfl) (by kernel_rfl) (by kernel_rfl) (Or.inl ⟨?hw3n3, ?hy3n3⟩) HS.out ?rest3n3
    case hi3n3 => (simp only [List.getElem?_toArray, List.getElem?_cons_succ, List.getElem?_cons_zero]; rfl)
    case hw3n3 => rfl
    case hy3n3 => (intro w' hw'; go_simp; try with_reducible rfl)
    try simp only [Act.put, List.setIfInBounds_toArray, List.set_cons_zero, List.set_cons_succ]
    refine' wpAnyJ_take (i := 4) (v := _) [5, 6, 9, 10, 11, 12] ?hi4n4 (by kernel_rfl) (by kernel_rfl) (by kernel_rfl) (by kernel_rfl) (by kernel_rfl) (Or.inl ⟨?hw4n4, ?hy4n4⟩) HS.out ?rest4n4
    case hi4n4 => (simp only [List.getElem?_toArray, List.getElem?_cons_succ, List.getElem?_cons_zero]; rfl)
    case hw4n4 => rfl
    case hy4n4 => (intro w' hw'; go_simp; try with_reducible rfl)
    try simp only [Act.put, List.setIfInBounds_toArray, List.set_cons_zero, List.set_cons_succ]
    refine' wpAnyJ_take (i := 5) (v := _) [6, 9, 10, 11, 12] ?hi5n5 (by kernel_rfl) (by kernel_rfl) (by kernel_rfl) (by kernel_rfl) (by kernel_rfl) (Or.inl ⟨?hw5n5, ?hy5n5⟩) HS.out ?rest5n5
    case hi5n5 => (simp only [List.getElem?_toArray, List.getElem?_cons_succ, List.getElem?_cons_zero]; rfl)
    case hw5n5 => rfl
    case hy5n5 => (intro w' hw'; have d5 := (HCF.out _ hw').1; go_simp; try with_reducible rfl)
    try simp only [Act.put, List.setIfInBounds_toArray, List.set_cons_zero, List.set_cons_succ]
    refine' wpAnyJ_take (i := 7) (v := _) [8, 9, 10, 11, 12] ?hi7n6 (by kernel_rfl) (by kernel_rfl) (by kernel_rfl) (by kernel_rfl) (by kernel_rfl) (Or.inl ⟨?hw7n6, ?hy7n6⟩) HS.out ?rest7n6
    case hi7n6 => (simp only [List.getElem?_toArray, List.getElem?_cons_succ, List.getElem?_cons_zero]; rfl)
    case hw7n6 => rfl
    case hy7n6 => (intro w' hw'; obtain ⟨i0, i1, i2, i3, i4, i5⟩ := HCX.out _ hw'; go_simp; try with_reducible rfl)
    try simp only [Act.put, List.setIfInBounds_toArray, List.set_cons_zero, List.set_cons_succ]
    refine' wpAnyJ_step2 (i := 1) (j := 8) (oi := _) (oj := _) (by kernel_rfl) ?han7 ?hbn7 (fun KK hK => ?san7) (fun KK hK => ?sbn7)
    case han7 => (simp only [List.getElem?_toArray, List.getElem?_cons_succ, List.getElem?_cons_zero]; rfl)
    case hbn7 => (simp only [List.getElem?_toArray, List.getElem?_cons_succ, List.getElem?_cons_zero]; rfl)
    case san7 =>
      go_simp
      have hal := below_alloc (Below.refl (ud).heap.size (ud)) (.cells #[] 39)
      have HE := hide (own_emptyE Mg.cells 6 39 ud.heap.size (ud) HS.out.size)
      have HS := hide (below_step HS.out hal)
      obtain ⟨ve, hve⟩ : ∃ ve, Value.slice (some ⟨(ud).heap.size, 0, none⟩) 0 0 = ve := ⟨_, rfl⟩
      rw [hve] at HE
      try rw [hve]
      obtain ⟨u1, hu1⟩ : ∃ u1, (ud).alloc (.cells #[] 39) = u1 := ⟨_, rfl⟩
      rw [hu1] at HE HS
      try rw [hu1]
      clear hal hve hu1
      refine hK.out _ _ HS.out ?_
      clear hK KK
      try simp only [Act.put, List.setIfInBounds_toArray, List.set_cons_zero, List.set_cons_succ]
      refine' wpAnyJ_step2 (i := 6) (j := 8) (oi := _) (oj := _) (by kernel_rfl) ?han8 ?hbn8 (fun KK hK => ?san8) (fun KK hK => ?sbn8)
      case han8 => (simp only [List.getElem?_toArray, List.getElem?_cons_succ, List.getElem?_cons_zero]; rfl)
      case hbn8 => (simp only [List.getElem?_toArray, List.getElem?_cons_succ, List.getElem?_cons_zero]; rfl)
      case san8 =>
        refine step_app_msg rfl (.tmp 94) (.tmp 98) rfl rfl ud.heap.size ve [] rfl HE.out Ag cg gl K.G HGN.out rfl (HRW.out _ HS.out) (by simp only [List.length_nil]; omega) HS.out.size ?_
        intro v2 u16 ho2 hg2 hm2
        have HS2 := hide (HS.out.grown hg2 HS.out.size (fun q hq => (OwnL.lt HE.out q hq).1))
        have HE := hide ho2
        have HS := HS2
        rw [List.nil_append] at HE
        clear ho2 hg2 hm2 HS2
        obtain ⟨ve, rfl⟩ : ∃ ve, ve = v2 := ⟨_, rfl⟩
        refine hK.out _ _ HS.out ?_
        clear hK KK
        try simp only [Act.put, List.setIfInBounds_toArray, List.set_cons_zero, List.set_cons_succ]
        refine' wpAnyJ_step (i := 8) (o := _) (by kernel_rfl) ?ho8n9 (fun KK hK => ?step8n9)
        case ho8n9 => (simp only [List.getElem?_toArray, List.getElem?_cons_succ, List.getElem?_cons_zero]; rfl)
        go_simp
        have hal := below_alloc (Below.refl (u16).heap.size (u16)) (.cells #[.int .i64 5, .int .i64 (i : Int), .int .i64 m.t, .int .u64 m.id, .int .u64 m.n, .slice m.A m.L.length m.c] 39)
        have HXX : Hid (RowAt Mg.cells 6 ((u16).alloc (.cells #[.int .i64 5, .int .i64 (i : Int), .int .i64 m.t, .int .u64 m.id, .int .u64 m.n, .slice m.A m.L.length m.c] 39)) (some ⟨(u16).heap.size, 0, none⟩) [(⟨5, (i : Int), m.t, m.id, m.n, m.A, m.c, m.L⟩ : Mg)]) := hide (RowAt.new_one (cells := Mg.cells) (sz := 6) (y := (⟨5, (i : Int), m.t, m.id, m.n, m.A, m.c, m.L⟩ : Mg)) (heap_alloc_new (u16) (.cells #[.int .i64 5, .int .i64 (i : Int), .int .i64 m.t, .int .u64 m.id, .int .u64 m.n, .slice m.A m.L.length m.c] 39)))
        have hgxl : (u16).heap.size < ((u16).alloc (.cells #[.int .i64 5, .int .i64 (i : Int), .int .i64 m.t, .int .u64 m.id, .int .u64 m.n, .slice m.A m.L.length m.c] 39)).heap.size := by simp
        have HNE : Hid (ve.ownBlock ≠ some (u16).heap.size) := hide (fun e => by have := (OwnL.lt HE.out _ e).2; omega)
        have HE := hide (OwnL.below HE.out hal)
        have HS := hide (below_step HS.out hal)
        obtain ⟨gx, hgx⟩ : ∃ gx, (u16).heap.size = gx := ⟨_, rfl⟩
        rw [hgx] at HXX hgxl HNE
        try rw [hgx]
        obtain ⟨u168, hu168⟩ : ∃ u168, (u16).alloc (.cells #[.int .i64 5, .int .i64 (i : Int), .int .i64 m.t, .int .u64 m.id, .int .u64 m.n, .slice m.A m.L.length m.c] 39) = u168 := ⟨_, rfl⟩
        rw [hu168] at HXX hgxl HS HE
        try rw [hu168]
        clear hal hgx hu168
        refine hK.out _ _ HS.out ?_
        clear hK KK
        try simp only [Act.put, List.setIfInBounds_toArray, List.set_cons_zero, List.set_cons_succ]
        refine' wpAnyJ_step (i := 9) (o := _) (by kernel_rfl) ?ho9n10 (fun KK hK => ?step9n10)
        case ho9n10 => (simp only [List.getElem?_toArray, List.getElem?_cons_succ, List.getElem?_cons_zero]; rfl)
        refine step_app_msg rfl (.tmp 99) (.tmp 101) rfl rfl ud.heap.size ve K.G rfl HE.out (some ⟨gx, 0, none⟩) 1 1 [(⟨5, (i : Int), m.t, m.id, m.n, m.A, m.c, m.L⟩ : Mg)] rfl rfl HXX.out (by rw [HGN.out]; omega) HS.out.size ?_
        intro v5 u1689 ho5 hg5 hm5
        have HS5 := hide (HS.out.grown hg5 HS.out.size (fun q hq => (OwnL.lt HE.out q hq).1))
        obtain ⟨A5, c5, rfl, hr5, _, hc5, hcm5⟩ := OwnL.row Mg.cells_len ho5
        have hl5 : (K.G ++ [(⟨5, (i : Int), m.t, m.id, m.n, m.A, m.c, m.L⟩ : Mg)]).length = gl + 1 := by rw [List.length_append, HGN.out]; rfl
        rw [hl5] at ho5
        try rw [hl5]
        have HO5 := hide ho5
        have HS := HS5
        clear ho5 hg5 hm5 HS5 hr5 HE HXX hc5 hcm5 hl5
        refine hK.out _ _ HS.out ?_
        clear hK KK
        try simp only [Act.put, List.setIfInBounds_toArray, List.set_cons_zero, List.set_cons_succ]
        refine' wpAnyJ_take (i := 10) (v := _) [11, 12] ?hi10n11 (by kernel_rfl) (by kernel_rfl) (by kernel_rfl) (by kernel_rfl) (by kernel_rfl) (Or.inl ⟨?hw10n11, ?hy10n11⟩) HS.out ?rest10n11
        case hi10n11 => (simp only [List.getElem?_toArray, List.getElem?_cons_succ, List.getElem?_cons_zero]; rfl)
        case hw10n11 => rfl
        case hy10n11 => (intro w' hw'; go_simp; try with_reducible rfl)
        try simp only [Act.put, List.setIfInBounds_toArray, List.set_cons_zero, List.set_cons_succ]
        refine' wpAnyJ_take (i := 11) (v := _) [12] ?hi11n12 (by kernel_rfl) (by kernel_rfl) (by kernel_rfl) (by kernel_rfl) (by kernel_rfl) (Or.inl ⟨?hw11n12, ?hy11n12⟩) HS.out ?rest11n12
        case hi11n12 => (simp only [List.getElem?_toArray, List.getElem?_cons_succ, List.getElem?_cons_zero]; rfl)
        case hw11n12 => rfl
        case hy11n12 => (intro w' hw'; go_simp; try with_reducible rfl)
        try simp only [Act.put, List.setIfInBounds_toArray, List.set_cons_zero, List.set_cons_succ]
        refine' wpAnyJ_last (i := 12) (o := _) (by kernel_rfl) ?ho12n13 (by kernel_rfl) (fun KK hK => ?step12n13)
        case ho12n13 => (simp only [List.getElem?_toArray, List.getElem?_cons_succ, List.getElem?_cons_zero]; rfl)
        obtain ⟨d12, f12⟩ := HCF.out _ HS.out
        go_simp
        refine hK.out _ _ ?_
        clear hK KK
        try simp only [Act.put, List.setIfInBounds_toArray, List.set_cons_zero, List.set_cons_succ]
        refine wpAnyJ_done (by kernel_rfl) ?_ _
        refine NoPanic.normal ?_
        have key := CallD.keep (x := (⟨5, (i : Int), m.t, m.id, m.n, m.A, m.c, m.L⟩ : Mg)) (v := .slice A5 (gl + 1) c5) H5.out (below_step HUD.out HS.out) (OwnL.base_ HO5.out HUD.out.size) HM.out HB5.out.size (fun g hg => .inl hg) HH.out.low.size
        rw [HMX.out] at key
        have HKY := hide key
        have HSK := hide ((Sets.of (S := fun g => g = p ∨ g = cb) (below_step HB5.out (below_step HUD.out HS.out))).set (g := p) (fun _ => .inl rfl) 12 (.slice A5 (gl + 1) c5))
        have HBX := hide ((Below.heap_setCell u1689 ⟨p, 12, none⟩ (.slice A5 (gl + 1) c5) gm (fun e => HPG.out (by simpa using e))).trans (((below_step HUD.out HS.out).block gm hgl).trans HZ5.out))
        clear key
        go_wp2_with fail
        go_meet
        exact ⟨HKY.out, HSK.out, HBX.out⟩
      case sbn8 =>
        go_simp
        have hal := below_alloc (Below.refl (u1).heap.size (u1)) (.cells #[.int .i64 5, .int .i64 (i : Int), .int .i64 m.t, .int .u64 m.id, .int .u64 m.n, .slice m.A m.L.length m.c] 39)
        have HXX : Hid (RowAt Mg.cells 6 ((u1).alloc (.cells #[.int .i64 5, .int .i64 (i : Int), .int .i64 m.t, .int .u64 m.id, .int .u64 m.n, .slice m.A m.L.length m.c] 39)) (some ⟨(u1).heap.size, 0, none⟩) [(⟨5, (i : Int), m.t, m.id, m.n, m.A, m.c, m.L⟩ : Mg)]) := hide (RowAt.new_one (cells := Mg.cells) (sz := 6) (y := (⟨5, (i : Int), m.t, m.id, m.n, m.A, m.c, m.L⟩ : Mg)) (heap_alloc_new (u1) (.cells #[.int .i64 5, .int .i64 (i : Int), .int .i64 m.t, .int .u64 m.id, .int .u64 m.n, .slice m.A m.L.length m.c] 39)))
        have hgxl : (u1).heap.size < ((u1).alloc (.cells #[.int .i64 5, .int .i64 (i : Int), .int .i64 m.t, .int .u64 m.id, .int .u64 m.n, .slice m.A m.L.length m.c] 39)).heap.size := by simp
        have HNE : Hid (ve.ownBlock ≠ some (u1).heap.size) := hide (fun e => by have := (OwnL.lt HE.out _ e).2; omega)
        have HE := hide (OwnL.below HE.out hal)
        have HS := hide (below_step HS.out hal)
        obtain ⟨gx, hgx⟩ : ∃ gx, (u1).heap.size = gx := ⟨_, rfl⟩
        rw [hgx] at HXX hgxl HNE
        try rw [hgx]
        obtain ⟨u18, hu18⟩ : ∃ u18, (u1).alloc (.cells #[.int .i64 5, .int .i64 (i : Int), .int .i64 m.t, .int .u64 m.id, .int .u64 m.n, .slice m.A m.L.length m.c] 39) = u18 := ⟨_, rfl⟩
        rw [hu18] at HXX hgxl HS HE
        try rw [hu18]
        clear hal hgx hu18
        refine hK.out _ _ HS.out ?_
        clear hK KK
        try simp only [Act.put, List.setIfInBounds_toArray, List.set_cons_zero, List.set_cons_succ]
        refine' wpAnyJ_step (i := 6) (o := _) (by kernel_rfl) ?ho6n14 (fun KK hK => ?step6n14)
        case ho6n14 => (simp only [List.getElem?_toArray, List.getElem?_cons_succ, List.getElem?_cons_zero]; rfl)
        refine step_app_msg rfl (.tmp 94) (.tmp 98) rfl rfl ud.heap.size ve [] rfl HE.out Ag cg gl K.G HGN.out rfl (HRW.out _ HS.out) (by simp only [List.length_nil]; omega) HS.out.size ?_
        intro v2 u186 ho2 hg2 hm2
        have HS2 := hide (HS.out.grown hg2 HS.out.size (fun q hq => (OwnL.lt HE.out q hq).1))
        have HXX := hide (rowm_grown HXX.out hg2 HNE.out)
        have HNE := hide (nem_moved hm2 HNE.out hgxl)
        have hgxl := Nat.lt_of_lt_of_le hgxl hg2.size
        have HE := hide ho2
        have HS := HS2
        rw [List.nil_append] at HE
        clear ho2 hg2 hm2 HS2
        obtain ⟨ve, rfl⟩ : ∃ ve, ve = v2 := ⟨_, rfl⟩
        refine hK.out _ _ HS.out ?_
        clear hK KK
        try simp only [Act.put, List.setIfInBounds_toArray, List.set_cons_zero, List.set_cons_succ]
        refine' wpAnyJ_step (i := 9) (o := _) (by kernel_rfl) ?ho9n15 (fun KK hK => ?step9n15)
        case ho9n15 => (simp only [List.getElem?_toArray, List.getElem?_cons_succ, List.getElem?_cons_zero]; rfl)
        refine step_app_msg rfl (.tmp 99) (.tmp 101) rfl rfl ud.heap.size ve K.G rfl HE.out (some ⟨gx, 0, none⟩) 1 1 [(⟨5, (i : Int), m.t, m.id, m.n, m.A, m.c, m.L⟩ : Mg)] rfl rfl HXX.out (by rw [HGN.out]; omega) HS.out.size ?_
        intro v5 u1869 ho5 hg5 hm5
        have HS5 := hide (HS.out.grown hg5 HS.out.size (fun q hq => (OwnL.lt HE.out q hq).1))
        obtain ⟨A5, c5, rfl, hr5, _, hc5, hcm5⟩ := OwnL.row Mg.cells_len ho5
        have hl5 : (K.G ++ [(⟨5, (i : Int), m.t, m.id, m.n, m.A, m.c, m.L⟩ : Mg)]).length = gl + 1 := by rw [List.length_append, HGN.out]; rfl
        rw [hl5] at ho5
        try rw [hl5]
        have HO5 := hide ho5
        have HS := HS5
        clear ho5 hg5 hm5 HS5 hr5 HE HXX hc5 hcm5 hl5
        refine hK.out _ _ HS.out ?_
        clear hK KK
        try simp only [Act.put, List.setIfInBounds_toArray, List.set_cons_zero, List.set_cons_succ]
        refine' wpAnyJ_take (i := 10) (v := _) [11, 12] ?hi10n16 (by kernel_rfl) (by kernel_rfl) (by kernel_rfl) (by kernel_rfl) (by kernel_rfl) (Or.inl ⟨?hw10n16, ?hy10n16⟩) HS.out ?rest10n16
        case hi10n16 => (simp only [List.getElem?_toArray, List.getElem?_cons_succ, List.getElem?_cons_zero]; rfl)
        case hw10n16 => rfl
        case hy10n16 => (intro w' hw'; go_simp; try with_reducible rfl)
        try simp only [Act.put, List.setIfInBounds_toArray, List.set_cons_zero, List.set_cons_succ]
        refine' wpAnyJ_take (i := 11) (v := _) [12] ?hi11n17 (by kernel_rfl) (by kernel_rfl) (by kernel_rfl) (by kernel_rfl) (by kernel_rfl) (Or.inl ⟨?hw11n17, ?hy11n17⟩) HS.out ?rest11n17
        case hi11n17 => (simp only [List.getElem?_toArray, List.getElem?_cons_succ, List.getElem?_cons_zero]; rfl)
        case hw11n17 => rfl
        case hy11n17 => (intro w' hw'; go_simp; try with_reducible rfl)
        try simp only [Act.put, List.setIfInBounds_toArray, List.set_cons_zero, List.set_cons_succ]
        refine' wpAnyJ_last (i := 12) (o := _) (by kernel_rfl) ?ho12n18 (by kernel_rfl) (fun KK hK => ?step12n18)
        case ho12n18 => (simp only [List.getElem?_toArray, List.getElem?_cons_succ, List.getElem?_cons_zero]; rfl)
        obtain ⟨d12, f12⟩ := HCF.out _ HS.out
        go_simp
        refine hK.out _ _ ?_
        clear hK KK
        try simp only [Act.put, List.setIfInBounds_toArray, List.set_cons_zero, List.set_cons_succ]
        refine wpAnyJ_done (by kernel_rfl) ?_ _
        refine NoPanic.normal ?_
        have key := CallD.keep (x := (⟨5, (i : Int), m.t, m.id, m.n, m.A, m.c, m.L⟩ : Mg)) (v := .slice A5 (gl + 1) c5) H5.out (below_step HUD.out HS.out) (OwnL.base_ HO5.out HUD.out.size) HM.out HB5.out.size (fun g hg => .inl hg) HH.out.low.size
        rw [HMX.out] at key
        have HKY := hide key
        have HSK := hide ((Sets.of (S := fun g => g = p ∨ g = cb) (below_step HB5.out (below_step HUD.out HS.out))).set (g := p) (fun _ => .inl rfl) 12 (.slice A5 (gl + 1) c5))
        have HBX := hide ((Below.heap_setCell u1869 ⟨p, 12, none⟩ (.slice A5 (gl + 1) c5) gm (fun e => HPG.out (by simpa using e))).trans (((below_step HUD.out HS.out).block gm hgl).trans HZ5.out))
        clear key
        go_wp2_with fail
        go_meet
        exact ⟨HKY.out, HSK.out, HBX.out⟩
    case sbn7 =>
      go_simp
      have hal := below_alloc (Below.refl (ud).heap.size (ud)) (.cells #[.int .i64 5, .int .i64 (i : Int), .int .i64 m.t, .int .u64 m.id, .int .u64 m.n, .slice m.A m.L.length m.c] 39)
      have HXX : Hid (RowAt Mg.cells 6 ((ud).alloc (.cells #[.int .i64 5, .int .i64 (i : Int), .int .i64 m.t, .int .u64 m.id, .int .u64 m.n, .slice m.A m.L.length m.c] 39)) (some ⟨(ud).heap.size, 0, none⟩) [(⟨5, (i : Int), m.t, m.id, m.n, m.A, m.c, m.L⟩ : Mg)]) := hide (RowAt.new_one (cells := Mg.cells) (sz := 6) (y := (⟨5, (i : Int), m.t, m.id, m.n, m.A, m.c, m.L⟩ : Mg)) (heap_alloc_new (ud) (.cells #[.int .i64 5, .int .i64 (i : Int), .int .i64 m.t, .int .u64 m.id, .int .u64 m.n, .slice m.A m.L.length m.c] 39)))
      have hgxl : (ud).heap.size < ((ud).alloc (.cells #[.int .i64 5, .int .i64 (i : Int), .int .i64 m.t, .int .u64 m.id, .int .u64 m.n, .slice m.A m.L.length m.c] 39)).heap.size := by simp
      have HS := hide (below_step HS.out hal)
      obtain ⟨gx, hgx⟩ : ∃ gx, (ud).heap.size = gx := ⟨_, rfl⟩
      rw [hgx] at HXX hgxl
      try rw [hgx]
      obtain ⟨u8, hu8⟩ : ∃ u8, (ud).alloc (.cells #[.int .i64 5, .int .i64 (i : Int), .int .i64 m.t, .int .u64 m.id, .int .u64 m.n, .slice m.A m.L.length m.c] 39) = u8 := ⟨_, rfl⟩
      rw [hu8] at HXX hgxl HS
      try rw [hu8]
      clear hal hgx hu8
      refine hK.out _ _ HS.out ?_
      clear hK KK
      try simp only [Act.put, List.setIfInBounds_toArray, List.set_cons_zero, List.set_cons_succ]
      refine' wpAnyJ_step (i := 1) (o := _) (by kernel_rfl) ?ho1n19 (fun KK hK => ?step1n19)
      case ho1n19 => (simp only [List.getElem?_toArray, List.getElem?_cons_succ, List.getElem?_cons_zero]; rfl)
      go_simp
      have hal := below_alloc (Below.refl (u8).heap.size (u8)) (.cells #[] 39)
      have HE := hide (own_emptyE Mg.cells 6 39 ud.heap.size (u8) HS.out.size)
      have HXX := hide (HXX.out.below hal)
      have HNE : Hid ((Value.slice (some ⟨(u8).heap.size, 0, none⟩) 0 0).ownBlock ≠ some gx) := hide (fun e => by have e2 : (u8).heap.size = gx := Option.some.inj e; omega)
      have hgxl := Nat.lt_of_lt_of_le hgxl hal.size
      have HS := hide (below_step HS.out hal)
      obtain ⟨ve, hve⟩ : ∃ ve, Value.slice (some ⟨(u8).heap.size, 0, none⟩) 0 0 = ve := ⟨_, rfl⟩
      rw [hve] at HE HNE
      try rw [hve]
      obtain ⟨u81, hu81⟩ : ∃ u81, (u8).alloc (.cells #[] 39) = u81 := ⟨_, rfl⟩
      rw [hu81] at HE HS HXX hgxl
      try rw [hu81]
      clear hal hve hu81
      refine hK.out _ _ HS.out ?_
      clear hK KK
      try simp only [Act.put, List.setIfInBounds_toArray, List.set_cons_zero, List.set_cons_succ]
      refine' wpAnyJ_step (i := 6) (o := _) (by kernel_rfl) ?ho6n20 (fun KK hK => ?step6n20)
      case ho6n20 => (simp only [List.getElem?_toArray, List.getElem?_cons_succ, List.getElem?_cons_zero]; rfl)
      refine step_app_msg rfl (.tmp 94) (.tmp 98) rfl rfl ud.heap.size ve [] rfl HE.out Ag cg gl K.G HGN.out rfl (HRW.out _ HS.out) (by simp only [List.length_nil]; omega) HS.out.size ?_
      intro v2 u816 ho2 hg2 hm2
      have HS2 := hide (HS.out.grown hg2 HS.out.size (fun q hq => (OwnL.lt HE.out q hq).1))
      have HXX := hide (rowm_grown HXX.out hg2 HNE.out)
      have HNE := hide (nem_moved hm2 HNE.out hgxl)
      have hgxl := Nat.lt_of_lt_of_le hgxl hg2.size
      have HE := hide ho2
      have HS := HS2
      rw [List.nil_append] at HE
      clear ho2 hg2 hm2 HS2
      obtain ⟨ve, rfl⟩ : ∃ ve, ve = v2 := ⟨_, rfl⟩
      refine hK.out _ _ HS.out ?_
      clear hK KK
      try simp only [Act.put, List.setIfInBounds_toArray, List.set_cons_zero, List.set_cons_succ]
      refine' wpAnyJ_step (i := 9) (o := _) (by kernel_rfl) ?ho9n21 (fun KK hK => ?step9n21)
      case ho9n21 => (simp only [List.getElem?_toArray, List.getElem?_cons_succ, List.getElem?_cons_zero]; rfl)
      refine step_app_msg rfl (.tmp 99) (.tmp 101) rfl rfl ud.heap.size ve K.G rfl HE.out (some ⟨gx, 0, none⟩) 1 1 [(⟨5, (i : Int), m.t, m.id, m.n, m.A, m.c, m.L⟩ : Mg)] rfl rfl HXX.out (by rw [HGN.out]; omega) HS.out.size ?_
      intro v5 u8169 ho5 hg5 hm5
      have HS5 := hide (HS.out.grown hg5 HS.out.size (fun q hq => (OwnL.lt HE.out q hq).1))
      obtain ⟨A5, c5, rfl, hr5, _, hc5, hcm5⟩ := OwnL.row Mg.cells_len ho5
      have hl5 : (K.G ++ [(⟨5, (i : Int), m.t, m.id, m.n, m.A, m.c, m.L⟩ : Mg)]).length = gl + 1 := by rw [List.length_append, HGN.out]; rfl
      rw [hl5] at ho5
      try rw [hl5]
      have HO5 := hide ho5
      have HS := HS5
      clear ho5 hg5 hm5 HS5 hr5 HE HXX hc5 hcm5 hl5
      refine hK.out _ _ HS.out ?_
      clear hK KK
      try simp only [Act.put, List.setIfInBounds_toArray, List.set_cons_zero, List.set_cons_succ]
      refine' wpAnyJ_take (i := 10) (v := _) [11, 12] ?hi10n22 (by kernel_rfl) (by kernel_rfl) (by kernel_rfl) (by kernel_rfl) (by kernel_rfl) (Or.inl ⟨?hw10n22, ?hy10n22⟩) HS.out ?rest10n22
      case hi10n22 => (simp only [List.getElem?_toArray, List.getElem?_cons_succ, List.getElem?_cons_zero]; rfl)
      case hw10n22 => rfl
      case hy10n22 => (intro w' hw'; go_simp; try with_reducible rfl)
      try simp only [Act.put, List.setIfInBounds_toArray, List.set_cons_zero, List.set_cons_succ]
      refine' wpAnyJ_take (i := 11) (v := _) [12] ?hi11n23 (by kernel_rfl) (by kernel_rfl) (by kernel_rfl) (by kernel_rfl) (by kernel_rfl) (Or.inl ⟨?hw11n23, ?hy11n23⟩) HS.out ?rest11n23
      case hi11n23 => (simp only [List.getElem?_toArray, List.getElem?_cons_succ, List.getElem?_cons_zero]; rfl)
      case hw11n23 => rfl
      case hy11n23 => (intro w' hw'; go_simp; try with_reducible rfl)
      try simp only [Act.put, List.setIfInBounds_toArray, List.set_cons_zero, List.set_cons_succ]
      refine' wpAnyJ_last (i := 12) (o := _) (by kernel_rfl) ?ho12n24 (by kernel_rfl) (fun KK hK => ?step12n24)
      case ho12n24 => (simp only [List.getElem?_toArray, List.getElem?_cons_succ, List.getElem?_cons_zero]; rfl)
      obtain ⟨d12, f12⟩ := HCF.out _ HS.out
      go_simp
      refine hK.out _ _ ?_
      clear hK KK
      try simp only [Act.put, List.setIfInBounds_toArray, List.set_cons_zero, List.set_cons_succ]
      refine wpAnyJ_done (by kernel_rfl) ?_ _
      refine NoPanic.normal ?_
      have key := CallD.keep (x := (⟨5, (i : Int), m.t, m.id, m.n, m.A, m.c, m.L⟩ : Mg)) (v := .slice A5 (gl + 1) c5) H5.out (below_step HUD.out HS.out) (OwnL.base_ HO5.out HUD.out.size) HM.out HB5.out.size (fun g hg => .inl hg) HH.out.low.size
      rw [HMX.out] at key
      have HKY := hide key
      have HSK := hide ((Sets.of (S := fun g => g = p ∨ g = cb) (below_step HB5.out (below_step HUD.out HS.out))).set (g := p) (fun _ => .inl rfl) 12 (.slice A5 (gl + 1) c5))
      have HBX := hide ((Below.heap_setCell u8169 ⟨p, 12, none⟩ (.slice A5 (gl + 1) c5) gm (fun e => HPG.out (by simpa using e))).trans (((below_step HUD.out HS.out).block gm hgl).trans HZ5.out))
      clear key
      go_wp2_with fail
      go_meet
      exact ⟨HKY.out, HSK.out, HBX.out⟩
  case rest =>
  obtain ⟨hkk, hsk, hbk⟩ := hcut
  obtain ⟨u, hu⟩ : ∃ u, wc = u := ⟨_, rfl⟩
  rw [hu] at hkk hsk hbk
  rw [hu]
  clear hu
  have HT := hide hkk
  have HTS := hide hsk
  have HTE : Hid (∀ g, Xn D w u g → Xn D w u g) := hide (fun g hg => hg)
  have HZU := hide hbk
  clear hkk hsk hbk m0 c4
  have HGL : Hid ((K.G ++ [m]).length ≤ 1000) := hide (by rw [List.length_append]; have := HGL0.out; simp; omega)
  have HLL : Hid (∀ g ∈ K.G ++ [m], g.L.length ≤ 1000000) := hide (fun g hg => by
    rcases List.mem_append.1 hg with h1 | h1
    · exact HLL0.out g h1
    · rw [List.mem_singleton] at h1; rw [h1]; exact HML.out)
  have hcu := HT.out
  obtain ⟨Aq, cq, _, hclq⟩ := hcu.cells
  obtain ⟨_, mq1, _, _, _, _⟩ := six_cells HZU.out
  have HN := hide hi7
  have HC15p : Hid (∀ W : World, Below u.heap.size u W → W.cell? ⟨p, 10, none⟩ = some (.slice (some ⟨cb, 0, none⟩) K.n K.n) ∧ W.cell? ⟨gm, 1, none⟩ = some (.int .i64 (i : Int)) ∧ W.cell? ⟨cb, i, none⟩ = some (.bool (K.C i))) := hide (fun W hW => ⟨(hclq W hW).c10, keep_cell hW mq1 (Array.getElem?_eq_some_iff.1 HZU.out).1, (hclq W hW).cc i HN.out⟩)
  clear hclq mq1 hcu
  go_upto_region 15 with fail
  obtain ⟨ud, hud⟩ : ∃ ud, u.drew = ud := ⟨_, rfl⟩
  have HUD : Hid (Below u.heap.size u ud) := hide (by rw [← hud]; exact (Below.refl _ _).drew)
  have HC15 : Hid (∀ W : World, Below ud.heap.size ud W → W.cell? ⟨p, 10, none⟩ = some (.slice (some ⟨cb, 0, none⟩) K.n K.n) ∧ W.cell? ⟨gm, 1, none⟩ = some (.int .i64 (i : Int))) := hide (fun W hW => ⟨(HC15p.out W (below_step HUD.out hW)).1, (HC15p.out W (below_step HUD.out hW)).2.1⟩)
  have K15 : Hid (ud.cell? ⟨cb, i, none⟩ = some (.bool (K.C i))) := hide (HC15p.out ud HUD.out).2.2
  have hud1 := HT.out.below HUD.out
  have Z15 : Hid (ud.frozen? ⟨cb, i, none⟩ = false) := hide (by simp [World.frozen?, hud1.cnt])
  have hmk := hud1.mark (f := i) HN.out
  have hsm : Sets (fun g => g = p ∨ g = cb) w (ud.setCell ⟨cb, i, none⟩ (.bool true)) := ((HTS.out.trans (Sets.of (S := fun _ => False) HUD.out) (fun _ _ h => h.elim)).set (g := cb) (fun _ => .inr rfl) i (.bool true))
  have hsz : u.heap.size ≤ (ud.setCell ⟨cb, i, none⟩ (.bool true)).heap.size := by simpa using HUD.out.size
  obtain ⟨u1, hu1⟩ : ∃ u1, ud.setCell ⟨cb, i, none⟩ (.bool true) = u1 := ⟨_, rfl⟩
  rw [hu1] at hmk hsm hsz
  have HU1 := hide hu1
  have HMK := hide hmk
  have HSM := hide hsm
  have HSZ := hide hsz
  refine j_startD [7] hud (by kernel_rfl) ?_
  clear hud hud1 hmk hsm hu1 hsz
  refine' j_take (i := 0) (v := _) [1, 2, 3, 6, 7] ?hi0 (by kernel_rfl) (by kernel_rfl) (by kernel_rfl) (by kernel_rfl) (by kernel_rfl) (Or.inl ⟨?hw0, ?hy0⟩) ?rest0
  case hi0 => (simp only [List.getElem?_toArray, List.getElem?_cons_succ, List.getElem?_cons_zero]; rfl)
  case hw0 => rfl
  case hy0 => (intro w' hw'; go_simp; try with_reducible rfl)
  try simp only [Act.put, List.setIfInBounds_toArray, List.set_cons_zero, List.set_cons_succ]
  refine' j_take (i := 1) (v := _) [2, 3, 6, 7] ?hi1 (by kernel_rfl) (by kernel_rfl) (by kernel_rfl) (by kernel_rfl) (by kernel_rfl) (Or.inl ⟨?hw1, ?hy1⟩) ?rest1
  case hi1 => (simp only [List.getElem?_toArray, List.getElem?_cons_succ, List.getElem?_cons_zero]; rfl)
  case hw1 => rfl
  case hy1 => (intro w' hw'; go_simp; try with_reducible rfl)
  try simp only [Act.put, List.setIfInBounds_toArray, List.set_cons_zero, List.set_cons_succ]
  refine' j_take (i := 2) (v := _) [3, 6, 7] ?hi2 (by kernel_rfl) (by kernel_rfl) (by kernel_rfl) (by kernel_rfl) (by kernel_rfl) (Or.inl ⟨?hw2, ?hy2⟩) ?rest2
  case hi2 => (simp only [List.getElem?_toArray, List.getElem?_cons_succ, List.getElem?_cons_zero]; rfl)
  case hw2 => rfl
  case hy2 => (intro w' hw'; go_simp; try with_reducible rfl)
  try simp only [Act.put, List.setIfInBounds_toArray, List.set_cons_zero, List.set_cons_succ]
  refine' j_take (i := 3) (v := _) [6, 7] ?hi3 (by kernel_rfl) (by kernel_rfl) (by kernel_rfl) (by kernel_rfl) (by kernel_rfl) (Or.inl ⟨?hw3, ?hy3⟩) ?rest3
  case hi3 => (simp only [List.getElem?_toArray, List.getElem?_cons_succ, List.getElem?_cons_zero]; rfl)
  case hw3 => rfl
  case hy3 => (intro w' hw'; obtain ⟨k10, k1⟩ := HC15.out _ hw'; go_simp; try with_reducible rfl)
  try simp only [Act.put, List.setIfInBounds_toArray, List.set_cons_zero, List.set_cons_succ]
  refine' j_take (i := 4) (v := _) [5, 6, 7] ?hi4 (by kernel_rfl) (by kernel_rfl) (by kernel_rfl) (by kernel_rfl) (by kernel_rfl) (Or.inl ⟨?hw4, ?hy4⟩) ?rest4
  case hi4 => (simp only [List.getElem?_toArray, List.getElem?_cons_succ, List.getElem?_cons_zero]; rfl)
  case hw4 => rfl
  case hy4 => (intro w' hw'; go_simp; try with_reducible rfl)
  try simp only [Act.put, List.setIfInBounds_toArray, List.set_cons_zero, List.set_cons_succ]
  refine' j_take (i := 5) (v := _) [6, 7] ?hi5 (by kernel_rfl) (by kernel_rfl) (by kernel_rfl) (by kernel_rfl) (by kernel_rfl) (Or.inl ⟨?hw5, ?hy5⟩) ?rest5
  case hi5 => (simp only [List.getElem?_toArray, List.getElem?_cons_succ, List.getElem?_cons_zero]; rfl)
  case hw5 => rfl
  case hy5 => (intro w' hw'; obtain ⟨k10, k1⟩ := HC15.out _ hw'; go_simp; try with_reducible rfl)
  try simp only [Act.put, List.setIfInBounds_toArray, List.set_cons_zero, List.set_cons_succ]
  refine' j_take (i := 6) (v := _) [7] ?hi6 (by kernel_rfl) (by kernel_rfl) (by kernel_rfl) (by kernel_rfl) (by kernel_rfl) (Or.inl ⟨?hw6, ?hy6⟩) ?rest6
  case hi6 => (simp only [List.getElem?_toArray, List.getElem?_cons_succ, List.getElem?_cons_zero]; rfl)
  case hw6 => rfl
  case hy6 => (intro w' hw'; go_simp; try with_reducible rfl)
  try simp only [Act.put, List.setIfInBounds_toArray, List.set_cons_zero, List.set_cons_succ]
  refine' wpAnyJ_last (i := 7) (o := _) (by kernel_rfl) ?ho7 (by kernel_rfl) (fun KK hK => ?step7)
  case ho7 => (simp only [List.getElem?_toArray, List.getElem?_cons_succ, List.getElem?_cons_zero]; rfl)
  have k5 := K15.out
  have z5 := Z15.out
  go_simp
  refine hK.out _ _ ?_
  clear hK KK k5 z5
  try simp only [Act.put, List.setIfInBounds_toArray, List.set_cons_zero, List.set_cons_succ]
  refine wpAnyJ_done (by kernel_rfl) ?_ _
  refine NoPanic.normal ?_
  go_upto_region 16 with fail
  try rw [HU1.out]
  obtain ⟨cn, hcn⟩ : ∃ cn : Nat, cntC (setC K.C i) K.n = cn := ⟨_, rfl⟩
  obtain ⟨nd, hnd⟩ : ∃ nd : Nat, K.n / 2 + 1 = nd := ⟨_, rfl⟩
  have HCN := hide hcn
  have HND := hide hnd
  have HALL : Hid (∀ s : Near u1, Calls Tryz.prog 27 #[.pointer (some ⟨p, 0, none⟩)] s.at_ fun e w' => e = .returned (.int .i64 (cn : Int)) ∧ Below s.at_.heap.size s.at_ w') := hide (fun s => by
    refine Calls.mono (rcall_any (HMK.out.below s.is) (show K.n ≤ 7 from HN7.out)) ?_
    rintro e w' ⟨h1, rfl⟩
    exact ⟨by rw [← hcn]; exact h1, Below.refl _ _⟩)
  have HNED : Hid (∀ s : Near u1, Calls Tryz.prog 7 #[.int .i64 (K.n : Int)] s.at_ fun e w' => e = .returned (.int .i64 (nd : Int)) ∧ Below s.at_.heap.size s.at_ w') := hide (fun s => by
    have h := rneed_any (K.n : Int) s.at_ (by omega) (by have := HN7.out; omega)
    rw [show (K.n : Int) / 2 + 1 = (nd : Int) by omega] at h
    exact h)
  obtain ⟨Aq, cq, _, hclq⟩ := HMK.out.cells
  have e1 := (hclq u1 (Below.refl _ _)).c1
  have e8 := (hclq u1 (Below.refl _ _)).c8
  have hp1 := HMK.out.lt.1
  have e1 : u1.cell? ⟨p, 1, none⟩ = some (.int .i64 (K.n : Int)) := e1
  have e8 : u1.cell? ⟨p, 8, none⟩ = some (.int .u64 K.ver) := e8
  have v1 := fun s : Near u1 => s.cell e1 hp1
  clear hclq hcn hnd e1
  by_cases hq : nd ≤ cn
  · have hqI : (nd : Int) ≤ (cn : Int) := by omega
    have HGO : Hid (goK { K with G := K.G ++ [m] } i = endM (markK { K with G := K.G ++ [m] } i) 0 K.ver) := hide (by unfold goK; rw [if_pos (show K.n / 2 + 1 ≤ cntC (setC K.C i) K.n by rw [HND.out, HCN.out]; exact hq)])
    clear hq
    refine wp_region_near (by kernel_rfl) (by kernel_rfl) ?_
    repeat (go_big_quiet_step ((first | (go_at_call 27; exact near_of (HALL.out _)) | (go_at_call 7; exact near_of (HNED.out _)))))
    refine wpQuiet_nil ?_
    intro _ hw'
    obtain ⟨s6, rfl⟩ := hw'
    have H6 := hide (HMK.out.below s6.is)
    have HS6 := hide (HSM.out.trans (Sets.of (S := fun _ => False) s6.is) (fun _ _ h => h.elim))
    have e8 := keep_cell s6.is e8 hp1
    have HZ6 := hide (Nat.le_trans HSZ.out s6.is.size)
    obtain ⟨u6, hu6⟩ : ∃ u6, s6.at_ = u6 := ⟨_, rfl⟩
    rw [hu6] at H6 HS6 e8 HZ6
    rw [hu6]
    have hp1 := H6.out.lt.1
    clear hu6 v1
    have HE := hide (rcend_any H6.out hr 0 K.ver (by have := HGL.out; exact this) (by have := HLL.out; exact this))
    go_wp2_with fail
    refine (Calls.mono HE.out ?_); rintro e w6 ⟨rfl, h6, hs6⟩
    have HF : Hid (CallD w0 w6 (Xn D w w6) p cb (goK { K with G := K.G ++ [m] } i)) := hide (by
      rw [HGO.out]
      exact h6.more (fun g hg => by
        rcases hg with hg | hg
        · rcases HTE.out g hg with h1 | h1
          · exact .inl h1
          · exact .inr ⟨h1.1, Nat.lt_of_lt_of_le h1.2 (Nat.le_trans HZ6.out hs6.size)⟩
        · exact .inr ⟨Nat.le_trans (Nat.le_trans HTS.out.size HZ6.out) hg.1, hg.2⟩) (fun g hg => by
        rcases hg with hg | hg
        · exact ⟨(HH.out.ds g hg).1, Nat.lt_of_lt_of_le (HH.out.ds g hg).2 (Nat.le_trans HS6.out.size hs6.size)⟩
        · exact ⟨Nat.le_trans HH.out.low.size hg.1, hg.2⟩))
    have HS7 := hide (HS6.out.trans hs6 (fun _ _ e => .inl e))
    clear h6 hs6 HE e8
    go_wp2_with fail
    refine bodyPost_ret (v := .tuple #[.bool true, .slice none 0 0]) (by simp [results, Tryz.results13]) rfl ?_
    exact ⟨rfl, by rw [← HKF.out, HIT.out]; exact HF.out, HS7.out⟩
  · have hqI : ¬ (nd : Int) ≤ (cn : Int) := by omega
    have HGO : Hid (goK { K with G := K.G ++ [m] } i = markK { K with G := K.G ++ [m] } i) := hide (by unfold goK; rw [if_neg (show ¬ K.n / 2 + 1 ≤ cntC (setC K.C i) K.n by rw [HND.out, HCN.out]; exact hq)])
    clear hq e8
    refine wp_region_near (by kernel_rfl) (by kernel_rfl) ?_
    repeat (go_big_quiet_step ((first | (go_at_call 27; exact near_of (HALL.out _)) | (go_at_call 7; exact near_of (HNED.out _)))))
    refine wpQuiet_nil ?_
    intro _ hw'
    obtain ⟨s6, rfl⟩ := hw'
    have HF : Hid (CallD w0 s6.at_ (Xn D w s6.at_) p cb (goK { K with G := K.G ++ [m] } i)) := hide (by
      rw [HGO.out]
      exact (HMK.out.below s6.is).more (fun g hg => by
        rcases HTE.out g hg with h1 | h1
        · exact .inl h1
        · exact .inr ⟨h1.1, Nat.lt_of_lt_of_le h1.2 (Nat.le_trans HSZ.out s6.is.size)⟩) (fun g hg => by
        rcases hg with hg | hg
        · exact ⟨(HH.out.ds g hg).1, Nat.lt_of_lt_of_le (HH.out.ds g hg).2 (Nat.le_trans HSM.out.size s6.is.size)⟩
        · exact ⟨Nat.le_trans HH.out.low.size hg.1, hg.2⟩))
    have HS7 := hide (HSM.out.trans (Sets.of (S := fun _ => False) s6.is) (fun _ _ h => h.elim))
    clear v1
    go_wp2_with fail
    refine bodyPost_ret (v := .tuple #[.bool true, .slice none 0 0]) (by simp [results, Tryz.results13]) rfl ?_
    exact ⟨rfl, by rw [← HKF.out, HIT.out]; exact HF.out, HS7.out⟩
end Go.Proofs.YtlabpgdimhbocaaGreat
