/- The walk of clepsydralaw27.AxiomLost: it returns true. No condition. -/
import Derived.Test.YtebnifpclebliaaAxLost
import Derived.Test.YtebnifpclebliaaAxW
import Derived.Test.YtebnifpclebliaaRFil
import Derived.Test.YtebnifpclebliaaApart
import Derived.Test.YtebnifpclebliaaHeld
import Derived.Deep.CutBlock
import Derived.Deep.DeepCutAuto
namespace Go.Proofs.Ytebnifpclebliaa.axiomLost
set_option linter.unusedVariables false
set_option linter.unusedSimpArgs false
open Go.ChangeShapes Go.WideShapes Go.ChangeAt Go.RowKit

theorem rseries_l {u : Value} {L : List It} {w : World} (h : Sl w u L) (s : Int) (hn : L.length ≤ 1099511627776) : Calls Try.prog 22 #[u, .int .i64 s] w (RetOw (L.filter (serP s)) w) := by
  obtain ⟨A, c, rfl, hL, h1, h2⟩ := h
  exact rseries_any A c L s w hL hn
theorem infoInt : (Try.prog.info? 3).map (fun i => (i.zero, i.size, i.bytes)) = some (some (.int .i64 0), 1, 8) := by kernel_rfl
theorem or64_fin : ∀ y : Fin 64, bits .or .i64 (y.val : Int) 64 = (y.val : Int) + 64 := by decide +kernel
theorem or64 {y : Int} (h : 0 ≤ y ∧ y < 64) : bits .or .i64 y 64 = y + 64 := by
  have := or64_fin ⟨y.toNat, by omega⟩
  simp only at this
  rwa [Int.toNat_of_nonneg h.1] at this
theorem ow_made (w : World) (base : Nat) (hb : base ≤ w.heap.size) : Ow base (w.alloc (.cells #[] 32)) (.slice (some ⟨w.heap.size, 0, none⟩) 0 0) [] :=
  ⟨by simp, .inr ⟨w.heap.size, 0, #[], rfl, hb, heap_alloc_new w _, by simp, by simp, by simp, by simp⟩⟩
set_option maxHeartbeats 12800000 in
set_option maxRecDepth 100000 in
theorem walk {w : World} (A0 : Option Addr) (c0 : Nat) (L0 : List Int) (lc0 : L0.length ≤ c0) (cm0 : c0 ≤ maxLen) (r0 : RowAt (fun a => [.int .i64 a]) 1 w A0 L0) (w0 : ∀ a ∈ L0, (Lit.int .i64 a).wf = true)
    (a1 : Int) (w1 : (Lit.int .i64 a1).wf = true) (a2 : Int) (w2 : (Lit.int .i64 a2).wf = true) :
    Calls Try.prog 6 #[.slice A0 L0.length c0, .int .i64 a1, .int .i64 a2] w fun e w' => e = .returned (.bool true) ∧ Below w.heap.size w w' := by
  have HR0 : Hid (ValsAt i64v w A0 L0) := hide r0
  have HM1 := hide (and_mask_i64 a1 8 255 (by omega) (by decide))
  obtain ⟨N, hN⟩ : ∃ N, N = min L0.length 20 := ⟨_, rfl⟩
  have hNL : N ≤ L0.length := by omega
  have hN20 : N ≤ 20 := by omega
  have HNN := hide hN
  clear r0 w0 w1 w2 lc0 cm0 hN
  go_enter Try.func6, Try.ntmps6
  go_upto_block 0 with fail
  go_cut [7, 8] (fun v _ W => ∃ (Am : Option Addr) (cm : Nat), v = .slice Am N cm ∧ ValsAt i64v W Am (mN L0 N) ∧ Below w.heap.size w W)
  case first =>
    go_wp2_with fail
    go_loopw [7, 8] (fun v i wr => ∃ k : Nat, k ≤ N ∧ i = .int .i64 k ∧ OwnL (one1 i64v) 1 3 w.heap.size wr v (mN L0 k) ∧ Below w.heap.size w wr) (fun _ i _ => N - (intOf i).toNat)
    case atStart => exact ⟨0, by omega, rfl, OwnL.nil_ _ _ _ _ _, Below.refl _ _⟩
    case round =>
      obtain ⟨k, hk, rfl, hown, hb⟩ := hrel
      have HO := hide hown
      have HB := hide hb
      clear hown
      by_cases hlt : k < N
      · have hkL : k < L0.length := by omega
        have hkc : (k : Int) < (L0.length : Int) := by omega
        have hkd : (k : Int) < 20 := by omega
        obtain ⟨bl, off, rfl, hbb, y0⟩ := RowAt.one (val := i64v) HR0.out hb hkL
        have hbl : bl < wr.heap.size := Nat.lt_of_lt_of_le hbb HB.out.size
        have HSN := hide (mN_snoc L0 k)
        have hge : L0.getD k 0 = L0[k]'hkL := by simp [hkL]
        rw [hge] at HSN
        generalize L0[k]'hkL = x at *
        have hle := mN_len L0 k
        have HLE := hide hle
        generalize mN L0 k = M at *
        clear hb hge hle
        have h1 : bits .and .i64 x 63 = x % 64 := and_mask_i64 x 6 63 (by omega) (by decide)
        have h2 : bits .or .i64 (x % 64) 64 = putX x := or64 (by omega)
        have hml : M.length ≤ 20 := by have := HLE.out; omega
        go_wp2_with (at_builtin; refine wpList_append_el rfl (.tmp 30) (.tmp 37) 22 3 _ 1 8 rfl Try.underlying22 infoInt rfl (by decide) (fun _ => rfl) (fun a u hu => by simp [one1] at hu; subst hu; rfl) (by decide) w.heap.size w.heap.size w wr _ u7 M (putX x) rfl wr.heap.size rfl rfl rfl HO.out HB.out (Nat.le_refl _) HB.out.size (by omega) ?_; intro v3 x3 ho3 hb3 hg3 hm3)
        go_roundw
        case rel => exact ⟨k + 1, by omega, by go_num, by rw [HSN.out]; exact ho3, hb3⟩
        case measure => simp [intOf]; omega
      · obtain rfl : k = N := by omega
        obtain ⟨Am, cm, e1, hMV, hmc, hmm⟩ := HO.out.vals
        have hml := mN_len L0 k
        rw [hml] at e1
        subst e1
        have HMV := hide hMV
        clear hMV hb hmc hmm hml
        by_cases hkl : (k : Int) < (L0.length : Int)
        · have hkd : ¬ (k : Int) < 20 := by have := HNN.out; omega
          go_wp2_with fail
          go_meet
          case rel => exact ⟨_, _, rfl, HMV.out, HB.out⟩
        · go_wp2_with fail
          go_meet
          case rel => exact ⟨_, _, rfl, HMV.out, HB.out⟩
  case rest =>
    obtain ⟨Am, cm, rfl, hMV, hB⟩ := hcut
    have hml := mN_len L0 N
    have hp := puts_any Am cm (mN L0 N) wc hMV (by omega)
    rw [hml, show min N 30 = N by omega] at hp
    have HP := hide hp
    have HB := hide hB
    clear hp hMV hml hB HR0 HNN
    by_cases h0 : N = 0
    · have d0 : ((N : Int) == 0) = true := by simp [h0]
      have HN0 := hide h0
      clear h0 HP
      go_wp2_with fail
      refine (Calls.mono (awake27_any _) ?_); rintro e w9 ⟨rfl, hg9⟩
      have HB9 := hide (below_step HB.out hg9)
      clear hg9
      go_wp2_with fail
      go_ret
      exact ⟨rfl, HB9.out⟩
    have d0 : ((N : Int) == 0) = false := by simp [h0]
    have HPU := hide (puts_m (L := L0) hN20)
    have hsome := fold_some HPU.out.good HPU.out.put (puts_some (L := L0) hN20 (by omega))
    go_wp2_with fail
    refine (Calls.mono HP.out ?_); rintro e w1 ⟨⟨v1, rfl, ho1⟩, hg1⟩
    obtain ⟨A, c, rfl, hA, _, hAc, hAm⟩ := OwnL.row An.cells_len ho1
    have hlen := putsN_len (mN L0 N) N
    generalize putsN (mN L0 N) N = I at *
    have HB1 := hide (below_step HB.out hg1)
    have hF1 := fold_any A c I w1 hA (by omega)
    have hlI := itemsL_len I
    have hfI := ofL_len (itemsL I)
    have HF1 := hide hF1
    have HAI : Hid (AnsAt w1 A I) := hide hA
    have hIl : I.length ≤ 20 := by omega
    have hMl : (itemsL I).length ≤ 20 := by omega
    have hSl : (ofL (itemsL I)).length ≤ 20 := by omega
    have hsp : 0 < (ofL (itemsL I)).length := List.length_pos_iff.2 hsome
    clear ho1 hg1 hA hF1 hlI hfI hlen hsome HP HB h0 d0
    go_wp2_with fail
    refine (Calls.mono HF1.out ?_); rintro e w2 ⟨v2, rfl, ho2, hg2⟩
    have HB2 := hide (below_step HB1.out hg2)
    have HAI := hide (RowAt.below HAI.out hg2)
    obtain ⟨As, cs, rfl, hSA, hSc, hSm⟩ := Og.sl ho2
    have HSA := hide hSA
    clear ho2 hg2 HF1 HB1 hSA
    obtain ⟨M, hM⟩ : ∃ M, itemsL I = M := ⟨_, rfl⟩
    rw [hM] at HPU hMl hSl hsp hSc HSA ⊢
    obtain ⟨S, hS⟩ : ∃ S, ofL M = S := ⟨_, rfl⟩
    rw [hS] at hSl hsp hSc HSA ⊢
    have HMI := hide hM
    have HSM := hide hS
    clear hM hS
    have d0 : ((S.length : Int) == 0) = false := beq_eq_false_iff_ne.2 (by omega)
    have hSp : (0 : Int) < S.length := by omega
    have hSz : ¬ (S.length : Int) = 0 := by omega
    have hmB : 0 ≤ bits .and .i64 a1 255 := by rw [HM1.out]; omega
    obtain ⟨k, hk⟩ : ∃ k : Nat, (bits .and .i64 a1 255).tmod (S.length : Int) = k := ⟨_, (Int.toNat_of_nonneg (Int.tmod_nonneg _ hmB)).symm⟩
    have hkS : (k : Int) < S.length := by rw [← hk]; exact Int.tmod_lt_of_pos _ hSp
    have hkN : k < S.length := by omega
    obtain ⟨b, off, rfl, hbb, y0, y1, y2, y3, y4⟩ := ItemsAt.item HSA.out (Below.refl _ _) hkN
    have hxm : S[k] ∈ S := List.getElem_mem hkN
    generalize S[k] = x at *
    have HXM : Hid (x ∈ ofL M) := hide (by rw [HSM.out]; exact hxm)
    clear hxm hmB
    have HBX := hide (below_alloc (Below.refl w2.heap.size w2) (.cells x.cells.toArray 32))
    have HX0 := hide (ItAt.box (x := x) (t := 32) (fr := (0, 0)) (heap_alloc_new w2 (.cells x.cells.toArray 32)))
    have HS0 : Hid (Sl w2 (.slice (some ⟨b, off, none⟩) S.length cs) S) := hide (Sl.mk_ HSA.out hSc hSm)
    go_wp2_with fail
    have hsr := rseries_l (HS0.out.below HBX.out) x.s (by omega)
    refine (Calls.mono hsr ?_); rintro e w3 ⟨v3, rfl, ho3, hg3⟩
    have HX3 := hide (HX0.out.below hg3)
    have HAI := hide (RowAt.below (RowAt.below HAI.out HBX.out) hg3)
    have HB3 := hide (below_step (below_step HB2.out HBX.out) hg3)
    obtain ⟨Ag, cg, rfl, hGA, hGc, hGm⟩ := Ow.sl ho3
    have HGA := hide hGA
    have hGl : (S.filter (serP x.s)).length ≤ 20 := Nat.le_trans (List.length_filter_le _ _) hSl
    clear hsr ho3 hg3 hGA HBX HX0 HS0 HSA HB2 y0 y1 y2 y3 y4 hk hkS hkN hbb
    obtain ⟨G, hG⟩ : ∃ G, S.filter (serP x.s) = G := ⟨_, rfl⟩
    rw [hG] at hGl hGc HGA ⊢
    have HGE := hide hG
    clear hG
    generalize w2.heap.size = gx at *
    go_wp2_with fail
    go_loopw [15, 16] (fun v i wr => ∃ k : Nat, k ≤ G.length ∧ i = .int .i64 k ∧ Ow w3.heap.size wr v (lackL (G.take k) x) ∧ Below w3.heap.size w3 wr) (fun _ i _ => G.length - (intOf i).toNat)
    case atStart => exact ⟨0, by omega, rfl, Ow.nil_ _ _, Below.refl _ _⟩
    case round =>
      obtain ⟨k, hk, rfl, hown, hb⟩ := hrel
      have HO := hide hown
      have HB := hide hb
      clear hown
      obtain ⟨xl, x0, x1, x2, x3, x4⟩ := HX3.out.below hb
      by_cases hlt : k < G.length
      · obtain ⟨bl, off', rfl, hbb, y0, y1, y2, y3, y4⟩ := ItemsAt.item HGA.out hb hlt
        have hbl : bl < wr.heap.size := Nat.lt_of_lt_of_le hbb hb.size
        have HF1 := hide (fun h => lack_in (x := x) hlt h)
        have HF2 := hide (fun h => lack_out (x := x) hlt h)
        have hNl : (lackL (G.take k) x).length ≤ 20 := by have h1 := lack_len (G.take k) x; have h2 := List.length_take_le k G; omega
        clear hb
        generalize G[k] = y at *
        generalize lackL (G.take k) x = NL at *
        have hq := run_neq_item y x
        cases hyz : eqI y x
        · rw [hyz] at hq
          have HN := hide (HF1.out hyz)
          clear hyz
          go_wp2_with fail
          go_quiet (fail)
          have HOD : Hid (Ow w3.heap.size (wr.drewN nq) u15 NL) := hide (OwnL.drewN HO.out nq)
          have HBD : Hid (Below w3.heap.size w3 (wr.drewN nq)) := hide (below_drewN HB.out nq)
          have hbs := HBD.out.size
          go_wp2_with (at_builtin; refine wpList_append_el rfl (.tmp 76) (.tmp 81) 24 32 _ 5 40 rfl Try.underlying24 Try.infoItem rfl (by decide) It.cells_len It.cells_one (by decide) w3.heap.size w3.heap.size w3 (wr.drewN nq) _ u15 NL y rfl wr.heap.size rfl rfl rfl HOD.out HBD.out (Nat.le_refl _) hbs (by omega) ?_; intro v5 x5 ho5 hb5 hg5 hm5)
          go_roundw
          case rel => exact ⟨k + 1, by omega, by go_num, by rw [HN.out]; exact ho5, hb5⟩
          case measure => simp [intOf]; omega
        · rw [hyz] at hq
          have HN := hide (HF2.out hyz)
          clear hyz
          go_wp2_with fail
          go_quiet (fail)
          go_wp2_with fail
          go_roundw
          case rel => exact ⟨k + 1, by omega, by go_num, by rw [HN.out]; exact OwnL.below HO.out (below_drewN (Below.refl _ _) _), below_drewN HB.out _⟩
          case measure => simp [intOf]; omega
      · obtain rfl : k = G.length := by omega
        have hown := HO.out
        rw [List.take_length] at hown
        have hll := lack_len G x
        obtain ⟨NL, hNL⟩ : ∃ NL, lackL G x = NL := ⟨_, rfl⟩
        rw [hNL] at hown hll
        have HNL := hide hNL
        obtain ⟨w5, rfl⟩ : ∃ w5, w5 = wr := ⟨_, rfl⟩
        obtain ⟨Al, cl, e1, hLA, hLc, hLm⟩ := Ow.sl hown
        subst e1
        have HLA : Hid (Sl w5 (.slice Al NL.length cl) NL) := hide (Sl.mk_ hLA hLc hLm)
        have HG5 : Hid (Sl w5 (.slice Ag G.length cg) G) := hide (Sl.mk_ (RowAt.below HGA.out hb) hGc hGm)
        have HGR := hide (RowAt.below HGA.out hb)
        have HX5 := hide (HX3.out.below hb)
        have HA5 := hide (RowAt.below HAI.out hb)
        have HB5 := hide (below_step HB3.out hb)
        have tk1 : True := trivial
        clear hown hb hLA hNL HO HB HGA HX3 HAI HB3 xl x0 x1 x2 x3 x4
        go_wp2_with (at_builtin; have _t := tk1; refine wpList_append_items rfl (.tmp 83) (.tmp 84) rfl w5.heap.size w5.heap.size w5 _ _ [] Ag G.length cg G rfl rfl rfl (RowAt.below HGR.out (below_alloc (Below.refl _ _) _)) (ow_made w5 _ (Nat.le_refl _)) (below_alloc (Below.refl _ _) _) (Nat.le_refl _) (by simp) (by simp; omega) ?_; intro v6 w6 ho6 hb6 hg6; clear tk1 _t; have HO6 := hide ho6; have HB6 := hide hb6; clear ho6 hb6 hg6)
        have hog := HO6.out
        rw [List.nil_append] at hog
        replace hog := hog.og
        obtain ⟨Ao, co, rfl, _, hol, hom⟩ := hog.sl
        have HOG := hide hog
        clear hog HO6
        go_loopw [18] (fun i wr => ∃ k : Nat, i = .int .i64 k ∧ k ≤ G.length ∧ Og w5.heap.size wr (.slice Ao G.length co) (halfL (oddI a2 x) G k) ∧ Below w5.heap.size w5 wr) (fun i _ => G.length - (intOf i).toNat)
        case atStart => exact ⟨0, rfl, by omega, by rw [halfL_none]; exact HOG.out, HB6.out⟩
        case round =>
          clear HOG HB6
          obtain ⟨j, rfl, hj, ho, hb⟩ := hrel
          have HB := hide hb
          have HO := hide ho
          obtain ⟨xl, x0, x1, x2, x3, x4⟩ := HX5.out.below hb
          by_cases hlt : j < G.length
          · have hhl := halfL_len (oddI a2 x) G j (by omega)
            rcases ho with ⟨_, hn⟩ | ⟨g, cap, R, hv, hbg, hgr, hnc, hcm, hf⟩
            · rw [hn] at hhl; simp at hhl; omega
            have hkl : j < (halfL (oddI a2 x) G j).length := by omega
            injection hv with hv1 hv2 hv3
            obtain ⟨y0, y1, y2, y3, y4⟩ := row_item5 hgr hkl
            rw [halfL_at _ hlt hkl] at y0 y1 y2 y3 y4
            have hfz := row_free hgr
            have hgl : g < wr.heap.size := (Array.getElem?_eq_some_iff.1 hgr).1
            have hgx : gx ≠ g := fun e => by have := HX5.out.lt; omega
            have hgx2 : g ≠ gx := fun e => hgx e.symm
            have HP1 := hide (fun h => halfL_put a2 x hlt h R)
            have HP2 := hide (fun h => halfL_same (oddI a2 x) hlt h)
            have HP3 := hide (fun h => oddI_not (v := a2) (x := x) (y := G[j]'hlt) h)
            have hl2 := halfL_len (oddI a2 x) G (j + 1) (by omega)
            have HGR2 := hide hgr
            have HV2 := hide hv2; have HV3 := hide hv3; have HHL := hide hhl; have HL2 := hide hl2; clear hgr hv2 hv3 hhl hl2
            subst hv1
            clear hb
            generalize G[j]'hlt = y at *
            have hq := run_eql_item y x
            cases hyz : eqI y x
            · rw [hyz] at hq
              have HN := hide (HP2.out (HP3.out hyz))
              clear hyz
              go_wp2_with fail
              go_quiet (fail)
              go_wp2_with fail
              go_roundw
              case rel => exact ⟨j + 1, by go_num, by omega, by rw [HN.out]; exact HO.out.below (below_drewN (Below.refl _ _) _), below_drewN HB.out _⟩
              case measure => simp [intOf]; omega
            · rw [hyz] at hq
              have HN := hide (HP1.out hyz)
              clear hyz
              go_wp2_with fail
              go_quiet (fail)
              have HGN := hide (heap_set (w := wr.drewN nq) (o := j * 5 + 4) (u := .int .i64 a2) HGR2.out)
              rw [HN.out] at HGN
              go_wp2_with fail
              go_roundw
              case rel => exact ⟨j + 1, by go_num, by omega, .inr ⟨g, cap, R, by rw [HL2.out, HV3.out], hbg, HGN.out, by have := HL2.out; have := HHL.out; omega, hcm, by have := HL2.out; have := HHL.out; omega⟩, (below_drewN HB.out nq).setCell hbg _⟩
              case measure => simp [intOf]; omega
          · obtain rfl : j = G.length := by omega
            have hog := ho
            rw [halfL_all] at hog
            obtain ⟨w7, rfl⟩ : ∃ w7, w7 = wr := ⟨_, rfl⟩
            obtain ⟨Ap, cp, e1, hOA, hOc, hOm⟩ := hog.sl
            have hml : (G.map (oddI a2 x)).length = G.length := by simp
            rw [hml] at e1 hOc
            obtain ⟨e2, e3⟩ : Ao = Ap ∧ co = cp := by injection e1 with a b c; exact ⟨a, c⟩
            subst e2 e3
            have HQ7 : Hid (Sl w7 (.slice Ao G.length co) (G.map (oddI a2 x))) := hide (by rw [← hml]; exact Sl.mk_ hOA (by rw [hml]; exact hOc) hOm)
            have HL7 := hide (HLA.out.below HB.out)
            have HG7 := hide (HG5.out.below HB.out)
            have HX7 := hide (HX5.out.below HB.out)
            have HA7 := hide (RowAt.below HA5.out HB.out)
            have HB7 := hide (below_step HB5.out HB.out)
            have HPU2 := hide HPU.out
            have hxM := ((fold_there HPU.out.good).1 HXM.out).1
            have hxv : 1 ≤ x.v ∧ x.v ≤ 1000 := ⟨(HPU.out.good x hxM).2.1.1, HPU.out.low x hxM⟩
            have HR1 := hide (whole_read (M := M) (P := M) (K := [x.v]) x.s HPU.out.good (fun z hz => hz) (fun y hy _ => hy))
            have HR2 := hide (lack_read HPU.out HXM.out)
            have HR3 := hide (lack_nobody (x := x) HPU.out)
            have HR4 := hide (odd_nobody a2 HPU.out HXM.out)
            have HR5 := hide (del_gone HPU.out HXM.out)
            rw [HSM.out, HGE.out] at HR1 HR2 HR3 HR4 HR5
            rw [HNL.out] at HR2 HR3
            clear e1 hOA hOc hOm hml hog ho hb HO HB HLA HG5 HGR HX5 HA5 HB5 HPU hxM HPU2 HXM HSM HGE HNL xl x0 x1 x2 x3 x4 hlt hj
            obtain ⟨xl7, q0, q1, q2, q3, q4⟩ := HX7.out
            go_upto_region 29 with fail
            clear xl7 q0 q1 q2 q3 q4
            -- REGION 29
            obtain ⟨qq, hqq⟩ : ∃ qq, (a2 == x.x) = qq := ⟨_, rfl⟩
            have HQQ := hide hqq
            have D7 : Hid (AnAt (w7.alloc (.cells #[.int .u64 99, .int .i64 2, .int .i64 x.s, .int .u64 0, .int .i64 0, .int .i64 0, .int .u64 (x.v + 1), .slice none 0 0] 41)) w7.heap.size 0 (delA x.s (x.v + 1))) := hide (AnAt.box (a := delA x.s (x.v + 1)) (t := 41) (fr := (0, 0)) (heap_alloc_new w7 _))
            have hb8 := below_alloc (Below.refl w7.heap.size w7) (.cells #[.int .u64 99, .int .i64 2, .int .i64 x.s, .int .u64 0, .int .i64 0, .int .i64 0, .int .u64 (x.v + 1), .slice none 0 0] 41)
            clear hqq
            replace HQ7 := hide (Sl.below HQ7.out hb8)
            replace HL7 := hide (Sl.below HL7.out hb8)
            replace HG7 := hide (Sl.below HG7.out hb8)
            replace HX7 := hide (HX7.out.below hb8)
            replace HA7 := hide (RowAt.below HA7.out hb8)
            replace HB7 := hide (below_step HB7.out hb8)
            clear hb8
            generalize w7.heap.size = gd at *
            generalize w7.alloc (.cells #[.int .u64 99, .int .i64 2, .int .i64 x.s, .int .u64 0, .int .i64 0, .int .i64 0, .int .u64 (x.v + 1), .slice none 0 0] 41) = w8 at *
            have hdr := (Below.refl w8.heap.size w8).drew
            replace HQ7 := hide (Sl.below HQ7.out hdr)
            replace HL7 := hide (Sl.below HL7.out hdr)
            replace HG7 := hide (Sl.below HG7.out hdr)
            replace HX7 := hide (HX7.out.below hdr)
            replace HA7 := hide (RowAt.below HA7.out hdr)
            replace D7 := hide (D7.out.below hdr)
            replace HB7 := hide (below_step HB7.out hdr)
            clear hdr
            refine bel_start (by kernel_rfl) ?_
            generalize w8.drew = u0 at *
            refine' bel_take (i := 0) (v := _) ?hi0 (by kernel_rfl) (by kernel_rfl) (by kernel_rfl) (Or.inl ⟨?hw0, ?hy0⟩) ?rest0
            case hi0 => (simp only [List.getElem?_toArray, List.getElem?_cons_succ, List.getElem?_cons_zero]; rfl)
            case hw0 => rfl
            case hy0 => (intro w' hw'; go_simp; try with_reducible rfl)
            try simp only [Act.put, List.setIfInBounds_toArray, List.set_cons_zero, List.set_cons_succ]
            refine' bel_take (i := 1) (v := _) ?hi1 (by kernel_rfl) (by kernel_rfl) (by kernel_rfl) (Or.inl ⟨?hw1, ?hy1⟩) ?rest1
            case hi1 => (simp only [List.getElem?_toArray, List.getElem?_cons_succ, List.getElem?_cons_zero]; rfl)
            case hw1 => rfl
            case hy1 => (intro w' hw'; go_simp; try with_reducible rfl)
            try simp only [Act.put, List.setIfInBounds_toArray, List.set_cons_zero, List.set_cons_succ]
            refine' bel_take (i := 2) (v := _) ?hi2 (by kernel_rfl) (by kernel_rfl) (by kernel_rfl) (Or.inl ⟨?hw2, ?hy2⟩) ?rest2
            case hi2 => (simp only [List.getElem?_toArray, List.getElem?_cons_succ, List.getElem?_cons_zero]; rfl)
            case hw2 => rfl
            case hy2 => (intro w' hw'; have hc := (HX7.out.below hw').c3; go_simp; try with_reducible rfl)
            try simp only [Act.put, List.setIfInBounds_toArray, List.set_cons_zero, List.set_cons_succ]
            refine' bel_take (i := 4) (v := _) ?hi4 (by kernel_rfl) (by kernel_rfl) (by kernel_rfl) (Or.inl ⟨?hw4, ?hy4⟩) ?rest4
            case hi4 => (simp only [List.getElem?_toArray, List.getElem?_cons_succ, List.getElem?_cons_zero]; rfl)
            case hw4 => rfl
            case hy4 => (intro w' hw'; go_simp; try with_reducible rfl)
            try simp only [Act.put, List.setIfInBounds_toArray, List.set_cons_zero, List.set_cons_succ]
            refine' bel_take (i := 5) (v := _) ?hi5 (by kernel_rfl) (by kernel_rfl) (by kernel_rfl) (Or.inl ⟨?hw5, ?hy5⟩) ?rest5
            case hi5 => (simp only [List.getElem?_toArray, List.getElem?_cons_succ, List.getElem?_cons_zero]; rfl)
            case hw5 => rfl
            case hy5 => (intro w' hw'; go_simp; try with_reducible rfl)
            try simp only [Act.put, List.setIfInBounds_toArray, List.set_cons_zero, List.set_cons_succ]
            refine wpAnyH_ready (rs := [3]) (by kernel_rfl) (by simp) ?_
            refine' AllReadyH.cons (o := _) ?ho3 (fun K hK => ?step3) ?more3
            case ho3 => (simp only [List.getElem?_toArray, List.getElem?_cons_succ, List.getElem?_cons_zero]; rfl)
            case more3 => exact AllReadyH.nil
            go_simp
            have ggm := below_alloc (Below.refl u0.heap.size u0) (.cells #[.int .u64 x.v] 23)
            have HV : Hid (ValsAt u64v (u0.alloc (.cells #[.int .u64 x.v] 23)) (some ⟨u0.heap.size, 0, none⟩) [x.v]) := hide (u64_new (heap_alloc_new u0 _))
            replace HQ7 := hide (Sl.below HQ7.out ggm)
            replace HL7 := hide (Sl.below HL7.out ggm)
            replace HG7 := hide (Sl.below HG7.out ggm)
            replace HX7 := hide (HX7.out.below ggm)
            replace HA7 := hide (RowAt.below HA7.out ggm)
            replace D7 := hide (D7.out.below ggm)
            replace HB7 := hide (below_step HB7.out ggm)
            refine hK.out _ _ ggm (fun _ => bel_switch ggm ?_)
            clear hK K ggm
            generalize u0.alloc (.cells #[.int .u64 x.v] 23) = m1 at *
            try simp only [Act.put, List.setIfInBounds_toArray, List.set_cons_zero, List.set_cons_succ]
            refine wpAnyH_ready (rs := [6]) (by kernel_rfl) (by simp) ?_
            refine' AllReadyH.cons (o := _) ?ho6 (fun K hK => ?step6) ?more6
            case ho6 => (simp only [List.getElem?_toArray, List.getElem?_cons_succ, List.getElem?_cons_zero]; rfl)
            case more6 => exact AllReadyH.nil
            go_simp
            have hr := read_any A c I (some ⟨u0.heap.size, 0, none⟩) 1 [x.v] x.s HA7.out HV.out HG7.out (by omega) (by simp) (by first | omega | (simp; omega))
            rw [HMI.out, HR1.out] at hr
            replace hr := hide hr
            refine (Calls.mono (hr.out) ?_); rintro e u1 ⟨rfl, gg1⟩
            replace HQ7 := hide (Sl.below HQ7.out gg1)
            replace HL7 := hide (Sl.below HL7.out gg1)
            replace HG7 := hide (Sl.below HG7.out gg1)
            replace HX7 := hide (HX7.out.below gg1)
            replace HA7 := hide (RowAt.below HA7.out gg1)
            replace D7 := hide (D7.out.below gg1)
            replace HB7 := hide (below_step HB7.out gg1)
            clear hr
            refine hK.out _ _ gg1 (fun _ => bel_switch gg1 ?_)
            clear hK K gg1
            try simp only [Act.put, List.setIfInBounds_toArray, List.set_cons_zero, List.set_cons_succ]
            refine' bel_take (i := 7) (v := _) ?hi7 (by kernel_rfl) (by kernel_rfl) (by kernel_rfl) (Or.inl ⟨?hw7, ?hy7⟩) ?rest7
            case hi7 => (simp only [List.getElem?_toArray, List.getElem?_cons_succ, List.getElem?_cons_zero]; rfl)
            case hw7 => rfl
            case hy7 => (intro w' hw'; go_simp; try with_reducible rfl)
            try simp only [Act.put, List.setIfInBounds_toArray, List.set_cons_zero, List.set_cons_succ]
            refine' bel_take (i := 8) (v := _) ?hi8 (by kernel_rfl) (by kernel_rfl) (by kernel_rfl) (Or.inl ⟨?hw8, ?hy8⟩) ?rest8
            case hi8 => (simp only [List.getElem?_toArray, List.getElem?_cons_succ, List.getElem?_cons_zero]; rfl)
            case hw8 => rfl
            case hy8 => (intro w' hw'; go_simp; try with_reducible rfl)
            try simp only [Act.put, List.setIfInBounds_toArray, List.set_cons_zero, List.set_cons_succ]
            refine' bel_take (i := 9) (v := _) ?hi9 (by kernel_rfl) (by kernel_rfl) (by kernel_rfl) (Or.inl ⟨?hw9, ?hy9⟩) ?rest9
            case hi9 => (simp only [List.getElem?_toArray, List.getElem?_cons_succ, List.getElem?_cons_zero]; rfl)
            case hw9 => rfl
            case hy9 => (intro w' hw'; go_simp; try with_reducible rfl)
            try simp only [Act.put, List.setIfInBounds_toArray, List.set_cons_zero, List.set_cons_succ]
            refine' bel_take (i := 10) (v := _) ?hi10 (by kernel_rfl) (by kernel_rfl) (by kernel_rfl) (Or.inl ⟨?hw10, ?hy10⟩) ?rest10
            case hi10 => (simp only [List.getElem?_toArray, List.getElem?_cons_succ, List.getElem?_cons_zero]; rfl)
            case hw10 => rfl
            case hy10 => (intro w' hw'; have hc := (HX7.out.below hw').c3; go_simp; try with_reducible rfl)
            try simp only [Act.put, List.setIfInBounds_toArray, List.set_cons_zero, List.set_cons_succ]
            refine' bel_take (i := 12) (v := _) ?hi12 (by kernel_rfl) (by kernel_rfl) (by kernel_rfl) (Or.inl ⟨?hw12, ?hy12⟩) ?rest12
            case hi12 => (simp only [List.getElem?_toArray, List.getElem?_cons_succ, List.getElem?_cons_zero]; rfl)
            case hw12 => rfl
            case hy12 => (intro w' hw'; go_simp; try with_reducible rfl)
            try simp only [Act.put, List.setIfInBounds_toArray, List.set_cons_zero, List.set_cons_succ]
            refine' bel_take (i := 13) (v := _) ?hi13 (by kernel_rfl) (by kernel_rfl) (by kernel_rfl) (Or.inl ⟨?hw13, ?hy13⟩) ?rest13
            case hi13 => (simp only [List.getElem?_toArray, List.getElem?_cons_succ, List.getElem?_cons_zero]; rfl)
            case hw13 => rfl
            case hy13 => (intro w' hw'; go_simp; try with_reducible rfl)
            try simp only [Act.put, List.setIfInBounds_toArray, List.set_cons_zero, List.set_cons_succ]
            refine wpAnyH_ready (rs := [11]) (by kernel_rfl) (by simp) ?_
            refine' AllReadyH.cons (o := _) ?ho11 (fun K hK => ?step11) ?more11
            case ho11 => (simp only [List.getElem?_toArray, List.getElem?_cons_succ, List.getElem?_cons_zero]; rfl)
            case more11 => exact AllReadyH.nil
            go_simp
            have ggm := below_alloc (Below.refl u1.heap.size u1) (.cells #[.int .u64 x.v] 23)
            replace HV : Hid (ValsAt u64v (u1.alloc (.cells #[.int .u64 x.v] 23)) (some ⟨u1.heap.size, 0, none⟩) [x.v]) := hide (u64_new (heap_alloc_new u1 _))
            replace HQ7 := hide (Sl.below HQ7.out ggm)
            replace HL7 := hide (Sl.below HL7.out ggm)
            replace HG7 := hide (Sl.below HG7.out ggm)
            replace HX7 := hide (HX7.out.below ggm)
            replace HA7 := hide (RowAt.below HA7.out ggm)
            replace D7 := hide (D7.out.below ggm)
            replace HB7 := hide (below_step HB7.out ggm)
            refine hK.out _ _ ggm (fun _ => bel_switch ggm ?_)
            clear hK K ggm
            generalize u1.alloc (.cells #[.int .u64 x.v] 23) = m2 at *
            try simp only [Act.put, List.setIfInBounds_toArray, List.set_cons_zero, List.set_cons_succ]
            refine wpAnyH_ready (rs := [14]) (by kernel_rfl) (by simp) ?_
            refine' AllReadyH.cons (o := _) ?ho14 (fun K hK => ?step14) ?more14
            case ho14 => (simp only [List.getElem?_toArray, List.getElem?_cons_succ, List.getElem?_cons_zero]; rfl)
            case more14 => exact AllReadyH.nil
            go_simp
            have hr := read_any A c I (some ⟨u1.heap.size, 0, none⟩) 1 [x.v] x.s HA7.out HV.out HL7.out (by omega) (by simp) (by first | omega | (simp; omega))
            rw [HMI.out, HR2.out] at hr
            replace hr := hide hr
            refine (Calls.mono (hr.out) ?_); rintro e u2 ⟨rfl, gg2⟩
            replace HQ7 := hide (Sl.below HQ7.out gg2)
            replace HL7 := hide (Sl.below HL7.out gg2)
            replace HG7 := hide (Sl.below HG7.out gg2)
            replace HX7 := hide (HX7.out.below gg2)
            replace HA7 := hide (RowAt.below HA7.out gg2)
            replace D7 := hide (D7.out.below gg2)
            replace HB7 := hide (below_step HB7.out gg2)
            clear hr
            refine hK.out _ _ gg2 (fun _ => bel_switch gg2 ?_)
            clear hK K gg2
            try simp only [Act.put, List.setIfInBounds_toArray, List.set_cons_zero, List.set_cons_succ]
            refine' bel_take (i := 15) (v := _) ?hi15 (by kernel_rfl) (by kernel_rfl) (by kernel_rfl) (Or.inl ⟨?hw15, ?hy15⟩) ?rest15
            case hi15 => (simp only [List.getElem?_toArray, List.getElem?_cons_succ, List.getElem?_cons_zero]; rfl)
            case hw15 => rfl
            case hy15 => (intro w' hw'; go_simp; try with_reducible rfl)
            try simp only [Act.put, List.setIfInBounds_toArray, List.set_cons_zero, List.set_cons_succ]
            refine' bel_take (i := 16) (v := _) ?hi16 (by kernel_rfl) (by kernel_rfl) (by kernel_rfl) (Or.inl ⟨?hw16, ?hy16⟩) ?rest16
            case hi16 => (simp only [List.getElem?_toArray, List.getElem?_cons_succ, List.getElem?_cons_zero]; rfl)
            case hw16 => rfl
            case hy16 => (intro w' hw'; go_simp; try with_reducible rfl)
            try simp only [Act.put, List.setIfInBounds_toArray, List.set_cons_zero, List.set_cons_succ]
            refine' bel_take (i := 17) (v := _) ?hi17 (by kernel_rfl) (by kernel_rfl) (by kernel_rfl) (Or.inl ⟨?hw17, ?hy17⟩) ?rest17
            case hi17 => (simp only [List.getElem?_toArray, List.getElem?_cons_succ, List.getElem?_cons_zero]; rfl)
            case hw17 => rfl
            case hy17 => (intro w' hw'; go_simp; try with_reducible rfl)
            try simp only [Act.put, List.setIfInBounds_toArray, List.set_cons_zero, List.set_cons_succ]
            refine' bel_take (i := 18) (v := _) ?hi18 (by kernel_rfl) (by kernel_rfl) (by kernel_rfl) (Or.inl ⟨?hw18, ?hy18⟩) ?rest18
            case hi18 => (simp only [List.getElem?_toArray, List.getElem?_cons_succ, List.getElem?_cons_zero]; rfl)
            case hw18 => rfl
            case hy18 => (intro w' hw'; go_simp; try with_reducible rfl)
            try simp only [Act.put, List.setIfInBounds_toArray, List.set_cons_zero, List.set_cons_succ]
            refine' bel_take (i := 19) (v := _) ?hi19 (by kernel_rfl) (by kernel_rfl) (by kernel_rfl) (Or.inl ⟨?hw19, ?hy19⟩) ?rest19
            case hi19 => (simp only [List.getElem?_toArray, List.getElem?_cons_succ, List.getElem?_cons_zero]; rfl)
            case hw19 => rfl
            case hy19 => (intro w' hw'; go_simp; try with_reducible rfl)
            try simp only [Act.put, List.setIfInBounds_toArray, List.set_cons_zero, List.set_cons_succ]
            refine' bel_take (i := 20) (v := _) ?hi20 (by kernel_rfl) (by kernel_rfl) (by kernel_rfl) (Or.inl ⟨?hw20, ?hy20⟩) ?rest20
            case hi20 => (simp only [List.getElem?_toArray, List.getElem?_cons_succ, List.getElem?_cons_zero]; rfl)
            case hw20 => rfl
            case hy20 => (intro w' hw'; go_simp; try with_reducible rfl)
            try simp only [Act.put, List.setIfInBounds_toArray, List.set_cons_zero, List.set_cons_succ]
            refine wpAnyH_ready (rs := [21]) (by kernel_rfl) (by simp) ?_
            refine' AllReadyH.cons (o := _) ?ho21 (fun K hK => ?step21) ?more21
            case ho21 => (simp only [List.getElem?_toArray, List.getElem?_cons_succ, List.getElem?_cons_zero]; rfl)
            case more21 => exact AllReadyH.nil
            go_simp
            have hr := read_any A c I none 0 [] x.s HA7.out RowAt.nil_ HL7.out (by omega) (by simp) (by first | omega | (simp; omega))
            rw [HMI.out, HR3.out] at hr
            replace hr := hide hr
            refine (Calls.mono (hr.out) ?_); rintro e u3 ⟨rfl, gg3⟩
            replace HQ7 := hide (Sl.below HQ7.out gg3)
            replace HL7 := hide (Sl.below HL7.out gg3)
            replace HG7 := hide (Sl.below HG7.out gg3)
            replace HX7 := hide (HX7.out.below gg3)
            replace HA7 := hide (RowAt.below HA7.out gg3)
            replace D7 := hide (D7.out.below gg3)
            replace HB7 := hide (below_step HB7.out gg3)
            clear hr
            refine hK.out _ _ gg3 (fun _ => bel_switch gg3 ?_)
            clear hK K gg3
            try simp only [Act.put, List.setIfInBounds_toArray, List.set_cons_zero, List.set_cons_succ]
            refine' bel_take (i := 22) (v := _) ?hi22 (by kernel_rfl) (by kernel_rfl) (by kernel_rfl) (Or.inl ⟨?hw22, ?hy22⟩) ?rest22
            case hi22 => (simp only [List.getElem?_toArray, List.getElem?_cons_succ, List.getElem?_cons_zero]; rfl)
            case hw22 => rfl
            case hy22 => (intro w' hw'; go_simp; try with_reducible rfl)
            try simp only [Act.put, List.setIfInBounds_toArray, List.set_cons_zero, List.set_cons_succ]
            refine' bel_take (i := 23) (v := _) ?hi23 (by kernel_rfl) (by kernel_rfl) (by kernel_rfl) (Or.inl ⟨?hw23, ?hy23⟩) ?rest23
            case hi23 => (simp only [List.getElem?_toArray, List.getElem?_cons_succ, List.getElem?_cons_zero]; rfl)
            case hw23 => rfl
            case hy23 => (intro w' hw'; go_simp; try with_reducible rfl)
            try simp only [Act.put, List.setIfInBounds_toArray, List.set_cons_zero, List.set_cons_succ]
            refine' bel_take (i := 24) (v := _) ?hi24 (by kernel_rfl) (by kernel_rfl) (by kernel_rfl) (Or.inl ⟨?hw24, ?hy24⟩) ?rest24
            case hi24 => (simp only [List.getElem?_toArray, List.getElem?_cons_succ, List.getElem?_cons_zero]; rfl)
            case hw24 => rfl
            case hy24 => (intro w' hw'; go_simp; try with_reducible rfl)
            try simp only [Act.put, List.setIfInBounds_toArray, List.set_cons_zero, List.set_cons_succ]
            refine' bel_take (i := 25) (v := _) ?hi25 (by kernel_rfl) (by kernel_rfl) (by kernel_rfl) (Or.inl ⟨?hw25, ?hy25⟩) ?rest25
            case hi25 => (simp only [List.getElem?_toArray, List.getElem?_cons_succ, List.getElem?_cons_zero]; rfl)
            case hw25 => rfl
            case hy25 => (intro w' hw'; go_simp; try with_reducible rfl)
            try simp only [Act.put, List.setIfInBounds_toArray, List.set_cons_zero, List.set_cons_succ]
            refine' bel_take (i := 26) (v := _) ?hi26 (by kernel_rfl) (by kernel_rfl) (by kernel_rfl) (Or.inl ⟨?hw26, ?hy26⟩) ?rest26
            case hi26 => (simp only [List.getElem?_toArray, List.getElem?_cons_succ, List.getElem?_cons_zero]; rfl)
            case hw26 => rfl
            case hy26 => (intro w' hw'; go_simp; try with_reducible rfl)
            try simp only [Act.put, List.setIfInBounds_toArray, List.set_cons_zero, List.set_cons_succ]
            refine' bel_take (i := 28) (v := _) ?hi28 (by kernel_rfl) (by kernel_rfl) (by kernel_rfl) (Or.inl ⟨?hw28, ?hy28⟩) ?rest28
            case hi28 => (simp only [List.getElem?_toArray, List.getElem?_cons_succ, List.getElem?_cons_zero]; rfl)
            case hw28 => rfl
            case hy28 => (intro w' hw'; go_simp; try with_reducible rfl)
            try simp only [Act.put, List.setIfInBounds_toArray, List.set_cons_zero, List.set_cons_succ]
            refine' bel_take (i := 29) (v := _) ?hi29 (by kernel_rfl) (by kernel_rfl) (by kernel_rfl) (Or.inl ⟨?hw29, ?hy29⟩) ?rest29
            case hi29 => (simp only [List.getElem?_toArray, List.getElem?_cons_succ, List.getElem?_cons_zero]; rfl)
            case hw29 => rfl
            case hy29 => (intro w' hw'; go_simp; try with_reducible rfl)
            try simp only [Act.put, List.setIfInBounds_toArray, List.set_cons_zero, List.set_cons_succ]
            refine' bel_take (i := 30) (v := _) ?hi30 (by kernel_rfl) (by kernel_rfl) (by kernel_rfl) (Or.inl ⟨?hw30, ?hy30⟩) ?rest30
            case hi30 => (simp only [List.getElem?_toArray, List.getElem?_cons_succ, List.getElem?_cons_zero]; rfl)
            case hw30 => rfl
            case hy30 => (intro w' hw'; have hc := (HX7.out.below hw').c4; go_simp; try with_reducible rfl)
            try simp only [Act.put, List.setIfInBounds_toArray, List.set_cons_zero, List.set_cons_succ]
            refine' bel_take (i := 31) (v := _) ?hi31 (by kernel_rfl) (by kernel_rfl) (by kernel_rfl) (Or.inl ⟨?hw31, ?hy31⟩) ?rest31
            case hi31 => (simp only [List.getElem?_toArray, List.getElem?_cons_succ, List.getElem?_cons_zero]; rfl)
            case hw31 => rfl
            case hy31 => (intro w' hw'; have hc := HQQ.out; go_simp; try with_reducible rfl)
            try simp only [Act.put, List.setIfInBounds_toArray, List.set_cons_zero, List.set_cons_succ]
            refine wpAnyH_ready (rs := [27]) (by kernel_rfl) (by simp) ?_
            refine' AllReadyH.cons (o := _) ?ho27 (fun K hK => ?step27) ?more27
            case ho27 => (simp only [List.getElem?_toArray, List.getElem?_cons_succ, List.getElem?_cons_zero]; rfl)
            case more27 => exact AllReadyH.nil
            go_simp
            have hr := read_any A c I none 0 [] x.s HA7.out RowAt.nil_ HQ7.out (by omega) (by simp) (by simp; omega)
            rw [HMI.out, HR4.out, HQQ.out] at hr
            replace hr := hide hr
            refine (Calls.mono (hr.out) ?_); rintro e u4 ⟨rfl, gg4⟩
            replace HQ7 := hide (Sl.below HQ7.out gg4)
            replace HL7 := hide (Sl.below HL7.out gg4)
            replace HG7 := hide (Sl.below HG7.out gg4)
            replace HX7 := hide (HX7.out.below gg4)
            replace HA7 := hide (RowAt.below HA7.out gg4)
            replace D7 := hide (D7.out.below gg4)
            replace HB7 := hide (below_step HB7.out gg4)
            clear hr
            refine hK.out _ _ gg4 (fun _ => bel_switch gg4 ?_)
            clear hK K gg4
            try simp only [Act.put, List.setIfInBounds_toArray, List.set_cons_zero, List.set_cons_succ]
            refine' bel_take (i := 32) (v := _) ?hi32 (by kernel_rfl) (by kernel_rfl) (by kernel_rfl) (Or.inl ⟨?hw32, ?hy32⟩) ?rest32
            case hi32 => (simp only [List.getElem?_toArray, List.getElem?_cons_succ, List.getElem?_cons_zero]; rfl)
            case hw32 => rfl
            case hy32 => (intro w' hw'; go_simp; try with_reducible rfl)
            try simp only [Act.put, List.setIfInBounds_toArray, List.set_cons_zero, List.set_cons_succ]
            refine' bel_take (i := 33) (v := _) ?hi33 (by kernel_rfl) (by kernel_rfl) (by kernel_rfl) (Or.inl ⟨?hw33, ?hy33⟩) ?rest33
            case hi33 => (simp only [List.getElem?_toArray, List.getElem?_cons_succ, List.getElem?_cons_zero]; rfl)
            case hw33 => rfl
            case hy33 => (intro w' hw'; go_simp; try with_reducible rfl)
            try simp only [Act.put, List.setIfInBounds_toArray, List.set_cons_zero, List.set_cons_succ]
            refine' bel_take (i := 34) (v := _) ?hi34 (by kernel_rfl) (by kernel_rfl) (by kernel_rfl) (Or.inl ⟨?hw34, ?hy34⟩) ?rest34
            case hi34 => (simp only [List.getElem?_toArray, List.getElem?_cons_succ, List.getElem?_cons_zero]; rfl)
            case hw34 => rfl
            case hy34 => (intro w' hw'; go_simp; try with_reducible rfl)
            try simp only [Act.put, List.setIfInBounds_toArray, List.set_cons_zero, List.set_cons_succ]
            refine' bel_take (i := 35) (v := _) ?hi35 (by kernel_rfl) (by kernel_rfl) (by kernel_rfl) (Or.inl ⟨?hw35, ?hy35⟩) ?rest35
            case hi35 => (simp only [List.getElem?_toArray, List.getElem?_cons_succ, List.getElem?_cons_zero]; rfl)
            case hw35 => rfl
            case hy35 => (intro w' hw'; obtain ⟨_, d0, d1, d2, d3, d4, d5, d6, d7⟩ := D7.out.below hw'; go_simp; try with_reducible rfl)
            try simp only [Act.put, List.setIfInBounds_toArray, List.set_cons_zero, List.set_cons_succ]
            refine' bel_take (i := 37) (v := _) ?hi37 (by kernel_rfl) (by kernel_rfl) (by kernel_rfl) (Or.inl ⟨?hw37, ?hy37⟩) ?rest37
            case hi37 => (simp only [List.getElem?_toArray, List.getElem?_cons_succ, List.getElem?_cons_zero]; rfl)
            case hw37 => rfl
            case hy37 => (intro w' hw'; go_simp; try with_reducible rfl)
            try simp only [Act.put, List.setIfInBounds_toArray, List.set_cons_zero, List.set_cons_succ]
            refine wpAnyH_ready (rs := [36]) (by kernel_rfl) (by simp) ?_
            refine' AllReadyH.cons (o := _) ?ho36 (fun K hK => ?step36) ?more36
            case ho36 => (simp only [List.getElem?_toArray, List.getElem?_cons_succ, List.getElem?_cons_zero]; rfl)
            case more36 => exact AllReadyH.nil
            go_simp
            have ggm := below_alloc (Below.refl u4.heap.size u4) (.cells #[.int .u64 99, .int .i64 2, .int .i64 x.s, .int .u64 0, .int .i64 0, .int .i64 0, .int .u64 (x.v + 1), .slice none 0 0] 41)
            replace HV : Hid (AnsAt (u4.alloc (.cells #[.int .u64 99, .int .i64 2, .int .i64 x.s, .int .u64 0, .int .i64 0, .int .i64 0, .int .u64 (x.v + 1), .slice none 0 0] 41)) (some ⟨u4.heap.size, 0, none⟩) [delA x.s (x.v + 1)]) := hide (ans_new (y := delA x.s (x.v + 1)) (heap_alloc_new u4 _))
            replace HQ7 := hide (Sl.below HQ7.out ggm)
            replace HL7 := hide (Sl.below HL7.out ggm)
            replace HG7 := hide (Sl.below HG7.out ggm)
            replace HX7 := hide (HX7.out.below ggm)
            replace HA7 := hide (RowAt.below HA7.out ggm)
            replace D7 := hide (D7.out.below ggm)
            replace HB7 := hide (below_step HB7.out ggm)
            refine hK.out _ _ ggm (fun _ => bel_switch ggm ?_)
            clear hK K ggm
            generalize u4.alloc (.cells #[.int .u64 99, .int .i64 2, .int .i64 x.s, .int .u64 0, .int .i64 0, .int .i64 0, .int .u64 (x.v + 1), .slice none 0 0] 41) = m3 at *
            try simp only [Act.put, List.setIfInBounds_toArray, List.set_cons_zero, List.set_cons_succ]
            refine wpAnyH_ready (rs := [38]) (by kernel_rfl) (by simp) ?_
            refine' AllReadyH.cons (o := _) ?ho38 (fun K hK => ?step38) ?more38
            case ho38 => (simp only [List.getElem?_toArray, List.getElem?_cons_succ, List.getElem?_cons_zero]; rfl)
            case more38 => exact AllReadyH.nil
            go_simp
            have hr := gone_any (some ⟨u4.heap.size, 0, none⟩) 1 [delA x.s (x.v + 1)] HV.out HG7.out (by simp) (by omega)
            rw [HR5.out] at hr
            replace hr := hide hr
            refine (Calls.mono (hr.out) ?_); rintro e u5 ⟨rfl, gg5⟩
            replace HQ7 := hide (Sl.below HQ7.out gg5)
            replace HL7 := hide (Sl.below HL7.out gg5)
            replace HG7 := hide (Sl.below HG7.out gg5)
            replace HX7 := hide (HX7.out.below gg5)
            replace HA7 := hide (RowAt.below HA7.out gg5)
            replace D7 := hide (D7.out.below gg5)
            replace HB7 := hide (below_step HB7.out gg5)
            clear hr
            refine hK.out _ _ gg5 (fun _ => bel_switch gg5 ?_)
            clear hK K gg5
            try simp only [Act.put, List.setIfInBounds_toArray, List.set_cons_zero, List.set_cons_succ]
            refine' bel_take (i := 39) (v := _) ?hi39 (by kernel_rfl) (by kernel_rfl) (by kernel_rfl) (Or.inl ⟨?hw39, ?hy39⟩) ?rest39
            case hi39 => (simp only [List.getElem?_toArray, List.getElem?_cons_succ, List.getElem?_cons_zero]; rfl)
            case hw39 => rfl
            case hy39 => (intro w' hw'; go_simp; try with_reducible rfl)
            try simp only [Act.put, List.setIfInBounds_toArray, List.set_cons_zero, List.set_cons_succ]
            refine' bel_take (i := 40) (v := _) ?hi40 (by kernel_rfl) (by kernel_rfl) (by kernel_rfl) (Or.inl ⟨?hw40, ?hy40⟩) ?rest40
            case hi40 => (simp only [List.getElem?_toArray, List.getElem?_cons_succ, List.getElem?_cons_zero]; rfl)
            case hw40 => rfl
            case hy40 => (intro w' hw'; go_simp; try with_reducible rfl)
            try simp only [Act.put, List.setIfInBounds_toArray, List.set_cons_zero, List.set_cons_succ]
            refine' bel_take (i := 41) (v := _) ?hi41 (by kernel_rfl) (by kernel_rfl) (by kernel_rfl) (Or.inl ⟨?hw41, ?hy41⟩) ?rest41
            case hi41 => (simp only [List.getElem?_toArray, List.getElem?_cons_succ, List.getElem?_cons_zero]; rfl)
            case hw41 => rfl
            case hy41 => (intro w' hw'; go_simp; try with_reducible rfl)
            try simp only [Act.put, List.setIfInBounds_toArray, List.set_cons_zero, List.set_cons_succ]
            refine' bel_take (i := 42) (v := _) ?hi42 (by kernel_rfl) (by kernel_rfl) (by kernel_rfl) (Or.inl ⟨?hw42, ?hy42⟩) ?rest42
            case hi42 => (simp only [List.getElem?_toArray, List.getElem?_cons_succ, List.getElem?_cons_zero]; rfl)
            case hw42 => rfl
            case hy42 => (intro w' hw'; go_simp; try with_reducible rfl)
            try simp only [Act.put, List.setIfInBounds_toArray, List.set_cons_zero, List.set_cons_succ]
            refine wpAnyH_ready (rs := [43]) (by kernel_rfl) (by simp) ?_
            refine' AllReadyH.cons (o := _) ?ho43 (fun K hK => ?step43) ?more43
            case ho43 => (simp only [List.getElem?_toArray, List.getElem?_cons_succ, List.getElem?_cons_zero]; rfl)
            case more43 => exact AllReadyH.nil
            go_simp
            have hr := gone_any none 0 [] (w := u5) RowAt.nil_ HG7.out (by simp) (by omega)
            rw [gone_none] at hr
            replace hr := hide hr
            refine (Calls.mono (hr.out) ?_); rintro e u6 ⟨rfl, gg6⟩
            replace HQ7 := hide (Sl.below HQ7.out gg6)
            replace HL7 := hide (Sl.below HL7.out gg6)
            replace HG7 := hide (Sl.below HG7.out gg6)
            replace HX7 := hide (HX7.out.below gg6)
            replace HA7 := hide (RowAt.below HA7.out gg6)
            replace D7 := hide (D7.out.below gg6)
            replace HB7 := hide (below_step HB7.out gg6)
            clear hr
            refine hK.out _ _ gg6 (fun _ => bel_switch gg6 ?_)
            clear hK K gg6
            try simp only [Act.put, List.setIfInBounds_toArray, List.set_cons_zero, List.set_cons_succ]
            refine' bel_take (i := 44) (v := _) ?hi44 (by kernel_rfl) (by kernel_rfl) (by kernel_rfl) (Or.inl ⟨?hw44, ?hy44⟩) ?rest44
            case hi44 => (simp only [List.getElem?_toArray, List.getElem?_cons_succ, List.getElem?_cons_zero]; rfl)
            case hw44 => rfl
            case hy44 => (intro w' hw'; go_simp; try with_reducible rfl)
            try simp only [Act.put, List.setIfInBounds_toArray, List.set_cons_zero, List.set_cons_succ]
            refine' bel_take (i := 45) (v := _) ?hi45 (by kernel_rfl) (by kernel_rfl) (by kernel_rfl) (Or.inl ⟨?hw45, ?hy45⟩) ?rest45
            case hi45 => (simp only [List.getElem?_toArray, List.getElem?_cons_succ, List.getElem?_cons_zero]; rfl)
            case hw45 => rfl
            case hy45 => (intro w' hw'; go_simp; try with_reducible rfl)
            try simp only [Act.put, List.setIfInBounds_toArray, List.set_cons_zero, List.set_cons_succ]
            refine wpAnyH_ready (rs := [46]) (by kernel_rfl) (by simp) ?_
            refine' AllReadyH.cons (o := _) ?ho46 (fun K hK => ?step46) ?more46
            case ho46 => (simp only [List.getElem?_toArray, List.getElem?_cons_succ, List.getElem?_cons_zero]; rfl)
            case more46 => exact AllReadyH.nil
            go_simp
            refine (Calls.mono (awake27_any _) ?_); rintro e u7 ⟨rfl, gg7⟩
            replace HQ7 := hide (Sl.below HQ7.out gg7)
            replace HL7 := hide (Sl.below HL7.out gg7)
            replace HG7 := hide (Sl.below HG7.out gg7)
            replace HX7 := hide (HX7.out.below gg7)
            replace HA7 := hide (RowAt.below HA7.out gg7)
            replace D7 := hide (D7.out.below gg7)
            replace HB7 := hide (below_step HB7.out gg7)
            refine hK.out _ _ gg7 (fun _ => bel_switch gg7 ?_)
            clear hK K gg7
            try simp only [Act.put, List.setIfInBounds_toArray, List.set_cons_zero, List.set_cons_succ]
            refine' bel_take (i := 47) (v := _) ?hi47 (by kernel_rfl) (by kernel_rfl) (by kernel_rfl) (Or.inl ⟨?hw47, ?hy47⟩) ?rest47
            case hi47 => (simp only [List.getElem?_toArray, List.getElem?_cons_succ, List.getElem?_cons_zero]; rfl)
            case hw47 => rfl
            case hy47 => (intro w' hw'; go_simp; try with_reducible rfl)
            try simp only [Act.put, List.setIfInBounds_toArray, List.set_cons_zero, List.set_cons_succ]
            refine' bel_take (i := 48) (v := _) ?hi48 (by kernel_rfl) (by kernel_rfl) (by kernel_rfl) (Or.inl ⟨?hw48, ?hy48⟩) ?rest48
            case hi48 => (simp only [List.getElem?_toArray, List.getElem?_cons_succ, List.getElem?_cons_zero]; rfl)
            case hw48 => rfl
            case hy48 => (intro w' hw'; go_simp; try with_reducible rfl)
            try simp only [Act.put, List.setIfInBounds_toArray, List.set_cons_zero, List.set_cons_succ]
            refine wpAnyH_done (by kernel_rfl) ?_ _
            refine NoPanic.normal ?_
            go_wp2_with fail
            go_ret
            exact ⟨rfl, HB7.out⟩
end Go.Proofs.Ytebnifpclebliaa.axiomLost
