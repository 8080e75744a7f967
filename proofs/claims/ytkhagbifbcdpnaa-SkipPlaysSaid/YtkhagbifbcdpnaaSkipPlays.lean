/- The walk of clepsydralaw8.SkipPlays: it returns true. Conditions: the arguments are readable. -/
import Derived.Test.YtkhagbifbcdpnaaSkPlB
namespace Go.Proofs.Ytkhagbifbcdpnaa.skipPlays
set_option linter.unusedVariables false
set_option linter.unusedSimpArgs false
open Go.ChangeShapes Go.WideShapes Go.ChangeAt Go.RowKit
set_option maxHeartbeats 0 in
set_option maxRecDepth 100000 in
theorem walk {w : World} (A0 : Option Addr) (c0 : Nat) (L0 : List It) (lc0 : L0.length ≤ c0) (cm0 : c0 ≤ maxLen) (r0 : RowAt It.cells 5 w A0 L0) (w0 : ∀ a ∈ L0, a.wf)
    (A1 : Option Addr) (c1 : Nat) (L1 : List Int) (lc1 : L1.length ≤ c1) (cm1 : c1 ≤ maxLen) (r1 : RowAt (fun a => [.int .i64 a]) 1 w A1 L1) (w1 : ∀ a ∈ L1, (Lit.int .i64 a).wf = true)
    (A2 : Option Addr) (c2 : Nat) (L2 : List It) (lc2 : L2.length ≤ c2) (cm2 : c2 ≤ maxLen) (r2 : RowAt It.cells 5 w A2 L2) (w2 : ∀ a ∈ L2, a.wf) :
    Calls Try.prog 5 #[.slice A0 L0.length c0, .slice A1 L1.length c1, .slice A2 L2.length c2] w fun e w' => e = .returned (.bool true) ∧ Below w.heap.size w w' := by
  have R0 := hide r0
  have R1 := hide r1
  have R2 := hide r2
  have W1 := hide w1
  have W0 := hide w0
  have W2 := hide w2
  clear r0 w0 r1 w1 r2 w2
  unfold maxLen at cm0 cm1 cm2
  go_enter Try.func5, Try.ntmps5
  go_wp2_with fail
  refine (Calls.mono (new_any _) ?_); rintro e w1 ⟨p, N, rfl, hS, ho, hg1⟩
  have hst : St w w1 p [N] (.slice none 0 0) (.slice none 0 0) (itsF [N]) (htsF [N]) := ⟨hS, new_ok hS, Og.nil_ _ _, OwnL.nil_ _ _ _ _ _, ho, by simp [Value.ownBlock], by simp [Value.ownBlock], by simp [Value.ownBlock], hg1⟩
  have HST := hide hst
  clear hS ho hg1 hst
  go_wp2_with fail
  refine (Calls.mono (awake8_any _) ?_); rintro e w2 ⟨rfl, hg2⟩
  have HS1 := hide (HST.out.below hg2)
  clear hg2 HST
  go_upto_block 0 with fail
  go_cut [8, 9] (fun v u W' => ∃ (F : List Nd) (W : List It) (H : List Nat), F.length ≤ 61 ∧ itsF F = W ∧ htsF F = H ∧ St w W' p F v u W H)
  case first =>
    go_wp2_with fail
    have hS1 := HS1.out
    go_loopw [8, 9, 10] (fun v u i wr => ∃ (k : Nat) (F : List Nd) (W : List It) (H : List Nat), i = .int .i64 k ∧ k ≤ L0.length ∧ k ≤ L1.length ∧ k ≤ 60 ∧ F.length ≤ k + 1 ∧ itsF F = W ∧ htsF F = H ∧ St w wr p F v u W H) (fun _ _ i _ => 60 - (intOf i).toNat)
    case atStart => exact ⟨0, [N], itsF [N], htsF [N], rfl, by omega, by omega, by omega, by simp, rfl, rfl, hS1⟩
    case round =>
      clear hS1 HS1
      obtain ⟨k, F, W, H, rfl, hk0, hk1, hk60, hlF, hiw, hih, hst⟩ := hrel
      obtain ⟨Aw, cw, rfl, hrw, hcw, hcwm⟩ := hst.ow.sl
      obtain ⟨Ah, ch, rfl, hrh, hch, hchm⟩ := OwnL.vals hst.oh
      unfold maxLen at hcwm hchm
      have hlW : W.length ≤ k := by rw [← hiw, its_len]; omega
      have HUP : Hid (Rising W) := hide (hiw ▸ hst.ok.up)
      have HIW := hide hiw
      have HIH := hide hih
      have HST := hide hst
      clear hst hrw hrh hiw hih
      by_cases hlt : k < L0.length ∧ k < L1.length ∧ k < 60
      · obtain ⟨h0, h1, h2⟩ := hlt
        obtain ⟨bl, off, hA, hbb, y0, y1, y2, y3, y4⟩ := ItemsAt.item R0.out HST.out.low h0
        subst hA
        obtain ⟨b', off', rfl, hbb', z1⟩ := R1.out.one HST.out.low h1
        generalize L0[k] = x at *
        have hn := bounds_i64 (W1.out L1[k] (List.getElem_mem _))
        generalize L1[k] = n at *
        have hblw : bl < wr.heap.size := Nat.lt_of_lt_of_le hbb HST.out.low.size
        have hblw' : b' < wr.heap.size := Nat.lt_of_lt_of_le hbb' HST.out.low.size
        have h0I : (k : Int) < (L0.length : Int) := by omega
        have h1I : (k : Int) < (L1.length : Int) := by omega
        have h2I : (k : Int) < 60 := by omega
        have hne1 : ¬ bl = wr.heap.size := by omega
        have hne2 : ¬ b' = wr.heap.size := by omega
        go_upto_region 9 with fail
        go_region
        have hba := (below_alloc (Below.refl wr.heap.size wr) (.cells x.cells.toArray 30)).drew
        have hbx : BxAt (wr.alloc (.cells x.cells.toArray 30)).drew wr.heap.size x := BxAt.box (x := x) (heap_alloc_new wr (.cells x.cells.toArray 30))
        have HSTX := hide (HST.out.below hba)
        have HNX : Hid (¬ SBlk p F wr.heap.size) := hide (fun e => Nat.lt_irrefl _ (HST.out.sk.lt _ e))
        have HNV := hide (fun e => by have := (HST.out.ow.lt wr.heap.size e).2; omega : (Value.slice Aw W.length cw).ownBlock ≠ some wr.heap.size)
        have hgr : bl < wr.heap.size ∧ b' < wr.heap.size := ⟨hblw, hblw'⟩
        obtain ⟨wx, hwx⟩ : ∃ wx, (wr.alloc (.cells x.cells.toArray 30)).drew = wx := ⟨_, rfl⟩
        rw [hwx] at hbx HSTX
        rw [show (wr.alloc (Obj.cells #[.int .i64 x.s, .int .i64 x.k, .int .u64 x.t, .int .u64 x.v, .int .i64 x.x] 30)).drew = wx from hwx]
        have HBX := hide hbx
        obtain ⟨lx, x0, x1, x2, x3, x4⟩ := hbx
        generalize wr.heap.size = gx at *
        clear hwx hba y0 y1 y2 y3 y4 z1 hne1 hne2 hblw hblw' hgr h0I h1I h2I HST
        obtain ⟨r, hr⟩ : ∃ r, skR x n W = r := ⟨_, rfl⟩
        obtain ⟨er, her⟩ : ∃ er, skE x n = er := ⟨_, rfl⟩
        obtain ⟨gd, hgd⟩ : ∃ gd, goodB x = gd := ⟨_, rfl⟩
        have HGD := hide (fun W => rgood_any x W)
        rw [hgd] at HGD
        have HPT := hide (skput_any p F x n wx HSTX.out.sk HSTX.out.ok (by omega))
        rw [HIW.out, hr, her] at HPT
        have HR := hide hr
        have HER := hide her
        have HGB := hide hgd
        clear hr her hgd
        go_wp2_with fail
        refine (Calls.mono HPT.out ?_); rintro e v1 ⟨F', rfl, hP⟩
        have HST1 := hide (HSTX.out.put hP)
        have HBX1 := hide (BxAt.kept HBX.out hP.sets.size (hP.sets.block _ HBX.out.lt HNX.out))
        have HI : Hid (itsF F' = skL x n W) := hide (by rw [hP.its, HIW.out])
        have HH : Hid (htsF F' = skH x n W H) := hide (by rw [hP.hts, HIW.out, HIH.out])
        have hlF1 := hP.len
        have HNX1 : Hid (¬ SBlk p F' gx) := hide (fun e => by
          rcases hP.own gx e with h | h
          · exact HNX.out h
          · exact absurd HBX.out.lt (by omega))
        clear hP HSTX HBX HNX x0 x1 x2 x3 x4 HPT lx
        obtain ⟨lx, x0, x1, x2, x3, x4⟩ := HBX1.out
        go_wp2_with fail
        refine (Calls.mono (HGD.out _) ?_); rintro e v2 ⟨rfl, hg2⟩
        have HST2 := hide (HST1.out.below hg2)
        have HBX2 := hide (BxAt.kept HBX1.out hg2.size (hg2.block _ HBX1.out.lt))
        clear hg2 HST1 HBX1 lx x0 x1 x2 x3 x4
        obtain ⟨lx, x0, x1, x2, x3, x4⟩ := HBX2.out
        by_cases hok : gd = true ∧ 1 ≤ n ∧ n ≤ 6
        · obtain ⟨rfl, hn1, hn6⟩ := hok
          have hokP : okP x n = true := okP_iff.2 ⟨HGB.out, hn1, hn6⟩
          obtain rfl : er = 0 := by rw [← HER.out]; exact if_pos hokP
          have HRW : Hid (r = (!sameAt x W || winsAt x W)) := hide (by rw [← HR.out]; unfold skR; rw [hokP]; rfl)
          have HI1 : Hid (itsF F' = skP x W) := hide (HI.out.trans (if_pos hokP))
          have HH1 : Hid (htsF F' = if sameAt x W = true then H else H.take (lowI x W) ++ n.toNat :: H.drop (lowI x W)) := hide (HH.out.trans (if_pos hokP))
          have d1 : decide (n < 1) = false := decide_eq_false (by omega)
          have d6 : decide (6 < n) = false := decide_eq_false (by omega)
          clear HI HH HR HER hokP
          go_wp2_with fail
          refine (Calls.mono (skat_any Aw cw W x _ (sl_row HST2.out.ow.sl) HUP.out (by omega)) ?_); rintro e v3 ⟨rfl, hg3⟩
          have HST3 := hide (HST2.out.below hg3)
          have HBX3 := hide (BxAt.kept HBX2.out hg3.size (hg3.block _ HBX2.out.lt))
          clear hg3 HST2 HBX2 lx x0 x1 x2 x3 x4
          obtain ⟨lx, x0, x1, x2, x3, x4⟩ := HBX3.out
          have hql := low_le x W
          cases hs : sameAt x W with
          | true =>
            rw [hs] at HRW HH1
            obtain ⟨hl, hsm⟩ := sameAt_true hs
            have hwa : winsAt x W = winsB x (W[lowI x W]'hl) := by unfold winsAt; rw [List.getElem?_eq_getElem hl]
            have HI2 : Hid (itsF F' = if winsAt x W = true then W.set (lowI x W) x else W) := hide (by rw [HI1.out]; unfold skP; rw [if_pos hs])
            have HH2 : Hid (htsF F' = H) := hide HH1.out
            have hrw : r = winsAt x W := HRW.out
            obtain ⟨wb, hwb⟩ : ∃ wb, winsAt x W = wb := ⟨_, rfl⟩
            rw [hwb] at hrw hwa HI2
            subst hrw
            have HWN := hide (fun W' => rwins_any x (W[lowI x W]'hl) W')
            rw [← hwa] at HWN
            obtain ⟨bw, offw, hAw, hbbw, y0, y1, y2, y3, y4⟩ := ItemsAt.item (sl_row HST3.out.ow.sl) (Below.refl _ _) hl
            generalize W[lowI x W]'hl = y at *
            clear hwa hsm hs hwb HI1 HH1 HRW
            obtain ⟨q, hq⟩ : ∃ q, lowI x W = q := ⟨_, rfl⟩
            rw [hq] at hl HI2 y0 y1 y2 y3 y4 hql ⊢
            clear hq
            have hog := HST3.out.ow
            obtain ⟨gw, capw, Rw, hsl, hbg, hgg, hr1, hr2, hr3⟩ : ∃ gw cap R, Value.slice Aw W.length cw = .slice (some ⟨gw, 0, none⟩) W.length cap ∧ w.heap.size ≤ gw ∧ v3.heap[gw]? = some (.cells (flat W ++ R).toArray 30 (0, 0)) ∧ W.length ≤ cap ∧ cap ≤ maxLen ∧ cap * 5 ≤ W.length * 5 + R.length := by
              rcases hog with ⟨_, e⟩ | h
              · subst e; simp at hl
              · exact h
            injection hsl with hsl _ hcap
            subst hsl hcap
            injection hAw with hAw
            injection hAw with hA3 hA4
            subst hA3 hA4
            have hqI : (q : Int) < (W.length : Int) := by omega
            have hnc := near_cells v3
            simp only [Nat.zero_add] at y0 y1 y2 y3 y4
            go_wp2_with fail
            refine wp_region_near (by kernel_rfl) (by kernel_rfl) ?_
            repeat (go_big_quiet_step ((first | (go_at_call 17; exact near_of (HWN.out _)))))
            refine wpQuiet_nil ?_
            intro _ hw'
            obtain ⟨s1, rfl⟩ := hw'
            have hb4 := s1.is
            obtain ⟨w5, hw5⟩ : ∃ w5, s1.at_ = w5 := ⟨_, rfl⟩
            rw [hw5] at hb4 ⊢
            clear hw5 x0 x1 x2 x3 x4 hnc HWN lx y0 y1 y2 y3 y4 hog
            have HST4 := hide (HST3.out.below hb4)
            have HBX4 := hide (BxAt.kept HBX3.out hb4.size (hb4.block _ HBX3.out.lt))
            have hgg4 := (hb4.block gw hbbw).trans hgg
            have hgl := Nat.lt_of_lt_of_le hbbw hb4.size
            clear hb4 hgg hbbw HST3 HBX3
            obtain ⟨lx, x0, x1, x2, x3, x4⟩ := HBX4.out
            cases r with
            | true =>
              have hpc : ∀ j u, j < 5 → (flat W ++ Rw)[q * 5 + j]? = some u → w5.cell? ⟨gw, q * 5 + j, none⟩ = some u := fun j u _ hu => by rw [cell_of_row w5 gw _ _ _ _ hgg4]; simpa using hu
              have y0 := hpc 0 _ (by omega) (flat_at W Rw q hl 0 _ rfl)
              have y1 := hpc 1 _ (by omega) (flat_at W Rw q hl 1 _ rfl)
              have y2 := hpc 2 _ (by omega) (flat_at W Rw q hl 2 _ rfl)
              have y3 := hpc 3 _ (by omega) (flat_at W Rw q hl 3 _ rfl)
              have y4 := hpc 4 _ (by omega) (flat_at W Rw q hl 4 _ rfl)
              have hfz : ∀ o, w5.frozen? ⟨gw, o, none⟩ = false := fun o => by simp [World.frozen?, hgg4]
              generalize W[q]'hl = y at *
              have HSF := hide (HST4.out.set hgg4 hr1 hr2 hr3 hl x)
              have HG := hide hgg4
              clear hpc hgg4
              rw [Nat.add_zero] at y0
              go_wp2_with fail
              go_roundw
              case rel => exact ⟨k + 1, F', W.set q x, H, by go_num, by omega, by omega, by omega, by omega, HI2.out, HH2.out, HSF.out⟩
              case measure => simp [intOf]; omega
            | false =>
              go_wp2_with fail
              go_roundw
              case rel => exact ⟨k + 1, F', W, H, by go_num, by omega, by omega, by omega, by omega, HI2.out, HH2.out, HST4.out⟩
              case measure => simp [intOf]; omega
          | false =>
            rw [hs] at HRW HH1
            obtain rfl : r = true := HRW.out
            have HI2 : Hid (itsF F' = W.take (lowI x W) ++ [x] ++ W.drop (lowI x W)) := hide (by rw [HI1.out]; unfold skP; rw [if_neg (by simp [hs])]; simp)
            have HH2 : Hid (htsF F' = H.take (lowI x W) ++ [n.toNat] ++ H.drop (lowI x W)) := hide (by rw [HH1.out]; simp)
            have hlH : H.length = W.length := by
              have h1 := its_len F
              rw [HIW.out] at h1
              have h2 : (htsF F).length = F.length - 1 := by unfold htsF; simp
              rw [HIH.out] at h2
              omega
            clear HI1 HH1 HRW hs
            obtain ⟨q, hq⟩ : ∃ q, lowI x W = q := ⟨_, rfl⟩
            rw [hq] at HI2 HH2 hql ⊢
            clear hq
            have HLH := hide hlH
            have hqI : (q : Int) ≤ (W.length : Int) := by omega
            have hqH : (q : Int) ≤ (H.length : Int) := by omega
            have hqHN : q ≤ H.length := by omega
            have hqhN : q ≤ ch := by omega
            have hqh : (q : Int) ≤ (ch : Int) := by omega
            have hlHk : H.length ≤ k := by omega
            clear hlH
            have hqcN : q ≤ cw := by omega
            have hqc : (q : Int) ≤ (cw : Int) := by omega
            have HK : Hid (∀ W' : World, Below v3.heap.size v3 W' → W'.cell? ⟨gx, 0, none⟩ = some (.int .i64 x.s) ∧ W'.cell? ⟨gx, 1, none⟩ = some (.int .i64 x.k) ∧ W'.cell? ⟨gx, 2, none⟩ = some (.int .u64 x.t) ∧ W'.cell? ⟨gx, 3, none⟩ = some (.int .u64 x.v) ∧ W'.cell? ⟨gx, 4, none⟩ = some (.int .i64 x.x)) := hide (fun W' hW => by
              obtain ⟨_, a, b, c, d, e⟩ := BxAt.kept HBX3.out hW.size (hW.block _ HBX3.out.lt)
              exact ⟨a, b, c, d, e⟩)
            have HB0 : Hid (Below v3.heap.size v3 v3.drew) := hide (Below.refl _ _).drew
            clear x0 x1 x2 x3 x4
            -- INSERT
            obtain ⟨nn, rfl⟩ : ∃ nn : Nat, n = nn := ⟨n.toNat, by omega⟩
            rw [Int.toNat_natCast] at HH2
            go_upto_region 23 with fail
            go_cut [8] (fun v' W' => Ow v3.heap.size W' v' ([] ++ W.take q ++ [x] ++ W.drop q) ∧ Below v3.heap.size v3 W')
            case first =>
              have hog := HST3.out.ow
              rcases hog with ⟨hsl, hWn⟩ | ⟨gw, capw, Rw, hsl, hbg, hgg, hr1, hr2, hr3⟩
              · injection hsl with hsl _ hcap
                subst hsl hcap
                obtain rfl : W = [] := hWn
                obtain rfl : q = 0 := by have := hql; simp at this; omega
                have HLT : Hid ((([] : List It) : List It).length = 0) := hide (by simp <;> omega)
                have HLD : Hid ((([] : List It) : List It).length = 0) := hide (by simp)
                have HN1 : Hid (([] : List It).length + (([] : List It) : List It).length ≤ 2199023255552) := hide (by simp <;> omega)
                have HN2 : Hid (([] ++ ([] : List It) : List It).length + [x].length ≤ 2199023255552) := hide (by simp <;> omega)
                have HN3 : Hid (([] ++ ([] : List It) ++ [x] : List It).length + (([] : List It) : List It).length ≤ 2199023255552) := hide (by simp <;> omega)
                have HRT := hide (fun W' (_ : Below v3.heap.size v3 W') => (RowAt.nil_ : ItemsAt W' none ([] : List It)))
                have HRD := hide (fun W' (_ : Below v3.heap.size v3 W') => (RowAt.nil_ : ItemsAt W' none ([] : List It)))
                go_region_held3 (fun W' => W'.cell? ⟨gx, 0, none⟩ = some (.int .i64 x.s) ∧ W'.cell? ⟨gx, 1, none⟩ = some (.int .i64 x.k) ∧ W'.cell? ⟨gx, 2, none⟩ = some (.int .u64 x.t) ∧ W'.cell? ⟨gx, 3, none⟩ = some (.int .u64 x.v) ∧ W'.cell? ⟨gx, 4, none⟩ = some (.int .i64 x.x)) (exact HK.out _ (by repeat (first | exact HB0.out | exact HB1.out | exact HB2.out | exact HB3.out | refine below_alloc ?_ _ | exact Below.refl _ _ | refine Below.drew ?_))) (first
                  | (refine step_app_items' (w0 := v3) (by repeat (first | exact HB0.out | exact HB1.out | exact HB2.out | exact HB3.out | refine below_alloc ?_ _ | exact Below.refl _ _ | refine Below.drew ?_)) rfl (.tmp 113) (.tmp 116) rfl _ [] rfl (by first | exact own_empty _ _ _ _ v3 (Nat.le_refl _) | exact OwnL.alloc (own_empty _ _ _ _ v3 (Nat.le_refl _)) _ | exact own_empty2 _ _ _ _ v3 _ (Nat.le_refl _)) _ _ _ ([] : List It) HLT.out rfl (HRT.out _ (by repeat (first | exact HB0.out | exact HB1.out | exact HB2.out | exact HB3.out | refine below_alloc ?_ _ | exact Below.refl _ _ | refine Below.drew ?_))) HN1.out ?_; intro t1 w1 ho1 hb1 hg1; have HB1 := hide hb1; have HO1 := hide ho1; (first | (have HX := hide (RowAt.new_one (cells := It.cells) (sz := 5) (y := x) (t := 30) (fr := (0, 0)) (g := v3.heap.size + 1) (grown_row hg1 (al2z v3 (.cells #[] 30) (.cells x.cells.toArray 30)).1 (show some (v3.heap.size + 1) ≠ some v3.heap.size by simp)))) | (have HX := hide (RowAt.new_one (cells := It.cells) (sz := 5) (y := x) (t := 30) (fr := (0, 0)) (g := v3.heap.size) (grown_row hg1 ((Below.heap_alloc (v3.alloc (.cells x.cells.toArray 30)) (.cells #[] 30) v3.heap.size (by simp)).trans (heap_alloc_new v3 (.cells x.cells.toArray 30))) (show some v3.heap.size ≠ some (v3.heap.size + 1) by simp)))) | skip); clear ho1 hb1 hg1)
                  | (refine step_app_items' (w0 := v3) (by repeat (first | exact HB0.out | exact HB1.out | exact HB2.out | exact HB3.out | refine below_alloc ?_ _ | exact Below.refl _ _ | refine Below.drew ?_)) rfl (.tmp 117) (.tmp 119) rfl _ ([] ++ ([] : List It)) rfl (by first | exact HO1.out | exact OwnL.alloc HO1.out _) _ _ _ [x] rfl rfl (by first | exact HX.out | exact RowAt.new_one (cells := It.cells) (sz := 5) (y := x) (t := 30) (fr := (0, 0)) (heap_alloc_new w1 _)) HN2.out ?_; intro t2 w2 ho2 hb2 hg2; have HB2 := hide hb2; have HO2 := hide ho2; clear ho2 hb2 hg2)
                  | (refine step_app_items' (w0 := v3) (by repeat (first | exact HB0.out | exact HB1.out | exact HB2.out | exact HB3.out | refine below_alloc ?_ _ | exact Below.refl _ _ | refine Below.drew ?_)) rfl (.tmp 120) (.tmp 123) rfl _ ([] ++ ([] : List It) ++ [x]) rfl HO2.out _ _ _ ([] : List It) HLD.out rfl (HRD.out _ (by repeat (first | exact HB0.out | exact HB1.out | exact HB2.out | exact HB3.out | refine below_alloc ?_ _ | exact Below.refl _ _ | refine Below.drew ?_))) HN3.out ?_; intro t3 w3 ho3 hb3 hg3; have HB3 := hide hb3; have HO3 := hide ho3; clear ho3 hb3 hg3))
                all_goals go_wp2_with fail
                all_goals go_meet
                all_goals exact ⟨HO3.out, HB3.out⟩
              · injection hsl with hsl _ hcap
                subst hsl hcap
                have hrow := row_items hgg
                clear hgg hr3 hbg
                have HLT : Hid (((W.take q) : List It).length = q) := hide (by simp <;> omega)
                have HLD : Hid (((W.drop q) : List It).length = W.length - q) := hide (by simp)
                have HN1 : Hid (([] : List It).length + ((W.take q) : List It).length ≤ 2199023255552) := hide (by simp <;> omega)
                have HN2 : Hid (([] ++ (W.take q) : List It).length + [x].length ≤ 2199023255552) := hide (by simp <;> omega)
                have HN3 : Hid (([] ++ (W.take q) ++ [x] : List It).length + ((W.drop q) : List It).length ≤ 2199023255552) := hide (by simp <;> omega)
                have HRT := hide (fun W' (hW : Below v3.heap.size v3 W') => ItemsAt.take (hrow.below hW) q)
                have HRD := hide (fun W' (hW : Below v3.heap.size v3 W') => ItemsAt.dropc (hrow.below hW) q hr1)
                clear hrow
                go_region_held3 (fun W' => W'.cell? ⟨gx, 0, none⟩ = some (.int .i64 x.s) ∧ W'.cell? ⟨gx, 1, none⟩ = some (.int .i64 x.k) ∧ W'.cell? ⟨gx, 2, none⟩ = some (.int .u64 x.t) ∧ W'.cell? ⟨gx, 3, none⟩ = some (.int .u64 x.v) ∧ W'.cell? ⟨gx, 4, none⟩ = some (.int .i64 x.x)) (exact HK.out _ (by repeat (first | exact HB0.out | exact HB1.out | exact HB2.out | exact HB3.out | refine below_alloc ?_ _ | exact Below.refl _ _ | refine Below.drew ?_))) (first
                  | (refine step_app_items' (w0 := v3) (by repeat (first | exact HB0.out | exact HB1.out | exact HB2.out | exact HB3.out | refine below_alloc ?_ _ | exact Below.refl _ _ | refine Below.drew ?_)) rfl (.tmp 113) (.tmp 116) rfl _ [] rfl (by first | exact own_empty _ _ _ _ v3 (Nat.le_refl _) | exact OwnL.alloc (own_empty _ _ _ _ v3 (Nat.le_refl _)) _ | exact own_empty2 _ _ _ _ v3 _ (Nat.le_refl _)) _ _ _ (W.take q) HLT.out rfl (HRT.out _ (by repeat (first | exact HB0.out | exact HB1.out | exact HB2.out | exact HB3.out | refine below_alloc ?_ _ | exact Below.refl _ _ | refine Below.drew ?_))) HN1.out ?_; intro t1 w1 ho1 hb1 hg1; have HB1 := hide hb1; have HO1 := hide ho1; (first | (have HX := hide (RowAt.new_one (cells := It.cells) (sz := 5) (y := x) (t := 30) (fr := (0, 0)) (g := v3.heap.size + 1) (grown_row hg1 (al2z v3 (.cells #[] 30) (.cells x.cells.toArray 30)).1 (show some (v3.heap.size + 1) ≠ some v3.heap.size by simp)))) | (have HX := hide (RowAt.new_one (cells := It.cells) (sz := 5) (y := x) (t := 30) (fr := (0, 0)) (g := v3.heap.size) (grown_row hg1 ((Below.heap_alloc (v3.alloc (.cells x.cells.toArray 30)) (.cells #[] 30) v3.heap.size (by simp)).trans (heap_alloc_new v3 (.cells x.cells.toArray 30))) (show some v3.heap.size ≠ some (v3.heap.size + 1) by simp)))) | skip); clear ho1 hb1 hg1)
                  | (refine step_app_items' (w0 := v3) (by repeat (first | exact HB0.out | exact HB1.out | exact HB2.out | exact HB3.out | refine below_alloc ?_ _ | exact Below.refl _ _ | refine Below.drew ?_)) rfl (.tmp 117) (.tmp 119) rfl _ ([] ++ (W.take q)) rfl (by first | exact HO1.out | exact OwnL.alloc HO1.out _) _ _ _ [x] rfl rfl (by first | exact HX.out | exact RowAt.new_one (cells := It.cells) (sz := 5) (y := x) (t := 30) (fr := (0, 0)) (heap_alloc_new w1 _)) HN2.out ?_; intro t2 w2 ho2 hb2 hg2; have HB2 := hide hb2; have HO2 := hide ho2; clear ho2 hb2 hg2)
                  | (refine step_app_items' (w0 := v3) (by repeat (first | exact HB0.out | exact HB1.out | exact HB2.out | exact HB3.out | refine below_alloc ?_ _ | exact Below.refl _ _ | refine Below.drew ?_)) rfl (.tmp 120) (.tmp 123) rfl _ ([] ++ (W.take q) ++ [x]) rfl HO2.out _ _ _ (W.drop q) HLD.out rfl (HRD.out _ (by repeat (first | exact HB0.out | exact HB1.out | exact HB2.out | exact HB3.out | refine below_alloc ?_ _ | exact Below.refl _ _ | refine Below.drew ?_))) HN3.out ?_; intro t3 w3 ho3 hb3 hg3; have HB3 := hide hb3; have HO3 := hide ho3; clear ho3 hb3 hg3))
                all_goals go_wp2_with fail
                all_goals go_meet
                all_goals exact ⟨HO3.out, HB3.out⟩
            case rest =>
              obtain ⟨hOw, hBw⟩ := hcut
              have HOW := hide hOw
              have HBW := hide hBw
              have HST5 := hide (HST3.out.below hBw)
              clear hOw hBw HB0 HK
              obtain ⟨wd, rfl⟩ : ∃ wd, wd = wc := ⟨_, rfl⟩
              have HB0 : Hid (Below wd.heap.size wd wd.drew) := hide (Below.refl _ _).drew
              unfold maxLen at *
              go_upto_region 24 with fail
              have hoh := HST5.out.oh
              obtain ⟨hoz, hoh⟩ := hoh
              rcases hoh with ⟨hsl, hWn⟩ | ⟨gw, capw, cur, hsl, hbg, hgg, hr1, hr2, hr3, hr4⟩
              · injection hsl with hsl _ hcap
                subst hsl hcap
                obtain rfl : H = [] := List.eq_nil_of_length_eq_zero hWn
                obtain rfl : q = 0 := by have := hqHN; simp at this; omega
                have HLT : Hid ((([] : List Nat) : List Nat).length = 0) := hide (by simp <;> omega)
                have HLD : Hid ((([] : List Nat) : List Nat).length = 0) := hide (by simp)
                have HN1 : Hid (([] : List Nat).length + (([] : List Nat) : List Nat).length ≤ 2199023255552) := hide (by simp <;> omega)
                have HN2 : Hid (([] ++ ([] : List Nat) : List Nat).length + [nn].length ≤ 2199023255552) := hide (by simp <;> omega)
                have HN3 : Hid (([] ++ ([] : List Nat) ++ [nn] : List Nat).length + (([] : List Nat) : List Nat).length ≤ 2199023255552) := hide (by simp <;> omega)
                have HRT := hide (fun W' (_ : Below wd.heap.size wd W') => (RowAt.nil_ : ValsAt natv W' none ([] : List Nat)))
                have HRD := hide (fun W' (_ : Below wd.heap.size wd W') => (RowAt.nil_ : ValsAt natv W' none ([] : List Nat)))
                go_region_held3 (fun _ => True) (trivial) (first
                  | (refine step_app_nats' (w0 := wd) (by repeat (first | exact HB0.out | exact HB1.out | exact HB2.out | exact HB3.out | refine below_alloc ?_ _ | exact Below.refl _ _ | refine Below.drew ?_)) rfl (.tmp 125) (.tmp 128) rfl _ [] rfl (by first | exact own_empty _ _ _ _ wd (Nat.le_refl _) | exact OwnL.alloc (own_empty _ _ _ _ wd (Nat.le_refl _)) _ | exact own_empty2 _ _ _ _ wd _ (Nat.le_refl _)) _ _ _ ([] : List Nat) HLT.out rfl (HRT.out _ (by repeat (first | exact HB0.out | exact HB1.out | exact HB2.out | exact HB3.out | refine below_alloc ?_ _ | exact Below.refl _ _ | refine Below.drew ?_))) HN1.out ?_; intro t1 w1 ho1 hb1 hg1; have HB1 := hide hb1; have HO1 := hide ho1; (first | (have HX := hide (RowAt.new_one (cells := one1 natv) (sz := 1) (y := nn) (t := 3) (fr := (0, 0)) (g := wd.heap.size + 1) (grown_row hg1 (al2z wd (.cells #[] 3) (.cells #[natv nn] 3)).1 (show some (wd.heap.size + 1) ≠ some wd.heap.size by simp)))) | (have HX := hide (RowAt.new_one (cells := one1 natv) (sz := 1) (y := nn) (t := 3) (fr := (0, 0)) (g := wd.heap.size) (grown_row hg1 ((Below.heap_alloc (wd.alloc (.cells #[natv nn] 3)) (.cells #[] 3) wd.heap.size (by simp)).trans (heap_alloc_new wd (.cells #[natv nn] 3))) (show some wd.heap.size ≠ some (wd.heap.size + 1) by simp)))) | skip); clear ho1 hb1 hg1)
                  | (refine step_app_nats' (w0 := wd) (by repeat (first | exact HB0.out | exact HB1.out | exact HB2.out | exact HB3.out | refine below_alloc ?_ _ | exact Below.refl _ _ | refine Below.drew ?_)) rfl (.tmp 129) (.tmp 131) rfl _ ([] ++ ([] : List Nat)) rfl (by first | exact HO1.out | exact OwnL.alloc HO1.out _) _ _ _ [nn] rfl rfl (by first | exact HX.out | exact RowAt.new_one (cells := one1 natv) (sz := 1) (y := nn) (t := 3) (fr := (0, 0)) (heap_alloc_new w1 _)) HN2.out ?_; intro t2 w2 ho2 hb2 hg2; have HB2 := hide hb2; have HO2 := hide ho2; clear ho2 hb2 hg2)
                  | (refine step_app_nats' (w0 := wd) (by repeat (first | exact HB0.out | exact HB1.out | exact HB2.out | exact HB3.out | refine below_alloc ?_ _ | exact Below.refl _ _ | refine Below.drew ?_)) rfl (.tmp 132) (.tmp 135) rfl _ ([] ++ ([] : List Nat) ++ [nn]) rfl HO2.out _ _ _ ([] : List Nat) HLD.out rfl (HRD.out _ (by repeat (first | exact HB0.out | exact HB1.out | exact HB2.out | exact HB3.out | refine below_alloc ?_ _ | exact Below.refl _ _ | refine Below.drew ?_))) HN3.out ?_; intro t3 w3 ho3 hb3 hg3; have HB3 := hide hb3; have HO3 := hide ho3; clear ho3 hb3 hg3))
                all_goals
                  have HNW := hide (HST5.out.more HST3.out HOW.out HBW.out HO3.out HB3.out)
                  go_wp2_with fail
                  go_roundw
                  case rel => exact ⟨k + 1, F', _, _, by go_num, by omega, by omega, by omega, by omega, by rw [HI2.out]; simp, by rw [HH2.out]; simp, HNW.out⟩
                  case measure => simp [intOf]; omega
              · injection hsl with hsl _ hcap
                subst hsl hcap
                have hrow := own_vals hgg hr4
                clear hgg hr3 hr4 hbg
                have HLT : Hid (((H.take q) : List Nat).length = q) := hide (by simp <;> omega)
                have HLD : Hid (((H.drop q) : List Nat).length = H.length - q) := hide (by simp)
                have HN1 : Hid (([] : List Nat).length + ((H.take q) : List Nat).length ≤ 2199023255552) := hide (by simp <;> omega)
                have HN2 : Hid (([] ++ (H.take q) : List Nat).length + [nn].length ≤ 2199023255552) := hide (by simp <;> omega)
                have HN3 : Hid (([] ++ (H.take q) ++ [nn] : List Nat).length + ((H.drop q) : List Nat).length ≤ 2199023255552) := hide (by simp <;> omega)
                have HRT := hide (fun W' (hW : Below wd.heap.size wd W') => vals_take (hrow.below hW) q)
                have HRD := hide (fun W' (hW : Below wd.heap.size wd W') => vals_dropc (hrow.below hW) q hr1)
                clear hrow
                go_region_held3 (fun _ => True) (trivial) (first
                  | (refine step_app_nats' (w0 := wd) (by repeat (first | exact HB0.out | exact HB1.out | exact HB2.out | exact HB3.out | refine below_alloc ?_ _ | exact Below.refl _ _ | refine Below.drew ?_)) rfl (.tmp 125) (.tmp 128) rfl _ [] rfl (by first | exact own_empty _ _ _ _ wd (Nat.le_refl _) | exact OwnL.alloc (own_empty _ _ _ _ wd (Nat.le_refl _)) _ | exact own_empty2 _ _ _ _ wd _ (Nat.le_refl _)) _ _ _ (H.take q) HLT.out rfl (HRT.out _ (by repeat (first | exact HB0.out | exact HB1.out | exact HB2.out | exact HB3.out | refine below_alloc ?_ _ | exact Below.refl _ _ | refine Below.drew ?_))) HN1.out ?_; intro t1 w1 ho1 hb1 hg1; have HB1 := hide hb1; have HO1 := hide ho1; (first | (have HX := hide (RowAt.new_one (cells := one1 natv) (sz := 1) (y := nn) (t := 3) (fr := (0, 0)) (g := wd.heap.size + 1) (grown_row hg1 (al2z wd (.cells #[] 3) (.cells #[natv nn] 3)).1 (show some (wd.heap.size + 1) ≠ some wd.heap.size by simp)))) | (have HX := hide (RowAt.new_one (cells := one1 natv) (sz := 1) (y := nn) (t := 3) (fr := (0, 0)) (g := wd.heap.size) (grown_row hg1 ((Below.heap_alloc (wd.alloc (.cells #[natv nn] 3)) (.cells #[] 3) wd.heap.size (by simp)).trans (heap_alloc_new wd (.cells #[natv nn] 3))) (show some wd.heap.size ≠ some (wd.heap.size + 1) by simp)))) | skip); clear ho1 hb1 hg1)
                  | (refine step_app_nats' (w0 := wd) (by repeat (first | exact HB0.out | exact HB1.out | exact HB2.out | exact HB3.out | refine below_alloc ?_ _ | exact Below.refl _ _ | refine Below.drew ?_)) rfl (.tmp 129) (.tmp 131) rfl _ ([] ++ (H.take q)) rfl (by first | exact HO1.out | exact OwnL.alloc HO1.out _) _ _ _ [nn] rfl rfl (by first | exact HX.out | exact RowAt.new_one (cells := one1 natv) (sz := 1) (y := nn) (t := 3) (fr := (0, 0)) (heap_alloc_new w1 _)) HN2.out ?_; intro t2 w2 ho2 hb2 hg2; have HB2 := hide hb2; have HO2 := hide ho2; clear ho2 hb2 hg2)
                  | (refine step_app_nats' (w0 := wd) (by repeat (first | exact HB0.out | exact HB1.out | exact HB2.out | exact HB3.out | refine below_alloc ?_ _ | exact Below.refl _ _ | refine Below.drew ?_)) rfl (.tmp 132) (.tmp 135) rfl _ ([] ++ (H.take q) ++ [nn]) rfl HO2.out _ _ _ (H.drop q) HLD.out rfl (HRD.out _ (by repeat (first | exact HB0.out | exact HB1.out | exact HB2.out | exact HB3.out | refine below_alloc ?_ _ | exact Below.refl _ _ | refine Below.drew ?_))) HN3.out ?_; intro t3 w3 ho3 hb3 hg3; have HB3 := hide hb3; have HO3 := hide ho3; clear ho3 hb3 hg3))
                all_goals
                  have HNW := hide (HST5.out.more HST3.out HOW.out HBW.out HO3.out HB3.out)
                  go_wp2_with fail
                  go_roundw
                  case rel => exact ⟨k + 1, F', _, _, by go_num, by omega, by omega, by omega, by omega, by rw [HI2.out]; simp, by rw [HH2.out]; simp, HNW.out⟩
                  case measure => simp [intOf]; omega
            -- END INSERT
        · have hokP : okP x n = false := by
            cases h : okP x n with
            | false => rfl
            | true =>
              obtain ⟨a, b, c⟩ := okP_iff.1 h
              exact absurd ⟨by rw [← HGB.out]; exact a, b, c⟩ hok
          obtain rfl : er = 1 := by rw [← HER.out]; unfold skE; rw [hokP]; rfl
          obtain rfl : r = false := by rw [← HR.out]; unfold skR; rw [hokP]; rfl
          have HI1 : Hid (itsF F' = W) := hide (by rw [HI.out]; unfold skL; rw [hokP]; rfl)
          have HH1 : Hid (htsF F' = H) := hide (by rw [HH.out]; unfold skH; rw [hokP]; rfl)
          clear HI HH HR HER hokP
          have hcs : (gd = false) ∨ (gd = true ∧ n < 1) ∨ (gd = true ∧ 1 ≤ n ∧ 6 < n) := by
            cases gd with
            | false => exact .inl rfl
            | true =>
              by_cases h1 : n < 1
              · exact .inr (.inl ⟨rfl, h1⟩)
              · exact .inr (.inr ⟨rfl, by omega, by have : ¬ (1 ≤ n ∧ n ≤ 6) := fun e => hok ⟨rfl, e⟩; omega⟩)
          clear hok HGB
          rcases hcs with rfl | ⟨rfl, hn1⟩ | ⟨rfl, hn1, hn6⟩
          · go_wp2_with fail
            go_roundw
            case rel => exact ⟨k + 1, F', W, H, by go_num, by omega, by omega, by omega, by omega, HI1.out, HH1.out, HST2.out⟩
            case measure => simp [intOf]; omega
          · have d1 : decide (n < 1) = true := decide_eq_true hn1
            go_wp2_with fail
            go_roundw
            case rel => exact ⟨k + 1, F', W, H, by go_num, by omega, by omega, by omega, by omega, HI1.out, HH1.out, HST2.out⟩
            case measure => simp [intOf]; omega
          · have d1 : decide (n < 1) = false := decide_eq_false (by omega)
            have d6 : decide (6 < n) = true := decide_eq_true hn6
            go_wp2_with fail
            go_roundw
            case rel => exact ⟨k + 1, F', W, H, by go_num, by omega, by omega, by omega, by omega, HI1.out, HH1.out, HST2.out⟩
            case measure => simp [intOf]; omega
      · have hcs : (k : Int) < (L0.length : Int) → (k : Int) < (L1.length : Int) → (k : Int) < 60 → False := fun a b c => hlt ⟨by omega, by omega, by omega⟩
        by_cases h0 : (k : Int) < (L0.length : Int)
        · by_cases h1 : (k : Int) < (L1.length : Int)
          · have h2 : ¬ (k : Int) < 60 := fun h => hcs h0 h1 h
            clear hcs hlt
            go_wp2_with fail
            go_meet
            exact ⟨F, W, H, by omega, HIW.out, HIH.out, HST.out⟩
          · clear hcs hlt
            go_wp2_with fail
            go_meet
            exact ⟨F, W, H, by omega, HIW.out, HIH.out, HST.out⟩
        · clear hcs hlt
          go_wp2_with fail
          go_meet
          exact ⟨F, W, H, by omega, HIW.out, HIH.out, HST.out⟩
  case rest =>
    obtain ⟨F, W, H, hlF, hiw, hih, hst⟩ := hcut
    rename_i hK
    exact hK _ _ (rest_walk A0 c0 L0 lc0 cm0 R0.out W0.out A1 c1 L1 lc1 cm1 R1.out W1.out A2 c2 L2 lc2 cm2 R2.out W2.out hlF hiw hih _ _ _ _ _ _ _ _ _ _ _ _ _ _ _ _ _ _ _ _ _ _ _ _ _ _ _ _ _ _ _ _ _ _ _ _ _ _ _ _ _ _ _ _ _ _ _ _ _ _ _ _ _ _ _ _ _ _ _ _ _ _ _ _ _ _ _ _ _ _ _ _ _ _ _ _ _ _ _ _ _ _ _ _ _ _ _ _ _ _ _ _ _ _ _ _ _ _ _ _ _ _ _ _ _ _ _ _ _ _ _ _ _ _ _ _ _ _ _ _ _ _ _ _ _ _ _ _ _ _ _ _ _ _ _ _ _ _ _ _ _ _ _ _ _ _ _ _ _ _ _ _ _ _ _ _ _ _ _ _ _ _ _ _ _ _ _ _ _ _ _ _ _ _ _ _ _ _ _ _ _ _ _ _ _ _ _ _ _ _ _ _ _ _ _ _ _ _ _ _ _ _ _ _ _ _ _ _ _ _ _ _ _ _ _ _ _ _ _ _ _ _ _ _ _ _ _ _ _ _ _ _ _ _ _ _ _ _ _ _ _ _ _ _ _ _ _ _ _ _ _ _ _ _ _ _ _ _ _ _ _ _ _ _ _ _ hst)
end Go.Proofs.Ytkhagbifbcdpnaa.skipPlays
