/- The walk of clepsydralaw8.SkipPlays behind its first loop. Conditions: the list as it stands there. -/
import Derived.Test.YtkhagbifbcdpnaaSkPlA
namespace Go.Proofs.Ytkhagbifbcdpnaa.skipPlays
set_option linter.unusedVariables false
set_option linter.unusedSimpArgs false
open Go.ChangeShapes Go.WideShapes Go.ChangeAt Go.RowKit
/-- What stands behind n statements. -/
def codeTail : Nat → Code → Code
  | 0, c => c
  | n + 1, .seq _ b => codeTail n b
  | _ + 1, c => c
set_option maxHeartbeats 0 in
set_option maxRecDepth 100000 in
theorem rest_walk {w wc : World} (A0 : Option Addr) (c0 : Nat) (L0 : List It) (lc0 : L0.length ≤ c0) (cm0 : c0 ≤ maxLen) (r0 : RowAt It.cells 5 w A0 L0) (w0 : ∀ a ∈ L0, a.wf)
    (A1 : Option Addr) (c1 : Nat) (L1 : List Int) (lc1 : L1.length ≤ c1) (cm1 : c1 ≤ maxLen) (r1 : RowAt (fun a => [.int .i64 a]) 1 w A1 L1) (w1 : ∀ a ∈ L1, (Lit.int .i64 a).wf = true)
    (A2 : Option Addr) (c2 : Nat) (L2 : List It) (lc2 : L2.length ≤ c2) (cm2 : c2 ≤ maxLen) (r2 : RowAt It.cells 5 w A2 L2) (w2 : ∀ a ∈ L2, a.wf)
    {p : Nat} {F : List Nd} {W : List It} {H : List Nat} (hlF : F.length ≤ 61) (hiw : itsF F = W) (hih : htsF F = H) (u3 u4 u5 u6 u8 u9 u10 u11 u12 u13 u14 u15 u16 u17 u18 u19 u20 u21 u22 u23 u24 u25 u26 u27 u28 u29 u30 u31 u32 u33 u34 u35 u36 u37 u38 u39 u40 u41 u42 u43 u44 u45 u46 u47 u48 u49 u50 u51 u52 u53 u54 u55 u56 u57 u58 u59 u60 u61 u62 u63 u64 u65 u66 u67 u68 u69 u70 u71 u72 u73 u74 u75 u76 u77 u78 u79 u80 u81 u82 u83 u84 u85 u86 u87 u88 u89 u90 u91 u92 u93 u94 u95 u96 u97 u98 u99 u100 u101 u102 u103 u104 u105 u106 u107 u108 u109 u110 u111 u112 u113 u114 u115 u116 u117 u118 u119 u120 u121 u122 u123 u124 u125 u126 u127 u128 u129 u130 u131 u132 u133 u134 u135 u136 u137 u138 u139 u140 u141 u142 u143 u144 u145 u146 u147 u148 u149 u150 u151 u152 u153 u154 u155 u156 u157 u158 u159 u160 u161 u162 u163 u164 u165 u166 u167 u168 u169 u170 u171 u172 u173 u174 u175 u176 u177 u178 u179 u180 u181 u182 u183 u184 u185 u186 u187 u188 u189 u190 u191 u192 u193 u194 u195 u196 u197 u198 u199 u200 u201 u202 u203 u204 u205 u206 u207 u208 u209 u210 u211 u212 u213 u214 u215 u216 u217 u218 u219 u220 u221 u222 u223 u224 u225 u226 u227 u228 u229 u230 u231 u232 u233 u234 u235 u236 u237 u238 u239 u240 u241 u242 u243 u244 u245 u246 u247 u248 u249 u250 u251 u252 u253 u254 u255 u256 u257 u258 u259 u260 u261 u262 u263 u264 u265 u266 u267 u268 u269 : Value) (hst : St w wc p F u8 u9 W H) :
    Code.wp Try.prog (codeTail 6 (Option.getD Try.f5.body .skip)) (bodyPost Try.prog Try.f5 fun e w' => e = .returned (.bool true) ∧ Below w.heap.size w w') { tmps := #[.slice A0 L0.length c0, .slice A1 L1.length c1, .slice A2 L2.length c2, u3, u4, u5, u6, .pointer (some ⟨p, 0, none⟩), u8, u9, u10, u11, u12, u13, u14, u15, u16, u17, u18, u19, u20, u21, u22, u23, u24, u25, u26, u27, u28, u29, u30, u31, u32, u33, u34, u35, u36, u37, u38, u39, u40, u41, u42, u43, u44, u45, u46, u47, u48, u49, u50, u51, u52, u53, u54, u55, u56, u57, u58, u59, u60, u61, u62, u63, u64, u65, u66, u67, u68, u69, u70, u71, u72, u73, u74, u75, u76, u77, u78, u79, u80, u81, u82, u83, u84, u85, u86, u87, u88, u89, u90, u91, u92, u93, u94, u95, u96, u97, u98, u99, u100, u101, u102, u103, u104, u105, u106, u107, u108, u109, u110, u111, u112, u113, u114, u115, u116, u117, u118, u119, u120, u121, u122, u123, u124, u125, u126, u127, u128, u129, u130, u131, u132, u133, u134, u135, u136, u137, u138, u139, u140, u141, u142, u143, u144, u145, u146, u147, u148, u149, u150, u151, u152, u153, u154, u155, u156, u157, u158, u159, u160, u161, u162, u163, u164, u165, u166, u167, u168, u169, u170, u171, u172, u173, u174, u175, u176, u177, u178, u179, u180, u181, u182, u183, u184, u185, u186, u187, u188, u189, u190, u191, u192, u193, u194, u195, u196, u197, u198, u199, u200, u201, u202, u203, u204, u205, u206, u207, u208, u209, u210, u211, u212, u213, u214, u215, u216, u217, u218, u219, u220, u221, u222, u223, u224, u225, u226, u227, u228, u229, u230, u231, u232, u233, u234, u235, u236, u237, u238, u239, u240, u241, u242, u243, u244, u245, u246, u247, u248, u249, u250, u251, u252, u253, u254, u255, u256, u257, u258, u259, u260, u261, u262, u263, u264, u265, u266, u267, u268, u269], defers := [] } wc := by
  have R0 := hide r0
  have R1 := hide r1
  have R2 := hide r2
  have W1 := hide w1
  clear r0 w0 r1 w1 r2 w2
  unfold maxLen at cm0 cm1 cm2
  conv => arg 2; whnf
  obtain ⟨Aw, cw, rfl, hrw, hcw, hcwm⟩ := hst.ow.sl
  obtain ⟨Ah, ch, rfl, hrh, hch, hchm⟩ := OwnL.vals hst.oh
  have HRW := hide hrw
  have HRH := hide hrh
  have HB0 := hide hst.low
  have HSK := hide hst.sk
  have HOK := hide hst.ok
  have hlW : W.length ≤ 60 := by rw [← hiw, its_len]; omega
  have hlH : H.length = W.length := by
    rw [← hiw, ← hih, its_len]
    unfold htsF
    simp
  have hln : (F.length : Int) - 1 = (W.length : Int) := by
    have h1 := its_len F
    have h2 := hst.sk.pos.1
    rw [hiw] at h1
    omega
  have HAA := hide (all_any p F wc hst.sk (by omega))
  rw [lv_all8 hst.ok, hiw] at HAA
  have HLN := hide (fun W' (hW : Below wc.heap.size wc W') => len_any p F W' (HSK.out.below hW))
  rw [hln] at HLN
  have HIW := hide hiw
  have HIH := hide hih
  have HLH := hide hlH
  unfold maxLen at hcwm hchm
  clear hst hrw hrh hiw hih hlH hln hchm hcwm
  obtain ⟨wz, rfl⟩ : ∃ wz, wz = wc := ⟨_, rfl⟩
  go_wp2_with fail
  refine (Calls.mono HAA.out ?_); rintro e v1 ⟨x, rfl, ho, hg1⟩
  obtain ⟨Ax, cx, rfl, hrx, hcx, hcm⟩ := ho.sl
  have HX := hide hrx
  have HB1 := hide hg1
  clear ho hrx hg1 hcm HAA
  go_wp2_with fail
  refine (Calls.mono (requal_any Ax Aw cx cw W W _ HX.out (HRW.out.below HB1.out) (by omega) (by omega)) ?_); rintro e v2 ⟨rfl, hg2⟩
  rw [show eqL W W = true from eqL_iff.2 rfl]
  have HB2 := hide (below_step HB1.out hg2)
  have HL := hide (HLN.out _ HB2.out)
  clear hg2 HB1 HX HLN
  go_wp2_with fail
  refine (Calls.mono HL.out ?_); rintro e v3 ⟨rfl, rfl⟩
  clear HL
  go_wp2_with fail
  have hB2 := HB2.out
  go_loopw [18, 19, 20] (fun i _ _ wr => ∃ m : Nat, i = .int .i64 m ∧ m ≤ 8 ∧ Below wz.heap.size wz wr) (fun i _ _ _ => 8 - (intOf i).toNat)
  case atStart => exact ⟨0, rfl, by omega, hB2⟩
  case round =>
    clear hB2 HB2
    obtain ⟨m, rfl, hm, hb⟩ := hrel
    have HBM := hide hb
    clear hb
    obtain ⟨wq, rfl⟩ : ∃ wq, wq = wr := ⟨_, rfl⟩
    by_cases hm7 : m ≤ 7
    · have hmI : (m : Int) ≤ 7 := by omega
      go_wp2_with fail
      go_loopw [19, 20] (fun v i wr => ∃ j : Nat, i = .int .i64 j ∧ j ≤ W.length ∧ (m = 0 → j = 0) ∧ Ow wq.heap.size wr v (pick F m j) ∧ Below wq.heap.size wq wr) (fun _ i _ => W.length - (intOf i).toNat)
      case atStart => exact ⟨0, rfl, by omega, fun _ => rfl, Ow.nil_ _ _, Below.refl _ _⟩
      case round =>
        obtain ⟨j, rfl, hj, hm0, how, hb⟩ := hrel
        have HO := hide how
        have HBQ := hide hb
        have HB := hide (below_step HBM.out hb)
        clear how hb
        by_cases hjn : j < W.length ∧ 1 ≤ m
        · obtain ⟨hjW, hm1⟩ := hjn
          have hjH : j < H.length := by have := HLH.out; omega
          have hps := pick_succ (m := m) HIW.out HIH.out hjW hjH
          obtain ⟨bl, off, hA, hbb, y0, y1, y2, y3, y4⟩ := ItemsAt.item HRW.out HB.out hjW
          subst hA
          obtain ⟨b', off', rfl, hbb', z1⟩ := HRH.out.one HB.out hjH
          generalize W[j] = y at *
          generalize H[j] = hh at *
          have hblw : bl < wr.heap.size := Nat.lt_of_lt_of_le hbb HB.out.size
          have hblw' : b' < wr.heap.size := Nat.lt_of_lt_of_le hbb' HB.out.size
          have hjI : (j : Int) < (W.length : Int) := by omega
          have hjI2 : (j : Int) < (H.length : Int) := by omega
          have hm1I : (1 : Int) ≤ (m : Int) := by omega
          have hpl := pick_len F m j
          have HPS := hide hps
          clear hps hm0
          by_cases hmh : m ≤ hh
          · have hmhI : (m : Int) ≤ (hh : Int) := by omega
            go_wp2_with (at_builtin; refine wpList_append_item rfl (.tmp 169) (.tmp 174) rfl _ _ _ _ _ _ (pick F m j) y rfl rfl rfl HO.out HBQ.out (Nat.le_refl _) HBQ.out.size (by omega) ?_; intro v4 u4 ho4 hbu4 hgu4)
            have ho4' := hide ho4
            rw [show pick F m j ++ [y] = pick F m (j + 1) by rw [HPS.out, if_pos hmh]] at ho4'
            go_roundw
            case rel => exact ⟨j + 1, by go_num, by omega, fun e => by omega, ho4'.out, hbu4⟩
            case measure => simp [intOf]; omega
          · have hmhI : ¬ (m : Int) ≤ (hh : Int) := by omega
            have hO1 := HO.out
            rw [show pick F m j = pick F m (j + 1) by rw [HPS.out, if_neg hmh, List.append_nil]] at hO1
            have HO1 := hide hO1
            clear hO1
            go_wp2_with fail
            go_roundw
            case rel => exact ⟨j + 1, by go_num, by omega, fun e => by omega, HO1.out, HBQ.out⟩
            case measure => simp [intOf]; omega
        · have hpl := pick_len F m j
          obtain ⟨Aq, cq, rfl, hrq, hcq, hcqm⟩ := HO.out.sl
          have HQ := hide hrq
          have HBR := hide (below_step HBM.out HBQ.out)
          have HSK2 := hide (HSK.out.below HBR.out)
          clear hrq hcqm HBQ HO HB
          by_cases hm1 : 1 ≤ m
          · obtain rfl : j = W.length := by omega
            have hjI : ¬ (W.length : Int) < (W.length : Int) := by omega
            have hm1I : (1 : Int) ≤ (m : Int) := by omega
            by_cases hm6 : m ≤ 6
            · have HLV := hide (level_any p F (m - 1) wr HSK2.out (by omega) (by omega))
              rw [← pick_all HIW.out hm1, show ((m - 1 : Nat) : Int) + 1 = (m : Int) by omega] at HLV
              generalize pick F m W.length = Q at *
              go_wp2_with fail
              refine (Calls.mono HLV.out ?_); rintro e v4 ⟨x4, rfl, ho, hg4⟩
              obtain ⟨Ay, cy, rfl, hry, hcy, hcym⟩ := ho.sl
              have HY := hide hry
              have HB4 := hide (below_step HBR.out hg4)
              have HQ4 := hide (HQ.out.below hg4)
              clear ho hry hcym hg4 HLV
              go_wp2_with fail
              refine (Calls.mono (requal_any Ay Aq cy cq Q Q _ HY.out HQ4.out (by omega) (by omega)) ?_); rintro e v5 ⟨rfl, hg5⟩
              rw [show eqL Q Q = true from eqL_iff.2 rfl]
              have HB5 := hide (below_step HB4.out hg5)
              clear hg5
              go_wp2_with fail
              go_roundw
              case rel => exact ⟨m + 1, by go_num, by omega, HB5.out⟩
              case measure => (simp [intOf] <;> omega)
            · rw [pick_none HOK.out (by omega)] at HQ hcq ⊢
              go_wp2_with fail
              refine (Calls.mono (level_out p (m : Int) wr (by omega)) ?_); rintro e v4 ⟨rfl, rfl⟩
              have HB4 := HBR
              go_wp2_with fail
              refine (Calls.mono (requal_any none Aq 0 cq [] [] _ RowAt.nil_ HQ.out (by simp) (by simp)) ?_); rintro e v5 ⟨rfl, hg5⟩
              rw [show eqL [] [] = true from eqL_iff.2 rfl]
              have HB5 := hide (below_step HB4.out hg5)
              clear hg5
              go_wp2_with fail
              go_roundw
              case rel => exact ⟨m + 1, by go_num, by omega, HB5.out⟩
              case measure => (simp [intOf] <;> omega)
          · obtain rfl : m = 0 := by omega
            obtain rfl : j = 0 := hm0 rfl
            rw [pick_zero] at HQ hcq ⊢
            by_cases hw0 : 0 < W.length
            · have hw0I : (0 : Int) < (W.length : Int) := by omega
              go_wp2_with fail
              refine (Calls.mono (level_out p 0 wr (by omega)) ?_); rintro e v4 ⟨rfl, rfl⟩
              have HB4 := HBR
              go_wp2_with fail
              refine (Calls.mono (requal_any none Aq 0 cq [] [] _ RowAt.nil_ HQ.out (by simp) (by simp)) ?_); rintro e v5 ⟨rfl, hg5⟩
              rw [show eqL [] [] = true from eqL_iff.2 rfl]
              have HB5 := hide (below_step HB4.out hg5)
              clear hg5
              go_wp2_with fail
              go_roundw
              case rel => exact ⟨1, by go_num, by omega, HB5.out⟩
              case measure => (simp [intOf] <;> omega)
            · have hw0I : ¬ (0 : Int) < (W.length : Int) := by omega
              go_wp2_with fail
              refine (Calls.mono (level_out p 0 wr (by omega)) ?_); rintro e v4 ⟨rfl, rfl⟩
              have HB4 := HBR
              go_wp2_with fail
              refine (Calls.mono (requal_any none Aq 0 cq [] [] _ RowAt.nil_ HQ.out (by simp) (by simp)) ?_); rintro e v5 ⟨rfl, hg5⟩
              rw [show eqL [] [] = true from eqL_iff.2 rfl]
              have HB5 := hide (below_step HB4.out hg5)
              clear hg5
              go_wp2_with fail
              go_roundw
              case rel => exact ⟨1, by go_num, by omega, HB5.out⟩
              case measure => (simp [intOf] <;> omega)
    · have hmI : ¬ (m : Int) ≤ 7 := by omega
      go_wp2_with fail
      have hB0 := HBM.out
      go_loopw [21] (fun i wr => ∃ j : Nat, i = .int .i64 j ∧ j ≤ L2.length ∧ j ≤ 30 ∧ Below wz.heap.size wz wr) (fun i _ => 30 - (intOf i).toNat)
      case atStart => exact ⟨0, rfl, by omega, by omega, hB0⟩
      case round =>
        clear hB0 HBM hmI hm7
        obtain ⟨j, rfl, hj, hj30, hb⟩ := hrel
        have HBZ := hide hb
        have HB := hide (below_step HB0.out hb)
        clear hb
        by_cases hjn : j < L2.length ∧ j < 30
        · obtain ⟨hj2, hj3⟩ := hjn
          obtain ⟨bl, off, hA, hbb, y0, y1, y2, y3, y4⟩ := ItemsAt.item R2.out HB.out hj2
          subst hA
          generalize L2[j] = a at *
          have hjI : (j : Int) < (L2.length : Int) := by omega
          have hjI3 : (j : Int) < 30 := by omega
          have hblw : bl < wr.heap.size := Nat.lt_of_lt_of_le hbb HB.out.size
          have HRI := hide (HIW.out ▸ HOK.out.up)
          have HAT := hide (skat_any Aw cw W a wr (HRW.out.below HBZ.out) HRI.out (by omega))
          have HGT := hide (fun W' (hW : Below wz.heap.size wz W') => get_sk p F a W' (HSK.out.below hW) HOK.out)
          have HFR := hide (fun W' (hW : Below wz.heap.size wz W') => from_any p F a W' (HSK.out.below hW) HOK.out)
          rw [HIW.out] at HGT HFR
          go_wp2_with fail
          refine (Calls.mono HAT.out ?_); rintro e v1 ⟨rfl, hg1⟩
          have e2 : ∀ o, v1.cell? ⟨bl, o, none⟩ = wr.cell? ⟨bl, o, none⟩ := fun o => hg1.cell (p := ⟨bl, o, none⟩) hblw
          rw [← e2] at y0 y1 y2 y3 y4
          clear e2
          have HB1 := hide (below_step HBZ.out hg1)
          have hblw1 := Nat.lt_of_lt_of_le hblw hg1.size
          clear hg1
          have HG1 := hide (HGT.out v1 HB1.out)
          go_wp2_with fail
          refine (Calls.mono HG1.out ?_); rintro e v2 ⟨rfl, hg2⟩
          have e2 : ∀ o, v2.cell? ⟨bl, o, none⟩ = v1.cell? ⟨bl, o, none⟩ := fun o => hg2.cell (p := ⟨bl, o, none⟩) hblw1
          rw [← e2] at y0 y1 y2 y3 y4
          clear e2
          have hblw2 := Nat.lt_of_lt_of_le hblw1 hg2.size
          have HB2 := hide (below_step HB1.out hg2)
          clear hg2 HGT HAT HG1 HB1
          have HGS : Hid (getSk W a = if sameAt a W = true then fromL W a else It.zero) := hide rfl
          have HFS : Hid (fromL W a = W[lowI a W]?.getD It.zero) := hide rfl
          generalize getSk W a = gs at *
          generalize fromL W a = fs at *
          have HSI : Hid (sameAt a W = true → lowI a W < W.length) := hide (fun h => (sameAt_true h).1)
          have hba := below_alloc (Below.refl v2.heap.size v2) (.cells gs.cells.toArray 30)
          have HBX := hide (BxAt.box (x := gs) (heap_alloc_new v2 (.cells gs.cells.toArray 30)))
          have HB3 := hide (below_step HB2.out hba)
          have HF3 := hide (HFR.out _ HB3.out)
          have hne : ¬ bl = v2.heap.size := by omega
          generalize hsm : sameAt a W = sm at *
          generalize hq : lowI a W = q at *
          clear hba
          go_wp2_with fail
          refine (Calls.mono HF3.out ?_); rintro e v3 ⟨rfl, hg3⟩
          have HBX3 := hide (BxAt.kept HBX.out hg3.size (hg3.block _ HBX.out.lt))
          have HB4 := hide (below_step HB3.out hg3)
          have hba2 := below_alloc (Below.refl v3.heap.size v3) (.cells fs.cells.toArray 30)
          have HBF := hide (BxAt.box (x := fs) (heap_alloc_new v3 (.cells fs.cells.toArray 30)))
          have HBG := hide (BxAt.kept HBX3.out hba2.size (hba2.block _ HBX3.out.lt))
          have HB5 := hide (below_step HB4.out hba2)
          have hlt23 := HBX3.out.lt
          clear hba2 HBX HBX3 hg3 HB3 HF3 HFR hne y0 y1 y2 y3 y4 hblw hblw1 hblw2 hsm hq HRI
          obtain ⟨gk, hgk⟩ : ∃ gk, v2.heap.size = gk := ⟨_, rfl⟩
          rw [hgk] at HBG hlt23 ⊢
          clear hgk
          obtain ⟨w6, hw6⟩ : ∃ w6, v3.alloc (.cells fs.cells.toArray 30) = w6 := ⟨_, rfl⟩
          rw [hw6] at HBF HBG HB5
          have HW6 := hide hw6
          clear hw6
          by_cases hqW : q < W.length
          · obtain ⟨bw, offw, hAw, hbbw, y0, y1, y2, y3, y4⟩ := ItemsAt.item HRW.out HB5.out hqW
            rw [List.getElem?_eq_getElem hqW] at HFS
            subst hAw
            have hfs : fs = W[q] := HFS.out
            generalize W[q] = y at *
            subst hfs
            have hqI : (q : Int) < (W.length : Int) := by omega
            have hqB : decide ((q : Int) < (W.length : Int)) = true := decide_eq_true hqI
            obtain ⟨_, f0, f1, f2, f3, f4⟩ := HBF.out
            obtain ⟨_, g0, g1, g2, g3, g4⟩ := HBG.out
            clear HFS HSI
            cases sm with
            | true =>
              obtain rfl : gs = fs := HGS.out
              clear HGS
              go_upto_region 44 with fail
              rw [show v3.alloc (.cells #[.int .i64 gs.s, .int .i64 gs.k, .int .u64 gs.t, .int .u64 gs.v, .int .i64 gs.x] 30) = w6 from HW6.out]
              clear HW6
              go_quiet (fail)
              go_wp2_with fail
              go_roundw
              case rel => exact ⟨j + 1, by go_num, by omega, by omega, below_drewN HB5.out _⟩
              case measure => (simp [intOf] <;> omega)
            | false =>
              obtain rfl : gs = It.zero := HGS.out
              clear HGS
              go_upto_region 44 with fail
              rw [show v3.alloc (.cells #[.int .i64 fs.s, .int .i64 fs.k, .int .u64 fs.t, .int .u64 fs.v, .int .i64 fs.x] 30) = w6 from HW6.out]
              clear HW6
              go_quiet (fail)
              go_wp2_with fail
              go_roundw
              case rel => exact ⟨j + 1, by go_num, by omega, by omega, below_drewN HB5.out _⟩
              case measure => (simp [intOf] <;> omega)
          · have hqI : ¬ (q : Int) < (W.length : Int) := by omega
            have hqB : decide ((q : Int) < (W.length : Int)) = false := decide_eq_false hqI
            obtain rfl : sm = false := by
              cases sm with
              | false => rfl
              | true => exact absurd (HSI.out rfl) hqW
            obtain rfl : gs = It.zero := HGS.out
            obtain rfl : fs = It.zero := by rw [HFS.out, List.getElem?_eq_none (by omega)]; rfl
            obtain ⟨_, f0, f1, f2, f3, f4⟩ := HBF.out
            obtain ⟨_, g0, g1, g2, g3, g4⟩ := HBG.out
            clear HGS HFS HSI
            go_upto_region 44 with fail
            rw [show v3.alloc (.cells #[.int .i64 0, .int .i64 0, .int .u64 0, .int .u64 0, .int .i64 0] 30) = w6 from HW6.out]
            clear HW6
            go_quiet (fail)
            go_wp2_with fail
            go_roundw
            case rel => exact ⟨j + 1, by go_num, by omega, by omega, below_drewN HB5.out _⟩
            case measure => (simp [intOf] <;> omega)
        · have hcs : (j : Int) < (L2.length : Int) → (j : Int) < 30 → False := fun a b => hjn ⟨by omega, by omega⟩
          by_cases h0 : (j : Int) < (L2.length : Int)
          · have h1 : ¬ (j : Int) < 30 := fun h => hcs h0 h
            clear hcs hjn
            go_wp2_with fail
            go_ret
            exact ⟨rfl, HB.out⟩
          · clear hcs hjn
            go_wp2_with fail
            go_ret
            exact ⟨rfl, HB.out⟩
end Go.Proofs.Ytkhagbifbcdpnaa.skipPlays
