/- The walk of clepsydralaw21.NetPlays: it returns true. Conditions: the arguments are readable. -/
import Derived.Test.YtihhepojhoaacaaNetPG
import Derived.Test.YtihhepojhoaacaaNetPF
namespace Go.Proofs.Ytihhepojhoaacaa.netPlays
set_option linter.unusedVariables false
set_option linter.unusedSimpArgs false
open Go.ChangeShapes Go.WideShapes Go.ChangeAt Go.RowKit

theorem cap_le (n : Int) : capN n ≤ 1000 ∧ 1 ≤ capN n := by unfold capN; omega
theorem cap_eq (n : Int) : ((capN n : Nat) : Int) = min (max n 1) 1000 := by unfold capN; omega
theorem op_row {w w' : World} {A : Option Addr} {L : List Op9} (h : RowAt Op9.cells 9 w A L) (hb : Below w.heap.size w w') {k : Nat} (hk : k < L.length) :
    ∃ g off, A = some ⟨g, off, none⟩ ∧ g < w.heap.size ∧ w'.cell? ⟨g, off + k * 9, none⟩ = some (.int .i64 (L[k]).kind) ∧ w'.cell? ⟨g, off + k * 9 + 1, none⟩ = some (.int .i64 (L[k]).i) ∧ w'.cell? ⟨g, off + k * 9 + 2, none⟩ = some (.int .i64 (L[k]).k) ∧
      w'.cell? ⟨g, off + k * 9 + 3, none⟩ = some (.int .i64 (L[k]).m.k) ∧ w'.cell? ⟨g, off + k * 9 + 4, none⟩ = some (.int .i64 (L[k]).m.f) ∧ w'.cell? ⟨g, off + k * 9 + 5, none⟩ = some (.int .i64 (L[k]).m.t) ∧
      w'.cell? ⟨g, off + k * 9 + 6, none⟩ = some (.int .u64 (L[k]).m.id) ∧ w'.cell? ⟨g, off + k * 9 + 7, none⟩ = some (.int .u64 (L[k]).m.n) ∧ w'.cell? ⟨g, off + k * 9 + 8, none⟩ = some (.slice (L[k]).m.A (L[k]).m.L.length (L[k]).m.c) := by
  obtain ⟨g, off, rfl, hlt, hc⟩ := h.at_ hk
  have hx : ∀ j u, (Op9.cells L[k])[j]? = some u → w'.cell? ⟨g, off + k * 9 + j, none⟩ = some u := fun j u hu => keep_cell hb (hc k hk j u hu) hlt
  exact ⟨g, off, rfl, hlt, by simpa using hx 0 _ rfl, hx 1 _ rfl, hx 2 _ rfl, hx 3 _ rfl, hx 4 _ rfl, hx 5 _ rfl, hx 6 _ rfl, hx 7 _ rfl, hx 8 _ rfl⟩
set_option maxRecDepth 100000 in
set_option maxHeartbeats 6400000 in
theorem walk {w : World} (a0 : Int) (w0 : (Lit.int .i64 a0).wf = true) (A1 : Option Addr) (c1 : Nat) (L1 : List Op9) (lc1 : L1.length ≤ c1) (cm1 : c1 ≤ maxLen) (r1 : RowAt Op9.cells 9 w A1 L1) (w1 : ∀ a ∈ L1, a.good w) :
    Calls Try.prog 6 #[.int .i64 a0, .slice A1 L1.length c1] w fun e w' => e = .returned (.bool true) ∧ Below w.heap.size w w' := by
  have HR := hide r1
  have HWF := hide w1
  have hcap := cap_le a0
  have HCE := hide (cap_eq a0)
  clear r1 w1 w0 lc1
  unfold maxLen at cm1
  go_enter Try.func6, Try.ntmps6
  go_wp2_with fail
  refine (Calls.mono (nnew_o (Fr := fun _ => False) a0 _) ?_); rintro e wn ⟨b, rfl, hN⟩
  obtain ⟨m, hm⟩ : ∃ m, capN a0 = m := ⟨_, rfl⟩
  rw [hm] at hN hcap HCE
  have HN := hide hN
  clear hN hm
  go_wp2_with fail
  refine (Calls.mono (awake21_any _) ?_); rintro e w1 ⟨rfl, hb1⟩
  have HN := hide (HN.out.below hb1)
  clear hb1
  go_upto_region 4 with fail
  go_cut [6] (fun v W => v = .pointer (some ⟨w1.heap.size, 0, none⟩) ∧ W = w1.alloc (.cells #[.int .i64 m] 3))
  case first =>
    have hce := HCE.out
    clear HR HWF HN
    by_cases a1 : a0 < 1
    · have f1 : a0 ≤ 1 := by omega
      have f2 : ¬ 1 ≤ a0 := by omega
      have f3 : ¬ 1 < a0 := by omega
      have hv : (m : Int) = 1 := by omega
      clear hce
      go_wp2_with fail
      go_meet
      exact ⟨rfl, by rw [hv]⟩
    by_cases a2 : a0 = 1
    · subst a2
      have hv : (m : Int) = 1 := by omega
      clear hce
      go_wp2_with fail
      go_meet
      exact ⟨rfl, by rw [hv]⟩
    have f1 : 1 < a0 := by omega
    have f2 : 1 ≤ a0 := by omega
    have f3 : ¬ a0 ≤ 1 := by omega
    by_cases a3 : a0 < 1000
    · have g1 : a0 ≤ 1000 := by omega
      have g2 : ¬ 1000 < a0 := by omega
      have g3 : ¬ 1000 ≤ a0 := by omega
      have hv : (m : Int) = a0 := by omega
      clear hce
      go_wp2_with fail
      go_meet
      exact ⟨rfl, by rw [hv]⟩
    by_cases a4 : a0 = 1000
    · subst a4
      have hv : (m : Int) = 1000 := by omega
      clear hce
      go_wp2_with fail
      go_meet
      exact ⟨rfl, by rw [hv]⟩
    · have g1 : 1000 < a0 := by omega
      have g2 : 1000 ≤ a0 := by omega
      have g3 : ¬ a0 ≤ 1000 := by omega
      have hv : (m : Int) = 1000 := by omega
      clear hce
      go_wp2_with fail
      go_meet
      exact ⟨rfl, by rw [hv]⟩
  case rest =>
    obtain ⟨rfl, rfl⟩ := hcut
    clear HCE
    go_wp2_with fail
    have hp0 := pl_start HN.out _ rfl
    obtain ⟨c6, hc6⟩ : ∃ c6, w1.heap.size = c6 := ⟨_, rfl⟩
    rw [hc6] at hp0
    rw [hc6]
    simp only [Nat.add_assoc, Nat.reduceAdd]
    obtain ⟨wz, hwz⟩ : ∃ wz, (((w1.alloc (.cells #[.int .i64 m] 3)).alloc (.cells #[.slice none 0 0] 41)).alloc (.cells #[.int .i64 0] 3) |>.alloc (.cells #[.int .i64 0] 3)) = wz := ⟨_, rfl⟩
    rw [hwz] at hp0
    rw [hwz]
    have HP := hide hp0
    clear hp0 hwz hc6 HN
    go_loopw [11] (fun i wr => ∃ (k : Nat) (rb : Option Nat) (A : Option Addr) (c : Nat) (W : List Mg) (l s : Nat), i = .int .i64 k ∧ k ≤ L1.length ∧ k ≤ 80 ∧ W.length ≤ k ∧ l ≤ 2 * k ∧ s ≤ k ∧ (∀ y ∈ W, y.L.length ≤ 50) ∧ PlH w wr b rb m c6 A c W l s (W.map Mg.bare) l s) (fun i _ => 81 - (intOf i).toNat)
    case atStart => exact ⟨0, none, none, 0, [], 0, 0, rfl, by omega, by omega, by simp, by omega, by omega, (by simp), HP.out⟩
    case round =>
      clear HP
      obtain ⟨k, rb, A, c, W, l, s, rfl, hk, hk80, hWk, hlk, hsk, h50, hP⟩ := hrel
      have H50 := hide h50
      clear h50
      have HP := hide hP
      clear hP
      by_cases hgo : k < L1.length ∧ k < 80
      · obtain ⟨hk1, hk2⟩ := hgo
        have hk1I : (k : Int) < (L1.length : Int) := by omega
        have hk2I : (k : Int) < 80 := by omega
        have hk0 : (0 : Int) ≤ (k : Int) := by omega
        obtain ⟨go, oo, rfl, hgo, y0, y1, y2, y3, y4, y5, y6, y7, y8⟩ := op_row HR.out HP.out.net.low hk1
        have hxr := (HWF.out _ (List.getElem_mem hk1)).m.rd
        generalize L1[k] = o at *
        obtain ⟨ok, oi, oj, x⟩ := o
        simp only at y0 y1 y2 y3 y4 y5 y6 y7 y8 hxr
        have HXR := hide hxr
        clear hxr
        have hbo := below_alloc (Below.refl wr.heap.size wr) (.cells #[.int .i64 ok, .int .i64 oi, .int .i64 oj, .int .i64 x.k, .int .i64 x.f, .int .i64 x.t, .int .u64 x.id, .int .u64 x.n, .slice x.A x.L.length x.c] 39)
        have HPO := hide (HP.out.below hbo)
        have HPR := HP
        clear hbo HP
        have eo := heap_alloc_new wr (.cells #[.int .i64 ok, .int .i64 oi, .int .i64 oj, .int .i64 x.k, .int .i64 x.f, .int .i64 x.t, .int .u64 x.id, .int .u64 x.n, .slice x.A x.L.length x.c] 39)
        have hlow := HPO.out.net.low
        go_upto_region 12 with fail
        obtain ⟨gb, hgb⟩ : ∃ gb, wr.heap.size = gb := ⟨_, rfl⟩
        rw [hgb] at eo ⊢
        have HGBL : Hid (gb = wr.heap.size) := hide hgb.symm
        obtain ⟨u, hu⟩ : ∃ u, wr.alloc (.cells #[.int .i64 ok, .int .i64 oi, .int .i64 oj, .int .i64 x.k, .int .i64 x.f, .int .i64 x.t, .int .u64 x.id, .int .u64 x.n, .slice x.A x.L.length x.c] 39) = u := ⟨_, rfl⟩
        rw [hu] at eo HPO hlow ⊢
        clear hu hgb y0 y1 y2 y3 y4 y5 y6 y7 y8 hgo
        have p0 := (cell_of_row u gb 0 _ _ _ eo).trans rfl
        have p1 := (cell_of_row u gb 1 _ _ _ eo).trans rfl
        have p2 := (cell_of_row u gb 2 _ _ _ eo).trans rfl
        have p3 := (cell_of_row u gb 3 _ _ _ eo).trans rfl
        have p4 := (cell_of_row u gb 4 _ _ _ eo).trans rfl
        have p5 := (cell_of_row u gb 5 _ _ _ eo).trans rfl
        have p6 := (cell_of_row u gb 6 _ _ _ eo).trans rfl
        have p7 := (cell_of_row u gb 7 _ _ _ eo).trans rfl
        have p8 := (cell_of_row u gb 8 _ _ _ eo).trans rfl
        have q7 := (cell_of_row u (c6 + 1) 0 _ _ _ HPO.out.b7).trans rfl
        have HLOW := hide hlow
        have EO := hide eo
        clear eo hlow
        by_cases hl50 : 50 < x.L.length
        · have hlI : (50 : Int) < (x.L.length : Int) := by omega
          go_wp2_with fail
          go_ret
          exact ⟨rfl, HLOW.out⟩
        have hlI : ¬ (50 : Int) < (x.L.length : Int) := by omega
        obtain ⟨n, hn⟩ : ∃ n, W.length = n := ⟨_, rfl⟩
        rw [hn] at q7 hWk
        have HN := hide hn
        clear hn
        go_upto_region 14 with fail
        go_cut [13] (fun v W2 => v = .bool (hasB n oi) ∧ u = W2)
        case first =>
          clear HPO HPR HLOW HGBL EO HXR HN HR HWF p0 p2 p3 p4 p5 p6 p7 p8 hlI hl50 hk1I hk2I hk0 hk1 hk2 hk hk80
          by_cases h0 : 0 ≤ oi
          · by_cases h1 : oi < (n : Int)
            · have hd : hasB n oi = true := by unfold hasB; simp [h0, h1]
              go_wp2_with fail
              go_meet
              exact ⟨by rw [hd], rfl⟩
            · have hd : hasB n oi = false := by unfold hasB; simp [h1]
              go_wp2_with fail
              go_meet
              exact ⟨by rw [hd], rfl⟩
          · have hd : hasB n oi = false := by unfold hasB; simp [h0]
            go_wp2_with fail
            go_meet
            exact ⟨by rw [hd], rfl⟩
        case rest =>
          obtain ⟨rfl, rfl⟩ := hcut
          go_upto_block 2 with fail
          go_cut [] (fun W2 => PlR w b m c6 k W2)
          case first =>
            have hgN : ¬ NBlk b rb gb := fun h => by have := (HPR.out.net.at_.blk_lt h).2; have := HGBL.out; omega
            have hgA : ∀ a, A = some a → a.block ≠ gb := fun a ha => by have := (HPR.out.blk a ha).2.1; have := HGBL.out; omega
            have hg6 : c6 + 4 ≤ gb := by have := HPR.out.lt; have := HGBL.out; omega
            have HSW : Hid (SwH w u b m c6 c l s k gb rb A W ok oi oj x) := hide ⟨HPO.out, hcap, EO.out, ⟨hgN, hg6, hgA⟩, ⟨HXR.out, by omega⟩, H50.out, by rw [HN.out]; omega, by omega, by omega, by omega⟩
            have hn := HN.out
            subst hn
            clear hgN hgA hg6 HPO HPR EO HXR H50 HGBL HLOW HR HWF p0 p1 p2 p3 p4 p5 p6 p7 p8 q7 hl50 hlI hk1I hk2I hk0
            refine sw_all HSW.out _ _ _ _ _ _ _ _ _ _ _ _ _ _ _ _ _ _ _ _ _ _ _ _ _ _ _ _ _ _ _ _ _ _ _ _ _ _ _ _ _ _ _ _ _ _ _ _ _ _ _ _ _ _ _ _ _ _ _ _ _ _ _ _ _ _ _ _ _ _ _ _ _ _ _ _ _ _ _ _ _ _ _ _ _ _ _ _ _ _ _ _ _ _ _ _ _ _ _ _ _ _ _ _ _ _ _ _ _ _ _ _ _ _ _ _ _ _ _ _ _ _ _ _ _ _ _ _ _ _ _ _ _ _ _ _ _ _ _ _ _ _ _ _ _ _ _ _ _ _ _ _ _ _ _ _ _ _ _ _ _ _ _ _ _ _ _ _ _ _ _ _ _ _ _ _ _ _ _ _ _ _ _ _ _ _ _ _ _ _ _ _ _ _ _ _ _ _ _ _ _ _ _ _ _ _ _ _ _ _ _ _ _ _ _ _ _ _ _ ?_
            intro v4 v14 v15 v16 v17 v61 v62 v63 v64 v65 v66 v67 v68 v69 v70 v71 v72 v73 v74 v75 v76 v77 v78 v79 v80 v81 v82 v83 v84 v85 v86 v87 v88 v89 v90 v91 v92 v93 v94 v95 v96 v97 v98 v99 v100 v101 v102 v103 v104 v105 v106 v107 v108 v109 v110 v111 v112 v113 v114 v115 v116 v117 v118 v119 v120 v121 v122 v123 v124 v125 v126 v127 v128 v129 v130 v131 v132 v133 v134 v135 v136 v137 v138 v139 v140 v141 v142 v143 v144 v145 v146 v147 v148 v149 v150 v151 v152 v153 v154 v155 v156 v157 v158 v159 v160 v161 v162 v163 v164 v165 v166 v167 v168 v169 v170 v171 v172 v173 v174 v175 v176 v177 v178 v179 v180 v181 v182 v183 v184 v185 v186 v187 v188 v189 v190 v191 v192 v193 v194 v195 v196 v197 v198 v199 v200 v201 v202 v203 W2 hW2
            dsimp only
            go_wp2_with fail
            go_meet
            exact hW2
          case rest =>
            have HCUT := hide hcut
            clear hcut HPO HPR EO HXR H50 HGBL HLOW HR HWF p0 p1 p2 p3 p4 p5 p6 p7 p8 q7 hl50 hlI hk0 HN hWk hlk hsk
            rename_i hKK
            refine hKK _ _ (fin_check HCUT.out hk2 _ _ _ _ _ _ _ _ _ _ _ _ _ _ _ _ _ _ _ _ _ _ _ _ _ _ _ _ _ _ _ _ _ _ _ _ _ _ _ _ _ _ _ _ _ _ _ _ _ _ _ _ _ _ _ _ _ _ _ _ _ _ _ _ _ _ _ _ _ _ _ _ _ _ _ _ _ _ _ _ _ _ _ _ _ _ _ _ _ _ _ _ _ _ _ _ _ _ _ _ _ _ _ _ _ _ _ _ _ _ _ _ _ _ _ _ _ _ _ _ _ _ _ _ _ _ _ _ _ _ _ _ _ _ _ _ _ _ _ _ _ _ _ _ _ _ _ _ _ _ _ _ _ _ _ _ _ _ _ _ _ _ _ _ _ _ _ _ _ _ _ _ _ _ _ _ _ _ _ _ _ _ _ _ _ _ _ _ _ _ _ _ _ _ _ _ _ _ _ _ _ _ _ _ _ _ _ _ _ _ _ _ _ _ _ _ _ _ _ _ _ _ _ ?_)
            intro v4 v204 v205 v206 v207 v208 v209 v210 v211 v212 v213 v214 v215 v216 v217 v218 v219 v220 v221 v222 v223 v224 v225 v226 v227 W2 hW2
            dsimp only
            obtain ⟨rb2, A2, c2, W2', l2, s2, hW1, hl1, hs1, h51, hP2⟩ := hW2
            have HP := hide hP2
            have H50 := hide h51
            clear hP2 h51 HCUT
            generalize Value.bool (hasB n oi) = z13
            go_wp2_with fail
            go_roundw
            case rel => exact ⟨k + 1, rb2, A2, c2, W2', l2, s2, by go_num, by omega, by omega, hW1, hl1, hs1, H50.out, HP.out⟩
            case measure => simp only [intOf]; omega
      · have hgD : ¬ k < L1.length ∨ (k < L1.length ∧ ¬ k < 80) := by omega
        rcases hgD with h | ⟨h1, h2⟩
        · have hI : ¬ (k : Int) < (L1.length : Int) := by omega
          have hD : decide ((k : Int) < (L1.length : Int)) = false := decide_eq_false hI
          go_wp2_with fail
          go_ret
          exact ⟨rfl, HP.out.net.low⟩
        · have hI : (k : Int) < (L1.length : Int) := by omega
          have hI2 : ¬ (k : Int) < 80 := by omega
          have hD : decide ((k : Int) < (L1.length : Int)) = true := decide_eq_true hI
          have hD2 : decide ((k : Int) < 80) = false := decide_eq_false hI2
          go_wp2_with fail
          go_ret
          exact ⟨rfl, HP.out.net.low⟩
end Go.Proofs.Ytihhepojhoaacaa.netPlays
