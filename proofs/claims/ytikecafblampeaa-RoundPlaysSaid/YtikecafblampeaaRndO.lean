/- round.Round: On: which messages it refuses, which it takes. Conditions: the round as it lies. -/
import Derived.Test.YtikecafblampeaaRndT
namespace Go.Proofs.Ytikecafblampeaa
set_option linter.unusedVariables false
set_option linter.unusedSimpArgs false
open Go.ChangeShapes Go.WideShapes Go.ChangeAt Go.RowKit
/-- What a round refuses. -/
def refB (R : Rs) (m : Mg) : Bool := (R.ph == 3) || !mokB m || !(m.t == R.at_) || !(m.id == R.id) || decide (R.n ≤ m.f) || (!(m.n == R.f) && !(m.k == 3))
/-- What it takes in. -/
noncomputable def takeR (R : Rs) (m : Mg) : Rs := if R.ph = 1 then { R with L := joinL R.L m.L } else R
/-- Does it count? -/
def hitB (R : Rs) (m : Mg) : Prop := (R.ph = 1 ∧ m.k = 7) ∨ (R.ph = 2 ∧ m.k = 9)
instance (R : Rs) (m : Mg) : Decidable (hitB R m) := by unfold hitB; exact inferInstance
/-- Behind the test. -/
noncomputable def swR (R : Rs) (m : Mg) : Rs := if m.k = 3 then end1R R 21 m.n else if R.C m.f.toNat = true then R else if hitB R m then goR (takeR R m) m.f.toNat else R
noncomputable def swM (R : Rs) (m : Mg) : List Mg := if m.k = 3 then [] else if R.C m.f.toNat = true then [] else if hitB R m then goM (takeR R m) m.f.toNat else []
/-- What a message makes of a round, and what it tells. -/
noncomputable def onR (R : Rs) (m : Mg) : Rs := if refB R m = true then R else swR R m
noncomputable def onM (R : Rs) (m : Mg) : List Mg := if refB R m = true then [] else swM R m
theorem refB_false {R : Rs} {m : Mg} (h : refB R m = false) : R.ph ≠ 3 ∧ mokB m = true ∧ m.t = R.at_ ∧ m.id = R.id ∧ m.f < R.n := by
  unfold refB at h
  simp only [Bool.or_eq_false_iff, Bool.not_eq_false', beq_eq_false_iff_ne, beq_iff_eq, decide_eq_false_iff_not] at h
  obtain ⟨⟨⟨⟨⟨h1, h2⟩, h3⟩, h4⟩, h5⟩, _⟩ := h
  exact ⟨h1, h2, h3, h4, by omega⟩
theorem mokB_facts {m : Mg} (h : mokB m = true) : 0 ≤ m.f ∧ m.f < 7 ∧ m.L.length ≤ 1500 := by
  unfold mokB nodeB at h
  simp only [Bool.and_eq_true, decide_eq_true_eq] at h
  obtain ⟨⟨⟨⟨⟨⟨⟨⟨_, _⟩, h1⟩, _⟩, _⟩, _⟩, h2⟩, _⟩, _⟩ := h
  omega
theorem on_all {w0 w u : World} {b gx : Nat} {R : Rs} {m : Mg} (h : OnH w0 w u b gx R m) (hf : 0 ≤ m.f ∧ m.f < 7) (hL : R.L.length ≤ 274877906944) (hM : m.L.length ≤ 274877906944) (u1 u2 u4 u5 u6 u7 u8 u9 u10 u11 u12 u13 u14 u15 u16 u17 u18 u19 u20 u21 u22 u23 u24 u25 u26 u27 u28 u29 u30 u31 u32 u33 u34 u35 u36 u37 u38 u39 u40 u41 u42 u43 u44 u45 u46 u47 u48 u49 u50 u51 u52 u53 u54 u56 u57 u58 u59 u60 u61 u62 u63 u64 u65 u66 u67 u68 u69 u70 u71 u72 u73 u74 u75 u76 u77 u78 u79 u80 u81 u82 u83 u84 u85 u86 u87 u88 u89 u90 u91 u92 u93 u94 u95 u96 u97 u98 u99 u100 u101 u102 u103 u104 u105 u106 u107 u108 u109 u110 u111 u112 u113 u114 u115 u116 u117 u118 u119 u120 u121 u122 u123 u124 u125 u126 u127 : Value) {K : Act → World → Prop}
    (hK : ¬ m.k = 3 → R.C m.f.toNat = false → hitB R m → ∀ (v4 v56 v57 v58 v59 v60 v61 v62 v63 v64 v65 v66 v67 v68 v69 v70 v71 v72 v73 v74 v75 v76 v77 v78 v79 v80 v81 v82 v83 v84 v85 v86 v87 v88 v89 v90 v91 v92 v93 v94 v95 v96 v97 v98 v99 v100 v101 v102 v103 : Value) (W2 : World), OnH w0 w W2 b gx (takeR R m) m → K ⟨#[.pointer (some ⟨b, 0, none⟩), u1, u2, .pointer (some ⟨gx, 0, none⟩), v4, u5, u6, u7, u8, u9, u10, u11, u12, u13, u14, u15, u16, u17, u18, u19, u20, u21, u22, u23, u24, u25, u26, u27, u28, u29, u30, u31, u32, u33, u34, u35, u36, u37, u38, u39, u40, u41, u42, u43, u44, u45, u46, u47, u48, u49, u50, u51, u52, u53, u54, .bool false, v56, v57, v58, v59, v60, v61, v62, v63, v64, v65, v66, v67, v68, v69, v70, v71, v72, v73, v74, v75, v76, v77, v78, v79, v80, v81, v82, v83, v84, v85, v86, v87, v88, v89, v90, v91, v92, v93, v94, v95, v96, v97, v98, v99, v100, v101, v102, v103, u104, u105, u106, u107, u108, u109, u110, u111, u112, u113, u114, u115, u116, u117, u118, u119, u120, u121, u122, u123, u124, u125, u126, u127], []⟩ W2) :
    Code.wp Try.prog onCode (Exit.then K (bodyPost Try.prog Try.f10 (OnP w0 w b (swR R m) (swM R m)))) ⟨#[.pointer (some ⟨b, 0, none⟩), u1, u2, .pointer (some ⟨gx, 0, none⟩), u4, u5, u6, u7, u8, u9, u10, u11, u12, u13, u14, u15, u16, u17, u18, u19, u20, u21, u22, u23, u24, u25, u26, u27, u28, u29, u30, u31, u32, u33, u34, u35, u36, u37, u38, u39, u40, u41, u42, u43, u44, u45, u46, u47, u48, u49, u50, u51, u52, u53, u54, .bool false, u56, u57, u58, u59, u60, u61, u62, u63, u64, u65, u66, u67, u68, u69, u70, u71, u72, u73, u74, u75, u76, u77, u78, u79, u80, u81, u82, u83, u84, u85, u86, u87, u88, u89, u90, u91, u92, u93, u94, u95, u96, u97, u98, u99, u100, u101, u102, u103, u104, u105, u106, u107, u108, u109, u110, u111, u112, u113, u114, u115, u116, u117, u118, u119, u120, u121, u122, u123, u124, u125, u126, u127], []⟩ u := by
  by_cases hk : m.k = 3
  · rw [show swR R m = end1R R 21 m.n by unfold swR; rw [if_pos hk], show swM R m = [] by unfold swM; rw [if_pos hk]]
    exact on_old h hk u1 u2 u4 u5 u6 u7 u8 u9 u10 u11 u12 u13 u14 u15 u16 u17 u18 u19 u20 u21 u22 u23 u24 u25 u26 u27 u28 u29 u30 u31 u32 u33 u34 u35 u36 u37 u38 u39 u40 u41 u42 u43 u44 u45 u46 u47 u48 u49 u50 u51 u52 u53 u54 u56 u57 u58 u59 u60 u61 u62 u63 u64 u65 u66 u67 u68 u69 u70 u71 u72 u73 u74 u75 u76 u77 u78 u79 u80 u81 u82 u83 u84 u85 u86 u87 u88 u89 u90 u91 u92 u93 u94 u95 u96 u97 u98 u99 u100 u101 u102 u103 u104 u105 u106 u107 u108 u109 u110 u111 u112 u113 u114 u115 u116 u117 u118 u119 u120 u121 u122 u123 u124 u125 u126 u127
  cases hc : R.C m.f.toNat with
  | true =>
    rw [show swR R m = R by unfold swR; rw [if_neg hk, if_pos hc], show swM R m = [] by unfold swM; rw [if_neg hk, if_pos hc]]
    exact on_again h hk hf hc u1 u2 u4 u5 u6 u7 u8 u9 u10 u11 u12 u13 u14 u15 u16 u17 u18 u19 u20 u21 u22 u23 u24 u25 u26 u27 u28 u29 u30 u31 u32 u33 u34 u35 u36 u37 u38 u39 u40 u41 u42 u43 u44 u45 u46 u47 u48 u49 u50 u51 u52 u53 u54 u56 u57 u58 u59 u60 u61 u62 u63 u64 u65 u66 u67 u68 u69 u70 u71 u72 u73 u74 u75 u76 u77 u78 u79 u80 u81 u82 u83 u84 u85 u86 u87 u88 u89 u90 u91 u92 u93 u94 u95 u96 u97 u98 u99 u100 u101 u102 u103 u104 u105 u106 u107 u108 u109 u110 u111 u112 u113 u114 u115 u116 u117 u118 u119 u120 u121 u122 u123 u124 u125 u126 u127
  | false =>
    have hc' : ¬ R.C m.f.toNat = true := by simp [hc]
    by_cases hh : hitB R m
    · have hK := hK hk hc hh
      rcases hh with ⟨h1, h7⟩ | ⟨h2, h9⟩
      · rw [show takeR R m = { R with L := joinL R.L m.L } by unfold takeR; rw [if_pos h1]] at hK
        exact on_sealed h hk hf hc h1 h7 hL hM u1 u2 u4 u5 u6 u7 u8 u9 u10 u11 u12 u13 u14 u15 u16 u17 u18 u19 u20 u21 u22 u23 u24 u25 u26 u27 u28 u29 u30 u31 u32 u33 u34 u35 u36 u37 u38 u39 u40 u41 u42 u43 u44 u45 u46 u47 u48 u49 u50 u51 u52 u53 u54 u56 u57 u58 u59 u60 u61 u62 u63 u64 u65 u66 u67 u68 u69 u70 u71 u72 u73 u74 u75 u76 u77 u78 u79 u80 u81 u82 u83 u84 u85 u86 u87 u88 u89 u90 u91 u92 u93 u94 u95 u96 u97 u98 u99 u100 u101 u102 u103 u104 u105 u106 u107 u108 u109 u110 u111 u112 u113 u114 u115 u116 u117 u118 u119 u120 u121 u122 u123 u124 u125 u126 u127 hK
      · rw [show takeR R m = R by unfold takeR; rw [if_neg (by omega)]] at hK
        exact on_filled h hk hf hc h2 h9 u1 u2 u4 u5 u6 u7 u8 u9 u10 u11 u12 u13 u14 u15 u16 u17 u18 u19 u20 u21 u22 u23 u24 u25 u26 u27 u28 u29 u30 u31 u32 u33 u34 u35 u36 u37 u38 u39 u40 u41 u42 u43 u44 u45 u46 u47 u48 u49 u50 u51 u52 u53 u54 u56 u57 u58 u59 u60 u61 u62 u63 u64 u65 u66 u67 u68 u69 u70 u71 u72 u73 u74 u75 u76 u77 u78 u79 u80 u81 u82 u83 u84 u85 u86 u87 u88 u89 u90 u91 u92 u93 u94 u95 u96 u97 u98 u99 u100 u101 u102 u103 u104 u105 u106 u107 u108 u109 u110 u111 u112 u113 u114 u115 u116 u117 u118 u119 u120 u121 u122 u123 u124 u125 u126 u127 hK
    · rw [show swR R m = R by unfold swR; rw [if_neg hk, if_neg hc', if_neg hh], show swM R m = [] by unfold swM; rw [if_neg hk, if_neg hc', if_neg hh]]
      exact on_none h hk hf hc hh u1 u2 u4 u5 u6 u7 u8 u9 u10 u11 u12 u13 u14 u15 u16 u17 u18 u19 u20 u21 u22 u23 u24 u25 u26 u27 u28 u29 u30 u31 u32 u33 u34 u35 u36 u37 u38 u39 u40 u41 u42 u43 u44 u45 u46 u47 u48 u49 u50 u51 u52 u53 u54 u56 u57 u58 u59 u60 u61 u62 u63 u64 u65 u66 u67 u68 u69 u70 u71 u72 u73 u74 u75 u76 u77 u78 u79 u80 u81 u82 u83 u84 u85 u86 u87 u88 u89 u90 u91 u92 u93 u94 u95 u96 u97 u98 u99 u100 u101 u102 u103 u104 u105 u106 u107 u108 u109 u110 u111 u112 u113 u114 u115 u116 u117 u118 u119 u120 u121 u122 u123 u124 u125 u126 u127
set_option maxRecDepth 100000 in
set_option maxHeartbeats 600000 in
theorem ron_any {w0 w : World} {b : Nat} {R : Rs} (h : RndO w0 w b R) (m : Mg) (hm0 : m.rd w0) (hml : m.L.length ≤ 9223372036854775807) (hn : 1 ≤ R.n ∧ R.n ≤ 7) (hp : R.ph = 1 ∨ R.ph = 2 ∨ R.ph = 3) (hL : R.L.length ≤ 274877906944) (hcn : 0 ≤ R.cnt ∧ R.cnt ≤ 1000) :
    Calls Try.prog 10 #[.pointer (some ⟨b, 0, none⟩), m.val] w (OnP w0 w b (onR R m) (onM R m)) := by
  have hm := hm0.below h.low
  have HRD := hide hm0
  have HH := hide h
  have HFC := hide (And.intro hn (And.intro hp (And.intro hL hcn)))
  obtain ⟨v, hb0, _⟩ := h.row
  have hba := below_alloc (Below.refl w.heap.size w) (.cells #[.int .i64 m.k, .int .i64 m.f, .int .i64 m.t, .int .u64 m.id, .int .u64 m.n, .slice m.A m.L.length m.c] 30)
  have hz := heap_alloc_new w (.cells #[.int .i64 m.k, .int .i64 m.f, .int .i64 m.t, .int .u64 m.id, .int .u64 m.n, .slice m.A m.L.length m.c] 30)
  obtain ⟨wb, hwb⟩ : ∃ wb, w.alloc (.cells #[.int .i64 m.k, .int .i64 m.f, .int .i64 m.t, .int .u64 m.id, .int .u64 m.n, .slice m.A m.L.length m.c] 30) = wb := ⟨_, rfl⟩
  rw [hwb] at hba hz
  obtain ⟨gx, hgx⟩ : ∃ gx, w.heap.size = gx := ⟨_, rfl⟩
  rw [hgx] at hz
  have hb := (hba.block b h.lt).trans hb0
  have lb := (Array.getElem?_eq_some_iff.1 hb).1
  have lgx := (Array.getElem?_eq_some_iff.1 hz).1
  obtain ⟨m0, m1, m2, m3, m4, m5⟩ := six_cells hz
  have r0 : wb.cell? ⟨b, 0, none⟩ = some (.int .i64 R.n) := (cell_of_list (o := 0) hb).trans rfl
  have r1 : wb.cell? ⟨b, 1, none⟩ = some (.int .i64 R.at_) := (cell_of_list (o := 1) hb).trans rfl
  have r2 : wb.cell? ⟨b, 2, none⟩ = some (.int .u64 R.id) := (cell_of_list (o := 2) hb).trans rfl
  have r3 : wb.cell? ⟨b, 3, none⟩ = some (.int .u64 R.f) := (cell_of_list (o := 3) hb).trans rfl
  have r4 : wb.cell? ⟨b, 4, none⟩ = some (.int .i64 R.ph) := (cell_of_list (o := 4) hb).trans rfl
  have HMK : Hid (∀ s : Near wb, Calls Try.prog 28 #[m.val] s.at_ fun e w' => e = .returned (.bool (mokB m)) ∧ Below s.at_.heap.size s.at_ w') := hide (fun s => mok_any m s.at_ ((hm.below hba).below s.is).1 hml)
  unfold Mg.val at HMK
  have HWB := hide hwb
  have HZ := hide hz
  have HGX := hide hgx
  have HBA := hide hba
  clear h hb0 hba hz hwb hgx hb hm hm0 hn hp hL hcn
  go_enter Try.func10, Try.ntmps10
  go_upto_region 1 with fail
  try rw [HWB.out]
  try rw [HGX.out]
  go_cut [55] (fun v W => v = .bool (refB R m) ∧ Below wb.heap.size wb W)
  case first =>
    have rm0 := fun s : Near wb => s.cell m0 lgx
    have rm1 := fun s : Near wb => s.cell m1 lgx
    have rm2 := fun s : Near wb => s.cell m2 lgx
    have rm3 := fun s : Near wb => s.cell m3 lgx
    have rm4 := fun s : Near wb => s.cell m4 lgx
    have rr0 := fun s : Near wb => s.cell r0 lb
    have rr1 := fun s : Near wb => s.cell r1 lb
    have rr2 := fun s : Near wb => s.cell r2 lb
    have rr3 := fun s : Near wb => s.cell r3 lb
    have rr4 := fun s : Near wb => s.cell r4 lb
    have rm5 := fun s : Near wb => s.cell m5 lgx
    by_cases hA : R.ph = 3
    · have dA : (R.ph == 3) = true := beq_iff_eq.2 hA
      have HV : Hid (refB R m = true) := hide (by unfold refB; simp [*])
      clear hA
      refine wp_region_near (by kernel_rfl) (by kernel_rfl) ?_
      repeat (go_big_quiet_step ((first | (go_at_call 28; exact near_of (HMK.out _)))))
      refine wpQuiet_nil ?_
      intro _ hw'
      obtain ⟨s1, rfl⟩ := hw'
      go_wp2_with fail
      go_meet
      exact ⟨by rw [HV.out], s1.is⟩
    · have dA : (R.ph == 3) = false := beq_eq_false_iff_ne.2 hA
      by_cases hB : mokB m = false
      · rw [hB] at HMK
        have HV : Hid (refB R m = true) := hide (by unfold refB; simp [*])
        clear hA hB
        refine wp_region_near (by kernel_rfl) (by kernel_rfl) ?_
        repeat (go_big_quiet_step ((first | (go_at_call 28; exact near_of (HMK.out _)))))
        refine wpQuiet_nil ?_
        intro _ hw'
        obtain ⟨s1, rfl⟩ := hw'
        go_wp2_with fail
        go_meet
        exact ⟨by rw [HV.out], s1.is⟩
      · have hB : mokB m = true := by simpa using hB
        rw [hB] at HMK
        by_cases hC : m.t = R.at_
        · have dC : (m.t != R.at_) = false := by simp [hC]
          by_cases hD : m.id = R.id
          · have dD : (m.id != R.id) = false := by simp [hD]
            by_cases hE : R.n ≤ m.f
            · have dE : decide (R.n ≤ m.f) = true := decide_eq_true hE
              have HV : Hid (refB R m = true) := hide (by unfold refB; simp [*])
              clear hA hB hC hD hE
              refine wp_region_near (by kernel_rfl) (by kernel_rfl) ?_
              repeat (go_big_quiet_step ((first | (go_at_call 28; exact near_of (HMK.out _)))))
              refine wpQuiet_nil ?_
              intro _ hw'
              obtain ⟨s1, rfl⟩ := hw'
              go_wp2_with fail
              go_meet
              exact ⟨by rw [HV.out], s1.is⟩
            · have dE : decide (R.n ≤ m.f) = false := decide_eq_false hE
              by_cases hF : m.n = R.f
              · have dF : (m.n != R.f) = false := by simp [hF]
                have HV : Hid (refB R m = false) := hide (by unfold refB; simp [*])
                clear hA hB hC hD hE hF
                refine wp_region_near (by kernel_rfl) (by kernel_rfl) ?_
                repeat (go_big_quiet_step ((first | (go_at_call 28; exact near_of (HMK.out _)))))
                refine wpQuiet_nil ?_
                intro _ hw'
                obtain ⟨s1, rfl⟩ := hw'
                go_wp2_with fail
                go_meet
                exact ⟨by rw [HV.out], s1.is⟩
              · have dF : (m.n != R.f) = true := by simp [hF]
                by_cases hG : m.k = 3
                · have dG : (m.k != 3) = false := by simp [hG]
                  have HV : Hid (refB R m = false) := hide (by unfold refB; simp [*])
                  clear hA hB hC hD hE hF hG
                  refine wp_region_near (by kernel_rfl) (by kernel_rfl) ?_
                  repeat (go_big_quiet_step ((first | (go_at_call 28; exact near_of (HMK.out _)))))
                  refine wpQuiet_nil ?_
                  intro _ hw'
                  obtain ⟨s1, rfl⟩ := hw'
                  go_wp2_with fail
                  go_meet
                  exact ⟨by rw [HV.out], s1.is⟩
                · have dG : (m.k != 3) = true := by simp [hG]
                  have HV : Hid (refB R m = true) := hide (by unfold refB; simp [*])
                  clear hA hB hC hD hE hF hG
                  refine wp_region_near (by kernel_rfl) (by kernel_rfl) ?_
                  repeat (go_big_quiet_step ((first | (go_at_call 28; exact near_of (HMK.out _)))))
                  refine wpQuiet_nil ?_
                  intro _ hw'
                  obtain ⟨s1, rfl⟩ := hw'
                  go_wp2_with fail
                  go_meet
                  exact ⟨by rw [HV.out], s1.is⟩
          · have dD : (m.id != R.id) = true := by simp [hD]
            have HV : Hid (refB R m = true) := hide (by unfold refB; simp [*])
            clear hA hB hC hD
            refine wp_region_near (by kernel_rfl) (by kernel_rfl) ?_
            repeat (go_big_quiet_step ((first | (go_at_call 28; exact near_of (HMK.out _)))))
            refine wpQuiet_nil ?_
            intro _ hw'
            obtain ⟨s1, rfl⟩ := hw'
            go_wp2_with fail
            go_meet
            exact ⟨by rw [HV.out], s1.is⟩
        · have dC : (m.t != R.at_) = true := by simp [hC]
          have HV : Hid (refB R m = true) := hide (by unfold refB; simp [*])
          clear hA hB hC
          refine wp_region_near (by kernel_rfl) (by kernel_rfl) ?_
          repeat (go_big_quiet_step ((first | (go_at_call 28; exact near_of (HMK.out _)))))
          refine wpQuiet_nil ?_
          intro _ hw'
          obtain ⟨s1, rfl⟩ := hw'
          go_wp2_with fail
          go_meet
          exact ⟨by rw [HV.out], s1.is⟩
  case rest =>
    obtain ⟨rfl, hbw⟩ := hcut
    clear m0 m1 m2 m3 m4 m5 r0 r1 r2 r3 r4 HMK
    have HLOW := hide (below_step HBA.out hbw)
    have HBO : Hid (wc.heap[gx]? = some (.cells #[.int .i64 m.k, .int .i64 m.f, .int .i64 m.t, .int .u64 m.id, .int .u64 m.n, .slice m.A m.L.length m.c] 30 (0, 0))) := hide ((hbw.block gx lgx).trans HZ.out)
    clear hbw lb lgx
    cases hrb : refB R m with
    | true =>
      have HE : Hid (onR R m = R ∧ onM R m = []) := hide ⟨by unfold onR; rw [if_pos hrb], by unfold onM; rw [if_pos hrb]⟩
      clear hrb
      go_wp2_with fail
      go_ret
      exact ⟨_, [], rfl, by rw [HE.out.1]; exact HH.out.below HLOW.out, MsO.nil_ _ _, by rw [HE.out.2]; rfl, Sets.of (S := fun g => g = b) HLOW.out⟩
    | false =>
      have HRB := hide (refB_false hrb)
      have hE1 : onR R m = swR R m := by unfold onR; rw [if_neg (by simp [hrb])]
      have hE2 : onM R m = swM R m := by unfold onM; rw [if_neg (by simp [hrb])]
      have HE1 := hide hE1
      have HE2 := hide hE2
      clear hrb hE1 hE2
      go_upto_block 0 with fail
      rw [HE1.out, HE2.out]
      obtain ⟨h1, h2, h3, h4, h5⟩ := HRB.out
      obtain ⟨k1, k2, k3⟩ := mokB_facts h2
      obtain ⟨n1, n2, n3, n4⟩ := HFC.out
      refine on_all ⟨HH.out.below HLOW.out, HBO.out, ⟨Nat.le_of_eq HGX.out, HH.out.lt⟩, HRD.out, Sets.of (S := fun g => g = b) HLOW.out⟩ ⟨k1, k2⟩ n3 (by omega) _ _ _ _ _ _ _ _ _ _ _ _ _ _ _ _ _ _ _ _ _ _ _ _ _ _ _ _ _ _ _ _ _ _ _ _ _ _ _ _ _ _ _ _ _ _ _ _ _ _ _ _ _ _ _ _ _ _ _ _ _ _ _ _ _ _ _ _ _ _ _ _ _ _ _ _ _ _ _ _ _ _ _ _ _ _ _ _ _ _ _ _ _ _ _ _ _ _ _ _ _ _ _ _ _ _ _ _ _ _ _ _ _ _ _ _ _ _ _ _ _ _ _ _ _ ?_
      intro hk hc hh v4 v56 v57 v58 v59 v60 v61 v62 v63 v64 v65 v66 v67 v68 v69 v70 v71 v72 v73 v74 v75 v76 v77 v78 v79 v80 v81 v82 v83 v84 v85 v86 v87 v88 v89 v90 v91 v92 v93 v94 v95 v96 v97 v98 v99 v100 v101 v102 v103 W2 h
      have e1 : (takeR R m).n = R.n := by unfold takeR; split <;> rfl
      have e2 : (takeR R m).ph = R.ph := by unfold takeR; split <;> rfl
      have e3 : (takeR R m).cnt = R.cnt := by unfold takeR; split <;> rfl
      have e4 : (takeR R m).L.length ≤ 1099511627776 := by
        unfold takeR
        split
        · have := joinL_len R.L m.L
          show (joinL R.L m.L).length ≤ _
          omega
        · omega
      have hc' : ¬ R.C m.f.toNat = true := by simp [hc]
      have g1 : goR (takeR R m) m.f.toNat = onR R m := by rw [HE1.out]; unfold swR; rw [if_neg hk, if_neg hc', if_pos hh]
      have g2 : goM (takeR R m) m.f.toNat = onM R m := by rw [HE2.out]; unfold swM; rw [if_neg hk, if_neg hc', if_pos hh]
      rename_i hKK
      refine hKK _ _ ?_
      rw [← g1, ← g2]
      exact on_tail h ⟨k1, by rw [e1]; exact h5⟩ (by rw [e1]; exact n1) (by rw [e2]; omega) e4 (by rw [e3]; exact n4) _ _ _ _ _ _ _ _ _ _ _ _ _ _ _ _ _ _ _ _ _ _ _ _ _ _ _ _ _ _ _ _ _ _ _ _ _ _ _ _ _ _ _ _ _ _ _ _ _ _ _ _ _ _ _ _ _ _ _ _ _ _ _ _ _ _ _ _ _ _ _ _ _ _ _ _ _ _ _ _ _ _ _ _ _ _ _ _ _ _ _ _ _ _ _ _ _ _ _ _ _ _ _ _ _ _ _ _ _ _ _ _ _ _ _ _ _ _ _ _ _ _ _ _ _ _
end Go.Proofs.Ytikecafblampeaa
