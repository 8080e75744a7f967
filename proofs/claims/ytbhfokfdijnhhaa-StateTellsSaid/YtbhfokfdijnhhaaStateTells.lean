/- The walk of clepsydralaw6.StateTells: it returns true. No condition. -/
import Derived.Test.YtbhfokfdijnhhaaS6Sl
import Derived.Deep.RegionHeld3
namespace Go.Proofs.Ytbhfokfdijnhhaa.stateTells
set_option linter.unusedVariables false
set_option linter.unusedSimpArgs false
open Go.ChangeShapes Go.WideShapes Go.ChangeAt Go.RowKit

set_option maxHeartbeats 3200000 in
set_option maxRecDepth 100000 in
theorem walk {w : World} (A0 : Option Addr) (c0 : Nat) (L0 : List It) (lc0 : L0.length ≤ c0) (cm0 : c0 ≤ maxLen) (r0 : RowAt It.cells 5 w A0 L0) (w0 : ∀ a ∈ L0, a.wf)
    (A1 : Option Addr) (c1 : Nat) (L1 : List It) (lc1 : L1.length ≤ c1) (cm1 : c1 ≤ maxLen) (r1 : RowAt It.cells 5 w A1 L1) (w1 : ∀ a ∈ L1, a.wf)
    (a2 : It) (w2 : a2.wf) :
    Calls Try.prog 7 #[.slice A0 L0.length c0, .slice A1 L1.length c1, .agg a2.cells.toArray] w fun e w' => e = .returned (.bool true) ∧ Below w.heap.size w w' := by
  by_cases h0 : 60 < L0.length
  case pos =>
    have d0 : decide (60 < (L0.length : Int)) = true := decide_eq_true (by omega)
    go_enter Try.func7, Try.ntmps7
    go_wp2_with fail
    refine (Calls.mono (awake_any _) ?_); rintro e w1 ⟨rfl, hg1⟩
    go_wp2_with fail
    go_ret
    exact ⟨rfl, below_step (below_alloc (Below.refl _ _) _) hg1⟩
  by_cases h1 : 60 < L1.length
  case pos =>
    have d0 : decide (60 < (L0.length : Int)) = false := decide_eq_false (by omega)
    have d1 : decide (60 < (L1.length : Int)) = true := decide_eq_true (by omega)
    go_enter Try.func7, Try.ntmps7
    go_wp2_with fail
    refine (Calls.mono (awake_any _) ?_); rintro e w1 ⟨rfl, hg1⟩
    go_wp2_with fail
    go_ret
    exact ⟨rfl, below_step (below_alloc (Below.refl _ _) _) hg1⟩
  have d0 : decide (60 < (L0.length : Int)) = false := decide_eq_false (by omega)
  have d1 : decide (60 < (L1.length : Int)) = false := decide_eq_false (by omega)
  have HB0 := hide (below_alloc (Below.refl w.heap.size w) (.cells a2.cells.toArray 31))
  have S_a := hide ((Sl.mk_ r0 lc0 cm0).below HB0.out)
  have S_b := hide ((Sl.mk_ r1 lc1 cm1).below HB0.out)
  have HX := hide (heap_alloc_new w (.cells a2.cells.toArray 31))
  clear r0 r1 w0 w1
  have l0 := ofL_len L0
  have j1 := joinL_len L0 L1
  have j2 := joinL_len (ofL L0) L1
  have a1 : (addS L0 a2).length ≤ L0.length + 1 := addS_len L0 a2
  have a3 : (addS (ofL L0) a2).length ≤ (ofL L0).length + 1 := addS_len (ofL L0) a2
  have E1 : eqL (ofL L0) (ofL L0) = true := eqL_self _
  have H1 := hide E1
  clear E1
  have E2 : stateB (ofL L0) = true := stateB_true (ofL_state _)
  have H2 := hide E2
  clear E2
  have E3 : eqL (joinL L0 L1) (joinL L0 L1) = true := eqL_self _
  have H3 := hide E3
  clear E3
  have E4 : eqL (joinL (ofL L0) L1) (joinL (ofL L0) L1) = true := eqL_self _
  have H4 := hide E4
  clear E4
  have E5 : eqL (addS L0 a2) (addS L0 a2) = true := eqL_self _
  have H5 := hide E5
  clear E5
  have E6 : eqL (addS (ofL L0) a2) (addS (ofL L0) a2) = true := eqL_self _
  have H6 := hide E6
  clear E6
  generalize hst : stateB L0 = sb
  have HST := hide hst
  clear hst
  generalize heq : eqL L0 L1 = eb
  have HEQ := hide heq
  clear heq
  go_enter Try.func7, Try.ntmps7
  go_wp2_with fail
  refine (Calls.mono (pof_sl S_a.out (by omega)) ?_); rintro e w1 ⟨v1, rfl, ho1, hg1⟩
  have HB1 := hide (below_step HB0.out hg1)
  have S_a := hide (S_a.out.below hg1)
  have S_b := hide (S_b.out.below hg1)
  have HX := hide ((hg1.block w.heap.size (Array.getElem?_eq_some_iff.1 HX.out).1).trans HX.out)
  have S_p := hide (ho1.sl)
  clear ho1 hg1
  go_wp2_with fail
  refine (Calls.mono (rof_sl S_a.out (by omega)) ?_); rintro e w2 ⟨v2, rfl, ho2, hg2⟩
  have HB2 := hide (below_step HB1.out hg2)
  have S_a := hide (S_a.out.below hg2)
  have S_b := hide (S_b.out.below hg2)
  have S_p := hide (S_p.out.below hg2)
  have HX := hide ((hg2.block w.heap.size (Array.getElem?_eq_some_iff.1 HX.out).1).trans HX.out)
  have S_q := hide ho2
  clear ho2 hg2
  go_wp2_with fail
  refine (Calls.mono (pok_sl S_a.out (by omega)) ?_); rintro e w3 ⟨rfl, hg3⟩
  rw [HST.out]
  have HB3 := hide (below_step HB2.out hg3)
  have S_a := hide (S_a.out.below hg3)
  have S_b := hide (S_b.out.below hg3)
  have S_p := hide (S_p.out.below hg3)
  have S_q := hide (S_q.out.below hg3)
  have HX := hide ((hg3.block w.heap.size (Array.getElem?_eq_some_iff.1 HX.out).1).trans HX.out)
  clear hg3
  go_wp2_with fail
  refine (Calls.mono (rstate_sl S_a.out (by omega)) ?_); rintro e w4 ⟨rfl, hg4⟩
  rw [HST.out]
  have HB4 := hide (below_step HB3.out hg4)
  have S_a := hide (S_a.out.below hg4)
  have S_b := hide (S_b.out.below hg4)
  have S_p := hide (S_p.out.below hg4)
  have S_q := hide (S_q.out.below hg4)
  have HX := hide ((hg4.block w.heap.size (Array.getElem?_eq_some_iff.1 HX.out).1).trans HX.out)
  clear hg4
  go_wp2_with fail
  refine (Calls.mono (requal_sl S_p.out S_q.out (by omega) (by omega)) ?_); rintro e w5 ⟨rfl, hg5⟩
  rw [H1.out]
  have HB5 := hide (below_step HB4.out hg5)
  have S_a := hide (S_a.out.below hg5)
  have S_b := hide (S_b.out.below hg5)
  have S_p := hide (S_p.out.below hg5)
  have S_q := hide (S_q.out.below hg5)
  have HX := hide ((hg5.block w.heap.size (Array.getElem?_eq_some_iff.1 HX.out).1).trans HX.out)
  clear hg5
  go_wp2_with fail
  refine (Calls.mono (pok_sl S_p.out (by omega)) ?_); rintro e w6 ⟨rfl, hg6⟩
  rw [H2.out]
  have HB6 := hide (below_step HB5.out hg6)
  have S_a := hide (S_a.out.below hg6)
  have S_b := hide (S_b.out.below hg6)
  have S_p := hide (S_p.out.below hg6)
  have S_q := hide (S_q.out.below hg6)
  have HX := hide ((hg6.block w.heap.size (Array.getElem?_eq_some_iff.1 HX.out).1).trans HX.out)
  clear hg6
  go_wp2_with fail
  refine (Calls.mono (pjoin_sl S_a.out S_b.out (by omega) (by omega)) ?_); rintro e w7 ⟨v7, rfl, ho7, hg7⟩
  have HB7 := hide (below_step HB6.out hg7)
  have S_a := hide (S_a.out.below hg7)
  have S_b := hide (S_b.out.below hg7)
  have S_p := hide (S_p.out.below hg7)
  have S_q := hide (S_q.out.below hg7)
  have HX := hide ((hg7.block w.heap.size (Array.getElem?_eq_some_iff.1 HX.out).1).trans HX.out)
  have S_ja := hide (ho7.sl)
  clear ho7 hg7
  go_wp2_with fail
  refine (Calls.mono (rjoin_sl S_a.out S_b.out (by omega) (by omega)) ?_); rintro e w8 ⟨v8, rfl, ho8, hg8⟩
  have HB8 := hide (below_step HB7.out hg8)
  have S_a := hide (S_a.out.below hg8)
  have S_b := hide (S_b.out.below hg8)
  have S_p := hide (S_p.out.below hg8)
  have S_q := hide (S_q.out.below hg8)
  have S_ja := hide (S_ja.out.below hg8)
  have HX := hide ((hg8.block w.heap.size (Array.getElem?_eq_some_iff.1 HX.out).1).trans HX.out)
  have S_jb := hide ho8
  clear ho8 hg8
  go_wp2_with fail
  refine (Calls.mono (requal_sl S_ja.out S_jb.out (by omega) (by omega)) ?_); rintro e w9 ⟨rfl, hg9⟩
  rw [H3.out]
  have HB9 := hide (below_step HB8.out hg9)
  have S_a := hide (S_a.out.below hg9)
  have S_b := hide (S_b.out.below hg9)
  have S_p := hide (S_p.out.below hg9)
  have S_q := hide (S_q.out.below hg9)
  have S_ja := hide (S_ja.out.below hg9)
  have S_jb := hide (S_jb.out.below hg9)
  have HX := hide ((hg9.block w.heap.size (Array.getElem?_eq_some_iff.1 HX.out).1).trans HX.out)
  clear hg9
  go_wp2_with fail
  refine (Calls.mono (pjoin_sl S_p.out S_b.out (by omega) (by omega)) ?_); rintro e w10 ⟨v10, rfl, ho10, hg10⟩
  have HB10 := hide (below_step HB9.out hg10)
  have S_a := hide (S_a.out.below hg10)
  have S_b := hide (S_b.out.below hg10)
  have S_p := hide (S_p.out.below hg10)
  have S_q := hide (S_q.out.below hg10)
  have S_ja := hide (S_ja.out.below hg10)
  have S_jb := hide (S_jb.out.below hg10)
  have HX := hide ((hg10.block w.heap.size (Array.getElem?_eq_some_iff.1 HX.out).1).trans HX.out)
  have S_jc := hide (ho10.sl)
  clear ho10 hg10
  go_wp2_with fail
  refine (Calls.mono (rjoin_sl S_q.out S_b.out (by omega) (by omega)) ?_); rintro e w11 ⟨v11, rfl, ho11, hg11⟩
  have HB11 := hide (below_step HB10.out hg11)
  have S_a := hide (S_a.out.below hg11)
  have S_b := hide (S_b.out.below hg11)
  have S_p := hide (S_p.out.below hg11)
  have S_q := hide (S_q.out.below hg11)
  have S_ja := hide (S_ja.out.below hg11)
  have S_jb := hide (S_jb.out.below hg11)
  have S_jc := hide (S_jc.out.below hg11)
  have HX := hide ((hg11.block w.heap.size (Array.getElem?_eq_some_iff.1 HX.out).1).trans HX.out)
  have S_jd := hide ho11
  clear ho11 hg11
  go_wp2_with fail
  refine (Calls.mono (requal_sl S_jc.out S_jd.out (by omega) (by omega)) ?_); rintro e w12 ⟨rfl, hg12⟩
  rw [H4.out]
  have HB12 := hide (below_step HB11.out hg12)
  have S_a := hide (S_a.out.below hg12)
  have S_b := hide (S_b.out.below hg12)
  have S_p := hide (S_p.out.below hg12)
  have S_q := hide (S_q.out.below hg12)
  have S_ja := hide (S_ja.out.below hg12)
  have S_jb := hide (S_jb.out.below hg12)
  have S_jc := hide (S_jc.out.below hg12)
  have S_jd := hide (S_jd.out.below hg12)
  have HX := hide ((hg12.block w.heap.size (Array.getElem?_eq_some_iff.1 HX.out).1).trans HX.out)
  clear hg12
  go_wp2_with fail
  have hx := box_item HX.out
  have tk13 : True := trivial
  have tk14 : True := trivial
  have tk15 : True := trivial
  have tk16 : True := trivial
  have tk17 : True := trivial
  have tk18 : True := trivial
  have tk19 : True := trivial
  have tk20 : True := trivial
  have tk21 : True := trivial
  go_region_held3 (fun w' => w'.cell? ⟨w.heap.size, 0, none⟩ = some (.int .i64 a2.s) ∧ w'.cell? ⟨w.heap.size, 1, none⟩ = some (.int .i64 a2.k) ∧ w'.cell? ⟨w.heap.size, 2, none⟩ = some (.int .u64 a2.t) ∧ w'.cell? ⟨w.heap.size, 3, none⟩ = some (.int .u64 a2.v) ∧ w'.cell? ⟨w.heap.size, 4, none⟩ = some (.int .i64 a2.x)) (exact hx) (first
    | (go_at_call 24; have _t := tk13; refine (Calls.mono (paddx_sl (by exact S_a.out) a2 (by omega)) ?_); rintro e w13 ⟨v13, rfl, ho13, hg13⟩; have HB13 := hide (below_step HB12.out.drew hg13); have HX := hide (Eq.trans (hg13.block w.heap.size (Array.getElem?_eq_some_iff.1 HX.out).1) HX.out); have hx := box_item HX.out; have S_a := hide (Sl.below (by exact S_a.out) hg13); have S_b := hide (Sl.below (by exact S_b.out) hg13); have S_p := hide (Sl.below (by exact S_p.out) hg13); have S_q := hide (Sl.below (by exact S_q.out) hg13); have S_r1 := hide ho13.sl; clear hg13 tk13 _t ho13)
    | (go_at_call 25; have _t := tk14; refine (Calls.mono (raddx_sl (by exact S_a.out) a2 (by omega)) ?_); rintro e w14 ⟨v14, rfl, ho14, hg14⟩; have HB14 := hide (below_step HB13.out hg14); have HX := hide (Eq.trans (hg14.block w.heap.size (Array.getElem?_eq_some_iff.1 HX.out).1) HX.out); have hx := box_item HX.out; have S_a := hide (Sl.below (by exact S_a.out) hg14); have S_b := hide (Sl.below (by exact S_b.out) hg14); have S_p := hide (Sl.below (by exact S_p.out) hg14); have S_q := hide (Sl.below (by exact S_q.out) hg14); have S_r1 := hide (Sl.below (by exact S_r1.out) hg14); have S_r2 := hide ho14; clear hg14 tk14 _t ho14)
    | (go_at_call 15; have _t := tk15; refine (Calls.mono (requal_sl (by exact S_r1.out) (by exact S_r2.out) (by omega) (by omega)) ?_); rintro e w15 ⟨rfl, hg15⟩; rw [H5.out]; have HB15 := hide (below_step HB14.out hg15); have HX := hide (Eq.trans (hg15.block w.heap.size (Array.getElem?_eq_some_iff.1 HX.out).1) HX.out); have hx := box_item HX.out; have S_a := hide (Sl.below (by exact S_a.out) hg15); have S_b := hide (Sl.below (by exact S_b.out) hg15); have S_p := hide (Sl.below (by exact S_p.out) hg15); have S_q := hide (Sl.below (by exact S_q.out) hg15); have S_r1 := hide (Sl.below (by exact S_r1.out) hg15); have S_r2 := hide (Sl.below (by exact S_r2.out) hg15); clear hg15 tk15 _t)
    | (go_at_call 24; have _t := tk16; refine (Calls.mono (paddx_sl (by exact S_p.out) a2 (by omega)) ?_); rintro e w16 ⟨v16, rfl, ho16, hg16⟩; have HB16 := hide (below_step HB15.out hg16); have HX := hide (Eq.trans (hg16.block w.heap.size (Array.getElem?_eq_some_iff.1 HX.out).1) HX.out); have hx := box_item HX.out; have S_a := hide (Sl.below (by exact S_a.out) hg16); have S_b := hide (Sl.below (by exact S_b.out) hg16); have S_p := hide (Sl.below (by exact S_p.out) hg16); have S_q := hide (Sl.below (by exact S_q.out) hg16); have S_r1 := hide (Sl.below (by exact S_r1.out) hg16); have S_r2 := hide (Sl.below (by exact S_r2.out) hg16); have S_r3 := hide ho16.sl; clear hg16 tk16 _t ho16)
    | (go_at_call 25; have _t := tk17; refine (Calls.mono (raddx_sl (by exact S_q.out) a2 (by omega)) ?_); rintro e w17 ⟨v17, rfl, ho17, hg17⟩; have HB17 := hide (below_step HB16.out hg17); have HX := hide (Eq.trans (hg17.block w.heap.size (Array.getElem?_eq_some_iff.1 HX.out).1) HX.out); have hx := box_item HX.out; have S_a := hide (Sl.below (by exact S_a.out) hg17); have S_b := hide (Sl.below (by exact S_b.out) hg17); have S_p := hide (Sl.below (by exact S_p.out) hg17); have S_q := hide (Sl.below (by exact S_q.out) hg17); have S_r1 := hide (Sl.below (by exact S_r1.out) hg17); have S_r2 := hide (Sl.below (by exact S_r2.out) hg17); have S_r3 := hide (Sl.below (by exact S_r3.out) hg17); have S_r4 := hide ho17; clear hg17 tk17 _t ho17)
    | (go_at_call 15; have _t := tk18; refine (Calls.mono (requal_sl (by exact S_r3.out) (by exact S_r4.out) (by omega) (by omega)) ?_); rintro e w18 ⟨rfl, hg18⟩; rw [H6.out]; have HB18 := hide (below_step HB17.out hg18); have HX := hide (Eq.trans (hg18.block w.heap.size (Array.getElem?_eq_some_iff.1 HX.out).1) HX.out); have hx := box_item HX.out; have S_a := hide (Sl.below (by exact S_a.out) hg18); have S_b := hide (Sl.below (by exact S_b.out) hg18); have S_p := hide (Sl.below (by exact S_p.out) hg18); have S_q := hide (Sl.below (by exact S_q.out) hg18); have S_r1 := hide (Sl.below (by exact S_r1.out) hg18); have S_r2 := hide (Sl.below (by exact S_r2.out) hg18); have S_r3 := hide (Sl.below (by exact S_r3.out) hg18); have S_r4 := hide (Sl.below (by exact S_r4.out) hg18); clear hg18 tk18 _t)
    | (go_at_call 26; have _t := tk19; refine (Calls.mono (psame_sl (by exact S_a.out) (by exact S_b.out) (by omega) (by omega)) ?_); rintro e w19 ⟨rfl, hg19⟩; rw [HEQ.out]; have HB19 := hide (below_step HB18.out hg19); have HX := hide (Eq.trans (hg19.block w.heap.size (Array.getElem?_eq_some_iff.1 HX.out).1) HX.out); have hx := box_item HX.out; have S_a := hide (Sl.below (by exact S_a.out) hg19); have S_b := hide (Sl.below (by exact S_b.out) hg19); have S_p := hide (Sl.below (by exact S_p.out) hg19); have S_q := hide (Sl.below (by exact S_q.out) hg19); have S_r1 := hide (Sl.below (by exact S_r1.out) hg19); have S_r2 := hide (Sl.below (by exact S_r2.out) hg19); have S_r3 := hide (Sl.below (by exact S_r3.out) hg19); have S_r4 := hide (Sl.below (by exact S_r4.out) hg19); clear hg19 tk19 _t)
    | (go_at_call 15; have _t := tk20; refine (Calls.mono (requal_sl (by exact S_a.out) (by exact S_b.out) (by omega) (by omega)) ?_); rintro e w20 ⟨rfl, hg20⟩; rw [HEQ.out]; have HB20 := hide (below_step HB19.out hg20); have HX := hide (Eq.trans (hg20.block w.heap.size (Array.getElem?_eq_some_iff.1 HX.out).1) HX.out); have hx := box_item HX.out; have S_a := hide (Sl.below (by exact S_a.out) hg20); have S_b := hide (Sl.below (by exact S_b.out) hg20); have S_p := hide (Sl.below (by exact S_p.out) hg20); have S_q := hide (Sl.below (by exact S_q.out) hg20); have S_r1 := hide (Sl.below (by exact S_r1.out) hg20); have S_r2 := hide (Sl.below (by exact S_r2.out) hg20); have S_r3 := hide (Sl.below (by exact S_r3.out) hg20); have S_r4 := hide (Sl.below (by exact S_r4.out) hg20); clear hg20 tk20 _t)
    | (go_at_call 12; have _t := tk21; refine (Calls.mono (awake_any _) ?_); rintro e w21 ⟨rfl, hg21⟩; have HB21 := hide (below_step HB20.out hg21); have HX := hide (Eq.trans (hg21.block w.heap.size (Array.getElem?_eq_some_iff.1 HX.out).1) HX.out); have hx := box_item HX.out; have S_a := hide (Sl.below (by exact S_a.out) hg21); have S_b := hide (Sl.below (by exact S_b.out) hg21); have S_p := hide (Sl.below (by exact S_p.out) hg21); have S_q := hide (Sl.below (by exact S_q.out) hg21); have S_r1 := hide (Sl.below (by exact S_r1.out) hg21); have S_r2 := hide (Sl.below (by exact S_r2.out) hg21); have S_r3 := hide (Sl.below (by exact S_r3.out) hg21); have S_r4 := hide (Sl.below (by exact S_r4.out) hg21); clear hg21 tk21 _t))
  all_goals
    go_wp2_with fail
    go_ret
    exact ⟨rfl, HB21.out⟩
end Go.Proofs.Ytbhfokfdijnhhaa.stateTells
