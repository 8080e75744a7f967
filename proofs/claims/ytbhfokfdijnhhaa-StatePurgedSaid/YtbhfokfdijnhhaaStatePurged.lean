/- The walk of clepsydralaw6.StatePurged: it returns true. No condition. -/
import Derived.Test.YtbhfokfdijnhhaaS6Sl
import Derived.Test.YtbhfokfdijnhhaaBits
namespace Go.Proofs.Ytbhfokfdijnhhaa.statePurged
set_option linter.unusedVariables false
set_option linter.unusedSimpArgs false
open Go.ChangeShapes Go.WideShapes Go.ChangeAt Go.RowKit

theorem new_sl2 (w : World) (g : Nat) (hg : w.heap.size = g) (L : List It) (n : Nat) (cs : Array Value) (t : TypeId) (hn : L.length = n) (hm : n ≤ maxLen) (hc : cs = (flat L).toArray) : Sl (w.alloc (.cells cs t)) (.slice (some ⟨g, 0, none⟩) n n) L := by
  subst hg
  exact new_sl w L n cs t hn hm hc
theorem add_nil_ {x : It} (hx : It.good x) : addL [] x = [x] := by
  unfold addL
  rw [goodB_true hx]
  simp [putL, hides_self]
theorem purge_of {x t : It} (hx : It.good x) (ht : It.good t) (hk : x.k = 2) (htk : t.k = 1) (hs : t.s = x.s) : ofL [x, t] = if x.v ≤ t.v then [t] else [t, x] := by
  have e : ofL [x, t] = addL (addL [] x) t := rfl
  rw [e, add_nil_ hx]
  unfold addL
  rw [goodB_true ht]
  simp only [List.any_cons, List.any_nil, Bool.or_false, putL]
  rw [hidesB_false (a := x) (b := t) (by unfold It.hides; omega), sameB_false (a := x) (b := t) (by unfold It.same; omega), ltB_false (a := x) (b := t) (by unfold It.lt; omega), ltB_true (a := t) (b := x) (by unfold It.lt; omega)]
  simp only [Bool.true_eq_false, if_false, Bool.false_eq_true, Bool.false_and, if_true, List.filter_cons, List.filter_nil, hides_self, Bool.not_false]
  by_cases hv : x.v ≤ t.v
  · rw [hidesB_true (a := t) (b := x) (by unfold It.hides; omega), if_pos hv]; rfl
  · rw [hidesB_false (a := t) (b := x) (by unfold It.hides; omega), if_neg hv]; rfl
theorem add_tomb {x t : It} (hx : It.good x) (hk : x.k = 2) (htk : t.k = 1) (hs : t.s = x.s) (hv : x.v ≤ t.v) : addL [t] x = [t] := addL_hid hx (by unfold hidB; simp [hidesB_true (a := t) (b := x) (by unfold It.hides; omega)])
theorem add_again {l : List It} {x : It} (hx : It.good x) (h : x ∈ l) : addL l x = l := by
  unfold addL
  rw [goodB_true hx, if_neg (by simp)]
  split
  · rfl
  · rw [if_pos]
    exact List.any_eq_true.2 ⟨x, h, by rw [sameB_true (by unfold It.same; omega), winsB_false (by unfold It.wins; omega)]; rfl⟩
theorem st_one {x : It} (hx : It.good x) : IsState [x] := by
  have := ofL_state [x]
  have e : ofL [x] = addL [] x := rfl
  rw [e, add_nil_ hx] at this; exact this
theorem st_two {x t : It} (hx : It.good x) (ht : It.good t) (hk : x.k = 2) (htk : t.k = 1) (hs : t.s = x.s) (hv : ¬ x.v ≤ t.v) : IsState [t, x] := by
  have := ofL_state [x, t]
  rw [purge_of hx ht hk htk hs, if_neg hv] at this; exact this
theorem has_in {x : It} (hk : x.k = 2) : hasL x.s x.t [x] = true := by
  unfold hasL
  rw [List.find?_cons_of_pos (by unfold getP; simp [hk])]; rfl
theorem has_two {x t : It} (hk : x.k = 2) (htk : t.k = 1) : hasL x.s x.t [t, x] = true := by
  unfold hasL
  rw [List.find?_cons_of_neg (by unfold getP; simp [htk]), List.find?_cons_of_pos (by unfold getP; simp [hk])]; rfl
theorem has_no {x t : It} (htk : t.k = 1) : hasL x.s x.t [t] = false := by
  unfold hasL
  rw [List.find?_cons_of_neg (by unfold getP; simp [htk])]; rfl
/-- What the law's own tests come to. -/
theorem purged {x t : It} (v : Int) (hx : It.good x) (ht : It.good t) (hk : x.k = 2) (htk : t.k = 1) (hs : t.s = x.s) :
    ∃ (n m : Nat) (th : Bool), (ofL [x, t]).length = m ∧ ((ofL [x, t]).filter (purP v)).length = n ∧ hasL x.s x.t (addS ((ofL [x, t]).filter (purP v)) x) = th ∧ n ≤ 2 ∧ 1 ≤ m ∧ m ≤ 2 ∧
      ((t.v ≤ v ∧ n + 1 = m ∧ th = true) ∨ (v < t.v ∧ n = m ∧ ((x.v ≤ t.v ∧ th = false) ∨ (t.v < x.v ∧ th = true)))) := by
  have px : purP v x = true := by unfold purP; simp [hk]
  rw [purge_of hx ht hk htk hs]
  by_cases h1 : x.v ≤ t.v
  · rw [if_pos h1]
    by_cases h2 : t.v ≤ v
    · have pt : purP v t = false := by unfold purP; simp [htk]; omega
      refine ⟨0, 1, true, rfl, by simp [pt], ?_, by omega, by omega, by omega, .inl ⟨h2, rfl, rfl⟩⟩
      rw [List.filter_cons_of_neg (by simp [pt]), List.filter_nil]
      unfold addS
      rw [stateB_true IsState.nil_]
      simp only [if_true]
      rw [add_nil_ hx]; exact has_in hk
    · have pt : purP v t = true := by unfold purP; simp; omega
      refine ⟨1, 1, false, rfl, by simp [pt], ?_, by omega, by omega, by omega, .inr ⟨by omega, rfl, .inl ⟨h1, rfl⟩⟩⟩
      rw [List.filter_cons_of_pos pt, List.filter_nil]
      unfold addS
      rw [stateB_true (st_one ht)]
      simp only [if_true]
      rw [add_tomb hx hk htk hs h1]; exact has_no htk
  · rw [if_neg h1]
    by_cases h2 : t.v ≤ v
    · have pt : purP v t = false := by unfold purP; simp [htk]; omega
      refine ⟨1, 2, true, rfl, by simp [pt, px], ?_, by omega, by omega, by omega, .inl ⟨h2, rfl, rfl⟩⟩
      rw [List.filter_cons_of_neg (by simp [pt]), List.filter_cons_of_pos px, List.filter_nil]
      unfold addS
      rw [stateB_true (st_one hx)]
      simp only [if_true]
      rw [add_again hx (by simp)]; exact has_in hk
    · have pt : purP v t = true := by unfold purP; simp; omega
      refine ⟨2, 2, true, rfl, by simp [pt, px], ?_, by omega, by omega, by omega, .inr ⟨by omega, rfl, .inr ⟨by omega, rfl⟩⟩⟩
      rw [List.filter_cons_of_pos pt, List.filter_cons_of_pos px, List.filter_nil]
      unfold addS
      rw [stateB_true (st_two hx ht hk htk hs h1)]
      simp only [if_true]
      rw [add_again hx (by simp)]; exact has_two hk htk

set_option maxHeartbeats 3200000 in
set_option maxRecDepth 100000 in
theorem walk {w : World} (a0 : It) (w0 : a0.wf)
    (a1 : Int) (w1 : (Lit.int .u64 a1).wf = true)
    (a2 : Int) (w2 : (Lit.int .u64 a2).wf = true) :
    Calls Try.prog 10 #[.agg a0.cells.toArray, .int .u64 a1, .int .u64 a2] w fun e w' => e = .returned (.bool true) ∧ Below w.heap.size w w' := by
  have b1 := bounds_u64 w1
  have b2 := bounds_u64 w2
  have HB0 := hide (below_alloc (Below.refl w.heap.size w) (.cells a0.cells.toArray 31))
  change Calls Try.prog 10 #[a0.val, .int .u64 a1, .int .u64 a2] w _
  cases hgd : goodB a0
  · go_enter Try.func10, Try.ntmps10
    go_wp2_with fail
    refine (Calls.mono (rgood_any a0 _) ?_); rintro e w1 ⟨rfl, hg1⟩
    rw [hgd]
    have HB1 := hide (below_step HB0.out hg1)
    clear hg1
    go_wp2_with fail
    refine (Calls.mono (awake_any _) ?_); rintro e w2 ⟨rfl, hg2⟩
    have HB2 := hide (below_step HB1.out hg2)
    clear hg2
    go_wp2_with fail
    go_ret
    exact ⟨rfl, HB2.out⟩
  by_cases hk : a0.k = 2
  case neg =>
    have bk : (a0.k != 2) = true := by rw [bne_iff_ne]; exact hk
    have HX := hide (heap_alloc_new w (.cells a0.cells.toArray 31))
    go_enter Try.func10, Try.ntmps10
    go_wp2_with fail
    refine (Calls.mono (rgood_any a0 _) ?_); rintro e w1 ⟨rfl, hg1⟩
    rw [hgd]
    have HB1 := hide (below_step HB0.out hg1)
    obtain ⟨x0, x1, x2, x3, x4⟩ := box_item ((hg1.block w.heap.size (by simp)).trans HX.out)
    clear hg1
    go_wp2_with fail
    refine (Calls.mono (awake_any _) ?_); rintro e w2 ⟨rfl, hg2⟩
    have HB2 := hide (below_step HB1.out hg2)
    clear hg2
    go_wp2_with fail
    go_ret
    exact ⟨rfl, HB2.out⟩
  have bk : (a0.k != 2) = false := by simp [hk]
  have hgx : It.good a0 := by simpa only [goodB, decide_eq_true_eq] using hgd
  have hm := and_mask a1 48 281474976710655 (by omega) (by decide) b1.1 (by omega)
  obtain ⟨d, hd1, hd2, hd3⟩ : ∃ d : Int, a1 % 2 ^ 48 = d ∧ 0 ≤ d ∧ d ≤ 281474976710655 := ⟨a1 % 2 ^ 48, rfl, by omega, by omega⟩
  rw [hd1] at hm
  have hpp := purged (x := a0) (t := ⟨a0.s, 1, 0, d + 1, 0⟩) a2 hgx ⟨⟨hgx.1.1, hgx.1.2⟩, ⟨show 1 ≤ d + 1 by omega, show d + 1 ≤ 281474976710656 by omega⟩, .inl ⟨rfl, rfl, rfl⟩⟩ hk rfl rfl
  obtain ⟨n, m, th, hm1, hn1, hth, hn2, hm2, hm3, hcase⟩ := hpp
  have HM := hide hm1; have HN := hide hn1; have HTH := hide hth
  have HOL := ofL_len [a0, ⟨a0.s, 1, 0, d + 1, 0⟩]
  have HK := hide hk
  clear hm1 hn1 hth hk hgx hd1
  simp only at hcase
  have HX := hide (heap_alloc_new w (.cells a0.cells.toArray 31))
  go_enter Try.func10, Try.ntmps10
  go_wp2_with fail
  refine (Calls.mono (rgood_any a0 _) ?_); rintro e w1 ⟨rfl, hg1⟩
  rw [hgd]
  have HB1 := hide (below_step HB0.out hg1)
  have HX := hide ((hg1.block w.heap.size (by simp)).trans HX.out)
  obtain ⟨x0, x1, x2, x3, x4⟩ := box_item HX.out
  clear hg1
  have hxl : w.heap.size < w1.heap.size := (Array.getElem?_eq_some_iff.1 HX.out).1
  go_wp2_with fail
  refine (Calls.mono (pof_sl (L := [a0, ⟨a0.s, 1, 0, d + 1, 0⟩]) (new_sl2 _ _ (by simp) _ 2 _ _ rfl (by simp [maxLen]) rfl) (by simp)) ?_); rintro e w2 ⟨v2, rfl, ho2, hg2⟩
  have HB2 := hide (below_step (below_alloc (below_alloc HB1.out _) _) hg2)
  have HX := hide ((hg2.block w.heap.size (by simp; omega)).trans ((Below.heap_alloc _ _ _ (by simp; omega)).trans ((Below.heap_alloc _ _ _ hxl).trans HX.out)))
  have HT := hide ((hg2.block w1.heap.size (by simp; omega)).trans ((Below.heap_alloc _ _ _ (by simp)).trans (heap_alloc_new w1 (.cells (It.cells ⟨a0.s, 1, 0, d + 1, 0⟩).toArray 31))))
  have S_l := hide ho2.sl
  clear ho2 hg2
  have lf : ((ofL [a0, ⟨a0.s, 1, 0, d + 1, 0⟩]).filter (purP a2)).length ≤ (ofL [a0, ⟨a0.s, 1, 0, d + 1, 0⟩]).length := List.length_filter_le _ _
  have la := addS_len ((ofL [a0, ⟨a0.s, 1, 0, d + 1, 0⟩]).filter (purP a2)) a0
  simp only [List.length_cons, List.length_nil] at HOL
  go_wp2_with fail
  refine (Calls.mono (ppurge_sl S_l.out a2 (by omega)) ?_); rintro e w3 ⟨v3, rfl, ho3, hg3⟩
  have HB3 := hide (below_step HB2.out hg3)
  have S_l := hide (S_l.out.below hg3)
  have HX := hide ((hg3.block w.heap.size (Array.getElem?_eq_some_iff.1 HX.out).1).trans HX.out)
  have HT := hide ((hg3.block w1.heap.size (Array.getElem?_eq_some_iff.1 HT.out).1).trans HT.out)
  clear x0 x1 x2 x3 x4
  obtain ⟨x0, x1, x2, x3, x4⟩ := box_item HX.out
  have S_p := hide (ho3.sl)
  clear ho3 hg3
  go_wp2_with fail
  refine (Calls.mono (paddx_sl S_p.out a0 (by omega)) ?_); rintro e w4 ⟨v4, rfl, ho4, hg4⟩
  have HB4 := hide (below_step HB3.out hg4)
  have S_l := hide (S_l.out.below hg4)
  have S_p := hide (S_p.out.below hg4)
  have HX := hide ((hg4.block w.heap.size (Array.getElem?_eq_some_iff.1 HX.out).1).trans HX.out)
  have HT := hide ((hg4.block w1.heap.size (Array.getElem?_eq_some_iff.1 HT.out).1).trans HT.out)
  clear x0 x1 x2 x3 x4
  obtain ⟨x0, x1, x2, x3, x4⟩ := box_item HX.out
  have S_q := hide (ho4.sl)
  clear ho4 hg4
  go_wp2_with fail
  refine (Calls.mono (get_sl S_q.out a0.s a0.t (by omega)) ?_); rintro e w5 ⟨rfl, hg5⟩
  rw [HTH.out]
  have HB5 := hide (below_step HB4.out hg5)
  have S_l := hide (S_l.out.below hg5)
  have S_p := hide (S_p.out.below hg5)
  have S_q := hide (S_q.out.below hg5)
  have HX := hide ((hg5.block w.heap.size (Array.getElem?_eq_some_iff.1 HX.out).1).trans HX.out)
  have HT := hide ((hg5.block w1.heap.size (Array.getElem?_eq_some_iff.1 HT.out).1).trans HT.out)
  clear x0 x1 x2 x3 x4
  obtain ⟨x0, x1, x2, x3, x4⟩ := box_item HX.out
  clear hg5
  obtain ⟨t0, t1, t2, t3, t4⟩ := box_item HT.out
  have hyl : w1.heap.size < w5.heap.size := (Array.getElem?_eq_some_iff.1 HT.out).1
  have hxl5 : w.heap.size < w5.heap.size := (Array.getElem?_eq_some_iff.1 HX.out).1
  obtain ⟨Al, cl, rfl, _, hl1, hl2⟩ := S_l.out
  obtain ⟨Ap, cp, rfl, _, hp1, hp2⟩ := S_p.out
  rw [HM.out] at hl1 ⊢
  rw [HN.out] at hp1 ⊢
  clear S_l S_p S_q lf la HOL
  rcases hcase with ⟨h1, h2, rfl⟩ | ⟨h1, h2, ⟨h3, rfl⟩ | ⟨h3, rfl⟩⟩
  · rcases Int.lt_or_le (d + 1) a0.v with h3 | h3
    · skip
      have bG : decide (d + 1 ≤ a2) = true := decide_eq_true (by omega)
      have bN : ((n : Int) == (m : Int) - 1) = true := beq_iff_eq.2 (by omega)
      have bV : decide (d + 1 < a0.v) = true := decide_eq_true (by omega)
      clear h1 h2 h3
      go_wp2_with fail
      refine (Calls.mono (awake_any _) ?_); rintro e w6 ⟨rfl, hg6⟩
      go_wp2_with fail
      go_ret
      exact ⟨rfl, below_step (below_alloc HB5.out _) hg6⟩
    · skip
      have bG : decide (d + 1 ≤ a2) = true := decide_eq_true (by omega)
      have bN : ((n : Int) == (m : Int) - 1) = true := beq_iff_eq.2 (by omega)
      have bV : decide (d + 1 < a0.v) = false := decide_eq_false (by omega)
      clear h1 h2 h3
      go_wp2_with fail
      refine (Calls.mono (awake_any _) ?_); rintro e w6 ⟨rfl, hg6⟩
      go_wp2_with fail
      go_ret
      exact ⟨rfl, below_step (below_alloc HB5.out _) hg6⟩
  · skip
    have bG : decide (d + 1 ≤ a2) = false := decide_eq_false (by omega)
    have bN : ((n : Int) == (m : Int) - 1) = false := beq_eq_false_iff_ne.2 (by omega)
    have bV : decide (d + 1 < a0.v) = false := decide_eq_false (by omega)
    clear h1 h2 h3
    go_wp2_with fail
    refine (Calls.mono (awake_any _) ?_); rintro e w6 ⟨rfl, hg6⟩
    go_wp2_with fail
    go_ret
    exact ⟨rfl, below_step (below_alloc HB5.out _) hg6⟩
  · skip
    have bG : decide (d + 1 ≤ a2) = false := decide_eq_false (by omega)
    have bN : ((n : Int) == (m : Int) - 1) = false := beq_eq_false_iff_ne.2 (by omega)
    have bV : decide (d + 1 < a0.v) = true := decide_eq_true (by omega)
    clear h1 h2 h3
    go_wp2_with fail
    refine (Calls.mono (awake_any _) ?_); rintro e w6 ⟨rfl, hg6⟩
    go_wp2_with fail
    go_ret
    exact ⟨rfl, below_step (below_alloc HB5.out _) hg6⟩
end Go.Proofs.Ytbhfokfdijnhhaa.statePurged
