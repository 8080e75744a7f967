/- An item added to a state: the contract of state.add. Conditions: the list is a state of at most 2^40 items, in a slice of the call's own. -/
import Derived.Test.YtlabpgdimhbocaaGreatDel
import Derived.Test.YtlabpgdimhbocaaGreatPh
namespace Go.Proofs.YtlabpgdimhbocaaGreat
set_option linter.unusedVariables false
set_option linter.unusedSimpArgs false
open Go.ChangeShapes Go.WideShapes Go.ChangeAt Go.RowKit

theorem Wrote.trans {a b c : World} {v v1 v2 : Value} (h : Wrote a b v v1) (k : Wrote b c v1 v2) : Wrote a c v v2 := by
  refine ⟨⟨k.grown.os.trans h.grown.os, k.grown.tape.trans h.grown.tape, k.grown.output.trans h.grown.output, Nat.le_trans h.grown.size k.grown.size, fun i hi hne => ?_⟩, ?_⟩
  · refine (k.grown.block i (Nat.lt_of_lt_of_le hi h.grown.size) (fun e => ?_)).trans (h.grown.block i hi hne)
    rcases h.lies with h1 | ⟨g, h1, h2⟩
    · rw [h1] at e; exact hne e
    · rw [h1] at e; injection e with e; omega
  · rcases k.lies with h1 | ⟨g, h1, h2⟩
    · rcases h.lies with h3 | ⟨g, h3, h4⟩
      · exact .inl (h1.trans h3)
      · exact .inr ⟨g, h1.trans h3, h4⟩
    · exact .inr ⟨g, h1, Nat.le_trans h.grown.size h2⟩
theorem Wrote.below {a b c : World} {v v' : Value} (h : Below a.heap.size a b) (k : Wrote b c v v') : Wrote a c v v' := Wrote.trans ⟨grownBy_below h, .inl rfl⟩ k
theorem Wrote.same {a b : World} {v : Value} (h : Below a.heap.size a b) : Wrote a b v v := ⟨grownBy_below h, .inl rfl⟩
theorem Wrote.far {a b : World} {v v' : Value} (h : Wrote a b v v') {g : Nat} {o : Obj} (hg : a.heap[g]? = some o) (hne : v.ownBlock ≠ some g) : b.heap[g]? = some o :=
  (h.grown.block g (Array.getElem?_eq_some_iff.1 hg).1 (fun e => hne e.symm)).trans hg
theorem grown_far {a b : World} {row : Option Nat} (h : a.grownBy b row) {g : Nat} {o : Obj} (hg : a.heap[g]? = some o) (hne : row ≠ some g) : b.heap[g]? = some o :=
  (h.block g (Array.getElem?_eq_some_iff.1 hg).1 (fun e => hne e.symm)).trans hg

set_option maxHeartbeats 400000 in
theorem addc_any (y x : It) (b : Nat) (w : World) (h : w.heap[b]? = some (.cells x.cells.toArray 78 (0, 0))) :
    Calls Tryz.prog 82 #[y.val, .pointer (some ⟨b, 0, none⟩)] w fun e w' => e = .returned (.bool (hidesB x y)) ∧ Below w.heap.size w w' := by
  obtain ⟨x0, x1, x2, x3, x4⟩ := box_item h
  have hb : b < w.heap.size := (Array.getElem?_eq_some_iff.1 h).1
  have hne : ¬ (b = w.heap.size) := by omega
  have H := hide h
  clear h
  go_enter Tryz.func82, Tryz.ntmps82
  go_wp2_with fail
  refine (Calls.mono (phides_any x y _) ?_); rintro e w1 ⟨rfl, hg1⟩
  go_wp2_with fail
  go_ret
  exact ⟨rfl, below_step (below_alloc (Below.refl _ _) _) hg1⟩
theorem addc_tells (x : It) (b : Nat) (L : List It) (row : Option Nat) (w : World) (h : w.heap[b]? = some (.cells x.cells.toArray 78 (0, 0))) (hne : row ≠ some b) : TellsG 82 #[.pointer (some ⟨b, 0, none⟩)] (hidesB x) L row w :=
  fun y _ w1 hg => addc_any y x b w1 (grown_far hg h hne)

set_option maxHeartbeats 3200000 in
set_option maxRecDepth 100000 in
theorem add_any (base : Nat) (v : Value) (L : List It) (x : It) (w : World) (h : Og base w v L) (hbase : base ≤ w.heap.size) (hst : IsState L) (hn : L.length ≤ 1099511627776) :
    Calls Tryz.prog 68 #[v, x.val] w (RetOg base (addL L x) v w) := by
  obtain ⟨A, c, rfl, hrow, h1, h2⟩ := h.sl
  have hcf : Enters Tryz.prog 82 := fun args W => by kernel_rfl
  have HC := hide hcf
  have HO := hide h
  have HR := hide hrow
  have HS := hide hst
  clear h hrow hst hcf
  have HP := hide (fun W hW => place_any x A c L W (RowAt.below HR.out hW) (by omega) HS.out.2.1)
  have HH := hide (fun W hW => hidden_any A c L x W (RowAt.below HR.out hW) (by omega) HS.out.2.1 HS.out.1)
  cases hgd : goodB x
  · have HA := hide (addL_bad (l := L) (x := x) (by simpa only [goodB, decide_eq_false_iff_not] using hgd))
    go_enter Tryz.func68, Tryz.ntmps68
    go_wp2_with fail
    refine (Calls.mono (pgood_any x _) ?_); rintro e w1 ⟨rfl, hg1⟩
    rw [hgd]
    have hb1 : Below w.heap.size w w1 := below_step (below_alloc (Below.refl _ _) _) hg1
    go_wp2_with fail
    go_ret
    exact ⟨_, rfl, by rw [HA.out]; exact HO.out.below hb1, Wrote.same hb1⟩
  have hgx : It.good x := by simpa only [goodB, decide_eq_true_eq] using hgd
  have HGX := hide hgx
  clear hgx
  cases hhd : hidB L x
  case true =>
    have HA := hide (addL_hid HGX.out hhd)
    go_enter Tryz.func68, Tryz.ntmps68
    go_wp2_with fail
    refine (Calls.mono (pgood_any x _) ?_); rintro e w1 ⟨rfl, hg1⟩
    rw [hgd]
    have hb1 : Below w.heap.size w w1 := below_step (below_alloc (Below.refl _ _) _) hg1
    obtain ⟨hc1, hf1⟩ := bcell hg1
    go_wp2_with fail
    refine (Calls.mono (HH.out _ hb1) ?_); rintro e w2 ⟨rfl, hg2⟩
    rw [hhd]
    have hb2 : Below w.heap.size w w2 := below_step hb1 hg2
    go_wp2_with fail
    go_ret
    exact ⟨_, rfl, by rw [HA.out]; exact HO.out.below hb2, Wrote.same hb2⟩
  cases hsa : sameAt x L
  · have HA := hide (addL_insert HS.out.2.1 HGX.out hhd hsa)
    have hll := low_le x L
    go_enter Tryz.func68, Tryz.ntmps68
    go_wp2_with fail
    refine (Calls.mono (pgood_any x _) ?_); rintro e w1 ⟨rfl, hg1⟩
    rw [hgd]
    have hb1 : Below w.heap.size w w1 := below_step (below_alloc (Below.refl _ _) _) hg1
    have HX1 := hide ((hg1.block w.heap.size (by simp)).trans (heap_alloc_new w (.cells x.cells.toArray 78)))
    obtain ⟨x0, x1, x2, x3, x4⟩ := box_item HX1.out
    have hz1 : w.heap.size < w1.heap.size := (Array.getElem?_eq_some_iff.1 HX1.out).1
    go_wp2_with fail
    refine (Calls.mono (HH.out _ hb1) ?_); rintro e w2 ⟨rfl, hg2⟩
    rw [hhd]
    have hb2 : Below w.heap.size w w2 := below_step hb1 hg2
    have HX2 := hide ((hg2.block w.heap.size hz1).trans HX1.out)
    clear hg2 x0 x1 x2 x3 x4
    obtain ⟨x0, x1, x2, x3, x4⟩ := box_item HX2.out
    have hz2 : w.heap.size < w2.heap.size := (Array.getElem?_eq_some_iff.1 HX2.out).1
    go_wp2_with fail
    refine (Calls.mono (HP.out _ hb2) ?_); rintro e w3 ⟨rfl, hg3⟩
    rw [hsa]
    have hb3 : Below w.heap.size w w3 := below_step hb2 hg3
    have HX3 := hide ((hg3.block w.heap.size hz2).trans HX2.out)
    clear hg3 x0 x1 x2 x3 x4
    obtain ⟨x0, x1, x2, x3, x4⟩ := box_item HX3.out
    have hz3 : w.heap.size < w3.heap.size := (Array.getElem?_eq_some_iff.1 HX3.out).1
    generalize hq : lowI x L = q at *
    have HQ := hide hq
    clear hq
    go_wp2_with fail
    refine wp_region_near (by kernel_rfl) (by kernel_rfl) ?_
    repeat (go_big_quiet_step (fail))
    refine wpQuiet_nil ?_
    intro _ hw'
    obtain ⟨s1, rfl⟩ := hw'
    have hb4 : Below w.heap.size w s1.at_ := below_step hb3 s1.is
    have HX4 := hide ((s1.is.block w.heap.size hz3).trans HX3.out)
    clear x0 x1 x2 x3 x4
    obtain ⟨x0, x1, x2, x3, x4⟩ := box_item HX4.out
    have hz4 : w.heap.size < s1.at_.heap.size := (Array.getElem?_eq_some_iff.1 HX4.out).1
    have hgo := HO.out.lt
    have hnx : (Value.slice A L.length c).ownBlock ≠ some w.heap.size := fun e => by have := (hgo _ e).2; omega
    have hny : (Value.slice A L.length c).ownBlock ≠ some s1.at_.heap.size := fun e => by have := (hgo _ e).2; omega
    have hb5 := below_alloc hb4 (.cells x.cells.toArray 78)
    go_wp2_with fail
    refine (Calls.mono (ins_any s1.at_.heap.size base _ L x q _ (HO.out.below hb5) (Nat.le_trans hbase hb5.size) (heap_alloc_new s1.at_ _) hny (by omega) (by omega)) ?_); rintro e w5 ⟨v5, rfl, ho5, hw5⟩
    have HX5 := hide (hw5.far ((Below.heap_alloc s1.at_ _ _ hz4).trans HX4.out) hnx)
    have hn5 : v5.ownBlock ≠ some w.heap.size := fun e => by
      rcases hw5.lies with h | ⟨g, h, hg⟩
      · rw [h] at e; exact hnx e
      · rw [h] at e; injection e with e; simp at hg; omega
    go_wp2_with fail
    refine (Calls.mono (del_any 82 #[.pointer (some ⟨w.heap.size, 0, none⟩)] HC.out (hidesB x) base v5 _ w5 ho5 (addc_tells x w.heap.size _ _ w5 HX5.out hn5)) ?_); rintro e w6 ⟨v6, rfl, ho6, hw6⟩
    go_wp2_with fail
    go_ret
    exact ⟨_, rfl, by rw [HA.out]; exact ho6, Wrote.below hb5 (hw5.trans hw6)⟩
  · obtain ⟨hlt, hse⟩ := sameAt_true hsa
    have hAw := fun hw => addL_store HS.out.2.1 HGX.out hhd hsa hlt hw
    have hAb := fun hw => addL_beaten HS.out.2.1 HGX.out hhd hsa hlt hw
    obtain ⟨bl, off, rfl, hbb, y0, y1, y2, y3, y4⟩ := ItemsAt.item HR.out (Below.refl _ _) hlt
    have HAW := hide hAw
    have HAB := hide hAb
    clear hse hAw hAb
    have hhL : (lowI x L : Int) < (L.length : Int) := by omega
    generalize L[lowI x L] = y at *
    generalize hq : lowI x L = q at *
    have HQ := hide hq
    clear hq
    go_enter Tryz.func68, Tryz.ntmps68
    go_wp2_with fail
    refine (Calls.mono (pgood_any x _) ?_); rintro e w1 ⟨rfl, hg1⟩
    rw [hgd]
    have hb1 : Below w.heap.size w w1 := below_step (below_alloc (Below.refl _ _) _) hg1
    have HX1 := hide ((hg1.block w.heap.size (by simp)).trans (heap_alloc_new w (.cells x.cells.toArray 78)))
    obtain ⟨x0, x1, x2, x3, x4⟩ := box_item HX1.out
    have hz1 : w.heap.size < w1.heap.size := (Array.getElem?_eq_some_iff.1 HX1.out).1
    go_wp2_with fail
    refine (Calls.mono (HH.out _ hb1) ?_); rintro e w2 ⟨rfl, hg2⟩
    rw [hhd]
    have hb2 : Below w.heap.size w w2 := below_step hb1 hg2
    have HX2 := hide ((hg2.block w.heap.size hz1).trans HX1.out)
    clear hg2 x0 x1 x2 x3 x4
    obtain ⟨x0, x1, x2, x3, x4⟩ := box_item HX2.out
    have hz2 : w.heap.size < w2.heap.size := (Array.getElem?_eq_some_iff.1 HX2.out).1
    go_wp2_with fail
    refine (Calls.mono (HP.out _ hb2) ?_); rintro e w3 ⟨rfl, hg3⟩
    rw [hsa]
    have hb3 : Below w.heap.size w w3 := below_step hb2 hg3
    have HX3 := hide ((hg3.block w.heap.size hz2).trans HX2.out)
    clear hg3 x0 x1 x2 x3 x4
    obtain ⟨x0, x1, x2, x3, x4⟩ := box_item HX3.out
    have hz3 : w.heap.size < w3.heap.size := (Array.getElem?_eq_some_iff.1 HX3.out).1
    have hnc := near_cells w3
    have hbl3 : bl < w3.heap.size := Nat.lt_of_lt_of_le hbb hb3.size
    have y0 := (hb3.cell (p := ⟨bl, _, none⟩) hbb).trans y0
    have y1 := (hb3.cell (p := ⟨bl, _, none⟩) hbb).trans y1
    have y2 := (hb3.cell (p := ⟨bl, _, none⟩) hbb).trans y2
    have y3 := (hb3.cell (p := ⟨bl, _, none⟩) hbb).trans y3
    have y4 := (hb3.cell (p := ⟨bl, _, none⟩) hbb).trans y4
    cases hwi : winsB x y
    all_goals
      go_wp2_with fail
      refine wp_region_near (by kernel_rfl) (by kernel_rfl) ?_
      repeat (go_big_quiet_step (exact near_of (pwins_any x y _)))
      refine wpQuiet_nil ?_
      intro _ hw'
      obtain ⟨s1, rfl⟩ := hw'
      rw [hwi]
      have hb4 : Below w.heap.size w s1.at_ := below_step hb3 s1.is
    · have HA := hide (HAB.out hwi)
      go_wp2_with fail
      go_ret
      exact ⟨_, rfl, by rw [HA.out]; exact HO.out.below hb4, Wrote.same hb4⟩
    · have HA := hide (HAW.out hwi)
      have HX4 := hide ((s1.is.block w.heap.size hz3).trans HX3.out)
      clear x0 x1 x2 x3 x4 y0 y1 y2 y3 y4
      obtain ⟨x0, x1, x2, x3, x4⟩ := box_item HX4.out
      have hz4 : w.heap.size < s1.at_.heap.size := (Array.getElem?_eq_some_iff.1 HX4.out).1
      have ho4 := HO.out.below hb4
      rcases ho4 with ⟨_, h0⟩ | ⟨g, cap, R, hv, hbg, hgr, hnc', hcm, hfit⟩
      · subst h0; simp at hlt
      · injection hv with hv1 hv2 hv3
        injection hv1 with hv1
        injection hv1 with hv4 hv5 _
        subst hv3 hv4 hv5
        have HGR := hide hgr
        obtain ⟨z0, z1, z2, z3, z4⟩ := row_item5 hgr (k := q) hlt
        have hfz := row_free hgr
        clear hgr hnc
        have hne : ¬ (w.heap.size = bl) := by omega
        have hne2 : ¬ (bl = w.heap.size) := by omega
        have hls : (L.set q x).length = L.length := List.length_set
        have hog : Og base (put5 s1.at_ bl (q * 5) x) (.slice (some ⟨bl, 0, none⟩) L.length c) (L.set q x) :=
          .inr ⟨bl, c, R, by rw [hls], hbg, put5_row HGR.out hlt, by rw [hls]; exact hnc', hcm, by rw [hls]; exact hfit⟩
        have hnx : (Value.slice (some ⟨bl, 0, none⟩) L.length c).ownBlock ≠ some w.heap.size := fun e => hne2 (by injection e)
        have hnx2 : (some bl : Option Nat) ≠ some w.heap.size := fun e => hne2 (by injection e)
        have HOG := hide hog
        have HT := hide (addc_tells x w.heap.size (L.set q x) (Value.slice (some ⟨bl, 0, none⟩) L.length c).ownBlock (put5 s1.at_ bl (q * 5) x) (grown_far (put5_grown _ bl _ x) HX4.out hnx2) hnx)
        clear hls hog hnx hnx2
        go_wp2_with fail
        refine (Calls.mono (del_any 82 #[.pointer (some ⟨w.heap.size, 0, none⟩)] HC.out (hidesB x) base _ (L.set q x) (put5 s1.at_ bl (q * 5) x) HOG.out HT.out) ?_); rintro e w6 ⟨v6, rfl, ho6, hw6⟩
        go_wp2_with fail
        go_ret
        exact ⟨_, rfl, by rw [HA.out]; exact ho6, Wrote.below hb4 (Wrote.trans ⟨put5_grown _ bl (q * 5) x, .inl rfl⟩ hw6)⟩
end Go.Proofs.YtlabpgdimhbocaaGreat
