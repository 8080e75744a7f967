/- The walk of clepsydralaw6.StateApart: it returns true. No condition. -/
import Derived.Test.YtbhfokfdijnhhaaS6Sl
import Derived.Test.YtbhfokfdijnhhaaApp
import Derived.Test.YtbhfokfdijnhhaaBits
namespace Go.Proofs.Ytbhfokfdijnhhaa.stateApart
set_option linter.unusedVariables false
set_option linter.unusedSimpArgs false
open Go.ChangeShapes Go.WideShapes Go.ChangeAt Go.RowKit

def evn (x : It) : It := ⟨bits .and .i64 x.s 126, x.k, x.t, x.v, x.x⟩
def odd_ (x : It) : It := ⟨bits .or .i64 (bits .and .i64 x.s 126) 1, x.k, x.t, x.v, x.x⟩
theorem and_126 (n : Int) : ∃ r : Nat, bits .and .i64 n 126 = (r : Int) ∧ r ≤ 126 ∧ r % 2 = 0 := by
  refine ⟨((BitVec.ofInt 64 n).toNat &&& 126), ?_, Nat.and_le_right, ?_⟩
  · have hx : (BitVec.ofInt 64 n).toNat &&& 126 ≤ 126 := Nat.and_le_right
    show IntKind.i64.wrap ((BitVec.ofInt 64 n &&& BitVec.ofInt 64 126).toNat : Int) = _
    rw [BitVec.toNat_and, show (BitVec.ofInt 64 126).toNat = 126 from by decide, IntKind.wrap_i64]
    omega
  · have h : ((BitVec.ofInt 64 n).toNat &&& 126).testBit 0 = false := by
      rw [Nat.testBit_and, show Nat.testBit 126 0 = false from by decide, Bool.and_false]
    rw [Nat.testBit_zero, decide_eq_false_iff_not] at h
    omega
theorem or_1 (r : Nat) (h : r ≤ 126) (h2 : r % 2 = 0) : bits .or .i64 (r : Int) 1 = (r : Int) + 1 := by
  have e : r ||| 1 = r + 1 := by
    have : ∀ r : Fin 127, r.val % 2 = 0 → r.val ||| 1 = r.val + 1 := by decide
    exact this ⟨r, by omega⟩ h2
  show IntKind.i64.wrap ((BitVec.ofInt 64 (r : Int) ||| BitVec.ofInt 64 1).toNat : Int) = _
  rw [BitVec.toNat_or, show (BitVec.ofInt 64 1).toNat = 1 from by decide, BitVec.ofInt_natCast, BitVec.toNat_ofNat, Nat.mod_eq_of_lt (by omega), e, IntKind.wrap_i64]
  omega
theorem evn_even (x : It) : (evn x).s % 2 = 0 := by
  obtain ⟨r, e, _, h⟩ := and_126 x.s
  show bits .and .i64 x.s 126 % 2 = 0
  rw [e]; omega
theorem odd_odd (x : It) : (odd_ x).s % 2 = 1 := by
  obtain ⟨r, e, h0, h⟩ := and_126 x.s
  show bits .or .i64 (bits .and .i64 x.s 126) 1 % 2 = 1
  rw [e, or_1 r h0 h]; omega
/-- What is of one series comes of the items of that series. -/
theorem series_isOf {S l : List It} (h : IsOf S l) (s : Int) : IsOf (S.filter (serP s)) (l.filter (serP s)) := by
  refine ⟨List.Pairwise.filter _ h.up, fun x => ?_⟩
  rw [List.mem_filter, h.mem x]
  unfold There
  simp only [List.mem_filter, serP, decide_eq_true_eq]
  constructor
  · rintro ⟨⟨h0, h1, h2⟩, hs⟩
    exact ⟨⟨h0, hs⟩, fun y hy => h1 y hy.1, fun t ht => h2 t ht.1⟩
  · rintro ⟨⟨h0, hs⟩, h1, h2⟩
    exact ⟨⟨h0, fun y hy hxy => h1 y ⟨hy, by unfold It.same at hxy; omega⟩ hxy, fun t ht hh => h2 t ⟨ht, by unfold It.hides at hh; omega⟩ hh⟩, hs⟩
theorem apart_even (a b : List It) (s : Int) (h : s % 2 = 0) : (joinL (ofL (a.map evn)) (b.map odd_)).filter (serP s) = (ofL (a.map evn)).filter (serP s) := by
  refine (series_isOf (joinL_list (ofL_is _) (goods_good _) _) s).uniq ((series_isOf (ofL_is _) s).congr fun x => ?_)
  simp only [List.mem_filter, List.mem_append, serP, decide_eq_true_eq]
  constructor
  · rintro ⟨h1, h2⟩; exact ⟨.inr h1, h2⟩
  · rintro ⟨h1 | h1, h2⟩
    · obtain ⟨h3, _⟩ := mem_goods.1 h1
      obtain ⟨y, _, rfl⟩ := List.mem_map.1 h3
      have := odd_odd y
      omega
    · exact ⟨h1, h2⟩
theorem apart_odd (a b : List It) (s : Int) (h : s % 2 = 1) : (joinL (ofL (a.map evn)) (b.map odd_)).filter (serP s) = (ofL (b.map odd_)).filter (serP s) := by
  refine (series_isOf (joinL_list (ofL_is _) (goods_good _) _) s).uniq ((series_isOf (ofL_is _) s).congr fun x => ?_)
  simp only [List.mem_filter, List.mem_append, serP, decide_eq_true_eq]
  constructor
  · rintro ⟨h1, h2⟩; exact ⟨.inl h1, h2⟩
  · rintro ⟨h1 | h1, h2⟩
    · exact ⟨h1, h2⟩
    · obtain ⟨h3, _⟩ := mem_goods.1 h1
      obtain ⟨y, _, rfl⟩ := List.mem_map.1 h3
      have := evn_even y
      omega
/-- The first cell of an item in a row. -/
theorem set1 (s : Int) : ∀ (L : List It) (i : Nat) (R : List Value) (hi : i < L.length), (flat L ++ R).set (i * 5) (.int .i64 s) = flat (L.set i ⟨s, L[i].k, L[i].t, L[i].v, L[i].x⟩) ++ R
  | y :: L, 0, R, _ => by simp [flat_cons, It.cells]
  | y :: L, i + 1, R, h => by
    have ih := set1 s L i R (by simpa using h)
    have e : (i + 1) * 5 = (It.cells y).length + i * 5 := by simp [It.cells]; omega
    simp only [List.set_cons_succ, flat_cons, List.append_assoc, List.getElem_cons_succ]
    rw [e, List.set_append_right _ _ (by omega), Nat.add_sub_cancel_left, ih]
def half (f : It → It) (L : List It) (k : Nat) : List It := (L.take k).map f ++ L.drop k
theorem half_len (f : It → It) (L : List It) (k : Nat) (hk : k ≤ L.length) : (half f L k).length = L.length := by unfold half; simp; omega
theorem half_at (f : It → It) {L : List It} {k : Nat} (hk : k < L.length) (h : k < (half f L k).length) : (half f L k)[k] = L[k] := by
  have e : (half f L k)[k]? = some L[k] := by
    unfold half
    rw [List.getElem?_append_right (by simp; omega), List.getElem?_drop, List.length_map, List.length_take, show k + (k - min k L.length) = k by omega, List.getElem?_eq_getElem hk]
  exact (List.getElem?_eq_some_iff.1 e).2
theorem half_set (f : It → It) {L : List It} {k : Nat} (hk : k < L.length) : (half f L k).set k (f L[k]) = half f L (k + 1) := by
  unfold half
  rw [List.set_append_right _ _ (by simp; omega), List.drop_eq_getElem_cons hk, List.take_succ_eq_append_getElem hk]
  rw [List.length_map, List.length_take, show k - min k L.length = 0 by omega, List.set_cons_zero, List.map_append, List.append_assoc]
  rfl
theorem half_all (f : It → It) (L : List It) : half f L L.length = L.map f := by unfold half; simp
theorem half_none (f : It → It) (L : List It) : half f L 0 = L := by unfold half; simp
theorem set_half (f : It → It) (hf : ∀ x, f x = ⟨(f x).s, x.k, x.t, x.v, x.x⟩) {L : List It} {k : Nat} (hk : k < L.length) (R : List Value) : (flat (half f L k) ++ R).set (k * 5) (.int .i64 (f L[k]).s) = flat (half f L (k + 1)) ++ R := by
  have hl : k < (half f L k).length := by rw [half_len f L k (by omega)]; exact hk
  rw [set1 _ _ k R hl, half_at f hk hl, ← hf, half_set f hk]
theorem ow_made (w : World) (base : Nat) (hb : base ≤ w.heap.size) : Ow base (w.alloc (.cells #[] 31)) (.slice (some ⟨w.heap.size, 0, none⟩) 0 0) [] :=
  ⟨by simp, .inr ⟨w.heap.size, 0, #[], rfl, hb, heap_alloc_new w _, by simp, by simp, by simp, by simp⟩⟩

set_option maxHeartbeats 3200000 in
set_option maxRecDepth 100000 in
theorem walk {w : World} (A0 : Option Addr) (c0 : Nat) (L0 : List It) (lc0 : L0.length ≤ c0) (cm0 : c0 ≤ maxLen) (r0 : RowAt It.cells 5 w A0 L0) (w0 : ∀ a ∈ L0, a.wf)
    (A1 : Option Addr) (c1 : Nat) (L1 : List It) (lc1 : L1.length ≤ c1) (cm1 : c1 ≤ maxLen) (r1 : RowAt It.cells 5 w A1 L1) (w1 : ∀ a ∈ L1, a.wf)
    (a2 : Int) (w2 : (Lit.int .i64 a2).wf = true) :
    Calls Try.prog 6 #[.slice A0 L0.length c0, .slice A1 L1.length c1, .int .i64 a2] w fun e w' => e = .returned (.bool true) ∧ Below w.heap.size w w' := by
  have b2 := bounds_i64 w2
  by_cases h0 : 40 < L0.length
  case pos =>
    have d0 : decide (40 < (L0.length : Int)) = true := decide_eq_true (by omega)
    go_enter Try.func6, Try.ntmps6
    go_wp2_with fail
    refine (Calls.mono (awake_any _) ?_); rintro e w1 ⟨rfl, hg1⟩
    go_wp2_with fail
    go_ret
    exact ⟨rfl, hg1⟩
  by_cases h1 : 40 < L1.length
  case pos =>
    have d0 : decide (40 < (L0.length : Int)) = false := decide_eq_false (by omega)
    have d1 : decide (40 < (L1.length : Int)) = true := decide_eq_true (by omega)
    go_enter Try.func6, Try.ntmps6
    go_wp2_with fail
    refine (Calls.mono (awake_any _) ?_); rintro e w1 ⟨rfl, hg1⟩
    go_wp2_with fail
    go_ret
    exact ⟨rfl, hg1⟩
  have d0 : decide (40 < (L0.length : Int)) = false := decide_eq_false (by omega)
  have d1 : decide (40 < (L1.length : Int)) = false := decide_eq_false (by omega)
  have HR0 := hide r0; have HR1 := hide r1
  clear r0 r1 w0 w1 w2
  have tk1 : True := trivial
  go_enter Try.func6, Try.ntmps6
  go_wp2_with (first
    | (at_builtin; have _t := tk1; refine wpList_append_items rfl (.tmp 22) (.tmp 23) rfl w.heap.size w.heap.size w _ _ [] A0 L0.length c0 L0 rfl rfl rfl (RowAt.below HR0.out (below_alloc (Below.refl _ _) _)) (ow_made w _ (Nat.le_refl _)) (below_alloc (Below.refl _ _) _) (Nat.le_refl _) (by simp) (by simp; omega) ?_; intro v1 u1 ho1 hbu1 hgu1; clear tk1 _t; have HO1 := hide ho1; have HB1 := hide hbu1; clear ho1 hbu1 hgu1)
    | (at_builtin; refine wpList_append_items rfl (.tmp 25) (.tmp 26) rfl u1.heap.size u1.heap.size u1 _ _ [] A1 L1.length c1 L1 rfl rfl rfl (RowAt.below HR1.out (below_step HB1.out (below_alloc (Below.refl _ _) _))) (ow_made u1 _ (Nat.le_refl _)) (below_alloc (Below.refl _ _) _) (Nat.le_refl _) (by simp) (by simp; omega) ?_; intro v2 u2 ho2 hbu2 hgu2; have HO2 := hide ho2; have HB2 := hide hbu2; clear ho2 hbu2 hgu2))
  have ho1 := HO1.out; have ho2 := HO2.out
  rw [List.nil_append] at ho1 ho2
  have hlt1 := OwnL.lt ho1
  have hog1 := (Ow.below ho1 HB2.out).og; have hog2 := ho2.og
  have hw2 := HB1.out.trans (HB2.out.mono HB1.out.size)
  have hul : w.heap.size ≤ u1.heap.size := HB1.out.size
  have hul2 : u1.heap.size ≤ u2.heap.size := HB2.out.size
  have HBW := hide hw2
  clear ho1 ho2 HO1 HO2 HB1 HB2 hw2
  obtain ⟨A3, c3, rfl, _, hl3, hm3⟩ := hog1.sl
  obtain ⟨A4, c4, rfl, _, hl4, hm4⟩ := hog2.sl
  have HOG1 := hide hog1; have HOG2 := hide hog2; have HL3 := hide hl3; have HL4 := hide hl4; clear hl3 hl4
  clear hog1 hog2
  have HLT := hide hlt1
  clear hlt1
  go_loopw [9] (fun i wr => ∃ k : Nat, i = .int .i64 k ∧ k ≤ L0.length ∧ Og w.heap.size wr (.slice A3 L0.length c3) (half evn L0 k) ∧ Og u1.heap.size wr (.slice A4 L1.length c4) L1 ∧ Below w.heap.size w wr) (fun i _ => L0.length - (intOf i).toNat)
  case atStart => exact ⟨0, rfl, by omega, by rw [half_none]; exact HOG1.out, HOG2.out, HBW.out⟩
  case round =>
    obtain ⟨k, rfl, hk, ho1, ho2, hb⟩ := hrel
    have HO2 := hide ho2; have HB := hide hb; have HO1 := hide ho1
    clear ho2 hb
    by_cases hlt : k < L0.length
    · have hhl := half_len evn L0 k (by omega)
      rcases ho1 with ⟨_, hn⟩ | ⟨g, cap, R, hv, hbg, hgr, hnc, hcm, hf⟩
      · rw [hn] at hhl; simp at hhl; omega
      · have hkl : k < (half evn L0 k).length := by omega
        injection hv with hv1 hv2 hv3
        have hgl : g < u1.heap.size := (HLT.out g (by rw [hv1]; rfl)).2
        obtain ⟨y0, y1, y2, y3, y4⟩ := row_item5 hgr hkl
        rw [half_at evn hlt hkl] at y0
        have hfz := row_free hgr
        have HGR := hide (show (wr.setCell ⟨g, k * 5, none⟩ (.int .i64 (evn L0[k]).s)).heap[g]? = some (.cells (flat (half evn L0 (k + 1)) ++ R).toArray 31 (0, 0)) by rw [← set_half evn (fun _ => rfl) hlt R]; exact heap_set hgr)
        have HK2 := hide (HO2.out.kept (w' := wr.setCell ⟨g, k * 5, none⟩ (.int .i64 (evn L0[k]).s)) (fun g2 h2 _ => Below.heap_setCell _ _ _ _ (fun e => by have := (HO2.out.lt g2 h2).1; simp only at e; omega)))
        have hl2 := half_len evn L0 (k + 1) (by omega)
        have HV2 := hide hv2; have HV3 := hide hv3; have HHL := hide hhl; have HL2 := hide hl2; clear hgr y1 y2 y3 y4 hv2 hv3 hhl hl2
        subst hv1
        have hkc : (k : Int) < (L0.length : Int) := by omega
        go_wp2_with fail
        go_roundw
        case rel => exact ⟨k + 1, by go_num, by omega, .inr ⟨g, cap, R, by rw [HL2.out, HV3.out], hbg, HGR.out, by have := HL2.out; have := HHL.out; omega, hcm, by have := HL2.out; have := HHL.out; omega⟩, HK2.out, HB.out.setCell hbg _⟩
        case measure => simp [intOf]; omega
    · have hkn : ¬ (k : Int) < (L0.length : Int) := by omega
      have hkk : k = L0.length := by omega
      have ho := ho1
      rw [hkk, half_all] at ho
      have HX := hide ho
      clear ho ho1 HO1 hkk HOG1 HOG2
      obtain ⟨wo, rfl⟩ : ∃ wo : World, wo = wr := ⟨_, rfl⟩
      go_wp2_with fail
      go_loopw [10] (fun i wr => ∃ k : Nat, i = .int .i64 k ∧ k ≤ L1.length ∧ Og w.heap.size wr (.slice A3 L0.length c3) (L0.map evn) ∧ Og u1.heap.size wr (.slice A4 L1.length c4) (half odd_ L1 k) ∧ Below w.heap.size w wr) (fun i _ => L1.length - (intOf i).toNat)
      case atStart => exact ⟨0, rfl, by omega, HX.out, by rw [half_none]; exact HO2.out, HB.out⟩
      case round =>
        clear HX HO2 HB hlt hkn hk
        obtain ⟨j, rfl, hj, ho1, ho2, hb⟩ := hrel
        have HO1 := hide ho1; have HB := hide hb
        clear ho1 hb
        by_cases hlt : j < L1.length
        · have hhl := half_len odd_ L1 j (by omega)
          rcases ho2 with ⟨_, hn⟩ | ⟨g, cap, R, hv, hbg, hgr, hnc, hcm, hf⟩
          · rw [hn] at hhl; simp at hhl; omega
          · have hkl : j < (half odd_ L1 j).length := by omega
            injection hv with hv1 hv2 hv3
            obtain ⟨y0, y1, y2, y3, y4⟩ := row_item5 hgr hkl
            rw [half_at odd_ hlt hkl] at y0
            have hfz := row_free hgr
            have HGR := hide (show (wr.setCell ⟨g, j * 5, none⟩ (.int .i64 (odd_ L1[j]).s)).heap[g]? = some (.cells (flat (half odd_ L1 (j + 1)) ++ R).toArray 31 (0, 0)) by rw [← set_half odd_ (fun _ => rfl) hlt R]; exact heap_set hgr)
            have HK2 := hide (HO1.out.kept (w' := wr.setCell ⟨g, j * 5, none⟩ (.int .i64 (odd_ L1[j]).s)) (fun g2 h2 _ => Below.heap_setCell _ _ _ _ (fun e => by have := (HLT.out g2 h2).2; simp only at e; omega)))
            have hl2 := half_len odd_ L1 (j + 1) (by omega)
            have HV2 := hide hv2; have HV3 := hide hv3; have HHL := hide hhl; have HL2 := hide hl2; clear hgr y1 y2 y3 y4 hv2 hv3 hhl hl2
            subst hv1
            have hkc : (j : Int) < (L1.length : Int) := by omega
            go_wp2_with fail
            go_roundw
            case rel => exact ⟨j + 1, by go_num, by omega, HK2.out, .inr ⟨g, cap, R, by rw [HL2.out, HV3.out], hbg, HGR.out, by have := HL2.out; have := HHL.out; omega, hcm, by have := HL2.out; have := HHL.out; omega⟩, HB.out.setCell (Nat.le_trans hul hbg) _⟩
            case measure => simp [intOf]; omega
        · have hkn : ¬ (j : Int) < (L1.length : Int) := by omega
          have hjj : j = L1.length := by omega
          have ho := ho2
          rw [hjj, half_all] at ho
          have S_x := hide HO1.out.sl; have S_y := hide ho.sl
          have HB0 := hide HB.out
          clear ho ho2 HO1 hjj HB
          obtain ⟨wq, rfl⟩ : ∃ wq : World, wq = wr := ⟨_, rfl⟩
          obtain ⟨r, er, hr0⟩ : ∃ r : Nat, bits .and .i64 a2 127 = (r : Int) ∧ r < 128 := ⟨(a2 % 128).toNat, by rw [and_mask_i64 a2 7 127 (by omega) rfl]; omega, by omega⟩
          have e1 : bits .and .i64 (r : Int) 1 = (r : Int) % 2 := and_mask_i64 _ 1 1 (by omega) rfl
          have lx := ofL_len (L0.map evn); have ly := ofL_len (L1.map odd_); have lj := joinL_len (ofL (L0.map evn)) (L1.map odd_)
          rw [List.length_map] at lx ly lj
          have mx : (L0.map evn).length = L0.length := List.length_map _; have my : (L1.map odd_).length = L1.length := List.length_map _
          have fx := List.length_filter_le (serP r) (ofL (L0.map evn)); have fy := List.length_filter_le (serP r) (ofL (L1.map odd_)); have fj := List.length_filter_le (serP r) (joinL (ofL (L0.map evn)) (L1.map odd_))
          have MX := hide mx; have MY := hide my; clear mx my
          by_cases hp : r % 2 = 1
          case pos =>
            have e2 : (r : Int) % 2 = 1 := by omega
            have E := hide (eqL_iff.2 (apart_odd L0 L1 (r : Int) (by omega)))
            rw [e2] at e1
            clear e2
            go_wp2_with fail
            refine (Calls.mono (pof_sl S_x.out (by have := MX.out; have := MY.out; omega)) ?_); rintro e w1 ⟨v1, rfl, ho1, hg1⟩
            have HB1 := hide (below_step HB0.out hg1)
            have S_x := hide (S_x.out.below hg1)
            have S_y := hide (S_y.out.below hg1)
            have S_ox := hide (ho1.sl)
            clear ho1 hg1
            go_wp2_with fail
            refine (Calls.mono (pjoin_sl S_ox.out S_y.out (by omega) (by have := MX.out; have := MY.out; omega)) ?_); rintro e w2 ⟨v2, rfl, ho2, hg2⟩
            have HB2 := hide (below_step HB1.out hg2)
            have S_x := hide (S_x.out.below hg2)
            have S_y := hide (S_y.out.below hg2)
            have S_ox := hide (S_ox.out.below hg2)
            have S_p := hide (ho2.sl)
            clear ho2 hg2
            go_wp2_with fail
            refine (Calls.mono (pseries_sl S_p.out (r : Int) (by have := MX.out; have := MY.out; omega)) ?_); rintro e w3 ⟨v3, rfl, ho3, hg3⟩
            have HB3 := hide (below_step HB2.out hg3)
            have S_x := hide (S_x.out.below hg3)
            have S_y := hide (S_y.out.below hg3)
            have S_ox := hide (S_ox.out.below hg3)
            have S_p := hide (S_p.out.below hg3)
            have S_ps := hide (ho3.sl)
            clear ho3 hg3
            go_wp2_with fail
            refine (Calls.mono (pof_sl S_x.out (by have := MX.out; have := MY.out; omega)) ?_); rintro e w4 ⟨v4, rfl, ho4, hg4⟩
            have HB4 := hide (below_step HB3.out hg4)
            have S_x := hide (S_x.out.below hg4)
            have S_y := hide (S_y.out.below hg4)
            have S_ox := hide (S_ox.out.below hg4)
            have S_p := hide (S_p.out.below hg4)
            have S_ps := hide (S_ps.out.below hg4)
            have S_qx := hide (ho4.sl)
            clear ho4 hg4
            go_wp2_with fail
            refine (Calls.mono (pseries_sl S_qx.out (r : Int) (by have := MX.out; have := MY.out; omega)) ?_); rintro e w5 ⟨v5, rfl, ho5, hg5⟩
            have HB5 := hide (below_step HB4.out hg5)
            have S_x := hide (S_x.out.below hg5)
            have S_y := hide (S_y.out.below hg5)
            have S_ox := hide (S_ox.out.below hg5)
            have S_p := hide (S_p.out.below hg5)
            have S_ps := hide (S_ps.out.below hg5)
            have S_qx := hide (S_qx.out.below hg5)
            have S_qs := hide (ho5.sl)
            clear ho5 hg5
            go_wp2_with fail
            refine (Calls.mono (pof_sl S_y.out (by have := MX.out; have := MY.out; omega)) ?_); rintro e w6 ⟨v6, rfl, ho6, hg6⟩
            have HB6 := hide (below_step HB5.out hg6)
            have S_x := hide (S_x.out.below hg6)
            have S_y := hide (S_y.out.below hg6)
            have S_ox := hide (S_ox.out.below hg6)
            have S_p := hide (S_p.out.below hg6)
            have S_ps := hide (S_ps.out.below hg6)
            have S_qx := hide (S_qx.out.below hg6)
            have S_qs := hide (S_qs.out.below hg6)
            have S_qy := hide (ho6.sl)
            clear ho6 hg6
            go_wp2_with fail
            refine (Calls.mono (pseries_sl S_qy.out (r : Int) (by have := MX.out; have := MY.out; omega)) ?_); rintro e w7 ⟨v7, rfl, ho7, hg7⟩
            have HB7 := hide (below_step HB6.out hg7)
            have S_x := hide (S_x.out.below hg7)
            have S_y := hide (S_y.out.below hg7)
            have S_ox := hide (S_ox.out.below hg7)
            have S_p := hide (S_p.out.below hg7)
            have S_ps := hide (S_ps.out.below hg7)
            have S_qx := hide (S_qx.out.below hg7)
            have S_qs := hide (S_qs.out.below hg7)
            have S_qy := hide (S_qy.out.below hg7)
            have S_qt := hide (ho7.sl)
            clear ho7 hg7
            go_wp2_with fail
            refine (Calls.mono (requal_sl S_ps.out S_qt.out (by have := MX.out; have := MY.out; omega) (by have := MX.out; have := MY.out; omega)) ?_); rintro e w8 ⟨rfl, hg8⟩
            rw [E.out]
            have HB8 := hide (below_step HB7.out hg8)
            have S_x := hide (S_x.out.below hg8)
            have S_y := hide (S_y.out.below hg8)
            have S_ox := hide (S_ox.out.below hg8)
            have S_p := hide (S_p.out.below hg8)
            have S_ps := hide (S_ps.out.below hg8)
            have S_qx := hide (S_qx.out.below hg8)
            have S_qs := hide (S_qs.out.below hg8)
            have S_qy := hide (S_qy.out.below hg8)
            have S_qt := hide (S_qt.out.below hg8)
            clear hg8
            go_wp2_with fail
            refine (Calls.mono (awake_any _) ?_); rintro e w9 ⟨rfl, hg9⟩
            have HB9 := hide (below_step HB8.out hg9)
            have S_x := hide (S_x.out.below hg9)
            have S_y := hide (S_y.out.below hg9)
            have S_ox := hide (S_ox.out.below hg9)
            have S_p := hide (S_p.out.below hg9)
            have S_ps := hide (S_ps.out.below hg9)
            have S_qx := hide (S_qx.out.below hg9)
            have S_qs := hide (S_qs.out.below hg9)
            have S_qy := hide (S_qy.out.below hg9)
            have S_qt := hide (S_qt.out.below hg9)
            clear hg9
            go_wp2_with fail
            go_ret
            exact ⟨rfl, HB9.out⟩
          
          case neg =>
            have e2 : (r : Int) % 2 = 0 := by omega
            have E := hide (eqL_iff.2 (apart_even L0 L1 (r : Int) (by omega)))
            rw [e2] at e1
            clear e2
            go_wp2_with fail
            refine (Calls.mono (pof_sl S_x.out (by have := MX.out; have := MY.out; omega)) ?_); rintro e w1 ⟨v1, rfl, ho1, hg1⟩
            have HB1 := hide (below_step HB0.out hg1)
            have S_x := hide (S_x.out.below hg1)
            have S_y := hide (S_y.out.below hg1)
            have S_ox := hide (ho1.sl)
            clear ho1 hg1
            go_wp2_with fail
            refine (Calls.mono (pjoin_sl S_ox.out S_y.out (by omega) (by have := MX.out; have := MY.out; omega)) ?_); rintro e w2 ⟨v2, rfl, ho2, hg2⟩
            have HB2 := hide (below_step HB1.out hg2)
            have S_x := hide (S_x.out.below hg2)
            have S_y := hide (S_y.out.below hg2)
            have S_ox := hide (S_ox.out.below hg2)
            have S_p := hide (ho2.sl)
            clear ho2 hg2
            go_wp2_with fail
            refine (Calls.mono (pseries_sl S_p.out (r : Int) (by have := MX.out; have := MY.out; omega)) ?_); rintro e w3 ⟨v3, rfl, ho3, hg3⟩
            have HB3 := hide (below_step HB2.out hg3)
            have S_x := hide (S_x.out.below hg3)
            have S_y := hide (S_y.out.below hg3)
            have S_ox := hide (S_ox.out.below hg3)
            have S_p := hide (S_p.out.below hg3)
            have S_ps := hide (ho3.sl)
            clear ho3 hg3
            go_wp2_with fail
            refine (Calls.mono (pof_sl S_x.out (by have := MX.out; have := MY.out; omega)) ?_); rintro e w4 ⟨v4, rfl, ho4, hg4⟩
            have HB4 := hide (below_step HB3.out hg4)
            have S_x := hide (S_x.out.below hg4)
            have S_y := hide (S_y.out.below hg4)
            have S_ox := hide (S_ox.out.below hg4)
            have S_p := hide (S_p.out.below hg4)
            have S_ps := hide (S_ps.out.below hg4)
            have S_qx := hide (ho4.sl)
            clear ho4 hg4
            go_wp2_with fail
            refine (Calls.mono (pseries_sl S_qx.out (r : Int) (by have := MX.out; have := MY.out; omega)) ?_); rintro e w5 ⟨v5, rfl, ho5, hg5⟩
            have HB5 := hide (below_step HB4.out hg5)
            have S_x := hide (S_x.out.below hg5)
            have S_y := hide (S_y.out.below hg5)
            have S_ox := hide (S_ox.out.below hg5)
            have S_p := hide (S_p.out.below hg5)
            have S_ps := hide (S_ps.out.below hg5)
            have S_qx := hide (S_qx.out.below hg5)
            have S_qs := hide (ho5.sl)
            clear ho5 hg5
            go_wp2_with fail
            refine (Calls.mono (requal_sl S_ps.out S_qs.out (by have := MX.out; have := MY.out; omega) (by have := MX.out; have := MY.out; omega)) ?_); rintro e w6 ⟨rfl, hg6⟩
            rw [E.out]
            have HB6 := hide (below_step HB5.out hg6)
            have S_x := hide (S_x.out.below hg6)
            have S_y := hide (S_y.out.below hg6)
            have S_ox := hide (S_ox.out.below hg6)
            have S_p := hide (S_p.out.below hg6)
            have S_ps := hide (S_ps.out.below hg6)
            have S_qx := hide (S_qx.out.below hg6)
            have S_qs := hide (S_qs.out.below hg6)
            clear hg6
            go_wp2_with fail
            refine (Calls.mono (awake_any _) ?_); rintro e w7 ⟨rfl, hg7⟩
            have HB7 := hide (below_step HB6.out hg7)
            have S_x := hide (S_x.out.below hg7)
            have S_y := hide (S_y.out.below hg7)
            have S_ox := hide (S_ox.out.below hg7)
            have S_p := hide (S_p.out.below hg7)
            have S_ps := hide (S_ps.out.below hg7)
            have S_qx := hide (S_qx.out.below hg7)
            have S_qs := hide (S_qs.out.below hg7)
            clear hg7
            go_wp2_with fail
            go_ret
            exact ⟨rfl, HB7.out⟩
end Go.Proofs.Ytbhfokfdijnhhaa.stateApart
