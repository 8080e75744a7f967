/- The walk of clepsydralaw6.StateLast: it returns true. No condition. -/
import Derived.Test.YtbhfokfdijnhhaaS6Sl
import Derived.Test.YtbhfokfdijnhhaaBits
namespace Go.Proofs.Ytbhfokfdijnhhaa.stateLast
set_option linter.unusedVariables false
set_option linter.unusedSimpArgs false
open Go.ChangeShapes Go.WideShapes Go.ChangeAt Go.RowKit

def LOk (y : It) : Prop := y.s = 7 ∧ y.k = 2 ∧ y.t = 9 ∧ 1 ≤ y.v ∧ y.v ≤ 281474976710656
theorem LOk.good {y : It} (h : LOk y) : It.good y := by
  obtain ⟨h0, h1, h2, h3, h4⟩ := h
  refine ⟨by omega, ⟨h3, h4⟩, .inr ⟨h1, by omega⟩⟩
theorem last_first {x : It} (h : LOk x) : ofL ([] ++ [x]) = [x] := by
  simp [ofL, addL, goodB_true h.good, putL, hides_self]
theorem last_step {l : List It} {x b : It} (hx : LOk x) (hb : LOk b) (h : ofL l = [b]) : ofL (l ++ [x]) = [if winsB x b then x else b] := by
  have hh : hidesB b x = false := hidesB_false (by unfold It.hides; have := hb.2.1; omega)
  have hs : sameB b x = true := sameB_true (by unfold It.same; have := hb.1; have := hb.2.1; have := hb.2.2.1; have := hx.1; have := hx.2.1; have := hx.2.2.1; omega)
  have h1 : ltB b x = false := ltB_false (by unfold It.lt; have := hb.1; have := hb.2.1; have := hb.2.2.1; have := hx.1; have := hx.2.1; have := hx.2.2.1; omega)
  have h2 : ltB x b = false := ltB_false (by unfold It.lt; have := hb.1; have := hb.2.1; have := hb.2.2.1; have := hx.1; have := hx.2.1; have := hx.2.2.1; omega)
  unfold ofL at h ⊢
  rw [List.foldl_append, List.foldl_cons, List.foldl_nil, h]
  unfold addL
  cases hw : winsB x b <;> simp [goodB_true hx.good, hh, hs, hw, putL, h1, h2, hides_self]
theorem get_one {b : It} (h : LOk b) : getL 7 9 [b] = b ∧ hasL 7 9 [b] = true := by
  have hp : getP 7 9 b = true := decide_eq_true ⟨h.1, h.2.1, h.2.2.1⟩
  simp [getL, hasL, hp]
theorem top_one {b : It} (h : LOk b) : topL [b] = b.v := by
  have := h.2.2.2.1
  simp [topL]; omega
theorem mod_nat (k t n : Nat) : ((k : Int) + (t : Int)) % (n : Int) = (((k + t) % n : Nat) : Int) := by norm_cast
theorem and_255 (a : Int) (h : -9223372036854775808 ≤ a ∧ a ≤ 9223372036854775807) : ∃ t : Nat, bits .and .i64 a 255 = (t : Int) ∧ t ≤ 255 := by
  refine ⟨(a % 256).toNat, ?_, by omega⟩
  rw [and_mask_i64 a 8 255 (by omega) (by decide)]
  omega
theorem low48 (a : Int) (h0 : 0 ≤ a) (h1 : a ≤ 18446744073709551615) : ∃ v : Int, bits .and .u64 a 281474976710655 = v ∧ 0 ≤ v ∧ v ≤ 281474976710655 := by
  refine ⟨_, rfl, ?_⟩
  rw [and_mask a 48 281474976710655 (by omega) (by decide) h0 (by omega)]
  omega
theorem append_item_g {ops : Array Oper} {rest : List Oper} {o : Oper} {a : Act} {Q : Exit → Act → World → Prop} (hgd : o.guard = none) (s x : Operand)
    (ho : o.op = .call { callee := .builtin .append, args := #[s, x], argTypes := #[22, 22] })
    (B base : Nat) (w0 w W : World) (v : Value) (L : List It) (y : It) (g : Nat) (hg : w.heap.size = g) (hs : a.eval s = v) (hx : a.eval x = .slice (some ⟨g, 0, none⟩) 1 1) (hW : W = w.alloc (.cells y.cells.toArray 31))
    (hown : Ow base w v L) (hb : Below B w0 w) (hB : B ≤ base) (hbase : base ≤ w.heap.size) (hn : L.length ≤ 2199023255552)
    (h : ∀ v' w', Ow base w' v' (L ++ [y]) → Below B w0 w' → w.grownBy w' v.ownBlock → wpList Try.prog ops Q rest (a.put o.dst v') w') : wpList Try.prog ops Q (o :: rest) a W := by
  subst hg
  exact wpList_append_item hgd s x ho B base w0 w W v L y hs hx hW hown hb hB hbase hn h
theorem put5_size (w : World) (g o : Nat) (x : It) : (put5 w g o x).heap.size = w.heap.size := by simp [put5, World.setCell]
theorem top_sl1 {v : Value} {b : It} {w : World} (h : Sl w v [b]) (hb : LOk b) : Calls Try.prog 19 #[v] w fun e w' => e = .returned (.int .u64 b.v) ∧ Below w.heap.size w w' := by
  have := ptop_sl h (by simp)
  rw [top_one hb] at this
  exact this
theorem put5_below {B : Nat} {a w : World} (h : Below B a w) (g o : Nat) (x : It) (hg : B ≤ g) : Below B a (put5 w g o x) :=
  ((((h.setCell hg _).setCell hg _).setCell hg _).setCell hg _).setCell hg _

set_option maxHeartbeats 3200000 in
set_option maxRecDepth 100000 in
theorem walk {w : World} (A0 : Option Addr) (c0 : Nat) (L0 : List Int) (lc0 : L0.length ≤ c0) (cm0 : c0 ≤ maxLen) (r0 : RowAt (fun a => [.int .u64 a]) 1 w A0 L0) (w0 : ∀ a ∈ L0, (Lit.int .u64 a).wf = true)
    (A1 : Option Addr) (c1 : Nat) (L1 : List Int) (lc1 : L1.length ≤ c1) (cm1 : c1 ≤ maxLen) (r1 : RowAt (fun a => [.int .i64 a]) 1 w A1 L1) (w1 : ∀ a ∈ L1, (Lit.int .i64 a).wf = true)
    (a2 : Int) (w2 : (Lit.int .i64 a2).wf = true) :
    Calls Try.prog 5 #[.slice A0 L0.length c0, .slice A1 L1.length c1, .int .i64 a2] w fun e w' => e = .returned (.bool true) ∧ Below w.heap.size w w' := by
  have b2 := bounds_i64 w2
  obtain ⟨n, hn⟩ : ∃ n : Nat, n = min (min L0.length L1.length) 30 := ⟨_, rfl⟩
  obtain ⟨t, ht, ht2⟩ := and_255 a2 b2
  have HR0 := hide r0; have HR1 := hide r1; have HN := hide hn; have HW0 := hide w0; have HW1 := hide w1
  clear r0 r1 w0 w1 hn
  obtain ⟨m, hm⟩ : ∃ m : Nat, m = min L0.length L1.length := ⟨_, rfl⟩
  have hnm : n = min m 30 := by rw [HN.out, hm]
  have e0 : (if L1.length < L0.length then (L1.length : Int) else (L0.length : Int)) = (m : Int) := by split <;> omega
  have e1 : (if (30 : Int) < (m : Int) then (30 : Int) else (m : Int)) = (n : Int) := by split <;> omega
  have e2 : (if 30 < m then (30 : Int) else (m : Int)) = (n : Int) := by split <;> omega
  have hn30 : n ≤ 30 := by omega
  have hn0 : n ≤ L0.length := by omega
  have hn1 : n ≤ L1.length := by omega
  have HM := hide hm; have HNM := hide hnm; clear hm hnm HN
  by_cases hz : n = 0
  case pos =>
    have dn : ((n : Int) == 0) = true := beq_iff_eq.2 (by omega)
    go_enter Try.func5, Try.ntmps5
    go_wp2_with fail
    refine (Calls.mono (pof_sl (Sl.nil_ w) (by simp)) ?_); rintro e w1 ⟨v1, rfl, ho1, hg1⟩
    have hs := ho1.sl
    rw [show ofL [] = [] from rfl] at hs
    obtain ⟨A, c, rfl, _, _, _⟩ := hs
    clear ho1
    simp only [List.length_nil]
    have HB1 := hide hg1; clear hg1
    go_wp2_with fail
    refine (Calls.mono (awake_any _) ?_); rintro e w2 ⟨rfl, hg2⟩
    go_wp2_with fail
    go_ret
    exact ⟨rfl, below_step HB1.out hg2⟩
  have dn : ((n : Int) == 0) = false := beq_eq_false_iff_ne.2 (by omega)
  go_enter Try.func5, Try.ntmps5
  go_wp2_with fail
  go_loopw [8, 10] (fun sv i wr => ∃ (k : Nat) (M : List It) (b : It), i = .int .i64 k ∧ k ≤ n ∧ M.length = k ∧ (0 < k → LOk b ∧ ofL M = [b]) ∧ Ow (w.heap.size + 1) wr sv M ∧ wr.heap[w.heap.size]? = some (.cells b.cells.toArray 31 (0, 0)) ∧ Below w.heap.size w wr) (fun _ i _ => n - (intOf i).toNat)
  case atStart => exact ⟨0, [], ⟨0, 0, 0, 0, 0⟩, rfl, by omega, rfl, fun h => absurd h (by omega), Ow.nil_ _ _, heap_alloc_new w _, below_alloc (Below.refl _ _) _⟩
  case round =>
    obtain ⟨k, M, b, rfl, hk, hM, hof, hown, hbox, hb⟩ := hrel
    have HO := hide hown; have HB := hide hb; have HOF := hide hof; have HBX := hide hbox; have HML := hide hM
    have hgl : w.heap.size < wr.heap.size := (Array.getElem?_eq_some_iff.1 hbox).1
    obtain ⟨p0, p1, p2, p3, p4⟩ := box_item hbox
    have hfz := row_free hbox
    clear hown hb hof hbox hM
    by_cases hlt : k < n
    · have hpos : (0 : Int) < (n : Int) := by omega
      have hkc : (k : Int) < (n : Int) := by omega
      obtain ⟨q, hq, hq2⟩ : ∃ q : Nat, ((k : Int) + (t : Int)) % (n : Int) = (q : Int) ∧ q < n := ⟨(k + t) % n, mod_nat k t n, Nat.mod_lt _ (by omega)⟩
      have hq0 : q < L0.length := by omega
      have hq1 : q < L1.length := by omega
      have hqc0 : (q : Int) < (L0.length : Int) := by omega
      have hqc1 : (q : Int) < (L1.length : Int) := by omega
      obtain ⟨bl, off, hA, hbb, y0⟩ := RowAt.one HR0.out HB.out hq0
      obtain ⟨bm, ofm, hA1, hbm, y1⟩ := RowAt.one HR1.out HB.out hq1
      subst hA hA1
      have bv := bounds_u64 (HW0.out _ (List.getElem_mem hq0))
      have hbl : bl < wr.heap.size := by omega
      have hbm2 : bm < wr.heap.size := by omega
      generalize L0[q] = y at *
      generalize L1[q] = x at *
      obtain ⟨v, hv, hv0, hv1⟩ := low48 y bv.1 bv.2
      have HZ : Hid (LOk ⟨7, 2, 9, v + 1, x⟩) := hide ⟨rfl, rfl, rfl, by show 1 ≤ v + 1; omega, by show v + 1 ≤ 281474976710656; omega⟩
      go_wp2_with fail
      go_region
      go_wp2_with fail
      change Calls Try.prog 17 #[(⟨7, 2, 9, v + 1, x⟩ : It).val, b.val] _ _
      refine (Calls.mono (rwins_any ⟨7, 2, 9, v + 1, x⟩ b _) ?_); rintro e w3 ⟨rfl, hg3⟩
      have hx3 := (hg3.block wr.heap.size (by simp)).trans (heap_alloc_new wr (.cells (⟨7, 2, 9, v + 1, x⟩ : It).cells.toArray 31))
      have hb3 := (hg3.block w.heap.size (by simp; omega)).trans ((Below.heap_alloc wr (.cells (⟨7, 2, 9, v + 1, x⟩ : It).cells.toArray 31) w.heap.size hgl).trans HBX.out)
      have HB3 := hide (below_step (below_alloc HB.out (.cells (⟨7, 2, 9, v + 1, x⟩ : It).cells.toArray 31)).drew hg3)
      have HO3 : Hid (Ow (w.heap.size + 1) w3 u8 M) := hide (Ow.below (OwnL.drewN (OwnL.alloc HO.out (.cells (⟨7, 2, 9, v + 1, x⟩ : It).cells.toArray 31)) 1) hg3)
      obtain ⟨x0, x1, x2, x3, x4⟩ := box_item hx3
      dsimp only at x0 x1 x2 x3 x4
      obtain ⟨r0, r1, r2, r3, r4⟩ := box_item hb3
      have fz := row_free hb3
      have fx := row_free hx3
      have hne : ¬ w.heap.size = wr.heap.size := by omega
      have hne2 : ¬ wr.heap.size = w.heap.size := by omega
      have hgl3 : w.heap.size < w3.heap.size := (Array.getElem?_eq_some_iff.1 hb3).1
      have hxl3 : wr.heap.size < w3.heap.size := (Array.getElem?_eq_some_iff.1 hx3).1
      have hown := OwnL.lt HO3.out
      have hnr : u8.ownBlock ≠ some w.heap.size := fun e => by have := (hown _ e).1; omega
      have hnr2 : u8.ownBlock = none ∨ u8.ownBlock ≠ some w.heap.size := .inr hnr
      have HO5 : Hid (Ow (w.heap.size + 1) (put5 w3 w.heap.size 0 ⟨7, 2, 9, v + 1, x⟩) u8 M) := hide (OwnL.kept HO3.out (put5_grown w3 w.heap.size 0 ⟨7, 2, 9, v + 1, x⟩) hnr2)
      have HB5 := hide (put5_below HB3.out w.heap.size 0 ⟨7, 2, 9, v + 1, x⟩ (Nat.le_refl _))
      have HX5 := hide (put_res (⟨7, 2, 9, v + 1, x⟩ : It) hb3)
      have HX3 := hide hb3; have HNR := hide hnr
      clear hx3 hb3 hg3 hown hnr hnr2 y0 y1 p0 p1 p2 p3 p4 hfz
      by_cases hk0 : k = 0
      case pos =>
        have dk : ((k : Int) == 0) = true := beq_iff_eq.2 (by omega)
        obtain rfl : M = [] := List.eq_nil_of_length_eq_zero (by have := HML.out; omega)
        clear hk0
        generalize winsB (⟨7, 2, 9, v + 1, x⟩ : It) b = ww at *
        cases ww
        ·
          have HF : Hid (LOk ⟨7, 2, 9, v + 1, x⟩ ∧ ofL ([] ++ [⟨7, 2, 9, v + 1, x⟩]) = [⟨7, 2, 9, v + 1, x⟩]) := hide (⟨HZ.out, last_first HZ.out⟩)
          clear HOF
          go_wp2_with (at_builtin; refine append_item_g rfl (.tmp 60) (.tmp 62) rfl w.heap.size (w.heap.size + 1) w (put5 w3 w.heap.size 0 ⟨7, 2, 9, v + 1, x⟩) _ u8 [] ⟨7, 2, 9, v + 1, x⟩ w3.heap.size (put5_size _ _ _ _) rfl rfl rfl HO5.out HB5.out (by omega) (by rw [(put5_size _ _ _ _)]; omega) (by have := HML.out; omega) ?_; intro v6 u6 ho6 hbu6 hgu6; have HO6 := hide ho6; have HBU6 := hide hbu6; have HX6 := hide ((hgu6.block w.heap.size (by rw [(put5_size _ _ _ _)]; exact hgl3) (fun e => HNR.out e.symm)).trans HX5.out); clear ho6 hbu6 hgu6)
          go_roundw
          case rel => exact ⟨k + 1, [] ++ [⟨7, 2, 9, v + 1, x⟩], ⟨7, 2, 9, v + 1, x⟩, by go_num, by omega, by rw [List.length_append, HML.out]; rfl, fun _ => HF.out, HO6.out, HX6.out, HBU6.out⟩
          case measure => simp [intOf]; omega
        ·
          have HF : Hid (LOk ⟨7, 2, 9, v + 1, x⟩ ∧ ofL ([] ++ [⟨7, 2, 9, v + 1, x⟩]) = [⟨7, 2, 9, v + 1, x⟩]) := hide (⟨HZ.out, last_first HZ.out⟩)
          clear HOF
          go_wp2_with (at_builtin; refine append_item_g rfl (.tmp 60) (.tmp 62) rfl w.heap.size (w.heap.size + 1) w (put5 w3 w.heap.size 0 ⟨7, 2, 9, v + 1, x⟩) _ u8 [] ⟨7, 2, 9, v + 1, x⟩ w3.heap.size (put5_size _ _ _ _) rfl rfl rfl HO5.out HB5.out (by omega) (by rw [(put5_size _ _ _ _)]; omega) (by have := HML.out; omega) ?_; intro v6 u6 ho6 hbu6 hgu6; have HO6 := hide ho6; have HBU6 := hide hbu6; have HX6 := hide ((hgu6.block w.heap.size (by rw [(put5_size _ _ _ _)]; exact hgl3) (fun e => HNR.out e.symm)).trans HX5.out); clear ho6 hbu6 hgu6)
          go_roundw
          case rel => exact ⟨k + 1, [] ++ [⟨7, 2, 9, v + 1, x⟩], ⟨7, 2, 9, v + 1, x⟩, by go_num, by omega, by rw [List.length_append, HML.out]; rfl, fun _ => HF.out, HO6.out, HX6.out, HBU6.out⟩
          case measure => simp [intOf]; omega
      have dk : ((k : Int) == 0) = false := beq_eq_false_iff_ne.2 (by omega)
      have hst := last_step HZ.out (HOF.out (by omega)).1 (HOF.out (by omega)).2
      have HLB := hide (HOF.out (by omega)).1
      clear hk0
      have HST := hide hst; clear hst
      generalize winsB (⟨7, 2, 9, v + 1, x⟩ : It) b = ww at *
      cases ww
      ·
        have HF : Hid (LOk b ∧ ofL (M ++ [⟨7, 2, 9, v + 1, x⟩]) = [b]) := hide (⟨HLB.out, HST.out⟩)
        clear HOF
        go_wp2_with (at_builtin; refine append_item_g rfl (.tmp 60) (.tmp 62) rfl w.heap.size (w.heap.size + 1) w w3 _ u8 M ⟨7, 2, 9, v + 1, x⟩ w3.heap.size (show w3.heap.size = w3.heap.size from rfl) rfl rfl rfl HO3.out HB3.out (by omega) (by rw [(show w3.heap.size = w3.heap.size from rfl)]; omega) (by have := HML.out; omega) ?_; intro v6 u6 ho6 hbu6 hgu6; have HO6 := hide ho6; have HBU6 := hide hbu6; have HX6 := hide ((hgu6.block w.heap.size (by rw [(show w3.heap.size = w3.heap.size from rfl)]; exact hgl3) (fun e => HNR.out e.symm)).trans HX3.out); clear ho6 hbu6 hgu6)
        go_roundw
        case rel => exact ⟨k + 1, M ++ [⟨7, 2, 9, v + 1, x⟩], b, by go_num, by omega, by rw [List.length_append, HML.out]; rfl, fun _ => HF.out, HO6.out, HX6.out, HBU6.out⟩
        case measure => simp [intOf]; omega
      ·
        have HF : Hid (LOk ⟨7, 2, 9, v + 1, x⟩ ∧ ofL (M ++ [⟨7, 2, 9, v + 1, x⟩]) = [⟨7, 2, 9, v + 1, x⟩]) := hide (⟨HZ.out, HST.out⟩)
        clear HOF
        go_wp2_with (at_builtin; refine append_item_g rfl (.tmp 60) (.tmp 62) rfl w.heap.size (w.heap.size + 1) w (put5 w3 w.heap.size 0 ⟨7, 2, 9, v + 1, x⟩) _ u8 M ⟨7, 2, 9, v + 1, x⟩ w3.heap.size (put5_size _ _ _ _) rfl rfl rfl HO5.out HB5.out (by omega) (by rw [(put5_size _ _ _ _)]; omega) (by have := HML.out; omega) ?_; intro v6 u6 ho6 hbu6 hgu6; have HO6 := hide ho6; have HBU6 := hide hbu6; have HX6 := hide ((hgu6.block w.heap.size (by rw [(put5_size _ _ _ _)]; exact hgl3) (fun e => HNR.out e.symm)).trans HX5.out); clear ho6 hbu6 hgu6)
        go_roundw
        case rel => exact ⟨k + 1, M ++ [⟨7, 2, 9, v + 1, x⟩], ⟨7, 2, 9, v + 1, x⟩, by go_num, by omega, by rw [List.length_append, HML.out]; rfl, fun _ => HF.out, HO6.out, HX6.out, HBU6.out⟩
        case measure => simp [intOf]; omega
    · have hkn : ¬ (k : Int) < (n : Int) := by omega
      have hkk : 0 < k := by omega
      have HLB := hide (HOF.out hkk).1; have HOL := hide (HOF.out hkk).2
      have hsl := HO.out.sl
      have HS := hide hsl; clear hsl HOF HO p0 p1 p2 p3 p4 hfz
      go_wp2_with fail
      refine (Calls.mono (pof_sl HS.out (by rw [HML.out]; omega)) ?_); rintro e w3 ⟨v3, rfl, ho3, hg3⟩
      have hs3 := ho3.sl
      rw [HOL.out] at hs3
      have HB3 := hide (below_step HB.out hg3)
      have HX3 := hide ((hg3.block w.heap.size hgl).trans HBX.out)
      have HS3 := hide hs3
      have hgl3 : w.heap.size < w3.heap.size := Nat.lt_of_lt_of_le hgl hg3.size
      clear ho3 hg3 hs3
      go_wp2_with fail
      refine (Calls.mono (get_sl HS3.out 7 9 (by simp)) ?_); rintro e w4 ⟨rfl, hg4⟩
      rw [(get_one HLB.out).1, (get_one HLB.out).2]
      have HS4 := hide (HS3.out.below hg4); have HB4 := hide (below_step HB3.out hg4)
      have HX4 := hide ((hg4.block w.heap.size hgl3).trans HX3.out)
      have hgl4 : w.heap.size < w4.heap.size := Nat.lt_of_lt_of_le hgl3 hg4.size
      clear hg4
      have hs4 := HS4.out
      obtain ⟨A4, c4, rfl, hr4, hl4, hm4⟩ := hs4
      obtain ⟨br, offr, rfl, hbr, y0, y1, y2, y3, y4⟩ := ItemsAt.item hr4 (Below.refl _ _) (k := 0) (by simp)
      simp only [Nat.zero_mul, Nat.add_zero, List.getElem_cons_zero] at y0 y1 y2 y3 y4
      simp only [List.length_singleton] at hl4 HS4 ⊢
      have HY := hide (And.intro y0 (And.intro y1 (And.intro y2 (And.intro y3 y4))))
      clear y0 y1 y2 y3 y4 hr4
      go_wp2_with fail
      refine wp_name (fun W => Below w4.heap.size w4 W ∧ W.heap[w4.heap.size]? = some (.cells b.cells.toArray 31 (0, 0))) ⟨below_alloc (Below.refl _ _) _, heap_alloc_new _ _⟩ ?_
      rintro W ⟨hbW, hxW⟩
      have HBW := hide (below_step HB4.out hbW)
      have HSW := hide (HS4.out.below hbW)
      obtain ⟨x0, x1, x2, x3, x4⟩ := box_item hxW
      obtain ⟨p0, p1, p2, p3, p4⟩ := box_item ((hbW.block w.heap.size hgl4).trans HX4.out)
      obtain ⟨y0, y1, y2, y3, y4⟩ := HY.out
      have y0 := (hbW.cell (p := ⟨br, _, none⟩) hbr).trans y0
      have y1 := (hbW.cell (p := ⟨br, _, none⟩) hbr).trans y1
      have y2 := (hbW.cell (p := ⟨br, _, none⟩) hbr).trans y2
      have y3 := (hbW.cell (p := ⟨br, _, none⟩) hbr).trans y3
      have y4 := (hbW.cell (p := ⟨br, _, none⟩) hbr).trans y4
      have hxl : w4.heap.size < W.heap.size := (Array.getElem?_eq_some_iff.1 hxW).1
      have hbl1 : w.heap.size < W.heap.size := by omega
      have hbl2 : br < W.heap.size := by omega
      clear hbW hxW
      have hq := run_eql_item b b
      rw [eqI_self] at hq
      have hbv : (b.v == b.v) = true := beq_self_eq_true _
      have hnc := near_cells W
      refine wp_region_near (by kernel_rfl) (by kernel_rfl) ?_
      repeat (go_big_quiet_step ((first | (go_at_call 19; exact near_of (top_sl1 (Sl.below HSW.out (Near.is _)) HLB.out)) | (go_at_call 12; exact near_of (awake_any _)))))
      refine wpQuiet_nil ?_
      intro _ hw'
      obtain ⟨s1, rfl⟩ := hw'
      go_wp2_with fail
      go_ret
      exact ⟨rfl, below_step HBW.out s1.is⟩
end Go.Proofs.Ytbhfokfdijnhhaa.stateLast
