/- The walk of clepsydralaw6.StateDeletes: it returns true. No condition. -/
import Derived.Test.YtbhfokfdijnhhaaS6Sl
import Derived.Deep.RegionHeld3
import Derived.Test.YtbhfokfdijnhhaaBits
namespace Go.Proofs.Ytbhfokfdijnhhaa.stateDeletes
set_option linter.unusedVariables false
set_option linter.unusedSimpArgs false
open Go.ChangeShapes Go.WideShapes Go.ChangeAt Go.RowKit

theorem del_goods (l : List It) {t : It} (ht : It.good t) : Goods (t :: goods l) := fun y hy => by
  rcases List.mem_cons.1 hy with e | h
  · subst e; exact ht
  · exact goods_good l y h
theorem del_isOf (l : List It) {t : It} (ht : It.good t) : IsOf (t :: goods l) (joinL (addS (ofL l) t) l) := by
  have h1 : addS (ofL l) t = addL (ofL l) t := by unfold addS; rw [stateB_true (ofL_state l)]; rfl
  have h2 : IsOf (t :: goods l) (addL (ofL l) t) := addL_isOf (ofL_is l) (goods_good l) ht
  rw [h1]
  exact (joinL_list h2 (del_goods l ht) l).congr fun z => by
    simp only [List.mem_append, List.mem_cons]
    exact ⟨fun h => h.elim .inr id, .inr⟩
theorem del_isOf2 (l : List It) {t : It} (ht : It.good t) : IsOf (t :: goods l) (joinL (addS [] t) l) := by
  have h1 : addS [] t = addL [] t := by unfold addS; rw [stateB_true IsState.nil_]; rfl
  have h2 : IsOf [t] (addL [] t) := addL_isOf IsOf.nil_ (by simp) ht
  rw [h1]
  exact (joinL_list h2 (fun y hy => by rw [List.mem_singleton] at hy; subst hy; exact ht) l).congr fun z => by
    simp only [List.mem_append, List.mem_cons, List.not_mem_nil, or_false]
    exact or_comm
theorem del_eq (l : List It) {t : It} (ht : It.good t) : joinL (addS (ofL l) t) l = joinL (addS [] t) l := (del_isOf l ht).uniq (del_isOf2 l ht)
theorem there_one {S : List It} {x y : It} (hx : There S x) (hy : There S y) (h : It.same x y) : x = y :=
  It.same_eq h (hy.2.1 x hx.1 ⟨h.1.symm, h.2.1.symm, h.2.2.symm⟩) (hx.2.1 y hy.1 h)
theorem del_tomb (l : List It) {t : It} (ht : It.good t) (hk : t.k = 1) (h0 : t.t = 0) : t.v ≤ tombV t.s (joinL (addS (ofL l) t) l) := by
  have H := del_isOf l ht
  obtain ⟨u, hu, hs, hw⟩ := tomb_there (S := t :: goods l) (by simp) hk
  have hm := (H.mem u).2 hu
  unfold tombV
  cases hf : List.find? (tmP t.s) (joinL (addS (ofL l) t) l) with
  | none =>
    exfalso
    rw [List.find?_eq_none] at hf
    exact hf u hm (decide_eq_true ⟨hs.1.symm, by rw [← hs.2.1]; exact hk⟩)
  | some y =>
    have hy := List.mem_of_find?_eq_some hf
    have hp := List.find?_some hf
    simp only [tmP, decide_eq_true_eq] at hp
    have hty := (H.mem y).1 hy
    have hgy : It.good y := del_goods l ht y hty.1
    have e : u = y := there_one hu hty (by unfold It.same at hs ⊢; unfold It.good at hgy; omega)
    subst e
    unfold It.wins at hw
    show t.v ≤ u.v
    omega
theorem del_gone (l : List It) {t x : It} (ht : It.good t) (hk : t.k = 1) (hx : x ∈ joinL (addS (ofL l) t) l) : ¬ (x.s = t.s ∧ x.k = 2 ∧ x.v ≤ t.v) := fun h =>
  (((del_isOf l ht).mem x).1 hx).2.2 t (by simp) ⟨hk, h.2.1, h.1.symm, h.2.2⟩
theorem del_stay (l : List It) {t y : It} (ht : It.good t) (hk : t.k = 1) (hy : y ∈ ofL l) (hyk : y.k = 2) (h : y.s ≠ t.s ∨ t.v < y.v) :
    getL y.s y.t (joinL (addS (ofL l) t) l) = y ∧ hasL y.s y.t (joinL (addS (ofL l) t) l) = true := by
  have H := del_isOf l ht
  have h0 := ((ofL_is l).mem y).1 hy
  have hT : There (t :: goods l) y := by
    refine ⟨List.mem_cons_of_mem _ h0.1, fun z hz hs => ?_, fun u hu hh => ?_⟩
    · rcases List.mem_cons.1 hz with e | hz
      · subst e; exfalso; unfold It.same at hs; omega
      · exact h0.2.1 z hz hs
    · rcases List.mem_cons.1 hu with e | hu
      · subst e; unfold It.hides at hh; omega
      · exact h0.2.2 u hu hh
  have hm := (H.mem y).2 hT
  have hgp : getP y.s y.t y = true := decide_eq_true ⟨rfl, hyk, rfl⟩
  unfold getL hasL
  cases hf : List.find? (getP y.s y.t) (joinL (addS (ofL l) t) l) with
  | none => exfalso; rw [List.find?_eq_none] at hf; exact hf y hm hgp
  | some z =>
    have hz := List.mem_of_find?_eq_some hf
    have hp := List.find?_some hf
    simp only [getP, decide_eq_true_eq] at hp
    have e : z = y := there_one ((H.mem z).1 hz) hT (by unfold It.same; omega)
    subst e
    exact ⟨rfl, rfl⟩
theorem requal_1 {v u : Value} {L : List It} {w : World} (h : Sl w v L) (k : Sl w u L) (hn : L.length ≤ 4611686018427387904) : Calls Try.prog 15 #[v, u] w fun e w' => e = .returned (.bool true) ∧ Below w.heap.size w w' := by
  have := requal_sl h k hn hn
  rw [eqL_self] at this
  exact this
theorem ptomb_v {u : Value} {L : List It} {w : World} {V : Int} (h : Sl w u L) (s : Int) (e : tombV s L = V) (hn : L.length ≤ 4611686018427387904) : Calls Try.prog 29 #[u, .int .i64 s] w fun e w' => e = .returned (.int .u64 V) ∧ Below w.heap.size w w' := by
  subst e
  exact ptomb_sl h s hn
theorem keep5 {B : Nat} {a W : World} {g : Nat} (h : Below B a W) (hg : B ≤ g) {v0 v1 v2 v3 v4 : Value} :
    Below B a (((((W.setCell ⟨g, 0, none⟩ v0).setCell ⟨g, 1, none⟩ v1).setCell ⟨g, 2, none⟩ v2).setCell ⟨g, 3, none⟩ v3).setCell ⟨g, 4, none⟩ v4) :=
  ((((h.setCell (p := ⟨g, 0, none⟩) hg _).setCell (p := ⟨g, 1, none⟩) hg _).setCell (p := ⟨g, 2, none⟩) hg _).setCell (p := ⟨g, 3, none⟩) hg _).setCell (p := ⟨g, 4, none⟩) hg _
theorem ex_name {Q : Exit → Act → World → Prop} {e : Exit} {a : Act} {w : World} (R : World → Prop) (hR : R w) (h : ∀ W, R W → Q e a W) : Q e a w := h w hR
theorem the_tomb (a1 a2 : Int) (h1 : -9223372036854775808 ≤ a1 ∧ a1 ≤ 9223372036854775807) (h2 : 0 ≤ a2 ∧ a2 ≤ 18446744073709551615) :
    ∃ (T : It) (v : Int), bits .and .i64 a1 255 = T.s ∧ bits .and .u64 a2 281474976710655 = v ∧ (0 ≤ v ∧ v ≤ 281474976710655) ∧ It.good T ∧ T.k = 1 ∧ T.t = 0 ∧ T.cells.toArray = #[.int .i64 T.s, .int .i64 1, .int .u64 0, .int .u64 (v + 1), .int .i64 0] := by
  have e1 : bits .and .i64 a1 255 = a1 % 256 := by rw [and_mask_i64 a1 8 255 (by omega) (by decide)]; rfl
  have e2 : bits .and .u64 a2 281474976710655 = a2 % 281474976710656 := by rw [and_mask a2 48 281474976710655 (by omega) (by decide) h2.1 (by omega)]; rfl
  refine ⟨⟨a1 % 256, 1, 0, a2 % 281474976710656 + 1, 0⟩, a2 % 281474976710656, e1, e2, by omega, ?_, rfl, rfl, rfl⟩
  refine ⟨?_, ?_, .inl ⟨rfl, rfl, rfl⟩⟩
  · show 0 ≤ a1 % 256 ∧ a1 % 256 ≤ 255; omega
  · show 1 ≤ a2 % 281474976710656 + 1 ∧ a2 % 281474976710656 + 1 ≤ 281474976710656; omega

set_option maxHeartbeats 3200000 in
set_option maxRecDepth 100000 in
theorem walk {w : World} (A0 : Option Addr) (c0 : Nat) (L0 : List It) (lc0 : L0.length ≤ c0) (cm0 : c0 ≤ maxLen) (r0 : RowAt It.cells 5 w A0 L0) (w0 : ∀ a ∈ L0, a.wf)
    (a1 : Int) (w1 : (Lit.int .i64 a1).wf = true)
    (a2 : Int) (w2 : (Lit.int .u64 a2).wf = true) :
    Calls Try.prog 9 #[.slice A0 L0.length c0, .int .i64 a1, .int .u64 a2] w fun e w' => e = .returned (.bool true) ∧ Below w.heap.size w w' := by
  have b1 := bounds_i64 w1; have b2 := bounds_u64 w2
  by_cases h0 : 50 < L0.length
  case pos =>
    have d0 : decide (50 < (L0.length : Int)) = true := decide_eq_true (by omega)
    go_enter Try.func9, Try.ntmps9
    go_wp2_with fail
    refine (Calls.mono (awake_any _) ?_); rintro e w1 ⟨rfl, hg1⟩
    go_wp2_with fail
    go_ret
    exact ⟨rfl, hg1⟩
  have d0 : decide (50 < (L0.length : Int)) = false := decide_eq_false (by omega)
  obtain ⟨T, v, ht, hv, hv0, hgT, hTk, hTt, hTc⟩ := the_tomb a1 a2 b1 b2
  have HGT := hide hgT; have HTK := hide hTk; have HTT := hide hTt; have HTC := hide hTc
  clear hgT hTk hTt hTc
  have HSL := hide (Sl.mk_ r0 lc0 cm0)
  clear r0 w0 w1 w2 b1
  go_enter Try.func9, Try.ntmps9
  go_wp2_with fail
  refine wp_name (fun W => Below w.heap.size w W ∧ W.heap[w.heap.size]? = some (.cells T.cells.toArray 31 (0, 0))) ⟨below_alloc (Below.refl _ _) _, by rw [HTC.out]; exact heap_alloc_new _ _⟩ ?_
  rintro W ⟨hbW, hxW⟩
  have HB0 := hide hbW; have HX := hide hxW; have S_l := hide (HSL.out.below hbW)
  clear hbW hxW HSL
  have l1 := ofL_len L0; have l2 := addS_len (ofL L0) T; have l3 := addS_len [] T; have l4 := joinL_len (addS (ofL L0) T) L0; have l5 := joinL_len (addS [] T) L0
  simp only [List.length_nil] at l3
  have hx := box_item HX.out
  have tk1 : True := trivial
  have tk2 : True := trivial
  have tk3 : True := trivial
  go_region_held3 (fun w' => w'.cell? ⟨w.heap.size, 0, none⟩ = some (.int .i64 T.s) ∧ w'.cell? ⟨w.heap.size, 1, none⟩ = some (.int .i64 T.k) ∧ w'.cell? ⟨w.heap.size, 2, none⟩ = some (.int .u64 T.t) ∧ w'.cell? ⟨w.heap.size, 3, none⟩ = some (.int .u64 T.v) ∧ w'.cell? ⟨w.heap.size, 4, none⟩ = some (.int .i64 T.x)) (exact hx) (first
    | (go_at_call 13; have _t := tk1; refine (Calls.mono (pof_sl (by exact S_l.out) (by omega)) ?_); rintro e w1 ⟨v1, rfl, ho1, hg1⟩; have HB1 := hide (below_step HB0.out.drew hg1); have HX := hide (Eq.trans (hg1.block w.heap.size (Array.getElem?_eq_some_iff.1 HX.out).1) HX.out); have hx := box_item HX.out; have S_l := hide (Sl.below (by exact S_l.out) hg1); have S_q := hide ho1.sl; clear hg1 tk1 _t ho1)
    | (go_at_call 24; have _t := tk2; refine (Calls.mono (paddx_sl (by exact S_q.out) T (by omega)) ?_); rintro e w2 ⟨v2, rfl, ho2, hg2⟩; have HB2 := hide (below_step HB1.out hg2); have HX := hide (Eq.trans (hg2.block w.heap.size (Array.getElem?_eq_some_iff.1 HX.out).1) HX.out); have hx := box_item HX.out; have S_l := hide (Sl.below (by exact S_l.out) hg2); have S_q := hide (Sl.below (by exact S_q.out) hg2); have S_t := hide ho2.sl; clear hg2 tk2 _t ho2)
    | (go_at_call 14; have _t := tk3; refine (Calls.mono (pjoin_sl (by exact S_t.out) (by exact S_l.out) (by omega) (by omega)) ?_); rintro e w3 ⟨v3, rfl, ho3, hg3⟩; have HB3 := hide (below_step HB2.out hg3); have HX := hide (Eq.trans (hg3.block w.heap.size (Array.getElem?_eq_some_iff.1 HX.out).1) HX.out); have hx := box_item HX.out; have S_l := hide (Sl.below (by exact S_l.out) hg3); have S_q := hide (Sl.below (by exact S_q.out) hg3); have S_t := hide (Sl.below (by exact S_t.out) hg3); have S_a := hide ho3.sl; clear hg3 tk3 _t ho3))
  go_wp2_with fail
  have hxx := hx
  obtain ⟨x0, x1, x2, x3, x4⟩ := hx
  refine (Calls.mono (paddx_sl (Sl.nil_ _) T (by simp)) ?_); rintro e w4 ⟨v4, rfl, ho4, hg4⟩
  have HB4 := hide (below_step HB3.out hg4)
  have S_l := hide (S_l.out.below hg4)
  have S_q := hide (S_q.out.below hg4)
  have S_t := hide (S_t.out.below hg4)
  have S_a := hide (S_a.out.below hg4)
  have HX := hide ((hg4.block w.heap.size (Array.getElem?_eq_some_iff.1 HX.out).1).trans HX.out)
  have hx := box_item HX.out
  have S_t2 := hide (ho4.sl)
  clear ho4 hg4
  go_wp2_with fail
  refine (Calls.mono (pjoin_sl S_t2.out S_l.out (by omega) (by omega)) ?_); rintro e w5 ⟨v5, rfl, ho5, hg5⟩
  have HB5 := hide (below_step HB4.out hg5)
  have S_l := hide (S_l.out.below hg5)
  have S_q := hide (S_q.out.below hg5)
  have S_t := hide (S_t.out.below hg5)
  have S_a := hide (S_a.out.below hg5)
  have S_t2 := hide (S_t2.out.below hg5)
  have HX := hide ((hg5.block w.heap.size (Array.getElem?_eq_some_iff.1 HX.out).1).trans HX.out)
  have hx := box_item HX.out
  have S_b := hide (ho5.sl)
  clear ho5 hg5
  have hb := S_b.out
  rw [← del_eq L0 HGT.out] at hb
  have S_b := hide hb; clear hb
  have HTV := hide (del_tomb L0 HGT.out HTK.out HTT.out)
  have HGN := hide (fun x => del_gone L0 (t := T) (x := x) HGT.out HTK.out)
  have HST := hide (fun y => del_stay L0 (t := T) (y := y) HGT.out HTK.out)
  have HQL := hide l1
  have hla : (joinL (addS (ofL L0) T) L0).length ≤ 101 := by omega
  have HLA := hide hla
  clear l1 l2 l3 l4 l5 hla S_t S_t2 S_q
  generalize joinL (addS (ofL L0) T) L0 = A at *
  obtain ⟨V, hV⟩ : ∃ V : Int, tombV T.s A = V := ⟨_, rfl⟩
  have HV := hide hV
  have bt : decide (V < T.v) = false := decide_eq_false (by have := HTV.out; omega)
  clear hV
  obtain ⟨x0, x1, x2, x3, x4⟩ := hx
  have hxl : w.heap.size < w5.heap.size := (Array.getElem?_eq_some_iff.1 HX.out).1
  go_wp2_with fail
  have hnc := near_cells w5
  refine wp_region_near (by kernel_rfl) (by kernel_rfl) ?_
  repeat (go_big_quiet_step ((first | (go_at_call 15; exact near_of (requal_1 (Sl.below S_a.out (Near.is _)) (Sl.below S_b.out (Near.is _)) (by have := HLA.out; omega))) | (go_at_call 29; exact near_of (ptomb_v (Sl.below S_a.out (Near.is _)) T.s HV.out (by have := HLA.out; omega))))))
  refine wpQuiet_nil ?_
  intro _ hw'
  obtain ⟨s1, rfl⟩ := hw'
  have HB6 := hide (below_step HB5.out s1.is)
  have HX6 := hide ((s1.is.block w.heap.size hxl).trans HX.out)
  have S_a := hide (S_a.out.below s1.is); have S_l := hide (S_l.out.below s1.is)
  clear S_b hnc x0 x1 x2 x3 x4
  have hsa := S_a.out
  obtain ⟨Aa, ca, rfl, hra, ha1, ha2⟩ := hsa
  have HRA := hide hra; clear hra
  go_wp2_with fail
  go_loopw [10] (fun i wr => ∃ k : Nat, i = .int .i64 k ∧ k ≤ A.length ∧ Below w.heap.size w wr ∧ wr.heap[w.heap.size]? = some (.cells T.cells.toArray 31 (0, 0)) ∧ ItemsAt wr Aa A ∧ Sl wr (.slice A0 L0.length c0) L0) (fun i _ => A.length - (intOf i).toNat)
  case atStart => exact ⟨0, rfl, by omega, HB6.out, HX6.out, HRA.out, S_l.out⟩
  case round =>
    clear HB6 HX6 HRA S_l S_a HB5 HX
    obtain ⟨k, rfl, hk, hb, hxx, hra, hsl⟩ := hrel
    have HB := hide hb; have HX := hide hxx; have HRA := hide hra; have S_l := hide hsl
    obtain ⟨x0, x1, x2, x3, x4⟩ := box_item hxx
    have hxl : w.heap.size < wr.heap.size := (Array.getElem?_eq_some_iff.1 hxx).1
    have hla : A.length ≤ 101 := HLA.out
    clear hb hxx hra hsl
    by_cases hlt : k < A.length
    · have hkc : (k : Int) < (A.length : Int) := by omega
      obtain ⟨bl, off, hA, hbb, y0, y1, y2, y3, y4⟩ := ItemsAt.item HRA.out (Below.refl _ _) hlt
      have HN := hide (HGN.out A[k] (List.getElem_mem hlt))
      generalize A[k] = y at *
      subst hA
      by_cases hs : y.s = T.s
      case neg =>
        have bs : (y.s == T.s) = false := beq_eq_false_iff_ne.2 hs
        go_wp2_with fail
        go_quiet (fail)
        go_wp2_with fail
        go_roundw
        case rel => exact ⟨k + 1, by go_num, by omega, below_drewN HB.out nq, HX.out, HRA.out, S_l.out.drewN nq⟩
        case measure => simp [intOf]; omega
      have bs : (y.s == T.s) = true := beq_iff_eq.2 hs
      by_cases hk2 : y.k = 2
      case neg =>
        have bk : (y.k == 2) = false := beq_eq_false_iff_ne.2 hk2
        clear hs
        go_wp2_with fail
        go_quiet (fail)
        go_wp2_with fail
        go_roundw
        case rel => exact ⟨k + 1, by go_num, by omega, below_drewN HB.out nq, HX.out, HRA.out, S_l.out.drewN nq⟩
        case measure => simp [intOf]; omega
      have bk : (y.k == 2) = true := beq_iff_eq.2 hk2
      have bv : decide (y.v ≤ T.v) = false := decide_eq_false (fun h => HN.out ⟨hs, hk2, h⟩)
      clear hs hk2
      go_wp2_with fail
      go_quiet (fail)
      go_wp2_with fail
      go_roundw
      case rel => exact ⟨k + 1, by go_num, by omega, below_drewN HB.out nq, HX.out, HRA.out, S_l.out.drewN nq⟩
      case measure => simp [intOf]; omega
    · have hkn : ¬ (k : Int) < (A.length : Int) := by omega
      go_wp2_with fail
      refine (Calls.mono (pof_sl S_l.out (by omega)) ?_); rintro e w6 ⟨v6, rfl, ho6, hg6⟩
      have HB7 := hide (below_step HB.out hg6)
      have HX7 := hide ((hg6.block w.heap.size hxl).trans HX.out)
      have HRA7 := hide (RowAt.below HRA.out hg6)
      have hsb := ho6.sl
      have hlb : (ofL L0).length ≤ 50 := by have := HQL.out; omega
      have HLB := hide hlb; clear hlb
      generalize ofL L0 = B at *
      obtain ⟨Ab, cb, rfl, hrb, hb1, hb2⟩ := hsb
      have HRB7 := hide hrb
      clear hrb ho6 hg6 HB HX HRA S_l x0 x1 x2 x3 x4 hlt hkn hk
      go_wp2_with fail
      go_loopw [12] (fun i wr => ∃ k : Nat, i = .int .i64 k ∧ k ≤ B.length ∧ Below w.heap.size w wr ∧ wr.heap[w.heap.size]? = some (.cells T.cells.toArray 31 (0, 0)) ∧ ItemsAt wr Aa A ∧ ItemsAt wr Ab B) (fun i _ => B.length - (intOf i).toNat)
      case atStart => exact ⟨0, rfl, by omega, HB7.out, HX7.out, HRA7.out, HRB7.out⟩
      case round =>
        clear HB7 HX7 HRA7 HRB7
        obtain ⟨j, rfl, hj, hb, hxx, hra, hrb⟩ := hrel
        have HB := hide hb; have HX := hide hxx; have HRA := hide hra; have HRB := hide hrb
        obtain ⟨x0, x1, x2, x3, x4⟩ := box_item hxx
        have hxl : w.heap.size < wr.heap.size := (Array.getElem?_eq_some_iff.1 hxx).1
        have hlb : B.length ≤ 50 := HLB.out
        clear hb hxx hra hrb
        by_cases hlt : j < B.length
        · have hkc : (j : Int) < (B.length : Int) := by omega
          obtain ⟨bl, off, hA, hbb, y0, y1, y2, y3, y4⟩ := ItemsAt.item HRB.out (Below.refl _ _) hlt
          have HS := hide (HST.out B[j] (List.getElem_mem hlt))
          generalize B[j] = y at *
          subst hA
          by_cases hk2 : y.k = 2
          case neg =>
            have bk : (y.k == 2) = false := beq_eq_false_iff_ne.2 hk2
            clear hk2
            by_cases hs : y.s = T.s
            case pos =>
              have bs : (y.s != T.s) = false := by simp [hs]
              clear hs
              go_wp2_with fail
              go_quiet (fail)
              go_wp2_with fail
              go_roundw
              case rel => exact ⟨j + 1, by go_num, by omega, below_drewN HB.out nq, HX.out, HRA.out, HRB.out⟩
              case measure => simp [intOf]; omega
            have bs : (y.s != T.s) = true := bne_iff_ne.2 hs
            clear hs
            go_wp2_with fail
            go_quiet (fail)
            go_wp2_with fail
            have hyB : ∀ w' : World, Below wr.heap.size wr w' → w'.cell? ⟨bl, off + j * 5, none⟩ = some (.int .i64 y.s) ∧ w'.cell? ⟨bl, off + j * 5 + 2, none⟩ = some (.int .u64 y.t) := fun w' h => ⟨(h.cell (p := ⟨bl, _, none⟩) hbb).trans y0, (h.cell (p := ⟨bl, _, none⟩) hbb).trans y2⟩
            have HYB := hide hyB; clear hyB
            go_region_held3 (fun w' => w'.cell? ⟨bl, off + j * 5, none⟩ = some (.int .i64 y.s) ∧ w'.cell? ⟨bl, off + j * 5 + 2, none⟩ = some (.int .u64 y.t)) ((refine HYB.out _ ?_; with_reducible (first | exact Below.drew (below_drewN (Below.refl _ _) _) | exact below_alloc (Below.drew (below_drewN (Below.refl _ _) _)) _ | exact below_alloc (below_drewN (Below.refl _ _) _) _ | exact BW.out | exact below_alloc BW.out _ | exact keep5 BW.out (Nat.le_refl _) | exact keep5 (below_alloc BW.out _) BW.out.size))) (first
              | (go_at_call 18; refine (Calls.mono (get_sl (w := World.alloc (World.drewN wr _) _) (Sl.mk_ (RowAt.below HRA.out (below_alloc (below_drewN (Below.refl wr.heap.size wr) _) _)) ha1 ha2) y.s y.t (by omega)) ?_); rintro e w8 ⟨rfl, hg8⟩; generalize getL y.s y.t A = G at *; generalize hasL y.s y.t A = hh at *; have BW := hide (below_step (below_alloc (below_drewN (Below.refl wr.heap.size wr) _) _) hg8); have hz := Eq.trans (hg8.block wr.heap.size (by simp)) (heap_alloc_new (World.drewN wr nq) (.cells #[.int .i64 0, .int .i64 0, .int .u64 0, .int .u64 0, .int .i64 0] 31)); have HZ := hide hz; obtain ⟨z0, z1, z2, z3, z4⟩ := box_item (x := ⟨0, 0, 0, 0, 0⟩) hz; dsimp only at z0 z1 z2 z3 z4; have hfz := row_free hz; clear hz hg8)
              | (go_at_call 18; refine (Calls.mono (get_sl (w := World.drewN wr _) (Sl.mk_ (RowAt.below HRA.out (below_drewN (Below.refl wr.heap.size wr) _)) ha1 ha2) y.s y.t (by omega)) ?_); rintro e w8 ⟨rfl, hg8⟩; generalize getL y.s y.t A = G at *; generalize hasL y.s y.t A = hh at *; have BW := hide (below_step (below_drewN (Below.refl wr.heap.size wr) _) hg8); clear hg8))
            · refine ex_name (fun W => Below wr.heap.size wr W) (below_alloc BW.out _) ?_
              intro W2 hbW2
              have HB2 := hide (below_step HB.out hbW2)
              have HX2 := hide ((hbW2.block w.heap.size hxl).trans HX.out)
              have HRA2 := hide (RowAt.below HRA.out hbW2); have HRB2 := hide (RowAt.below HRB.out hbW2)
              have y1 := (hbW2.cell (p := ⟨bl, _, none⟩) hbb).trans y1
              clear hbW2 HYB BW
              cases hh
              · go_wp2_with fail
                go_quiet (fail)
                go_wp2_with fail
                go_roundw
                case rel => exact ⟨j + 1, by go_num, by omega, below_drewN HB2.out _, HX2.out, HRA2.out, HRB2.out⟩
                case measure => simp [intOf]; omega
              · go_wp2_with fail
                go_quiet (fail)
                go_wp2_with fail
                go_roundw
                case rel => exact ⟨j + 1, by go_num, by omega, below_drewN HB2.out _, HX2.out, HRA2.out, HRB2.out⟩
                case measure => simp [intOf]; omega
            · refine ex_name (fun W => Below wr.heap.size wr W) (keep5 BW.out (Nat.le_refl _)) ?_
              intro W2 hbW2
              have HB2 := hide (below_step HB.out hbW2)
              have HX2 := hide ((hbW2.block w.heap.size hxl).trans HX.out)
              have HRA2 := hide (RowAt.below HRA.out hbW2); have HRB2 := hide (RowAt.below HRB.out hbW2)
              have y1 := (hbW2.cell (p := ⟨bl, _, none⟩) hbb).trans y1
              clear hbW2 HYB BW HZ
              cases hh
              · go_wp2_with fail
                go_quiet (fail)
                go_wp2_with fail
                go_roundw
                case rel => exact ⟨j + 1, by go_num, by omega, below_drewN HB2.out _, HX2.out, HRA2.out, HRB2.out⟩
                case measure => simp [intOf]; omega
              · go_wp2_with fail
                go_quiet (fail)
                go_wp2_with fail
                go_roundw
                case rel => exact ⟨j + 1, by go_num, by omega, below_drewN HB2.out _, HX2.out, HRA2.out, HRB2.out⟩
                case measure => simp [intOf]; omega
          have bk : (y.k == 2) = true := beq_iff_eq.2 hk2
          by_cases hs : y.s = T.s
          case pos =>
            have bs : (y.s != T.s) = false := by simp [hs]
            by_cases hv2 : T.v < y.v
            case neg =>
              have bv : decide (T.v < y.v) = false := decide_eq_false hv2
              clear hs hk2
              go_wp2_with fail
              go_quiet (fail)
              go_wp2_with fail
              go_roundw
              case rel => exact ⟨j + 1, by go_num, by omega, below_drewN HB.out nq, HX.out, HRA.out, HRB.out⟩
              case measure => simp [intOf]; omega
            have bv : decide (T.v < y.v) = true := decide_eq_true hv2
            have HG := hide (HS.out hk2 (.inr hv2))
            clear hs hk2
            go_wp2_with fail
            go_quiet (fail)
            go_wp2_with fail
            have hyB : ∀ w' : World, Below wr.heap.size wr w' → w'.cell? ⟨bl, off + j * 5, none⟩ = some (.int .i64 y.s) ∧ w'.cell? ⟨bl, off + j * 5 + 2, none⟩ = some (.int .u64 y.t) := fun w' h => ⟨(h.cell (p := ⟨bl, _, none⟩) hbb).trans y0, (h.cell (p := ⟨bl, _, none⟩) hbb).trans y2⟩
            have HYB := hide hyB; clear hyB
            go_region_held3 (fun w' => w'.cell? ⟨bl, off + j * 5, none⟩ = some (.int .i64 y.s) ∧ w'.cell? ⟨bl, off + j * 5 + 2, none⟩ = some (.int .u64 y.t)) ((refine HYB.out _ ?_; with_reducible (first | exact Below.drew (below_drewN (Below.refl _ _) _) | exact below_alloc (Below.drew (below_drewN (Below.refl _ _) _)) _ | exact below_alloc (below_drewN (Below.refl _ _) _) _ | exact BW.out | exact below_alloc BW.out _ | exact keep5 BW.out (Nat.le_refl _) | exact keep5 (below_alloc BW.out _) BW.out.size))) (first
              | (go_at_call 18; refine (Calls.mono (get_sl (w := World.alloc (World.drewN wr _) _) (Sl.mk_ (RowAt.below HRA.out (below_alloc (below_drewN (Below.refl wr.heap.size wr) _) _)) ha1 ha2) y.s y.t (by omega)) ?_); rintro e w8 ⟨rfl, hg8⟩; rw [HG.out.1, HG.out.2]; have BW := hide (below_step (below_alloc (below_drewN (Below.refl wr.heap.size wr) _) _) hg8); have hz := Eq.trans (hg8.block wr.heap.size (by simp)) (heap_alloc_new (World.drewN wr nq) (.cells #[.int .i64 0, .int .i64 0, .int .u64 0, .int .u64 0, .int .i64 0] 31)); have HZ := hide hz; obtain ⟨z0, z1, z2, z3, z4⟩ := box_item (x := ⟨0, 0, 0, 0, 0⟩) hz; dsimp only at z0 z1 z2 z3 z4; have hfz := row_free hz; clear hz hg8)
              | (go_at_call 18; refine (Calls.mono (get_sl (w := World.drewN wr _) (Sl.mk_ (RowAt.below HRA.out (below_drewN (Below.refl wr.heap.size wr) _)) ha1 ha2) y.s y.t (by omega)) ?_); rintro e w8 ⟨rfl, hg8⟩; rw [HG.out.1, HG.out.2]; have BW := hide (below_step (below_drewN (Below.refl wr.heap.size wr) _) hg8); clear hg8))
            · refine ex_name (fun W => Below wr.heap.size wr W ∧ W.heap[w8.heap.size]? = some (.cells y.cells.toArray 31 (0, 0))) ⟨below_alloc BW.out _, heap_alloc_new _ _⟩ ?_
              rintro W2 ⟨hbW2, hzW2⟩
              obtain ⟨z0, z1, z2, z3, z4⟩ := box_item hzW2
              clear hzW2
              have HB2 := hide (below_step HB.out hbW2)
              have HX2 := hide ((hbW2.block w.heap.size hxl).trans HX.out)
              have HRA2 := hide (RowAt.below HRA.out hbW2); have HRB2 := hide (RowAt.below HRB.out hbW2)
              have y0 := (hbW2.cell (p := ⟨bl, _, none⟩) hbb).trans y0
              have y1 := (hbW2.cell (p := ⟨bl, _, none⟩) hbb).trans y1
              have y2 := (hbW2.cell (p := ⟨bl, _, none⟩) hbb).trans y2
              have y3 := (hbW2.cell (p := ⟨bl, _, none⟩) hbb).trans y3
              have y4 := (hbW2.cell (p := ⟨bl, _, none⟩) hbb).trans y4
              clear hbW2 HYB BW
              have hq := run_eql_item y y
              rw [eqI_self] at hq
              go_wp2_with fail
              go_quiet (fail)
              go_wp2_with fail
              go_roundw
              case rel => exact ⟨j + 1, by go_num, by omega, below_drewN HB2.out _, HX2.out, HRA2.out, HRB2.out⟩
              case measure => simp [intOf]; omega
            · refine ex_name (fun W => Below wr.heap.size wr W ∧ W.heap[wr.heap.size]? = some (.cells y.cells.toArray 31 (0, 0))) ⟨keep5 BW.out (Nat.le_refl _), put_res y HZ.out⟩ ?_
              rintro W2 ⟨hbW2, hzW2⟩
              obtain ⟨z0, z1, z2, z3, z4⟩ := box_item hzW2
              clear hzW2
              have HB2 := hide (below_step HB.out hbW2)
              have HX2 := hide ((hbW2.block w.heap.size hxl).trans HX.out)
              have HRA2 := hide (RowAt.below HRA.out hbW2); have HRB2 := hide (RowAt.below HRB.out hbW2)
              have y0 := (hbW2.cell (p := ⟨bl, _, none⟩) hbb).trans y0
              have y1 := (hbW2.cell (p := ⟨bl, _, none⟩) hbb).trans y1
              have y2 := (hbW2.cell (p := ⟨bl, _, none⟩) hbb).trans y2
              have y3 := (hbW2.cell (p := ⟨bl, _, none⟩) hbb).trans y3
              have y4 := (hbW2.cell (p := ⟨bl, _, none⟩) hbb).trans y4
              clear hbW2 HYB BW HZ
              have hq := run_eql_item y y
              rw [eqI_self] at hq
              go_wp2_with fail
              go_quiet (fail)
              go_wp2_with fail
              go_roundw
              case rel => exact ⟨j + 1, by go_num, by omega, below_drewN HB2.out _, HX2.out, HRA2.out, HRB2.out⟩
              case measure => simp [intOf]; omega
          have bs : (y.s != T.s) = true := bne_iff_ne.2 hs
          have HG := hide (HS.out hk2 (.inl hs))
          clear hs hk2
          go_wp2_with fail
          go_quiet (fail)
          go_wp2_with fail
          have hyB : ∀ w' : World, Below wr.heap.size wr w' → w'.cell? ⟨bl, off + j * 5, none⟩ = some (.int .i64 y.s) ∧ w'.cell? ⟨bl, off + j * 5 + 2, none⟩ = some (.int .u64 y.t) := fun w' h => ⟨(h.cell (p := ⟨bl, _, none⟩) hbb).trans y0, (h.cell (p := ⟨bl, _, none⟩) hbb).trans y2⟩
          have HYB := hide hyB; clear hyB
          go_region_held3 (fun w' => w'.cell? ⟨bl, off + j * 5, none⟩ = some (.int .i64 y.s) ∧ w'.cell? ⟨bl, off + j * 5 + 2, none⟩ = some (.int .u64 y.t)) ((refine HYB.out _ ?_; with_reducible (first | exact Below.drew (below_drewN (Below.refl _ _) _) | exact below_alloc (Below.drew (below_drewN (Below.refl _ _) _)) _ | exact below_alloc (below_drewN (Below.refl _ _) _) _ | exact BW.out | exact below_alloc BW.out _ | exact keep5 BW.out (Nat.le_refl _) | exact keep5 (below_alloc BW.out _) BW.out.size))) (first
            | (go_at_call 18; refine (Calls.mono (get_sl (w := World.alloc (World.drewN wr _) _) (Sl.mk_ (RowAt.below HRA.out (below_alloc (below_drewN (Below.refl wr.heap.size wr) _) _)) ha1 ha2) y.s y.t (by omega)) ?_); rintro e w8 ⟨rfl, hg8⟩; rw [HG.out.1, HG.out.2]; have BW := hide (below_step (below_alloc (below_drewN (Below.refl wr.heap.size wr) _) _) hg8); have hz := Eq.trans (hg8.block wr.heap.size (by simp)) (heap_alloc_new (World.drewN wr nq) (.cells #[.int .i64 0, .int .i64 0, .int .u64 0, .int .u64 0, .int .i64 0] 31)); have HZ := hide hz; obtain ⟨z0, z1, z2, z3, z4⟩ := box_item (x := ⟨0, 0, 0, 0, 0⟩) hz; dsimp only at z0 z1 z2 z3 z4; have hfz := row_free hz; clear hz hg8)
            | (go_at_call 18; refine (Calls.mono (get_sl (w := World.drewN wr _) (Sl.mk_ (RowAt.below HRA.out (below_drewN (Below.refl wr.heap.size wr) _)) ha1 ha2) y.s y.t (by omega)) ?_); rintro e w8 ⟨rfl, hg8⟩; rw [HG.out.1, HG.out.2]; have BW := hide (below_step (below_drewN (Below.refl wr.heap.size wr) _) hg8); clear hg8))
          · refine ex_name (fun W => Below wr.heap.size wr W ∧ W.heap[w8.heap.size]? = some (.cells y.cells.toArray 31 (0, 0))) ⟨below_alloc BW.out _, heap_alloc_new _ _⟩ ?_
            rintro W2 ⟨hbW2, hzW2⟩
            obtain ⟨z0, z1, z2, z3, z4⟩ := box_item hzW2
            clear hzW2
            have HB2 := hide (below_step HB.out hbW2)
            have HX2 := hide ((hbW2.block w.heap.size hxl).trans HX.out)
            have HRA2 := hide (RowAt.below HRA.out hbW2); have HRB2 := hide (RowAt.below HRB.out hbW2)
            have y0 := (hbW2.cell (p := ⟨bl, _, none⟩) hbb).trans y0
            have y1 := (hbW2.cell (p := ⟨bl, _, none⟩) hbb).trans y1
            have y2 := (hbW2.cell (p := ⟨bl, _, none⟩) hbb).trans y2
            have y3 := (hbW2.cell (p := ⟨bl, _, none⟩) hbb).trans y3
            have y4 := (hbW2.cell (p := ⟨bl, _, none⟩) hbb).trans y4
            clear hbW2 HYB BW
            have hq := run_eql_item y y
            rw [eqI_self] at hq
            go_wp2_with fail
            go_quiet (fail)
            go_wp2_with fail
            go_roundw
            case rel => exact ⟨j + 1, by go_num, by omega, below_drewN HB2.out _, HX2.out, HRA2.out, HRB2.out⟩
            case measure => simp [intOf]; omega
          · refine ex_name (fun W => Below wr.heap.size wr W ∧ W.heap[wr.heap.size]? = some (.cells y.cells.toArray 31 (0, 0))) ⟨keep5 BW.out (Nat.le_refl _), put_res y HZ.out⟩ ?_
            rintro W2 ⟨hbW2, hzW2⟩
            obtain ⟨z0, z1, z2, z3, z4⟩ := box_item hzW2
            clear hzW2
            have HB2 := hide (below_step HB.out hbW2)
            have HX2 := hide ((hbW2.block w.heap.size hxl).trans HX.out)
            have HRA2 := hide (RowAt.below HRA.out hbW2); have HRB2 := hide (RowAt.below HRB.out hbW2)
            have y0 := (hbW2.cell (p := ⟨bl, _, none⟩) hbb).trans y0
            have y1 := (hbW2.cell (p := ⟨bl, _, none⟩) hbb).trans y1
            have y2 := (hbW2.cell (p := ⟨bl, _, none⟩) hbb).trans y2
            have y3 := (hbW2.cell (p := ⟨bl, _, none⟩) hbb).trans y3
            have y4 := (hbW2.cell (p := ⟨bl, _, none⟩) hbb).trans y4
            clear hbW2 HYB BW HZ
            have hq := run_eql_item y y
            rw [eqI_self] at hq
            go_wp2_with fail
            go_quiet (fail)
            go_wp2_with fail
            go_roundw
            case rel => exact ⟨j + 1, by go_num, by omega, below_drewN HB2.out _, HX2.out, HRA2.out, HRB2.out⟩
            case measure => simp [intOf]; omega
        · have hkn : ¬ (j : Int) < (B.length : Int) := by omega
          go_wp2_with fail
          refine (Calls.mono (awake_any _) ?_); rintro e w9 ⟨rfl, hg9⟩
          go_wp2_with fail
          go_ret
          exact ⟨rfl, below_step HB.out hg9⟩
end Go.Proofs.Ytbhfokfdijnhhaa.stateDeletes
