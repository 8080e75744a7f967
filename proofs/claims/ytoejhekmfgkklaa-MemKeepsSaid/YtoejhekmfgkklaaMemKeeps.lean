/- The walk of clepsydralaw9.MemKeeps: it returns true. Conditions: the arguments are readable. -/
import Derived.Test.YtoejhekmfgkklaaMem2
import Derived.Test.YtoejhekmfgkklaaREq
import Derived.Test.YtoejhekmfgkklaaOg
import Derived.Test.YtoejhekmfgkklaaBits
namespace Go.Proofs.Ytoejhekmfgkklaa.memKeeps
set_option linter.unusedVariables false
set_option linter.unusedSimpArgs false
open Go.ChangeShapes Go.WideShapes Go.ChangeAt Go.RowKit

theorem MO.sets {S : Nat → Prop} {w0 w w' : World} {b p : Nat} {F : List Nd} {f : Bool} {n : Int} (h : MO w0 w b p F f n) (k : Sets S w w') (hS : ∀ c, MBlk b p F c → ¬ S c) (hB : ∀ c, S c → w0.heap.size ≤ c) : MO w0 w' b p F f n :=
  ⟨h.at_.sets k hS, h.own, Sets.below h.low k hB h.low.size⟩
theorem puts_pos {L : List It} (h : 0 < L.length) : 0 < (puts L []).length := by
  have ht := puts_top isTop_nil L
  obtain ⟨y, hy, hsy, _, hb⟩ := best_ex (L.reverse ++ []) L[0] (by simp)
  have := (ht.mem y).2 ⟨hy, fun z hz h => hb z hz (by unfold It.same at *; omega)⟩
  exact List.length_pos_of_mem this
/-- A slice of one's own, not empty: its block. -/
theorem og_block {base : Nat} {w : World} {v : Value} {L : List It} (h : Ow base w v L) (hL : 0 < L.length) :
    ∃ g c, v = .slice (some ⟨g, 0, none⟩) L.length c ∧ base ≤ g ∧ g < w.heap.size ∧ ItemsAt w (some ⟨g, 0, none⟩) L ∧ ∀ o, w.frozen? ⟨g, o, none⟩ = false := by
  have hs := h.sl
  rcases h.og with ⟨_, e⟩ | ⟨g, c, R, rfl, hb, hh, _⟩
  · subst e; simp at hL
  · obtain ⟨A, c', e, hr, _⟩ := hs
    injection e with e1 e2 e3
    subst e1
    exact ⟨g, c, rfl, hb, (Array.getElem?_eq_some_iff.1 hh).1, hr, free_at hh⟩

set_option maxRecDepth 100000 in
set_option maxHeartbeats 3200000 in
theorem walk {w : World} (A0 : Option Addr) (c0 : Nat) (L0 : List It) (lc0 : L0.length ≤ c0) (cm0 : c0 ≤ maxLen) (r0 : RowAt It.cells 5 w A0 L0) (w0 : ∀ a ∈ L0, a.wf)
    (a1 : Int) (w1 : (Lit.int .i64 a1).wf = true) :
    Calls Try.prog 4 #[.slice A0 L0.length c0, .int .i64 a1] w fun e w' => e = .returned (.bool true) ∧ Below w.heap.size w w' := by
  have R0 := hide r0
  have W0 := hide w0
  have b1 := bounds_i64 w1
  clear r0 w0 lc0 cm0 w1
  by_cases h0 : L0.length = 0
  case pos =>
    have hz : L0 = [] := List.eq_nil_of_length_eq_zero h0
    subst hz
    go_enter Try.func4, Try.ntmps4
    go_wp2_with fail
    refine (Calls.mono (new_mo _) ?_); rintro e w1 ⟨b, p, H, rfl, hx⟩
    have HX := hide hx
    clear hx
    go_wp2_with fail
    refine (Calls.mono (awake9_any _) ?_); rintro e w2 ⟨rfl, hb⟩
    have HB := hide (below_step HX.out.low hb)
    clear hb
    go_wp2_with fail
    go_ret
    exact ⟨rfl, HB.out⟩
  have d0 : ((L0.length : Int) == 0) = false := beq_eq_false_iff_ne.2 (by omega)
  by_cases h1 : 60 < L0.length
  case pos =>
    have d1 : (60 : Int) < (L0.length : Int) := by omega
    go_enter Try.func4, Try.ntmps4
    go_wp2_with fail
    refine (Calls.mono (new_mo _) ?_); rintro e w1 ⟨b, p, H, rfl, hx⟩
    have HX := hide hx
    clear hx
    go_wp2_with fail
    refine (Calls.mono (awake9_any _) ?_); rintro e w2 ⟨rfl, hb⟩
    have HB := hide (below_step HX.out.low hb)
    clear hb
    go_wp2_with fail
    go_ret
    exact ⟨rfl, HB.out⟩
  have d1 : decide (60 < (L0.length : Int)) = false := decide_eq_false (by omega)
  go_enter Try.func4, Try.ntmps4
  go_wp2_with fail
  refine (Calls.mono (new_mo _) ?_); rintro e w1 ⟨b, p, H, rfl, hx⟩
  have HX := hide hx
  have HOE := hide (own_empty It.cells 5 24 w1.heap.size w1 (Nat.le_refl _))
  have hb1 := below_alloc (Below.refl w1.heap.size w1) (.cells #[] 24)
  have HR0 := hide ((R0.out.below hx.low).below hb1)
  have HB1 := hide hb1
  have hz1 := hb1.size
  clear hx hb1
  go_wp2_with (at_builtin; refine wpList_append_items rfl (.tmp 28) (.tmp 29) rfl w1.heap.size w1.heap.size w1 _ _ [] A0 L0.length c0 L0 rfl rfl rfl HR0.out HOE.out HB1.out (Nat.le_refl _) hz1 (by simp only [List.length_nil]; omega) ?_; intro v2 w2 ho2 hb2 hg2; have HO2 := hide ho2; have HB2 := hide hb2; clear ho2 hb2 hg2)
  rw [List.nil_append] at HO2
  obtain ⟨g, c2, rfl, hg1, hg2, hr2, hf2⟩ := og_block HO2.out (by omega)
  have HM2 := hide (HX.out.below HB2.out)
  have HR2 := hide hr2
  have hzw := HX.out.low.size
  have HNB : Hid (¬ MBlk b p [H] g) := hide (fun hc => by have := HX.out.at_.lt _ hc; omega)
  have HF2 := hide hf2
  clear hr2 hf2 HO2 HB2 HX HOE HB1 HR0 hz1
  refine (Calls.mono (apply_mo HM2.out (some ⟨g, 0, none⟩) c2 L0 HR2.out W0.out (by simp only [List.length_singleton]; omega) (fun a ha _ => by obtain rfl := Option.some.inj ha; exact HNB.out)) ?_); rintro e w3 ⟨F, n, rfl, hm, hi, hl, _, hs, ho⟩
  have hgm : ¬ MBlk b p F g := fun hc => by
    rcases ho g hc with e | e
    · exact HNB.out e
    · omega
  have hlF := hm.len_its
  have HG3 := hide (fun o => (World.frozen?_of_block (a := ⟨g, o, none⟩) (hs.block g hg2 HNB.out)).trans (HF2.out o))
  have HR3 := hide (HR2.out.sets hs (fun a ha _ => by obtain rfl := Option.some.inj ha; exact HNB.out))
  have hg3 : g < w3.heap.size := Nat.lt_of_lt_of_le hg2 hs.size
  have HM3 := hide hm
  have HI3 := hide hi
  have HGM := hide hgm
  have hlF2 : F.length ≤ 61 := by simp only [List.length_singleton] at hl; omega
  have hgw : w.heap.size ≤ g := by omega
  clear hm hi hl hs ho hgm HF2 HR2 HNB HM2 hg2
  cases hb0 : anyI (fun x => !goodB x) L0 with
  | true =>
    have he : apE false L0 = 1 := by unfold apE; simp [hb0]
    have hit : itsF F = [] := by rw [HI3.out]; unfold apL; rw [he]; rfl
    have HLN := hide (mlen_any _ _ _ _ _ _ HM3.out.at_)
    rw [hit] at hlF
    rw [hlF] at HLN
    rw [he]
    clear he hit hlF hb0
    go_wp2_with fail
    refine (Calls.mono HLN.out ?_); rintro e w4 ⟨rfl, rfl⟩
    go_wp2_with fail
    refine (Calls.mono (awake9_any _) ?_); rintro e w5 ⟨rfl, hb⟩
    have HB := hide (below_step HM3.out.low hb)
    clear hb
    go_wp2_with fail
    go_ret
    exact ⟨rfl, HB.out⟩
  | false =>
    have he : apE false L0 = 0 := by unfold apE; simp [hb0]
    have hpos : 0 < (itsF F).length := by
      rw [HI3.out]
      unfold apL
      rw [if_pos he]
      exact puts_pos (by omega)
    have hpl : (itsF F).length ≤ 61 := by omega
    rw [he]
    clear he hlF hb0 HI3
    go_wp2_with fail
    refine (Calls.mono (mitems_any _ _ F _ _ _ HM3.out.at_ (by omega)) ?_); rintro e w4 ⟨v1, rfl, ho, hb⟩
    obtain ⟨A4, c4, rfl, hr4, hlow4, hc4, hcm4⟩ := OwnL.row It.cells_len ho
    have hl4 : ∀ a, A4 = some a → w3.heap.size ≤ a.block ∧ a.block < w4.heap.size := fun a ha => by
      obtain ⟨ab, ao, asx⟩ := a
      exact hlow4 ab ao asx ha
    have HL4 := hide hl4
    have HR4 := hide hr4
    have HM4 := hide (HM3.out.below hb)
    obtain ⟨m, hm, hm0, hm1⟩ : ∃ m : Int, bits .and .i64 a1 255 = m ∧ 0 ≤ m ∧ m ≤ 255 := ⟨_, rfl, by rw [and_mask_i64 a1 8 255 (by omega) (by decide)]; omega⟩
    obtain ⟨k, hk⟩ : ∃ k : Nat, m % (L0.length : Int) = k := ⟨(m % (L0.length : Int)).toNat, (Int.toNat_of_nonneg (Int.emod_nonneg _ (by omega))).symm⟩
    have hkl : k < L0.length := by have := Int.emod_lt_of_pos m (show 0 < (L0.length : Int) by omega); omega
    obtain ⟨b', off, he, hbb, x0, x1, x2, x3, x4⟩ := ItemsAt.item HR3.out hb hkl
    obtain ⟨rfl, rfl⟩ : g = b' ∧ 0 = off := by injection he with h; injection h; exact ⟨by assumption, by assumption⟩
    simp only [Nat.zero_add] at x0 x1 x2 x3 x4
    have f0 := fun o => (hb.frozen (p := ⟨g, o, none⟩) hg3).trans (HG3.out o)
    have hg4 : g < w4.heap.size := Nat.lt_of_lt_of_le hg3 hb.size
    have hwf := W0.out L0[k] (List.getElem_mem _)
    generalize L0[k] = x at *
    clear he hl4 hr4 hlow4 ho hb HR3 HG3 HM3
    go_wp2_with fail
    obtain ⟨u1, hu1⟩ : ∃ u, Value.int IntKind.i64 (wrap64 (x.x + 1)) = u := ⟨_, rfl⟩
    obtain ⟨u2, hu2⟩ : ∃ u, Value.int IntKind.i64 (bits .xor .i64 x.s 1) = u := ⟨_, rfl⟩
    rw [hu1, hu2]
    clear hu1 hu2 x0 x1 x2 x3 x4 f0 hwf
    have hst : Sets (fun c => c = g) w4 ((w4.setCell ⟨g, k * 5 + 4, none⟩ u1).setCell ⟨g, k * 5, none⟩ u2) := ((Sets.refl (S := fun c => c = g) w4).set (g := g) (fun _ => rfl) _ _).set (g := g) (fun _ => rfl) _ _
    obtain ⟨w5, hw5⟩ : ∃ w5, (w4.setCell ⟨g, k * 5 + 4, none⟩ u1).setCell ⟨g, k * 5, none⟩ u2 = w5 := ⟨_, rfl⟩
    have hz5 : w5.heap.size = w4.heap.size := by rw [← hw5]; simp
    rw [hw5] at hst ⊢
    have HM5 := hide (MO.sets HM4.out hst (fun c hc e => HGM.out (e ▸ hc)) (fun c e => e ▸ hgw))
    have HR5 := hide (ItemsAt.sets HR4.out hst (fun a ha _ e => by have := (HL4.out a ha).1; omega))
    clear hst hw5 HM4 HR4
    refine (Calls.mono (mitems_any _ _ F _ _ _ HM5.out.at_ (by omega)) ?_); rintro e w6 ⟨v2, rfl, ho, hb⟩
    obtain ⟨g2, c6, rfl, h1, h2, hr, hf⟩ := og_block ho hpos
    have HM6 := hide (HM5.out.below hb)
    have HR6 := hide (HR5.out.below hb)
    have HN2 : Hid (¬ MBlk b p F g2) := hide (fun hc => by have := HM5.out.at_.lt _ hc; omega)
    obtain ⟨b', off, he, hbb, x0, x1, x2, x3, x4⟩ := ItemsAt.item hr (Below.refl _ _) hpos
    obtain ⟨rfl, rfl⟩ : g2 = b' ∧ 0 = off := by injection he with h; injection h; exact ⟨by assumption, by assumption⟩
    have f3 := hf 3
    simp only [Nat.zero_add, Nat.zero_mul] at x0 x1 x2 x3 x4
    have hw2 : w.heap.size ≤ g2 := by have := HM5.out.low.size; omega
    have hn0 : (((itsF F).length : Int) == 0) = false := beq_eq_false_iff_ne.2 (by omega)
    have hp1 : (0 : Int) < ((itsF F).length : Int) := by omega
    have HE := hide (show eqL (itsF F) (itsF F) = true from eqL_iff.2 rfl)
    generalize (itsF F)[0] = y at *
    have hl1 : (itsF F).length ≤ 4611686018427387904 := by omega
    generalize hIF : itsF F = I at *
    have HIF := hide hIF
    clear hIF
    clear he hr hf ho hb HM5 HR5 x0 x1 x2 x4
    go_wp2_with fail
    obtain ⟨u3, hu3⟩ : ∃ u, Value.int IntKind.u64 (IntKind.u64.wrap (y.v + 1)) = u := ⟨_, rfl⟩
    rw [hu3]
    clear hu3 x3 f3
    have hst : Sets (fun c => c = g2) w6 (w6.setCell ⟨g2, 3, none⟩ u3) := (Sets.refl (S := fun c => c = g2) w6).set (g := g2) (fun _ => rfl) _ _
    obtain ⟨w7, hw7⟩ : ∃ w7, w6.setCell ⟨g2, 3, none⟩ u3 = w7 := ⟨_, rfl⟩
    rw [hw7] at hst ⊢
    have HM7 := hide (MO.sets HM6.out hst (fun c hc e => HN2.out (e ▸ hc)) (fun c e => e ▸ hw2))
    have HR7 := hide (ItemsAt.sets HR6.out hst (fun a ha _ e => by have := (HL4.out a ha).2; omega))
    clear hst hw7 HM6 HR6
    have hmi := mitems_any _ _ F _ _ _ HM7.out.at_ (by omega)
    rw [HIF.out] at hmi
    refine (Calls.mono hmi ?_); rintro e w8 ⟨v3, rfl, ho, hb⟩
    obtain ⟨A8, c8, rfl, hr8, _, _⟩ := ho.sl
    have HB8 := hide (HM7.out.below hb).low
    have HR8 := hide hr8
    have HR9 := hide (HR7.out.below hb)
    clear ho hb hmi hr8 HM7 HR7
    go_wp2_with fail
    refine (Calls.mono (requal_any A8 A4 c8 c4 I I _ HR8.out HR9.out hl1 hl1) ?_); rintro e w9 ⟨rfl, hb⟩
    rw [HE.out]
    have HB9 := hide (below_step HB8.out hb)
    clear hb
    go_wp2_with fail
    refine (Calls.mono (awake9_any _) ?_); rintro e w10 ⟨rfl, hb⟩
    have HB10 := hide (below_step HB9.out hb)
    clear hb
    go_wp2_with fail
    go_ret
    exact ⟨rfl, HB10.out⟩
end Go.Proofs.Ytoejhekmfgkklaa.memKeeps
