/- The walk of clepsydralaw22.FloorRises: it returns true. Conditions: the arguments are readable. -/
import Derived.Test.YtchkgmgechaflaaAllow
import Derived.Deep.DeepCutAuto
import Derived.Deep.CutBlock
namespace Go.Proofs.Ytchkgmgechaflaa.floorRises
open Go.ChangeShapes Go.WideShapes Go.ChangeAt Go.RowKit

theorem allow_one (f : Int) (x : It) : allowB f [x] = !decide (x.v ≤ f) := by simp [allowB, anyI, lowB]

/-- What the round knows of a world: m's block B, the item's block B + 1, the copy's block D. -/
structure Keep (B D : Nat) (W : World) (f c a p q s v : Int) : Prop where
  sz : B + 1 < W.heap.size
  sd : D < W.heap.size
  nd : B + 1 < D
  m0 : W.cell? ⟨B, 0, none⟩ = some (.int .u64 f)
  m1 : W.cell? ⟨B, 1, none⟩ = some (.int .u64 c)
  m2 : W.cell? ⟨B, 2, none⟩ = some (.int .u64 a)
  m3 : W.cell? ⟨B, 3, none⟩ = some (.int .u64 0)
  mf : ∀ j, W.frozen? ⟨B, j, none⟩ = false
  d0 : W.cell? ⟨D, 0, none⟩ = some (.int .u64 p)
  d1 : W.cell? ⟨D, 1, none⟩ = some (.int .u64 q)
  d2 : W.cell? ⟨D, 2, none⟩ = some (.int .u64 s)
  d3 : W.cell? ⟨D, 3, none⟩ = some (.int .u64 0)
  q0 : W.cell? ⟨B + 1, 0, none⟩ = some (.int .i64 1)
  q1 : W.cell? ⟨B + 1, 1, none⟩ = some (.int .i64 2)
  q2 : W.cell? ⟨B + 1, 2, none⟩ = some (.int .u64 0)
  q3 : W.cell? ⟨B + 1, 3, none⟩ = some (.int .u64 v)
  q4 : W.cell? ⟨B + 1, 4, none⟩ = some (.int .i64 0)
theorem Keep.below {B D : Nat} {W W' : World} {f c a p q s v : Int} (h : Keep B D W f c a p q s v) (hb : Below W.heap.size W W') : Keep B D W' f c a p q s v := by
  have z := h.sz
  have zd := h.sd
  have key : ∀ b o u, b < W.heap.size → W.cell? ⟨b, o, none⟩ = some u → W'.cell? ⟨b, o, none⟩ = some u := fun b o u hlt hc => (hb.cell (p := ⟨b, o, none⟩) hlt).trans hc
  exact ⟨Nat.lt_of_lt_of_le z hb.size, Nat.lt_of_lt_of_le zd hb.size, h.nd, key _ _ _ (by omega) h.m0, key _ _ _ (by omega) h.m1, key _ _ _ (by omega) h.m2, key _ _ _ (by omega) h.m3,
    fun j => (hb.frozen (p := ⟨B, j, none⟩) (by show B < _; omega)).trans (h.mf j), key _ _ _ zd h.d0, key _ _ _ zd h.d1, key _ _ _ zd h.d2, key _ _ _ zd h.d3,
    key _ _ _ z h.q0, key _ _ _ z h.q1, key _ _ _ z h.q2, key _ _ _ z h.q3, key _ _ _ z h.q4⟩
theorem Keep.store {B D : Nat} {W : World} {f c a p q s v : Int} (h : Keep B D W f c a p q s v) (f' c' a' : Int) :
    Keep B D ((((W.setCell ⟨B, 0, none⟩ (.int .u64 f')).setCell ⟨B, 1, none⟩ (.int .u64 c')).setCell ⟨B, 2, none⟩ (.int .u64 a')).setCell ⟨B, 3, none⟩ (.int .u64 0)) f' c' a' p q s v := by
  have nd := h.nd
  have far : ∀ b o u, B ≠ b → W.cell? ⟨b, o, none⟩ = some u → ((((W.setCell ⟨B, 0, none⟩ (.int .u64 f')).setCell ⟨B, 1, none⟩ (.int .u64 c')).setCell ⟨B, 2, none⟩ (.int .u64 a')).setCell ⟨B, 3, none⟩ (.int .u64 0)).cell? ⟨b, o, none⟩ = some u :=
    fun b o u hb hc => set_blk hb (set_blk hb (set_blk hb (set_blk hb hc)))
  exact ⟨by simpa using h.sz, by simpa using h.sd, h.nd, set_off (by omega) (set_off (by omega) (set_off (by omega) (set_same h.m0))), set_off (by omega) (set_off (by omega) (set_same (set_off (by omega) h.m1))),
    set_off (by omega) (set_same (set_off (by omega) (set_off (by omega) h.m2))), set_same (set_off (by omega) (set_off (by omega) (set_off (by omega) h.m3))), fun j => by simpa using h.mf j,
    far _ _ _ (by omega) h.d0, far _ _ _ (by omega) h.d1, far _ _ _ (by omega) h.d2, far _ _ _ (by omega) h.d3, far _ _ _ (by omega) h.q0, far _ _ _ (by omega) h.q1, far _ _ _ (by omega) h.q2, far _ _ _ (by omega) h.q3, far _ _ _ (by omega) h.q4⟩
theorem Keep.row {B D : Nat} {W : World} {f c a p q s v : Int} (h : Keep B D W f c a p q s v) : ItemsAt W (some ⟨B + 1, 0, none⟩) [⟨1, 2, 0, v, 0⟩] :=
  item_row h.sz h.q0 h.q1 h.q2 h.q3 h.q4

theorem keep4 {w W : World} (h : Below w.heap.size w W) {x0 x1 x2 x3 : Value} : Below w.heap.size w ((((W.setCell ⟨w.heap.size, 0, none⟩ x0).setCell ⟨w.heap.size, 1, none⟩ x1).setCell ⟨w.heap.size, 2, none⟩ x2).setCell ⟨w.heap.size, 3, none⟩ x3) :=
  (((h.setCell (Nat.le_refl _) _).setCell (Nat.le_refl _) _).setCell (Nat.le_refl _) _).setCell (Nat.le_refl _) _

set_option maxHeartbeats 6400000 in
set_option maxRecDepth 100000 in
theorem walk {w : World} (A0 : Option Addr) (c0 : Nat) (L0 : List Int) (lc0 : L0.length ≤ c0) (cm0 : c0 ≤ maxLen) (r0 : RowAt (fun a => [.int .u64 a]) 1 w A0 L0) (w0 : ∀ a ∈ L0, (Lit.int .u64 a).wf = true)
    (A1 : Option Addr) (c1 : Nat) (L1 : List Bool) (lc1 : L1.length ≤ c1) (cm1 : c1 ≤ maxLen) (r1 : RowAt (fun a => [.bool a]) 1 w A1 L1)
    (a2 : Int) (w2 : (Lit.int .u64 a2).wf = true) :
    Calls Try.prog 5 #[.slice A0 L0.length c0, .slice A1 L1.length c1, .int .u64 a2] w fun e w' => e = .returned (.bool true) ∧ Below w.heap.size w w' := by
  have b2 := bounds_u64 w2
  unfold maxLen at cm0 cm1
  have e2 := and_mask a2 48 281474976710655 (by omega) (by decide) b2.1 (by omega)
  generalize hx2 : a2 % 2 ^ 48 = x2 at e2
  have l2 : 0 ≤ x2 ∧ x2 < 281474976710656 := by omega
  clear hx2 w2
  have R0 := hide r0
  have R1 := hide r1
  have W0 := hide w0
  clear r0 r1 w0
  go_enter Try.func5, Try.ntmps5
  go_wp2
  go_loopw [9, 10] (fun rf i wr => ∃ (k : Nat) (r : Bool) (f c a : Int), i = .int .i64 k ∧ k ≤ 60 ∧ rf = .bool r ∧ Below w.heap.size w wr ∧ w.heap.size + 1 < wr.heap.size ∧
      wr.cell? ⟨w.heap.size, 0, none⟩ = some (.int .u64 f) ∧ wr.cell? ⟨w.heap.size, 1, none⟩ = some (.int .u64 c) ∧ wr.cell? ⟨w.heap.size, 2, none⟩ = some (.int .u64 a) ∧ wr.cell? ⟨w.heap.size, 3, none⟩ = some (.int .u64 0) ∧
      (∀ j, wr.frozen? ⟨w.heap.size, j, none⟩ = false) ∧
      wr.cell? ⟨w.heap.size + 1, 0, none⟩ = some (.int .i64 1) ∧ wr.cell? ⟨w.heap.size + 1, 1, none⟩ = some (.int .i64 2) ∧ wr.cell? ⟨w.heap.size + 1, 2, none⟩ = some (.int .u64 0) ∧
      wr.cell? ⟨w.heap.size + 1, 3, none⟩ = some (.int .u64 (x2 + 1)) ∧ wr.cell? ⟨w.heap.size + 1, 4, none⟩ = some (.int .i64 0) ∧
      0 ≤ c ∧ c ≤ f ∧ f ≤ 255 ∧ 0 ≤ a ∧ a ≤ 60 ∧ (r = true → x2 + 1 ≤ f)) (fun _ i _ => 60 - (intOf i).toNat)
  case atStart => exact ⟨0, false, 0, 0, 0, rfl, by omega, rfl, by go_grown, by simp, by simp, by simp, by simp, by simp, by simp, by simp, by simp, by simp, by simp, by simp, by omega, by omega, by omega, by omega, by omega, by simp⟩
  case round =>
    obtain ⟨k, r, f, c, a, rfl, hk, rfl, hb, hz, m0, m1, m2, m3, mf, q0, q1, q2, q3, q4, i0, i1, i2, i3, i4, hr⟩ := hrel
    by_cases hlt : k < L0.length ∧ k < L1.length ∧ k < 60
    · obtain ⟨h0, h1, h2⟩ := hlt
      obtain ⟨b, off, rfl, hbb, z0⟩ := R0.out.one hb h0
      obtain ⟨b', off', rfl, hbb', z1⟩ := R1.out.one hb h1
      have hz0 : w.heap.size < wr.heap.size := by omega
      have n1 : ¬ wr.heap.size = w.heap.size := by omega
      have n2 : ¬ w.heap.size = wr.heap.size := by omega
      have n3 : ¬ w.heap.size + 1 = wr.heap.size := by omega
      have n4 : ¬ wr.heap.size = w.heap.size + 1 := by omega
      have hbw : b < wr.heap.size := Nat.lt_of_lt_of_le hbb hb.size
      have hbw' : b' < wr.heap.size := Nat.lt_of_lt_of_le hbb' hb.size
      have bl := bounds_u64 (W0.out L0[k] (List.getElem_mem _))
      have eg := and_mask L0[k] 8 255 (by omega) (by decide) bl.1 (by omega)
      generalize hxg : L0[k] % 2 ^ 8 = g at eg
      have lg : 0 ≤ g ∧ g ≤ 255 := by omega
      clear hxg
      have K0 : Hid (Keep w.heap.size wr.heap.size (wr.alloc (.cells #[.int .u64 f, .int .u64 c, .int .u64 a, .int .u64 0] 24)) f c a f c a (x2 + 1)) := by
        constructor <;> first | assumption | (go_simp; done) | (intro j; go_simp; done) | (simp; omega)
      have HR := hide hr
      have HB := hide hb
      clear hr
      have d60 : decide ((k : Int) < 60) = true := decide_eq_true (by omega)
      have dr1 : decide (k < L0.length) = true := decide_eq_true h0
      have dr2 : decide (k < L1.length) = true := decide_eq_true h1
      go_upto_if 45 with fail
      go_cut [13] (fun okv W => ∃ (ok : Bool) (f1 d1 a1 : Int), okv = .bool ok ∧ Below w.heap.size w W ∧ Keep w.heap.size wr.heap.size W f1 d1 a1 f c a (x2 + 1) ∧ (ok = true → f ≤ f1 ∧ f1 ≤ 255 ∧ c ≤ d1 ∧ d1 ≤ f1 ∧ 0 ≤ a1 ∧ a1 ≤ 60))
      case first =>
        cases hkind : L1[k]
        · rw [hkind] at z1
          have ck : capV (k : Int) = k := if_neg (by omega)
          cases hs : evenB g f c
          · have hsx := hs
            simp only [evenB, decide_eq_false_iff_not] at hsx
            have d12 : (decide (c < g) = false) ∨ (decide (c < g) = true ∧ decide (g ≤ f) = false) := by
              rcases Int.lt_or_le c g with hh | hh
              · exact .inr ⟨decide_eq_true hh, decide_eq_false (by omega)⟩
              · exact .inl (decide_eq_false (by omega))
            have HS := hide hs
            have CK := hide ck
            clear hs ck hsx
            rcases d12 with d1 | ⟨d1, d2⟩
            all_goals
              go_wp2_with ((with_reducible refine (peven_no _ _ _ _ _ _ _ HS.out).mono ?_); rintro e w1 ⟨rfl, hg1⟩; have k1 := hide (K0.out.below hg1); obtain ⟨sz1, sd1, nd1, m0', m1', m2', m3', mf', e0', e1', e2', e3', q0', q1', q2', q3', q4'⟩ := k1.out; have hb1 := hide (below_step (below_alloc HB.out _) hg1); clear hg1)
              go_meet
              exact ⟨false, 0, 0, 0, rfl, keep4 hb1.out, k1.out.store 0 0 0, by simp⟩
          · have hsx := hs
            simp only [evenB, decide_eq_true_eq] at hsx
            obtain ⟨s1, s2⟩ := hsx
            have d1 : decide (c < g) = true := decide_eq_true s1
            have d2 : decide (g ≤ f) = true := decide_eq_true s2
            have ey := fun W => peven_yes f c a 0 g k W hs
            rw [ck] at ey
            have EY := hide ey
            clear ck ey hs
            go_wp2_with ((with_reducible refine (EY.out _).mono ?_); rintro e w1 ⟨rfl, hg1⟩; have k1 := hide (K0.out.below hg1); obtain ⟨sz1, sd1, nd1, m0', m1', m2', m3', mf', e0', e1', e2', e3', q0', q1', q2', q3', q4'⟩ := k1.out; have hb1 := hide (below_step (below_alloc HB.out _) hg1); clear hg1)
            go_meet
            exact ⟨true, f, g, k, rfl, keep4 hb1.out, k1.out.store f g k, fun _ => by omega⟩
        · rw [hkind] at z1
          cases hs : sealB g f
          · have hsx := hs
            simp only [sealB, decide_eq_false_iff_not] at hsx
            have d12 : (decide (f ≤ g) = false) ∨ (decide (f ≤ g) = true ∧ decide (0 < g) = false) := by
              rcases Int.lt_or_le g f with hh | hh
              · exact .inl (decide_eq_false (by omega))
              · exact .inr ⟨decide_eq_true hh, decide_eq_false (by omega)⟩
            have HS := hide hs
            clear hs hsx
            rcases d12 with d1 | ⟨d1, d2⟩
            all_goals
              go_wp2_with ((with_reducible refine (pseal_no _ _ _ _ _ _ HS.out).mono ?_); rintro e w1 ⟨rfl, hg1⟩; have k1 := hide (K0.out.below hg1); obtain ⟨sz1, sd1, nd1, m0', m1', m2', m3', mf', e0', e1', e2', e3', q0', q1', q2', q3', q4'⟩ := k1.out; have hb1 := hide (below_step (below_alloc HB.out _) hg1); clear hg1)
              go_meet
              exact ⟨false, 0, 0, 0, rfl, keep4 hb1.out, k1.out.store 0 0 0, by simp⟩
          · have hsx := hs
            simp only [sealB, decide_eq_true_eq] at hsx
            obtain ⟨s1, s2, s3⟩ := hsx
            have d1 : decide (f ≤ g) = true := decide_eq_true s1
            have d2 : decide (0 < g) = true := decide_eq_true (by omega)
            have HS := hide hs
            clear hs
            go_wp2_with ((with_reducible refine (pseal_yes _ _ _ _ _ _ HS.out).mono ?_); rintro e w1 ⟨rfl, hg1⟩; have k1 := hide (K0.out.below hg1); obtain ⟨sz1, sd1, nd1, m0', m1', m2', m3', mf', e0', e1', e2', e3', q0', q1', q2', q3', q4'⟩ := k1.out; have hb1 := hide (below_step (below_alloc HB.out _) hg1); clear hg1)
            go_meet
            exact ⟨true, g, c, a, rfl, keep4 hb1.out, k1.out.store g c a, fun _ => by omega⟩
      case rest =>
        obtain ⟨ok, f1, d1, a1, rfl, hb1, hk1, hok⟩ := hcut
        go_upto_if 108 with fail
        go_cut [9] (fun rv W => rv = .bool r ∧ ∃ (f2 d2 a2 : Int), Below w.heap.size w W ∧ Keep w.heap.size wr.heap.size W f2 d2 a2 f c a (x2 + 1) ∧ f ≤ f2 ∧ f2 ≤ 255 ∧ c ≤ d2 ∧ d2 ≤ f2 ∧ 0 ≤ a2 ∧ a2 ≤ 60)
        case first =>
          have K1 := hide hk1
          have HB1 := hide hb1
          obtain ⟨sz1, sd1, nd1, m0', m1', m2', m3', mf', e0', e1', e2', e3', q0', q1', q2', q3', q4'⟩ := hk1
          clear hb1
          cases ok
          · go_wp2
            go_meet
            exact ⟨rfl, f, c, a, keep4 HB1.out, K1.out.store f c a, by omega⟩
          · have hok' := hok rfl
            go_wp2
            go_meet
            exact ⟨rfl, f1, d1, a1, HB1.out, K1.out, by omega⟩
        case rest =>
          obtain ⟨rfl, f2, d2, a3, hb2, hk2, j0, j1, j2, j3, j4, j5⟩ := hcut
          have t1 : decide (f2 < f) = false := decide_eq_false (by omega)
          have t2 : decide (d2 < c) = false := decide_eq_false (by omega)
          have t3 : decide (f2 < d2) = false := decide_eq_false (by omega)
          have ok := fun W => pok_any f2 d2 a3 0 W
          rw [show metaB f2 d2 a3 0 = true from decide_eq_true ⟨by omega, by omega, by omega, by omega⟩] at ok
          have OK := hide ok
          have al := fun W hL => pallow_any f2 d2 a3 0 (some ⟨w.heap.size + 1, 0, none⟩) 1 [⟨1, 2, 0, x2 + 1, 0⟩] W (by simp) hL
          rw [allow_one] at al
          simp only [List.length_cons, List.length_nil, Nat.zero_add] at al
          have hfin : (r = true ∧ decide (x2 + 1 ≤ f2) = true) ∨ (r = false ∧ decide (x2 + 1 ≤ f2) = true) ∨ (r = false ∧ decide (x2 + 1 ≤ f2) = false) := by
            cases r
            · rcases Int.lt_or_le f2 (x2 + 1) with hh | hh
              · exact .inr (.inr ⟨rfl, decide_eq_false (by omega)⟩)
              · exact .inr (.inl ⟨rfl, decide_eq_true hh⟩)
            · exact .inl ⟨rfl, decide_eq_true (by have := HR.out rfl; omega)⟩
          have fi := fun W => fill_any f2 d2 a3 0 g W
          have hfb : (fillB g f2 d2 = false) ∨ (fillB g f2 d2 = true ∧ (g != f2) = false ∧ decide (g ≤ d2) = false) := by
            cases hx : fillB g f2 d2
            · exact .inl rfl
            · simp only [fillB, decide_eq_true_eq] at hx
              exact .inr ⟨rfl, by simp [hx.1], decide_eq_false (by omega)⟩
          have HK := hide hk2
          have HB2 := hide hb2
          obtain ⟨sz1, sd1, nd1, m0', m1', m2', m3', mf', e0', e1', e2', e3', q0', q1', q2', q3', q4'⟩ := hk2
          clear ok hb2 m0 m1 m2 m3 mf q0 q1 q2 q3 q4 K0 HB hb hb1 hk1 hok
          rcases hfin with ⟨rfl, hlo⟩ | ⟨rfl, hlo⟩ | ⟨rfl, hlo⟩
          all_goals
            rw [hlo] at al
            have AL := hide al
            have HLO := hide hlo
            clear al hlo
            rcases hfb with hfb | ⟨hfb, hfb1, hfb2⟩
            all_goals
              rw [hfb] at fi
              have FI := hide fi
              clear fi hfb
              go_wp2_with (first
                | ((with_reducible refine (OK.out _).mono ?_); rintro e w2 ⟨rfl, hg2⟩; have k2 := hide (HK.out.below hg2); obtain ⟨sz1, sd1, nd1, m0', m1', m2', m3', mf', e0', e1', e2', e3', q0', q1', q2', q3', q4'⟩ := k2.out; have hh2 := hide (below_step HB2.out hg2); clear hg2)
                | ((with_reducible refine (AL.out _ k3.out.row).mono ?_); rintro e w4 ⟨rfl, hg4⟩; have k4 := hide (k3.out.below hg4); obtain ⟨sz1, sd1, nd1, m0', m1', m2', m3', mf', e0', e1', e2', e3', q0', q1', q2', q3', q4'⟩ := k4.out; have hh4 := hide (below_step hh3.out hg4); clear hg4)
                | ((with_reducible refine (AL.out _ k2.out.row).mono ?_); rintro e w3 ⟨rfl, hg3⟩; have k3 := hide (k2.out.below hg3); obtain ⟨sz1, sd1, nd1, m0', m1', m2', m3', mf', e0', e1', e2', e3', q0', q1', q2', q3', q4'⟩ := k3.out; have hh3 := hide (below_step hh2.out hg3); clear hg3)
                | ((with_reducible refine (FI.out _).mono ?_); rintro e w5 ⟨rfl, hg5⟩; have k5 := hide (k3.out.below hg5); have hh5 := hide (below_step hh3.out hg5); obtain ⟨sz1, sd1, nd1, m0', m1', m2', m3', mf', e0', e1', e2', e3', q0', q1', q2', q3', q4'⟩ := k5.out; clear hg5))
              go_roundw
              case rel => exact ⟨k + 1, _, f2, d2, a3, by go_num, by omega, rfl, hh5.out, k5.out.sz, k5.out.m0, k5.out.m1, k5.out.m2, k5.out.m3, k5.out.mf, k5.out.q0, k5.out.q1, k5.out.q2, k5.out.q3, k5.out.q4, by omega, by omega, by omega, by omega, by omega, by first | (intro _; have hx := HLO.out; simp at hx; omega) | simp⟩
              case measure => simp [intOf]; omega
    · have HB := hide hb
      have hz0 : w.heap.size < wr.heap.size := by omega
      have hx : (decide (k < L0.length) = false) ∨ (decide (k < L0.length) = true ∧ decide (k < L1.length) = false) ∨ (decide (k < L0.length) = true ∧ decide (k < L1.length) = true ∧ decide ((k : Int) < 60) = false) := by
        rcases Nat.lt_or_ge k L0.length with p | p
        · rcases Nat.lt_or_ge k L1.length with q | q
          · exact .inr (.inr ⟨decide_eq_true p, decide_eq_true q, decide_eq_false (by omega)⟩)
          · exact .inr (.inl ⟨decide_eq_true p, decide_eq_false (by omega)⟩)
        · exact .inl (decide_eq_false (by omega))
      have al := fun W => pallow_any f c a 0 none 0 [] W (by simp) RowAt.nil_
      rw [show allowB f [] = true from rfl] at al
      simp only [List.length_nil] at al
      have AL := hide al
      clear hlt hb al hr
      rcases hx with hx | ⟨hx, hx1⟩ | ⟨hx, hx1, hx2⟩
      all_goals
        go_wp2_with (first
          | ((with_reducible refine (AL.out _).mono ?_); rintro e w2 ⟨rfl, hg2⟩)
          | ((with_reducible refine (awake_ok _).mono ?_); rintro e w3 ⟨rfl, hg3⟩))
        go_returns
        exact ⟨by rfl, below_step (below_step HB.out hg2) hg3⟩
end Go.Proofs.Ytchkgmgechaflaa.floorRises
