/- The walk of clepsydralaw22.FloorTells: it returns true. Conditions: the arguments are readable. -/
import Derived.Test.YtchkgmgechaflaaAllow

namespace Go.Proofs.Ytchkgmgechaflaa
open Go.ChangeShapes Go.WideShapes Go.ChangeAt Go.RowKit
def whenI (b : Bool) (x : Int) : Int := if b then x else 0
theorem pseal_any (fl c a l f : Int) (w : World) :
    Calls Try.prog 10 #[meta4 fl c a l, .int .u64 f] w fun e w' => e = .returned (.tuple #[meta4 (whenI (sealB f fl) f) (whenI (sealB f fl) c) (whenI (sealB f fl) a) (whenI (sealB f fl) l), .bool (sealB f fl)]) ∧ Below w.heap.size w w' := by
  cases h : sealB f fl
  · exact pseal_no fl c a l f w h
  · exact pseal_yes fl c a l f w h
theorem peven_any (fl c a l f now : Int) (w : World) :
    Calls Try.prog 12 #[meta4 fl c a l, .int .u64 f, .int .u64 now] w fun e w' => e = .returned (.tuple #[meta4 (whenI (evenB f fl c) fl) (whenI (evenB f fl c) f) (whenI (evenB f fl c) (capV now)) (whenI (evenB f fl c) l), .bool (evenB f fl c)]) ∧ Below w.heap.size w w' := by
  cases h : evenB f fl c
  · exact peven_no fl c a l f now w h
  · exact peven_yes fl c a l f now w h
theorem rseal_any (fl c a l f : Int) (w : World) :
    Calls Try.prog 15 #[meta4 fl c a l, .int .u64 f] w fun e w' => e = .returned (.tuple #[meta4 (whenI (sealB f fl) f) (whenI (sealB f fl) c) (whenI (sealB f fl) a) (whenI (sealB f fl) l), .bool (sealB f fl)]) ∧ Below w.heap.size w w' := by
  cases h : sealB f fl
  · exact rseal_no fl c a l f w h
  · exact rseal_yes fl c a l f w h
theorem reven_any (fl c a l f now : Int) (w : World) :
    Calls Try.prog 16 #[meta4 fl c a l, .int .u64 f, .int .u64 now] w fun e w' => e = .returned (.tuple #[meta4 (whenI (evenB f fl c) fl) (whenI (evenB f fl c) f) (whenI (evenB f fl c) (capV now)) (whenI (evenB f fl c) l), .bool (evenB f fl c)]) ∧ Below w.heap.size w w' := by
  cases h : evenB f fl c
  · exact reven_no fl c a l f now w h
  · exact reven_yes fl c a l f now w h
structure Me where
  f : Int
  c : Int
  a : Int
  l : Int
def Me.cells (m : Me) : List Value := [.int .u64 m.f, .int .u64 m.c, .int .u64 m.a, .int .u64 m.l]
def Me.wf (m : Me) : Prop := (0 ≤ m.f ∧ m.f ≤ 18446744073709551615) ∧ (0 ≤ m.c ∧ m.c ≤ 18446744073709551615) ∧ (0 ≤ m.a ∧ m.a ≤ 18446744073709551615) ∧ (0 ≤ m.l ∧ m.l ≤ 18446744073709551615)
section
variable {H : Type} {enc : TypeId × Value → H} {P : Program} {w : World} {base : Nat} {spare : Nat → Bool} {held : Bool}
theorem dec_meta {t : TypeId} {f0 f1 f2 f3 : Field} (hs : P.underlying t = some (.struct #[f0, f1, f2, f3])) (hone : Go.Deep.oneCellFields P #[f0, f1, f2, f3] = true) (hC : P.cellsOf t = 4)
    (h0 : P.underlying f0.type = some (.int .u64)) (h1 : P.underlying f1.type = some (.int .u64)) (h2 : P.underlying f2.type = some (.int .u64)) (h3 : P.underlying f3.type = some (.int .u64))
    (n : Nat) (cs : List Value) (x : DataW H × List MemPlace) (h : DataW.trod enc P w base spare held n t cs = some x) : ∃ a : Me, a.wf ∧ cs = a.cells := by
  obtain ⟨hl, hf⟩ := dec_fields hs hone (by simpa using hC) h
  obtain ⟨c0, m0, y0, e0, t0⟩ := hf 0 f0 rfl
  obtain ⟨c1, m1, y1, e1, t1⟩ := hf 1 f1 rfl
  obtain ⟨c2, m2, y2, e2, t2⟩ := hf 2 f2 rfl
  obtain ⟨c3, m3, y3, e3, t3⟩ := hf 3 f3 rfl
  obtain ⟨a0, r0, w0⟩ := dec_int h0 _ _ _ t0
  obtain ⟨a1, r1, w1⟩ := dec_int h1 _ _ _ t1
  obtain ⟨a2, r2, w2⟩ := dec_int h2 _ _ _ t2
  obtain ⟨a3, r3, w3⟩ := dec_int h3 _ _ _ t3
  refine ⟨⟨a0, a1, a2, a3⟩, ⟨bounds_u64 r0, bounds_u64 r1, bounds_u64 r2, bounds_u64 r3⟩, ?_⟩
  match cs, hl with
  | [d0, d1, d2, d3], _ =>
    simp at e0 e1 e2 e3 w0 w1 w2 w3
    subst e0 e1 e2 e3
    simp [Me.cells, w0, w1, w2, w3]
end
end Go.Proofs.Ytchkgmgechaflaa
namespace Go.Proofs.Ytchkgmgechaflaa.floorTells
open Go.ChangeShapes Go.WideShapes Go.ChangeAt Go.RowKit

set_option maxHeartbeats 1600000 in
set_option maxRecDepth 100000 in
theorem walk {w : World} (a0 : Me) (w0 : a0.wf) (A1 : Option Addr) (c1 : Nat) (L1 : List It) (lc1 : L1.length ≤ c1) (cm1 : c1 ≤ maxLen) (r1 : RowAt It.cells 5 w A1 L1) (w1 : ∀ a ∈ L1, a.wf)
    (a2 : Int) (w2 : (Lit.int .u64 a2).wf = true) (a3 : Int) (w3 : (Lit.int .u64 a3).wf = true) (a4 : Int) (w4 : (Lit.int .u64 a4).wf = true) :
    Calls Try.prog 7 #[.agg a0.cells.toArray, .slice A1 L1.length c1, .int .u64 a2, .int .u64 a3, .int .u64 a4] w fun e w' => e = .returned (.bool true) ∧ Below w.heap.size w w' := by
  obtain ⟨f, c, a, l⟩ := a0
  obtain ⟨bf, bc, ba, bl⟩ := w0
  simp only at bf bc ba bl
  have b2 := bounds_u64 w2
  have b3 := bounds_u64 w3
  have b4 := bounds_u64 w4
  unfold maxLen at cm1
  have HL := hide r1
  have hlen : L1.length ≤ 9223372036854775807 := by omega
  clear w1 w2 w3 w4 r1 cm1 lc1
  show Calls Try.prog 7 #[meta4 f c a l, .slice A1 L1.length c1, .int .u64 a2, .int .u64 a3, .int .u64 a4] w _
  have s1 := fun W => pseal_any f c a l a2 W
  have s2 := fun W => rseal_any f c a l a2 W
  generalize whenI (sealB a2 f) a2 = s_0 at *
  generalize whenI (sealB a2 f) c = s_1 at *
  generalize whenI (sealB a2 f) a = s_2 at *
  generalize whenI (sealB a2 f) l = s_3 at *
  generalize sealB a2 f = s_b at *
  have e1 := fun W => peven_any f c a l a2 a3 W
  have e2 := fun W => reven_any f c a l a2 a3 W
  generalize whenI (evenB a2 f c) f = e_0 at *
  generalize whenI (evenB a2 f c) a2 = e_1 at *
  generalize whenI (evenB a2 f c) (capV a3) = e_2 at *
  generalize whenI (evenB a2 f c) l = e_3 at *
  generalize evenB a2 f c = e_b at *
  have c1' := fun W => pcollect_any f c a l a3 a4 W (by omega) (by omega)
  have c2' := fun W => rcollect_any f c a l a3 a4 W (by omega) (by omega)
  generalize (if collects a a3 a4 then c else 0) = cc at *
  have f1 := fun W => fill_any f c a l a2 W
  have fe : fillB a2 f c = (a2 == f && decide (c < a2)) := by
    by_cases hx : a2 = f <;> simp [fillB, hx]
  rw [fe] at f1
  clear fe
  have S1 := hide s1
  have S2 := hide s2
  have E1 := hide e1
  have E2 := hide e2
  have C1 := hide c1'
  have C2 := hide c2'
  have F1 := f1
  clear s1 s2 e1 e2 c1' c2' f1
  by_cases hn : 100 < L1.length
  · go_enter Try.func7, Try.ntmps7
    go_wp2_with ((with_reducible refine (awake_ok _).mono ?_); rintro e w1 ⟨rfl, hg1⟩)
    go_returns
    exact ⟨by rfl, by repeat' (first | exact Below.refl _ _ | refine below_alloc ?_ _ | refine below_step ?_ (by assumption))⟩
  · cases hx : (a2 == f)
    all_goals
     rw [hx] at F1
     go_enter Try.func7, Try.ntmps7
     go_wp2_with (first
       | ((with_reducible refine (S1.out _).mono ?_); rintro e w1 ⟨rfl, hg1⟩; obtain ⟨hc1, hf1⟩ := bcell hg1; have z1_0 : w.heap.size < w1.heap.size := (by have hh := hg1.size; (try simp at hh); omega))
       | ((with_reducible refine (S2.out _).mono ?_); rintro e w2 ⟨rfl, hg2⟩; obtain ⟨hc2, hf2⟩ := bcell hg2; have z2_0 : w.heap.size < w2.heap.size := (by have hh := hg2.size; (try simp at hh); omega); have z2_o1 : w1.heap.size < w2.heap.size := (by have hh := hg2.size; (try simp at hh); omega))
       | ((with_reducible refine (E1.out _).mono ?_); rintro e w3 ⟨rfl, hg3⟩; obtain ⟨hc3, hf3⟩ := bcell hg3; have z3_0 : w.heap.size < w3.heap.size := (by have hh := hg3.size; (try simp at hh); omega); have z3_o1 : w1.heap.size < w3.heap.size := (by have hh := hg3.size; (try simp at hh); omega); have z3_o2 : w2.heap.size < w3.heap.size := (by have hh := hg3.size; (try simp at hh); omega))
       | ((with_reducible refine (E2.out _).mono ?_); rintro e w4 ⟨rfl, hg4⟩; obtain ⟨hc4, hf4⟩ := bcell hg4; have z4_0 : w.heap.size < w4.heap.size := (by have hh := hg4.size; (try simp at hh); omega); have z4_o1 : w1.heap.size < w4.heap.size := (by have hh := hg4.size; (try simp at hh); omega); have z4_o2 : w2.heap.size < w4.heap.size := (by have hh := hg4.size; (try simp at hh); omega); have z4_o3 : w3.heap.size < w4.heap.size := (by have hh := hg4.size; (try simp at hh); omega)))
     have Z := hide (show w.heap.size < w1.heap.size ∧ w1.heap.size < w2.heap.size ∧ w2.heap.size < w3.heap.size ∧ w3.heap.size < w4.heap.size by (have g1 := hg1.size; have g2 := hg2.size; have g3 := hg3.size; have g4 := hg4.size; simp at g1 g2 g3 g4; omega))
     refine wp_name (fun W => Below w.heap.size w W ∧ w4.heap.size < W.heap.size ∧ W.cell? ⟨w.heap.size, 0, none⟩ = some (.int .u64 f) ∧ W.cell? ⟨w.heap.size, 1, none⟩ = some (.int .u64 c) ∧ W.cell? ⟨w.heap.size, 2, none⟩ = some (.int .u64 a) ∧ W.cell? ⟨w.heap.size, 3, none⟩ = some (.int .u64 l) ∧ W.cell? ⟨w1.heap.size, 0, none⟩ = some (.int .u64 s_0) ∧ W.cell? ⟨w1.heap.size, 1, none⟩ = some (.int .u64 s_1) ∧ W.cell? ⟨w1.heap.size, 2, none⟩ = some (.int .u64 s_2) ∧ W.cell? ⟨w1.heap.size, 3, none⟩ = some (.int .u64 s_3) ∧ W.cell? ⟨w2.heap.size, 0, none⟩ = some (.int .u64 s_0) ∧ W.cell? ⟨w2.heap.size, 1, none⟩ = some (.int .u64 s_1) ∧ W.cell? ⟨w2.heap.size, 2, none⟩ = some (.int .u64 s_2) ∧ W.cell? ⟨w2.heap.size, 3, none⟩ = some (.int .u64 s_3) ∧ W.cell? ⟨w3.heap.size, 0, none⟩ = some (.int .u64 e_0) ∧ W.cell? ⟨w3.heap.size, 1, none⟩ = some (.int .u64 e_1) ∧ W.cell? ⟨w3.heap.size, 2, none⟩ = some (.int .u64 e_2) ∧ W.cell? ⟨w3.heap.size, 3, none⟩ = some (.int .u64 e_3) ∧ W.cell? ⟨w4.heap.size, 0, none⟩ = some (.int .u64 e_0) ∧ W.cell? ⟨w4.heap.size, 1, none⟩ = some (.int .u64 e_1) ∧ W.cell? ⟨w4.heap.size, 2, none⟩ = some (.int .u64 e_2) ∧ W.cell? ⟨w4.heap.size, 3, none⟩ = some (.int .u64 e_3)) ?_ ?_
     · refine ⟨by repeat' (first | exact Below.refl _ _ | refine below_alloc ?_ _ | refine below_step ?_ (by assumption)), by simp, ?_, ?_, ?_, ?_, ?_, ?_, ?_, ?_, ?_, ?_, ?_, ?_, ?_, ?_, ?_, ?_, ?_, ?_, ?_, ?_⟩ <;> go_simp
     rintro W ⟨hb, hz, q0, q1, q2, q3, q4, q5, q6, q7, q8, q9, q10, q11, q12, q13, q14, q15, q16, q17, q18, q19⟩
     clear hg1 hg2 hg3 hg4 hc1 hc2 hc3 hc4 hf1 hf2 hf3 hf4
     have HQ := hide (HL.out.below hb)
     obtain ⟨y0, y1, y2, y3⟩ := Z.out
     have y0' : w.heap.size < W.heap.size := by omega
     have y1' : w1.heap.size < W.heap.size := by omega
     have y2' : w2.heap.size < W.heap.size := by omega
     have y3' : w3.heap.size < W.heap.size := by omega
     have r0 := fun s : Near W => s.cell q0 (by omega)
     have r1 := fun s : Near W => s.cell q1 (by omega)
     have r2 := fun s : Near W => s.cell q2 (by omega)
     have r3 := fun s : Near W => s.cell q3 (by omega)
     have r4 := fun s : Near W => s.cell q4 (by omega)
     have r5 := fun s : Near W => s.cell q5 (by omega)
     have r6 := fun s : Near W => s.cell q6 (by omega)
     have r7 := fun s : Near W => s.cell q7 (by omega)
     have r8 := fun s : Near W => s.cell q8 (by omega)
     have r9 := fun s : Near W => s.cell q9 (by omega)
     have r10 := fun s : Near W => s.cell q10 (by omega)
     have r11 := fun s : Near W => s.cell q11 (by omega)
     have r12 := fun s : Near W => s.cell q12 (by omega)
     have r13 := fun s : Near W => s.cell q13 (by omega)
     have r14 := fun s : Near W => s.cell q14 (by omega)
     have r15 := fun s : Near W => s.cell q15 (by omega)
     have r16 := fun s : Near W => s.cell q16 (by omega)
     have r17 := fun s : Near W => s.cell q17 (by omega)
     have r18 := fun s : Near W => s.cell q18 (by omega)
     have r19 := fun s : Near W => s.cell q19 (by omega)
     clear q0 q1 q2 q3 q4 q5 q6 q7 q8 q9 q10 q11 q12 q13 q14 q15 q16 q17 q18 q19
     dsimp only [List.append]
     refine wp_region_near (by kernel_rfl) (by kernel_rfl) ?_
     repeat (go_big_quiet_step (first
       | exact near_of (pok_any _ _ _ _ _)
       | exact near_of (rok_any _ _ _ _ _)
       | exact near_of (pallow_any _ _ _ _ _ _ _ _ hlen (HQ.out.below (Near.is _)))
       | exact near_of (rallow_any _ _ _ _ _ _ _ _ hlen (HQ.out.below (Near.is _)))
       | exact near_of (F1 _)
       | exact near_of (C1.out _)
       | exact near_of (C2.out _)
       | exact near_of (awake_ok _)))
     refine wpQuiet_nil ?_
     intro _ hw'
     obtain ⟨s, rfl⟩ := hw'
     go_wp2
     go_returns
     exact ⟨by rfl, below_step hb s.is⟩
end Go.Proofs.Ytchkgmgechaflaa.floorTells
