/- The walk of clepsydralaw22.FloorFills: it returns true. Conditions: the arguments are numbers of their kind. -/
import Derived.Test.YtchkgmgechaflaaFloor
namespace Go.Proofs.Ytchkgmgechaflaa.floorFills
open Go.ChangeShapes Go.WideShapes Go.ChangeAt Go.RowKit
set_option maxHeartbeats 1000000 in
set_option maxRecDepth 100000 in
theorem walk (a0 : Int) (w0 : (Lit.int .u64 a0).wf = true) (a1 : Int) (w1 : (Lit.int .u64 a1).wf = true) (a2 : Int) (w2 : (Lit.int .u64 a2).wf = true) (w : World) :
    Calls Try.prog 4 #[.int .u64 a0, .int .u64 a1, .int .u64 a2] w fun e w' => e = .returned (.bool true) ∧ Below w.heap.size w w' := by
  obtain ⟨b0, c0⟩ := bounds_u64 w0
  obtain ⟨b1, c1⟩ := bounds_u64 w1
  obtain ⟨b2, c2⟩ := bounds_u64 w2
  have e0 := and_mask a0 16 65535 (by omega) (by decide) b0 (by omega)
  have e1 := and_mask a1 16 65535 (by omega) (by decide) b1 (by omega)
  have e2 := and_mask a2 16 65535 (by omega) (by decide) b2 (by omega)
  generalize hx0 : a0 % 2 ^ 16 = x0 at e0
  generalize hx1 : a1 % 2 ^ 16 = x1 at e1
  generalize hx2 : a2 % 2 ^ 16 = x2 at e2
  have l0 : 0 ≤ x0 ∧ x0 < 65536 := by omega
  have l1 : 0 ≤ x1 ∧ x1 < 65536 := by omega
  have l2 : 0 ≤ x2 ∧ x2 < 65536 := by omega
  clear hx0 hx1 hx2 w0 w1 w2
  obtain ⟨F, hF⟩ : ∃ F, x0 + 1 = F := ⟨_, rfl⟩
  obtain ⟨M, hM⟩ : ∃ M, x1 + 1 = M := ⟨_, rfl⟩
  obtain ⟨G, hG⟩ : ∃ G, F + M = G := ⟨_, rfl⟩
  have lF : 1 ≤ F ∧ F ≤ 65536 := by omega
  have lM : 1 ≤ M ∧ M ≤ 65536 := by omega
  have lG : F < G ∧ G ≤ 131072 := by omega
  have v2 : capV x2 = x2 := if_neg (by omega)
  have HV := hide v2
  clear v2
  have k1 := fun W => pseal_yes 0 0 0 0 F W (decide_eq_true ⟨by omega, by omega, by omega⟩)
  have k2 := fun W => pseal_yes F 0 0 0 G W (decide_eq_true ⟨by omega, by omega, by omega⟩)
  have k3 := fun W => peven_yes F 0 0 0 F x2 W (decide_eq_true ⟨by omega, by omega⟩)
  have k4 := fun W => peven_yes G 0 0 0 F x2 W (decide_eq_true ⟨by omega, by omega⟩)
  have k5 := fun W => peven_no F F x2 0 F x2 W (decide_eq_false (by omega))
  have k6 := fun W => peven_no F 0 0 0 (F + 1) x2 W (decide_eq_false (by omega))
  have f1 : fillB F F 0 = true := decide_eq_true ⟨rfl, by omega⟩
  have f2 : fillB F G 0 = false := decide_eq_false (by omega)
  have f3 : fillB G G 0 = true := decide_eq_true ⟨rfl, by omega⟩
  have f4 : fillB F F F = false := decide_eq_false (by omega)
  have f5 : fillB G G F = true := decide_eq_true ⟨rfl, by omega⟩
  have q1 := fun W => fill_any F 0 0 0 F W
  have q2 := fun W => fill_any G 0 0 0 F W
  have q3 := fun W => fill_any G 0 0 0 G W
  have q4 := fun W => fill_any F F x2 0 F W
  have q5 := fun W => fill_any G F x2 0 G W
  rw [HV.out] at k3 k4
  rw [f1] at q1
  rw [f2] at q2
  rw [f3] at q3
  rw [f4] at q4
  rw [f5] at q5
  clear f1 f2 f3 f4 f5
  have K1 := hide k1
  have K2 := hide k2
  have K3 := hide k3
  have K4 := hide k4
  have K5 := hide k5
  have K6 := hide k6
  have Q1 := hide q1
  have Q2 := hide q2
  have Q3 := hide q3
  have Q4 := hide q4
  have Q5 := hide q5
  clear k1 k2 k3 k4 k5 k6 q1 q2 q3 q4 q5
  go_enter Try.func4, Try.ntmps4
  go_wp2_with (first
    | ((with_reducible refine (K1.out _).mono ?_); rintro e w1 ⟨rfl, hg1⟩; obtain ⟨hc1, hf1⟩ := bcell hg1)
    | ((with_reducible refine (Q1.out _).mono ?_); rintro e w2 ⟨rfl, hg2⟩; obtain ⟨hc2, hf2⟩ := bcell hg2; have z2_1 : w1.heap.size < w2.heap.size := (by have hh := hg2.size; (try simp at hh); omega))
    | ((with_reducible refine (K2.out _).mono ?_); rintro e w3 ⟨rfl, hg3⟩; obtain ⟨hc3, hf3⟩ := bcell hg3; have z3_1 : w1.heap.size < w3.heap.size := (by have hh := hg3.size; (try simp at hh); omega))
    | ((with_reducible refine (Q2.out _).mono ?_); rintro e w4 ⟨rfl, hg4⟩; obtain ⟨hc4, hf4⟩ := bcell hg4; have z4_1 : w1.heap.size < w4.heap.size := (by have hh := hg4.size; (try simp at hh); omega); have z4_3 : w3.heap.size < w4.heap.size := (by have hh := hg4.size; (try simp at hh); omega))
    | ((with_reducible refine (Q3.out _).mono ?_); rintro e w5 ⟨rfl, hg5⟩; obtain ⟨hc5, hf5⟩ := bcell hg5; have z5_1 : w1.heap.size < w5.heap.size := (by have hh := hg5.size; (try simp at hh); omega); have z5_3 : w3.heap.size < w5.heap.size := (by have hh := hg5.size; (try simp at hh); omega))
    | ((with_reducible refine (K3.out _).mono ?_); rintro e w6 ⟨rfl, hg6⟩; obtain ⟨hc6, hf6⟩ := bcell hg6; have z6_1 : w1.heap.size < w6.heap.size := (by have hh := hg6.size; (try simp at hh); omega); have z6_3 : w3.heap.size < w6.heap.size := (by have hh := hg6.size; (try simp at hh); omega))
    | ((with_reducible refine (Q4.out _).mono ?_); rintro e w7 ⟨rfl, hg7⟩; obtain ⟨hc7, hf7⟩ := bcell hg7; have z7_1 : w1.heap.size < w7.heap.size := (by have hh := hg7.size; (try simp at hh); omega); have z7_3 : w3.heap.size < w7.heap.size := (by have hh := hg7.size; (try simp at hh); omega); have z7_6 : w6.heap.size < w7.heap.size := (by have hh := hg7.size; (try simp at hh); omega))
    | ((with_reducible refine (K4.out _).mono ?_); rintro e w8 ⟨rfl, hg8⟩; obtain ⟨hc8, hf8⟩ := bcell hg8; have z8_1 : w1.heap.size < w8.heap.size := (by have hh := hg8.size; (try simp at hh); omega); have z8_3 : w3.heap.size < w8.heap.size := (by have hh := hg8.size; (try simp at hh); omega); have z8_6 : w6.heap.size < w8.heap.size := (by have hh := hg8.size; (try simp at hh); omega))
    | ((with_reducible refine (K5.out _).mono ?_); rintro e w9 ⟨rfl, hg9⟩; obtain ⟨hc9, hf9⟩ := bcell hg9; have z9_1 : w1.heap.size < w9.heap.size := (by have hh := hg9.size; (try simp at hh); omega); have z9_3 : w3.heap.size < w9.heap.size := (by have hh := hg9.size; (try simp at hh); omega); have z9_6 : w6.heap.size < w9.heap.size := (by have hh := hg9.size; (try simp at hh); omega); have z9_8 : w8.heap.size < w9.heap.size := (by have hh := hg9.size; (try simp at hh); omega))
    | ((with_reducible refine (K6.out _).mono ?_); rintro e w10 ⟨rfl, hg10⟩; obtain ⟨hc10, hf10⟩ := bcell hg10; have z10_1 : w1.heap.size < w10.heap.size := (by have hh := hg10.size; (try simp at hh); omega); have z10_3 : w3.heap.size < w10.heap.size := (by have hh := hg10.size; (try simp at hh); omega); have z10_6 : w6.heap.size < w10.heap.size := (by have hh := hg10.size; (try simp at hh); omega); have z10_8 : w8.heap.size < w10.heap.size := (by have hh := hg10.size; (try simp at hh); omega); have z10_9 : w9.heap.size < w10.heap.size := (by have hh := hg10.size; (try simp at hh); omega))
    | ((with_reducible refine (Q5.out _).mono ?_); rintro e w11 ⟨rfl, hg11⟩; obtain ⟨hc11, hf11⟩ := bcell hg11; have z11_1 : w1.heap.size < w11.heap.size := (by have hh := hg11.size; (try simp at hh); omega); have z11_3 : w3.heap.size < w11.heap.size := (by have hh := hg11.size; (try simp at hh); omega); have z11_6 : w6.heap.size < w11.heap.size := (by have hh := hg11.size; (try simp at hh); omega); have z11_8 : w8.heap.size < w11.heap.size := (by have hh := hg11.size; (try simp at hh); omega); have z11_9 : w9.heap.size < w11.heap.size := (by have hh := hg11.size; (try simp at hh); omega); have z11_10 : w10.heap.size < w11.heap.size := (by have hh := hg11.size; (try simp at hh); omega))
    | ((with_reducible refine (awake_ok _).mono ?_); rintro e w12 ⟨rfl, hg12⟩; obtain ⟨hc12, hf12⟩ := bcell hg12; have z12_1 : w1.heap.size < w12.heap.size := (by have hh := hg12.size; (try simp at hh); omega); have z12_3 : w3.heap.size < w12.heap.size := (by have hh := hg12.size; (try simp at hh); omega); have z12_6 : w6.heap.size < w12.heap.size := (by have hh := hg12.size; (try simp at hh); omega); have z12_8 : w8.heap.size < w12.heap.size := (by have hh := hg12.size; (try simp at hh); omega); have z12_9 : w9.heap.size < w12.heap.size := (by have hh := hg12.size; (try simp at hh); omega); have z12_10 : w10.heap.size < w12.heap.size := (by have hh := hg12.size; (try simp at hh); omega)))
  go_returns
  exact ⟨by rfl, by repeat' (first | exact Below.refl _ _ | refine below_alloc ?_ _ | refine below_step ?_ (by assumption))⟩
end Go.Proofs.Ytchkgmgechaflaa.floorFills
