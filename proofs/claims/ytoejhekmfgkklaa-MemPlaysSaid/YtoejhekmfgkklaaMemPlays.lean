/- The walk of clepsydralaw9.MemPlays: it returns true. Conditions: the arguments are readable. -/
import Derived.Test.YtoejhekmfgkklaaMemP
import Derived.Test.YtoejhekmfgkklaaREq
import Derived.Test.YtoejhekmfgkklaaBits
namespace Go.Proofs.Ytoejhekmfgkklaa.memPlays
set_option linter.unusedVariables false
set_option linter.unusedSimpArgs false
open Go.ChangeShapes Go.WideShapes Go.ChangeAt Go.RowKit

abbrev bad (x : It) : Bool := !goodB x
theorem one_at {w : World} {b o : Nat} {L : List It} (h : ItemsAt w (some ⟨b, o, none⟩) L) {k : Nat} (hk : k < L.length) : ItemsAt w (some ⟨b, o + k * 5, none⟩) [L[k]] := fun _ => by
  obtain ⟨b', o', e, hlt, hc⟩ := h (List.ne_nil_of_length_pos (by omega))
  obtain ⟨rfl, rfl⟩ : b = b' ∧ o = o' := by injection e with h; injection h; exact ⟨by assumption, by assumption⟩
  refine ⟨b, o + k * 5, rfl, hlt, fun i hi j u hu => ?_⟩
  obtain rfl : i = 0 := by simpa using hi
  have := hc k hk j u hu
  simpa using this
theorem bad_snoc {L : List It} {k : Nat} (hk : k < L.length) : anyI bad (L.take (k + 1)) = (anyI bad (L.take k) || bad L[k]) := by
  unfold anyI
  rw [List.take_succ_eq_append_getElem hk, List.any_append]
  simp

set_option maxRecDepth 100000 in
set_option maxHeartbeats 6400000 in
theorem walk {w : World} (A0 : Option Addr) (c0 : Nat) (L0 : List (Sv It)) (lc0 : L0.length ≤ c0) (cm0 : c0 ≤ maxLen) (r0 : RowAt (fun s => [s.val]) 1 w A0 L0) (w0 : ∀ s ∈ L0, Sv.good It.cells 5 It.wf w s)
    (a1 : Int) (w1 : (Lit.int .i64 a1).wf = true) :
    Calls Try.prog 5 #[.slice A0 L0.length c0, .int .i64 a1] w fun e w' => e = .returned (.bool true) ∧ Below w.heap.size w w' := by
  have R0 := hide r0
  have W0 := hide w0
  have b1 := bounds_i64 w1
  clear r0 w0 lc0 w1
  unfold maxLen at cm0
  obtain ⟨z, hz, hz0, hz1⟩ : ∃ z : Int, bits .and .i64 a1 31 = z ∧ 0 ≤ z ∧ z ≤ 31 := ⟨_, rfl, by rw [and_mask_i64 a1 5 31 (by omega) (by decide)]; omega⟩
  go_enter Try.func5, Try.ntmps5
  go_wp2_with fail
  refine (Calls.mono (new_mo _) ?_); rintro e w1 ⟨b, p, H, rfl, hm⟩
  have HM := hide hm
  clear hm
  go_wp2_with fail
  refine (Calls.mono (awake9_any _) ?_); rintro e w2 ⟨rfl, hb⟩
  have HP : Hid (MP w w2 b p [H] false (.slice none 0 0) []) := hide ⟨by simpa using HM.out.below hb, rfl, ⟨none, 0, rfl, RowAt.nil_, fun a ha => by cases ha⟩, Rising.nil_⟩
  clear hb HM
  go_wp2_with fail
  go_loopw [6, 7] (fun v i wr => ∃ (k : Nat) (F : List Nd) (W : List It), i = .int .i64 k ∧ k ≤ L0.length ∧ k ≤ 20 ∧ W.length ≤ 60 * k ∧ MP w wr b p F (decide (z < k)) v W) (fun _ i _ => 20 - (intOf i).toNat)
  case atStart => exact ⟨0, [H], [], rfl, by omega, by omega, by simp, by rw [show decide (z < ((0 : Nat) : Int)) = false from decide_eq_false (by simp; omega)]; exact HP.out⟩
  case round =>
    clear HP
    obtain ⟨k, F, W, rfl, hk0, hk20, hlW, hm⟩ := hrel
    have HM := hide hm
    have HB := hide hm.mo.low
    clear hm
    by_cases hlt : k < L0.length ∧ k < 20
    · obtain ⟨h0, h1⟩ := hlt
      have h0I : (k : Int) < (L0.length : Int) := by omega
      have h1I : (k : Int) < 20 := by omega
      obtain ⟨b0, off, rfl, hbb, hcr⟩ := R0.out.at_ h0
      have hgood := W0.out L0[k] (List.getElem_mem h0)
      have hc0 : w.cell? ⟨b0, off + k, none⟩ = some (L0[k]).val := by simpa using hcr k h0 0 _ rfl
      generalize L0[k] = s at *
      obtain ⟨Ai, ci, Li⟩ := s
      obtain ⟨hlc, hcm, hrow, hok⟩ := hgood
      simp only at hlc hcm hrow hok
      unfold maxLen at hcm
      have hc1 : w.cell? ⟨b0, off + k, none⟩ = some (.slice Ai Li.length ci) := hc0
      have HC : Hid (∀ V : World, Below w.heap.size w V → V.cell? ⟨b0, off + k, none⟩ = some (.slice Ai Li.length ci)) := hide (fun V hV => (hV.cell (p := ⟨b0, _, none⟩) hbb).trans hc1)
      have HLI := hide hrow
      have HWF := hide hok
      have HOB : Hid (∀ a, Ai = some a → Li ≠ [] → a.block < w.heap.size) := hide (old_block hrow)
      clear hcr hc0 hc1 hrow hok
      have hcw := HC.out _ HB.out
      by_cases h60 : 60 < Li.length
      · have h60I : (60 : Int) < (Li.length : Int) := by omega
        clear HC HLI HWF HOB HM
        go_wp2_with fail
        go_ret
        exact ⟨rfl, HB.out⟩
      have h60I : ¬ (60 : Int) < (Li.length : Int) := by omega
      by_cases hzk : z < k
      · have hd : decide (z < (k : Int)) = true := decide_eq_true hzk
        rw [hd] at HM
        have he1 : (z == (k : Int)) = false := beq_eq_false_iff_ne.2 (by omega)
        have he2 : decide (z ≤ (k : Int)) = true := decide_eq_true (by omega)
        have he3 : z ≤ (k : Int) := by omega
        clear HB hd
        go_wp2_with fail
        obtain ⟨wb, rfl⟩ : ∃ wb, wb = wr := ⟨_, rfl⟩
        clear hcw
        have HBb := hide HM.out.mo.low
        go_loopw [8, 9] (fun e j wq => ∃ (m : Nat) (q : Int), j = .int .i64 m ∧ m ≤ Li.length ∧ e = .int .i64 q ∧ q = (if anyI bad (Li.take m) then 1 else 0) ∧ Below wb.heap.size wb wq) (fun _ j _ => Li.length - (intOf j).toNat)
        case atStart => exact ⟨0, 0, rfl, by omega, rfl, rfl, Below.refl _ _⟩
        case round =>
          obtain ⟨m, q, rfl, hm0, rfl, hq, hbq⟩ := hrel
          obtain ⟨wq, rfl⟩ : ∃ wq, wq = wr := ⟨_, rfl⟩
          have HQ := hide hq
          have HBQ := hide hbq
          have hcw := HC.out _ (below_step HBb.out hbq)
          clear hq
          by_cases hml : m < Li.length
          · obtain ⟨bi, oi, hAi, hbi, y0, y1, y2, y3, y4⟩ := ItemsAt.item HLI.out (below_step HBb.out hbq) hml
            have hbs := bad_snoc hml
            subst hAi
            generalize Li[m] = y at *
            have hbiw : bi < wq.heap.size := Nat.lt_of_lt_of_le hbi (below_step HBb.out hbq).size
            have hmI : (m : Int) < (Li.length : Int) := by omega
            have HOKY := hide (fun V => rgood_any y V)
            cases hg : goodB y with
            | true =>
              have HBS : Hid (anyI bad (Li.take (m + 1)) = anyI bad (Li.take m)) := hide (by rw [hbs]; simp [bad, hg])
              rw [hg] at HOKY
              clear hbs hg hbq
              go_wp2_with fail
              refine (Calls.mono (HOKY.out _) ?_); rintro e w5 ⟨rfl, hb⟩
              have HB5 := hide (below_step HBQ.out hb)
              clear hb HOKY
              go_wp2_with fail
              go_roundw
              case rel => exact ⟨m + 1, q, by go_num, by omega, rfl, by rw [HBS.out]; exact HQ.out, HB5.out⟩
              case measure => (simp [intOf] <;> omega)
            | false =>
              have HBS : Hid (anyI bad (Li.take (m + 1)) = true) := hide (by rw [hbs]; simp [bad, hg])
              rw [hg] at HOKY
              clear hbs hg hbq
              go_wp2_with fail
              refine (Calls.mono (HOKY.out _) ?_); rintro e w5 ⟨rfl, hb⟩
              have HB5 := hide (below_step HBQ.out hb)
              clear hb HOKY
              go_wp2_with fail
              go_roundw
              case rel => exact ⟨m + 1, 1, by go_num, by omega, rfl, by rw [HBS.out]; rfl, HB5.out⟩
              case measure => (simp [intOf] <;> omega)
          · obtain rfl : m = Li.length := by omega
            have hmI : ¬ (Li.length : Int) < (Li.length : Int) := by omega
            have hqb : q = if anyI bad Li then 1 else 0 := by rw [HQ.out, List.take_length]
            have HM2 := hide (HM.out.below hbq)
            clear hbq HQ HBQ HM HBb
            have hcw := HC.out _ HM2.out.mo.low
            have hap := apply_no HM2.out Ai ci Li (HLI.out.below HM2.out.mo.low) HWF.out (by omega) HOB.out (show apE true Li = 14 from rfl) (by decide)
            have HAP := hide hap
            clear hap hqb
            go_wp2_with fail
            refine (Calls.mono HAP.out ?_); rintro e w6 ⟨F2, rfl, hm⟩
            have HM3 := hide hm
            obtain ⟨W2, rfl⟩ : ∃ W2, W2 = W := ⟨_, rfl⟩
            have hcw := HC.out _ hm.mo.low
            clear hm HAP HM2
            go_upto_block 4 with fail
            go_cut [6] (fun v' V => v' = u6 ∧ V = w6)
            case first =>
              go_wp2_with fail
              go_loopw [6, 10] (fun v' j wq => v' = u6 ∧ j = .int .i64 0 ∧ wq = w6) (fun _ _ _ => 0)
              case atStart => exact ⟨rfl, rfl, rfl⟩
              case round =>
                obtain ⟨rfl, rfl, rfl⟩ := hrel
                go_wp2_with fail
                all_goals go_meet
                all_goals exact ⟨rfl, rfl⟩
            case rest =>
              obtain ⟨rfl, rfl⟩ := hcut
              have HLN : Hid (F2.length = W2.length + 1) := hide HM3.out.len
              have hw2 : W2.length ≤ 60 * (k + 1) := by omega
              have hmi := mitems_any _ _ F2 _ _ _ HM3.out.mo.at_ (by rw [HLN.out]; omega)
              rw [HM3.out.its] at hmi
              have HMI := hide hmi
              clear hmi
              go_wp2_with fail
              refine (Calls.mono HMI.out ?_); rintro e w8 ⟨v8, rfl, ho, hb⟩
              obtain ⟨A8, c8, rfl, hr8, _, _⟩ := ho.sl
              have HM8 := hide (HM3.out.below hb)
              obtain ⟨A9, c9, rfl, hr9, _⟩ := HM8.out.rd
              have HR8 := hide hr8
              have HR9 := hide hr9
              clear ho hb hr8 hr9 HM3 HMI
              go_wp2_with fail
              refine (Calls.mono (requal_any A8 A9 c8 c9 W2 W2 _ HR8.out HR9.out (by omega) (by omega)) ?_); rintro e w9 ⟨rfl, hb⟩
              rw [show eqL W2 W2 = true from eqL_iff.2 rfl]
              have HM9 := hide (HM8.out.below hb)
              have hln := mlen_any _ _ F2 _ _ _ HM9.out.mo.at_
              rw [show (F2.length : Int) - 1 = (W2.length : Int) by rw [HLN.out]; omega] at hln
              have HLL := hide hln
              have HBY := hide (mbytes_any _ _ F2 _ _ _ HM9.out.mo.at_)
              have HFR := hide (frozen_any _ _ F2 _ _ _ HM9.out.mo.at_)
              clear hb hln HM8 HR8 HR9
              go_wp2_with fail
              refine (Calls.mono HLL.out ?_); rintro e w10 ⟨rfl, rfl⟩
              go_wp2_with fail
              refine (Calls.mono HBY.out ?_); rintro e w11 ⟨rfl, rfl⟩
              go_wp2_with fail
              refine (Calls.mono HFR.out ?_); rintro e w12 ⟨rfl, rfl⟩
              go_wp2_with fail
              go_roundw
              case rel => exact ⟨k + 1, F2, W2, by go_num, by omega, by omega, hw2, by rw [show decide (z < ((k + 1 : Nat) : Int)) = true from decide_eq_true (by omega)]; exact HM9.out⟩
              case measure => (simp [intOf] <;> omega)
      by_cases hze : z = k
      · have hd : decide (z < (k : Int)) = false := decide_eq_false hzk
        rw [hd] at HM
        obtain rfl : z = (k : Int) := by omega
        have he2 : decide ((k : Int) ≤ (k : Int)) = true := decide_eq_true (by omega)
        have hkk : ((k : Int) == (k : Int)) = true := by simp
        clear HB hd
        go_wp2_with fail
        refine (Calls.mono (freeze_mp HM.out) ?_); rintro e w3 ⟨rfl, hm⟩
        have HM1 := hide hm
        clear hcw
        have hcw := HC.out _ hm.mo.low
        clear hm HM
        go_wp2_with fail
        obtain ⟨wb, rfl⟩ : ∃ wb, wb = w3 := ⟨_, rfl⟩
        clear hcw
        have HBb := hide HM1.out.mo.low
        go_loopw [8, 9] (fun e j wq => ∃ (m : Nat) (q : Int), j = .int .i64 m ∧ m ≤ Li.length ∧ e = .int .i64 q ∧ q = (if anyI bad (Li.take m) then 1 else 0) ∧ Below wb.heap.size wb wq) (fun _ j _ => Li.length - (intOf j).toNat)
        case atStart => exact ⟨0, 0, rfl, by omega, rfl, rfl, Below.refl _ _⟩
        case round =>
          obtain ⟨m, q, rfl, hm0, rfl, hq, hbq⟩ := hrel
          obtain ⟨wq, rfl⟩ : ∃ wq, wq = wr := ⟨_, rfl⟩
          have HQ := hide hq
          have HBQ := hide hbq
          have hcw := HC.out _ (below_step HBb.out hbq)
          clear hq
          by_cases hml : m < Li.length
          · obtain ⟨bi, oi, hAi, hbi, y0, y1, y2, y3, y4⟩ := ItemsAt.item HLI.out (below_step HBb.out hbq) hml
            have hbs := bad_snoc hml
            subst hAi
            generalize Li[m] = y at *
            have hbiw : bi < wq.heap.size := Nat.lt_of_lt_of_le hbi (below_step HBb.out hbq).size
            have hmI : (m : Int) < (Li.length : Int) := by omega
            have HOKY := hide (fun V => rgood_any y V)
            cases hg : goodB y with
            | true =>
              have HBS : Hid (anyI bad (Li.take (m + 1)) = anyI bad (Li.take m)) := hide (by rw [hbs]; simp [bad, hg])
              rw [hg] at HOKY
              clear hbs hg hbq
              go_wp2_with fail
              refine (Calls.mono (HOKY.out _) ?_); rintro e w5 ⟨rfl, hb⟩
              have HB5 := hide (below_step HBQ.out hb)
              clear hb HOKY
              go_wp2_with fail
              go_roundw
              case rel => exact ⟨m + 1, q, by go_num, by omega, rfl, by rw [HBS.out]; exact HQ.out, HB5.out⟩
              case measure => (simp [intOf] <;> omega)
            | false =>
              have HBS : Hid (anyI bad (Li.take (m + 1)) = true) := hide (by rw [hbs]; simp [bad, hg])
              rw [hg] at HOKY
              clear hbs hg hbq
              go_wp2_with fail
              refine (Calls.mono (HOKY.out _) ?_); rintro e w5 ⟨rfl, hb⟩
              have HB5 := hide (below_step HBQ.out hb)
              clear hb HOKY
              go_wp2_with fail
              go_roundw
              case rel => exact ⟨m + 1, 1, by go_num, by omega, rfl, by rw [HBS.out]; rfl, HB5.out⟩
              case measure => (simp [intOf] <;> omega)
          · obtain rfl : m = Li.length := by omega
            have hmI : ¬ (Li.length : Int) < (Li.length : Int) := by omega
            have hqb : q = if anyI bad Li then 1 else 0 := by rw [HQ.out, List.take_length]
            have HM2 := hide (HM1.out.below hbq)
            clear hbq HQ HBQ HM1 HBb
            have hcw := HC.out _ HM2.out.mo.low
            have hap := apply_no HM2.out Ai ci Li (HLI.out.below HM2.out.mo.low) HWF.out (by omega) HOB.out (show apE true Li = 14 from rfl) (by decide)
            have HAP := hide hap
            clear hap hqb
            go_wp2_with fail
            refine (Calls.mono HAP.out ?_); rintro e w6 ⟨F2, rfl, hm⟩
            have HM3 := hide hm
            obtain ⟨W2, rfl⟩ : ∃ W2, W2 = W := ⟨_, rfl⟩
            have hcw := HC.out _ hm.mo.low
            clear hm HAP HM2
            go_upto_block 4 with fail
            go_cut [6] (fun v' V => v' = u6 ∧ V = w6)
            case first =>
              go_wp2_with fail
              go_loopw [6, 10] (fun v' j wq => v' = u6 ∧ j = .int .i64 0 ∧ wq = w6) (fun _ _ _ => 0)
              case atStart => exact ⟨rfl, rfl, rfl⟩
              case round =>
                obtain ⟨rfl, rfl, rfl⟩ := hrel
                go_wp2_with fail
                all_goals go_meet
                all_goals exact ⟨rfl, rfl⟩
            case rest =>
              obtain ⟨rfl, rfl⟩ := hcut
              have HLN : Hid (F2.length = W2.length + 1) := hide HM3.out.len
              have hw2 : W2.length ≤ 60 * (k + 1) := by omega
              have hmi := mitems_any _ _ F2 _ _ _ HM3.out.mo.at_ (by rw [HLN.out]; omega)
              rw [HM3.out.its] at hmi
              have HMI := hide hmi
              clear hmi
              go_wp2_with fail
              refine (Calls.mono HMI.out ?_); rintro e w8 ⟨v8, rfl, ho, hb⟩
              obtain ⟨A8, c8, rfl, hr8, _, _⟩ := ho.sl
              have HM8 := hide (HM3.out.below hb)
              obtain ⟨A9, c9, rfl, hr9, _⟩ := HM8.out.rd
              have HR8 := hide hr8
              have HR9 := hide hr9
              clear ho hb hr8 hr9 HM3 HMI
              go_wp2_with fail
              refine (Calls.mono (requal_any A8 A9 c8 c9 W2 W2 _ HR8.out HR9.out (by omega) (by omega)) ?_); rintro e w9 ⟨rfl, hb⟩
              rw [show eqL W2 W2 = true from eqL_iff.2 rfl]
              have HM9 := hide (HM8.out.below hb)
              have hln := mlen_any _ _ F2 _ _ _ HM9.out.mo.at_
              rw [show (F2.length : Int) - 1 = (W2.length : Int) by rw [HLN.out]; omega] at hln
              have HLL := hide hln
              have HBY := hide (mbytes_any _ _ F2 _ _ _ HM9.out.mo.at_)
              have HFR := hide (frozen_any _ _ F2 _ _ _ HM9.out.mo.at_)
              clear hb hln HM8 HR8 HR9
              go_wp2_with fail
              refine (Calls.mono HLL.out ?_); rintro e w10 ⟨rfl, rfl⟩
              go_wp2_with fail
              refine (Calls.mono HBY.out ?_); rintro e w11 ⟨rfl, rfl⟩
              go_wp2_with fail
              refine (Calls.mono HFR.out ?_); rintro e w12 ⟨rfl, rfl⟩
              go_wp2_with fail
              go_roundw
              case rel => exact ⟨k + 1, F2, W2, by go_num, by omega, by omega, hw2, by rw [show decide ((k : Int) < ((k + 1 : Nat) : Int)) = true from decide_eq_true (by omega)]; exact HM9.out⟩
              case measure => (simp [intOf] <;> omega)
      · have hd : decide (z < (k : Int)) = false := decide_eq_false hzk
        rw [hd] at HM
        have he1 : (z == (k : Int)) = false := beq_eq_false_iff_ne.2 (by omega)
        have he2 : decide (z ≤ (k : Int)) = false := decide_eq_false (by omega)
        have he3 : ¬ z ≤ (k : Int) := by omega
        clear HB hd
        go_wp2_with fail
        obtain ⟨wb, rfl⟩ : ∃ wb, wb = wr := ⟨_, rfl⟩
        clear hcw
        have HBb := hide HM.out.mo.low
        go_loopw [8, 9] (fun e j wq => ∃ (m : Nat) (q : Int), j = .int .i64 m ∧ m ≤ Li.length ∧ e = .int .i64 q ∧ q = (if anyI bad (Li.take m) then 1 else 0) ∧ Below wb.heap.size wb wq) (fun _ j _ => Li.length - (intOf j).toNat)
        case atStart => exact ⟨0, 0, rfl, by omega, rfl, rfl, Below.refl _ _⟩
        case round =>
          obtain ⟨m, q, rfl, hm0, rfl, hq, hbq⟩ := hrel
          obtain ⟨wq, rfl⟩ : ∃ wq, wq = wr := ⟨_, rfl⟩
          have HQ := hide hq
          have HBQ := hide hbq
          have hcw := HC.out _ (below_step HBb.out hbq)
          clear hq
          by_cases hml : m < Li.length
          · obtain ⟨bi, oi, hAi, hbi, y0, y1, y2, y3, y4⟩ := ItemsAt.item HLI.out (below_step HBb.out hbq) hml
            have hbs := bad_snoc hml
            subst hAi
            generalize Li[m] = y at *
            have hbiw : bi < wq.heap.size := Nat.lt_of_lt_of_le hbi (below_step HBb.out hbq).size
            have hmI : (m : Int) < (Li.length : Int) := by omega
            have HOKY := hide (fun V => rgood_any y V)
            cases hg : goodB y with
            | true =>
              have HBS : Hid (anyI bad (Li.take (m + 1)) = anyI bad (Li.take m)) := hide (by rw [hbs]; simp [bad, hg])
              rw [hg] at HOKY
              clear hbs hg hbq
              go_wp2_with fail
              refine (Calls.mono (HOKY.out _) ?_); rintro e w5 ⟨rfl, hb⟩
              have HB5 := hide (below_step HBQ.out hb)
              clear hb HOKY
              go_wp2_with fail
              go_roundw
              case rel => exact ⟨m + 1, q, by go_num, by omega, rfl, by rw [HBS.out]; exact HQ.out, HB5.out⟩
              case measure => (simp [intOf] <;> omega)
            | false =>
              have HBS : Hid (anyI bad (Li.take (m + 1)) = true) := hide (by rw [hbs]; simp [bad, hg])
              rw [hg] at HOKY
              clear hbs hg hbq
              go_wp2_with fail
              refine (Calls.mono (HOKY.out _) ?_); rintro e w5 ⟨rfl, hb⟩
              have HB5 := hide (below_step HBQ.out hb)
              clear hb HOKY
              go_wp2_with fail
              go_roundw
              case rel => exact ⟨m + 1, 1, by go_num, by omega, rfl, by rw [HBS.out]; rfl, HB5.out⟩
              case measure => (simp [intOf] <;> omega)
          · obtain rfl : m = Li.length := by omega
            have hmI : ¬ (Li.length : Int) < (Li.length : Int) := by omega
            have hqb : q = if anyI bad Li then 1 else 0 := by rw [HQ.out, List.take_length]
            have HM2 := hide (HM.out.below hbq)
            clear hbq HQ HBQ HM HBb
            cases hbad : anyI bad Li with
            | true =>
              have hcw := HC.out _ HM2.out.mo.low
              have hE : apE false Li = 1 := by unfold apE; rw [show anyI (fun x => !goodB x) Li = true from hbad]; rfl
              have hap := apply_no HM2.out Ai ci Li (HLI.out.below HM2.out.mo.low) HWF.out (by omega) HOB.out hE (by decide)
              have HAP := hide hap
              obtain rfl : q = 1 := by rw [hqb, hbad]; rfl
              clear hap hqb hE hbad
              go_wp2_with fail
              refine (Calls.mono HAP.out ?_); rintro e w6 ⟨F2, rfl, hm⟩
              have HM3 := hide hm
              obtain ⟨W2, rfl⟩ : ∃ W2, W2 = W := ⟨_, rfl⟩
              have hcw := HC.out _ hm.mo.low
              clear hm HAP HM2
              go_upto_block 4 with fail
              go_cut [6] (fun v' V => v' = u6 ∧ V = w6)
              case first =>
                go_wp2_with fail
                go_loopw [6, 10] (fun v' j wq => v' = u6 ∧ j = .int .i64 0 ∧ wq = w6) (fun _ _ _ => 0)
                case atStart => exact ⟨rfl, rfl, rfl⟩
                case round =>
                  obtain ⟨rfl, rfl, rfl⟩ := hrel
                  go_wp2_with fail
                  all_goals go_meet
                  all_goals exact ⟨rfl, rfl⟩
              case rest =>
                obtain ⟨rfl, rfl⟩ := hcut
                have HLN : Hid (F2.length = W2.length + 1) := hide HM3.out.len
                have hw2 : W2.length ≤ 60 * (k + 1) := by omega
                have hmi := mitems_any _ _ F2 _ _ _ HM3.out.mo.at_ (by rw [HLN.out]; omega)
                rw [HM3.out.its] at hmi
                have HMI := hide hmi
                clear hmi
                go_wp2_with fail
                refine (Calls.mono HMI.out ?_); rintro e w8 ⟨v8, rfl, ho, hb⟩
                obtain ⟨A8, c8, rfl, hr8, _, _⟩ := ho.sl
                have HM8 := hide (HM3.out.below hb)
                obtain ⟨A9, c9, rfl, hr9, _⟩ := HM8.out.rd
                have HR8 := hide hr8
                have HR9 := hide hr9
                clear ho hb hr8 hr9 HM3 HMI
                go_wp2_with fail
                refine (Calls.mono (requal_any A8 A9 c8 c9 W2 W2 _ HR8.out HR9.out (by omega) (by omega)) ?_); rintro e w9 ⟨rfl, hb⟩
                rw [show eqL W2 W2 = true from eqL_iff.2 rfl]
                have HM9 := hide (HM8.out.below hb)
                have hln := mlen_any _ _ F2 _ _ _ HM9.out.mo.at_
                rw [show (F2.length : Int) - 1 = (W2.length : Int) by rw [HLN.out]; omega] at hln
                have HLL := hide hln
                have HBY := hide (mbytes_any _ _ F2 _ _ _ HM9.out.mo.at_)
                have HFR := hide (frozen_any _ _ F2 _ _ _ HM9.out.mo.at_)
                clear hb hln HM8 HR8 HR9
                go_wp2_with fail
                refine (Calls.mono HLL.out ?_); rintro e w10 ⟨rfl, rfl⟩
                go_wp2_with fail
                refine (Calls.mono HBY.out ?_); rintro e w11 ⟨rfl, rfl⟩
                go_wp2_with fail
                refine (Calls.mono HFR.out ?_); rintro e w12 ⟨rfl, rfl⟩
                go_wp2_with fail
                go_roundw
                case rel => exact ⟨k + 1, F2, W2, by go_num, by omega, by omega, hw2, by rw [show decide (z < ((k + 1 : Nat) : Int)) = false from decide_eq_false (by omega)]; exact HM9.out⟩
                case measure => (simp [intOf] <;> omega)
            | false =>
              have hcw := HC.out _ HM2.out.mo.low
              have hE : apE false Li = 0 := by unfold apE; rw [show anyI (fun x => !goodB x) Li = false from hbad]; rfl
              have hap := apply_yes HM2.out Ai ci Li (HLI.out.below HM2.out.mo.low) HWF.out (by omega) HOB.out hE
              have HAP := hide hap
              obtain rfl : q = 0 := by rw [hqb, hbad]; rfl
              clear hap hqb hE hbad
              go_wp2_with fail
              refine (Calls.mono HAP.out ?_); rintro e w6 ⟨F2, rfl, hm⟩
              have HM3 := hide hm
              clear hcw
              have hcw := HC.out _ hm.mo.low
              clear hm HAP HM2
              go_wp2_with fail
              go_loopw [6, 10] (fun v' j wq => ∃ (m : Nat), j = .int .i64 m ∧ m ≤ Li.length ∧ MQ w wq b p F2 v' (puts (Li.take m) W) (puts Li W)) (fun _ j _ => Li.length - (intOf j).toNat)
              case atStart => exact ⟨0, rfl, by omega, HM3.out⟩
              case round =>
                clear hcw HM3
                obtain ⟨m, rfl, hm0, hmq⟩ := hrel
                obtain ⟨wq, rfl⟩ : ∃ wq, wq = wr := ⟨_, rfl⟩
                have HQ := hide hmq
                have hcw := HC.out _ hmq.mo.low
                by_cases hml : m < Li.length
                · obtain ⟨bi, oi, hAi, hbi, _⟩ := ItemsAt.item HLI.out hmq.mo.low hml
                  subst hAi
                  have HIT := hide (one_at (HLI.out.below hmq.mo.low) hml)
                  have HPS := hide (puts_snoc (W := W) hml)
                  have hbiw : bi < wq.heap.size := Nat.lt_of_lt_of_le hbi hmq.mo.low.size
                  have hmI : (m : Int) < (Li.length : Int) := by omega
                  have hmI2 : (m : Int) + 1 ≤ (ci : Int) := by omega
                  have hci : ci ≠ m := by omega
                  have hpl := puts_len (Li.take m) W
                  have hlm : (Li.take m).length ≤ 60 := by rw [List.length_take]; omega
                  generalize Li[m] = y at *
                  generalize puts (Li.take m) W = Wm at *
                  obtain ⟨A7, c7, rfl, _, _⟩ := hmq.rd
                  clear hmq
                  have hbA := below_alloc (Below.refl wq.heap.size wq) (.cells #[.slice A7 Wm.length c7, .slice (some ⟨bi, oi + m * 5, none⟩) 1 (ci - m)] 29)
                  have HRO := hide (rows_one (HQ.out.below hbA) (by omega) wq.heap.size 29 ⟨bi, oi + m * 5, none⟩ (ci - m) y (HIT.out.below hbA) (heap_alloc_new wq _))
                  have HBA := hide hbA
                  clear hbA
                  go_wp2_with fail
                  refine (Calls.mono HRO.out ?_); rintro e w7 ⟨v7, rfl, hmq, _⟩
                  have HQ7 := hide hmq
                  clear hmq HRO
                  go_wp2_with fail
                  go_roundw
                  case rel => exact ⟨m + 1, by go_num, by omega, by rw [HPS.out]; exact HQ7.out⟩
                  case measure => (simp [intOf] <;> omega)
                · obtain rfl : m = Li.length := by omega
                  have hmI : ¬ (Li.length : Int) < (Li.length : Int) := by omega
                  rw [List.take_length] at hmq
                  have HM4 := hide hmq.mp
                  have hpl := puts_len Li W
                  generalize puts Li W = W2 at *
                  clear hmq HQ
                  have HLN : Hid (F2.length = W2.length + 1) := hide HM4.out.len
                  have hw2 : W2.length ≤ 60 * (k + 1) := by omega
                  have hmi := mitems_any _ _ F2 _ _ _ HM4.out.mo.at_ (by rw [HLN.out]; omega)
                  rw [HM4.out.its] at hmi
                  have HMI := hide hmi
                  clear hmi
                  go_wp2_with fail
                  refine (Calls.mono HMI.out ?_); rintro e w8 ⟨v8, rfl, ho, hb⟩
                  obtain ⟨A8, c8, rfl, hr8, _, _⟩ := ho.sl
                  have HM8 := hide (HM4.out.below hb)
                  obtain ⟨A9, c9, rfl, hr9, _⟩ := HM8.out.rd
                  have HR8 := hide hr8
                  have HR9 := hide hr9
                  clear ho hb hr8 hr9 HM4 HMI
                  go_wp2_with fail
                  refine (Calls.mono (requal_any A8 A9 c8 c9 W2 W2 _ HR8.out HR9.out (by omega) (by omega)) ?_); rintro e w9 ⟨rfl, hb⟩
                  rw [show eqL W2 W2 = true from eqL_iff.2 rfl]
                  have HM9 := hide (HM8.out.below hb)
                  have hln := mlen_any _ _ F2 _ _ _ HM9.out.mo.at_
                  rw [show (F2.length : Int) - 1 = (W2.length : Int) by rw [HLN.out]; omega] at hln
                  have HLL := hide hln
                  have HBY := hide (mbytes_any _ _ F2 _ _ _ HM9.out.mo.at_)
                  have HFR := hide (frozen_any _ _ F2 _ _ _ HM9.out.mo.at_)
                  clear hb hln HM8 HR8 HR9
                  go_wp2_with fail
                  refine (Calls.mono HLL.out ?_); rintro e w10 ⟨rfl, rfl⟩
                  go_wp2_with fail
                  refine (Calls.mono HBY.out ?_); rintro e w11 ⟨rfl, rfl⟩
                  go_wp2_with fail
                  refine (Calls.mono HFR.out ?_); rintro e w12 ⟨rfl, rfl⟩
                  go_wp2_with fail
                  go_roundw
                  case rel => exact ⟨k + 1, F2, W2, by go_num, by omega, by omega, hw2, by rw [show decide (z < ((k + 1 : Nat) : Int)) = false from decide_eq_false (by omega)]; exact HM9.out⟩
                  case measure => (simp [intOf] <;> omega)
    · clear R0 W0
      by_cases h0 : k < L0.length
      · obtain rfl : k = 20 := by omega
        have h0I : ((20 : Nat) : Int) < (L0.length : Int) := by omega
        go_wp2_with fail
        go_ret
        exact ⟨rfl, HB.out⟩
      · obtain rfl : k = L0.length := by omega
        have h0I : ¬ (L0.length : Int) < (L0.length : Int) := by omega
        go_wp2_with fail
        go_ret
        exact ⟨rfl, HB.out⟩
end Go.Proofs.Ytoejhekmfgkklaa.memPlays
