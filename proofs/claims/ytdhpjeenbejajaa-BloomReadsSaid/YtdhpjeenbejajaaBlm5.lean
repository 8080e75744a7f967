/- (*clepsydra/bloom.Filter).Bytes: a contract. Conditions: typed at it. -/
import Derived.Test.YtdhpjeenbejajaaNum
import Derived.Deep.RegionHeld3
namespace Go.Proofs.Ytdhpjeenbejajaa
set_option linter.unusedVariables false
set_option linter.unusedSimpArgs false
open Go.ChangeShapes Go.WideShapes Go.ChangeAt Go.RowKit

def bytesL (k : Nat) (B : List Int) : List Int := (putL k ++ putL B.length) ++ B
theorem putL_len (n : Int) : (putL n).length ≤ 11 := putAux_len 11 n

set_option maxHeartbeats 1000000 in
theorem bytes_any {p g k : Nat} {B : List Int} (w : World) (hF : Flt w p g k B) :
    Calls Try.prog 13 #[.pointer (some ⟨p, 0, none⟩)] w fun e w' => ∃ v, e = .returned v ∧ OwnL (one1 u8v) 1 5 w.heap.size w' v (bytesL k B) ∧ Below w.heap.size w w' := by
  have hc := hF.cells
  obtain ⟨hln1, hln2⟩ := hF.len
  obtain ⟨hk1, hk2⟩ := hF.k1
  have HF := hide hF
  have hpl := hF.lt
  clear hF
  go_enter Try.func13, Try.ntmps13
  go_wp2_with fail
  have hwk : IntKind.u64.wrap (k : Int) = k := by rw [IntKind.wrap_u64]; omega
  have hwn : IntKind.u64.wrap (B.length : Int) = B.length := by rw [IntKind.wrap_u64]; omega
  have q1 : ([] ++ putL (k : Int)).length ≤ 1099511627776 := by rw [List.nil_append]; have := putL_len k; omega
  have q2 : (([] ++ putL (k : Int)) ++ putL (B.length : Int)).length + B.length ≤ 2199023255552 := by rw [List.nil_append, List.length_append]; have h1 := putL_len k; have h2 := putL_len B.length; omega
  have q3 : (0 : Int) ≤ (k : Int) ∧ (k : Int) < 18446744073709551616 := by omega
  have q4 : (0 : Int) ≤ (B.length : Int) ∧ (B.length : Int) < 18446744073709551616 := by omega
  have Q1 := hide q1
  have Q2 := hide q2
  have Q3 := hide q3
  have Q4 := hide q4
  have Q5 : Hid (([] ++ putL (k : Int)) ++ putL (B.length : Int) ++ B = bytesL k B) := hide (by unfold bytesL; rw [List.nil_append])
  clear q1 q2 q3 q4
  have tk1 : True := trivial
  have tk2 : True := trivial
  have HCB : Hid (∀ W, Below w.heap.size w W → W.cell? ⟨p, 0, none⟩ = some (.int .i64 k) ∧ W.cell? ⟨p, 1, none⟩ = some (.slice (some ⟨g, 0, none⟩) B.length B.length)) := hide (fun W hW => (HF.out.below hW).cells)
  have HB0 : Hid (Below w.heap.size w w.drew) := hide (Below.refl _ _).drew
  go_region_held3 (fun w' => w'.cell? ⟨p, 0, none⟩ = some (.int .i64 k) ∧ w'.cell? ⟨p, 1, none⟩ = some (.slice (some ⟨g, 0, none⟩) B.length B.length)) (first | exact HCB.out _ HB0.out | exact HCB.out _ HB1.out | exact HCB.out _ HB2.out | exact HCB.out _ HB3.out) (first
    | (go_at_call 25; have _t := tk1; refine (Calls.mono (put_any none 0 [] k _ (Nat.zero_le _) RowAt.nil_ Q3.out) ?_); rintro e w1 ⟨v1, rfl, ho1, hg1⟩; have HB1 := hide (below_step HB0.out hg1); have HO1 := hide ho1; clear tk1 _t hg1 ho1)
    | (go_at_call 25; have _t := tk2; obtain ⟨A1, c1, e1, hr1, hl1, hm1⟩ := HO1.out.vals; subst e1; refine (Calls.mono (put_any A1 c1 ([] ++ putL k) B.length _ Q1.out hr1 Q4.out) ?_); rintro e w2 ⟨v2, rfl, ho2, hg2⟩; have HB2 := hide (below_step HB1.out hg2); have HO2 := hide (OwnL.base_ ho2 HB1.out.size); clear tk2 _t hg2 ho2)
    | (refine step_append_vals rfl (.tmp 15) (.tmp 19) 27 5 _ 1 rfl Try.underlying27 Try.infoU8 rfl (fun _ => rfl) (by decide) w.heap.size _ (([] ++ putL k) ++ putL B.length) rfl HO2.out (some ⟨g, 0, none⟩) B.length B rfl ((HF.out.below HB2.out).row) Q2.out HB2.out.size ?_; intro v3 w3 ho3 hg3; have HB3 := hide (HB2.out.grown hg3 HB2.out.size (fun k hk => (OwnL.lt HO2.out k hk).1)); have HO3 := hide ho3; clear ho3 hg3))
  all_goals
    go_wp2_with fail
    refine bodyPost_ret (v := v3) (by simp [results, Try.results13]) rfl ⟨v3, rfl, ?_, HB3.out⟩
    rw [← Q5.out]
    exact HO3.out
end Go.Proofs.Ytdhpjeenbejajaa
