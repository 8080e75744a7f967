/- clepsydraref12.ReadFilter: a contract. Conditions: typed at it. -/
import Derived.Test.YtdhpjeenbejajaaRTake
import Derived.Test.YtdhpjeenbejajaaRead
import Derived.Test.YtdhpjeenbejajaaConvB
namespace Go.Proofs.Ytdhpjeenbejajaa
set_option linter.unusedVariables false
set_option linter.unusedSimpArgs false
open Go.ChangeShapes Go.WideShapes Go.ChangeAt Go.RowKit

set_option maxHeartbeats 1600000 in
theorem rread_any (L : List Int) (w : World) (hl : L.length ≤ 1099511627776) (hB : ∀ b ∈ L, isB b) :
    Calls Try.prog 20 #[.string (strOfNums L)] w fun e w' => Below w.heap.size w w' ∧ (readE L ≠ 0 ∧ e = .returned (.tuple #[.pointer none, .int .i64 (readE L)]) ∨
      readE L = 0 ∧ ∃ (p g gc k : Nat), e = .returned (.tuple #[.pointer (some ⟨p, 0, none⟩), .int .i64 0]) ∧ w.heap.size ≤ p ∧ (k : Int) = (takeL L).1 ∧ Fv w' p g gc k (rdR L)) := by
  obtain ⟨n1, s1, e1, hTL⟩ : ∃ n s e, takeL L = (n, s, e) := ⟨_, _, _, rfl⟩
  have hT := rtake_any L w hl hB
  have hok := takeL_ok (L := L) hB
  obtain ⟨E, hE⟩ : ∃ E, readE L = E := ⟨_, rfl⟩
  rw [hE]
  unfold readE at hE
  rw [hTL] at hT hok hE ⊢
  unfold tripV at hT
  dsimp only at hT hok hE ⊢
  have HT := hide hT
  clear hT
  have hsz := str_len L
  have HSD : Hid (∀ m, (strOfNums L).extract m L.length = strOfNums (L.drop m)) := hide (str_drop L)
  by_cases he : e1 = 0
  case neg =>
    rw [if_pos he] at hE
    subst hE
    have d0 : (e1 != 0) = true := bne_iff_ne.2 he
    clear hok hTL
    generalize strOfNums L = S at *
    go_enter Try.func20, Try.ntmps20
    go_wp2_with fail
    refine (Calls.mono HT.out ?_); rintro e w1 ⟨rfl, hg1⟩
    go_wp2_with fail
    exact bodyPost_ret (v := .tuple #[.pointer none, .int .i64 e1]) (by simp [results, Try.results20]) rfl ⟨hg1, .inl ⟨he, rfl⟩⟩
  rw [if_neg (by simpa using he)] at hE
  subst he
  obtain ⟨hs1, hs2, hn1, hn2⟩ := hok rfl
  obtain ⟨m1, rfl⟩ : ∃ m : Nat, s1 = m := ⟨s1.toNat, by omega⟩
  have hm1L : m1 ≤ L.length := by omega
  have hB2 : ∀ b ∈ L.drop m1, isB b := fun b hb => hB b (List.mem_of_mem_drop hb)
  obtain ⟨n2, s2, e2, hTL2⟩ : ∃ n s e, takeL (L.drop m1) = (n, s, e) := ⟨_, _, _, rfl⟩
  have hrdB : rdB L = (n2, s2, e2) := by unfold rdB; rw [hTL]; exact hTL2
  have hok2 := takeL_ok hB2
  rw [hTL2] at hok2
  rw [hrdB] at hE
  dsimp only at hok2 hE
  have HT2 : Hid (∀ W, Calls Try.prog 30 #[.string ((strOfNums L).extract m1 L.length)] W fun e w' => e = .returned (.tuple #[.int .u64 n2, .int .i64 s2, .int .i64 e2]) ∧ Below W.heap.size W w') := hide (fun W => by
    have := rtake_any (L.drop m1) W (by rw [List.length_drop]; omega) hB2
    rw [hTL2] at this
    rw [str_drop]
    exact this)
  have hrR : rdR L = L.drop (m1 + s2.toNat) := by unfold rdR; rw [hTL, hrdB]; rfl
  have HRR := hide hrR
  rw [hrR] at hE
  have HBB := hide hB
  have hmi : (m1 : Int) ≤ (L.length : Int) := by omega
  clear hrR hTL hTL2 hrdB hB hB2 hok
  by_cases he2 : e2 = 0
  case neg =>
    rw [if_pos he2] at hE
    subst hE
    have d0 : (e2 != 0) = true := bne_iff_ne.2 he2
    clear hok2
    generalize strOfNums L = S at *
    go_enter Try.func20, Try.ntmps20
    go_wp2_with fail
    refine (Calls.mono HT.out ?_); rintro e w1 ⟨rfl, hg1⟩
    go_wp2_with fail
    refine (Calls.mono (HT2.out _) ?_); rintro e w2 ⟨rfl, hg2⟩
    go_wp2_with fail
    refine bodyPost_ret (v := .tuple #[.pointer none, .int .i64 e2]) (by simp [results, Try.results20]) rfl ⟨below_step hg1 hg2, .inl ⟨he2, rfl⟩⟩
  subst he2
  rw [if_neg (by simp)] at hE
  obtain ⟨hs21, hs22, hn21, hn22⟩ := hok2 rfl
  rw [List.length_drop] at hs22
  obtain ⟨m2, rfl⟩ : ∃ m : Nat, s2 = m := ⟨s2.toNat, by omega⟩
  have hrl : (L.drop (m1 + (m2 : Int).toNat)).length = L.length - (m1 + m2) := by rw [List.length_drop, Int.toNat_natCast]
  rw [hrl] at hE
  obtain ⟨M, hM⟩ : ∃ M : Nat, (m1 : Int) + (m2 : Int) = (M : Int) := ⟨m1 + m2, by omega⟩
  have hMn : m1 + (m2 : Int).toNat = M := by omega
  have hM2 : m1 + m2 = M := by omega
  rw [hMn] at HRR
  rw [hM2] at hE
  have hsum : (M : Int) ≤ (L.length : Int) := by omega
  have hMl : M ≤ L.length := by omega
  have hsub : (L.length : Int) - (m1 : Int) - (m2 : Int) = ((L.length - M : Nat) : Int) := by omega
  have hE3 := hide hE
  have hl40 := hl
  clear hok2 hrl hMn hM2 hE hs1 hs2 hs21 hs22 hm1L hl
  have HGL : Hid (∃ S, strOfNums L = S) := hide ⟨_, rfl⟩
  by_cases hbad : n1 < 1 ∨ 14 < n1 ∨ n2 < 8 ∨ 25000 < n2
  · have hE := hE3.out
    rw [if_pos hbad] at hE
    have HE := hide hE.symm
    have HE0 : Hid (E ≠ 0) := hide (by rw [HE.out]; decide)
    clear hE hE3
    generalize strOfNums L = S at *
    by_cases b1 : n1 < 1
    · have d1 : decide (n1 < 1) = true := decide_eq_true b1
      clear hbad b1
      go_enter Try.func20, Try.ntmps20
      go_wp2_with fail
      refine (Calls.mono HT.out ?_); rintro e w1 ⟨rfl, hg1⟩
      go_wp2_with fail
      refine (Calls.mono (HT2.out _) ?_); rintro e w2 ⟨rfl, hg2⟩
      go_wp2_with fail
      all_goals exact bodyPost_ret (v := .tuple #[.pointer none, .int .i64 3]) (by simp [results, Try.results20]) rfl ⟨below_step hg1 hg2, .inl ⟨HE0.out, by rw [HE.out]⟩⟩
    have d1 : decide (n1 < 1) = false := decide_eq_false b1
    by_cases b2 : 14 < n1
    · have d2 : decide (14 < n1) = true := decide_eq_true b2
      clear hbad b1 b2
      go_enter Try.func20, Try.ntmps20
      go_wp2_with fail
      refine (Calls.mono HT.out ?_); rintro e w1 ⟨rfl, hg1⟩
      go_wp2_with fail
      refine (Calls.mono (HT2.out _) ?_); rintro e w2 ⟨rfl, hg2⟩
      go_wp2_with fail
      all_goals exact bodyPost_ret (v := .tuple #[.pointer none, .int .i64 3]) (by simp [results, Try.results20]) rfl ⟨below_step hg1 hg2, .inl ⟨HE0.out, by rw [HE.out]⟩⟩
    have d2 : decide (14 < n1) = false := decide_eq_false b2
    by_cases b3 : n2 < 8
    · have d3 : decide (n2 < 8) = true := decide_eq_true b3
      clear hbad b1 b2 b3
      go_enter Try.func20, Try.ntmps20
      go_wp2_with fail
      refine (Calls.mono HT.out ?_); rintro e w1 ⟨rfl, hg1⟩
      go_wp2_with fail
      refine (Calls.mono (HT2.out _) ?_); rintro e w2 ⟨rfl, hg2⟩
      go_wp2_with fail
      all_goals exact bodyPost_ret (v := .tuple #[.pointer none, .int .i64 3]) (by simp [results, Try.results20]) rfl ⟨below_step hg1 hg2, .inl ⟨HE0.out, by rw [HE.out]⟩⟩
    have d3 : decide (n2 < 8) = false := decide_eq_false b3
    have b4 : 25000 < n2 := by omega
    have d4 : decide (25000 < n2) = true := decide_eq_true b4
    clear hbad b1 b2 b3 b4
    go_enter Try.func20, Try.ntmps20
    go_wp2_with fail
    refine (Calls.mono HT.out ?_); rintro e w1 ⟨rfl, hg1⟩
    go_wp2_with fail
    refine (Calls.mono (HT2.out _) ?_); rintro e w2 ⟨rfl, hg2⟩
    go_wp2_with fail
    all_goals exact bodyPost_ret (v := .tuple #[.pointer none, .int .i64 3]) (by simp [results, Try.results20]) rfl ⟨below_step hg1 hg2, .inl ⟨HE0.out, by rw [HE.out]⟩⟩
  have hE := hE3.out
  rw [if_neg hbad] at hE
  have d1 : decide (n1 < 1) = false := decide_eq_false (fun h => hbad (.inl h))
  have d2 : decide (14 < n1) = false := decide_eq_false (fun h => hbad (.inr (.inl h)))
  have d3 : decide (n2 < 8) = false := decide_eq_false (fun h => hbad (.inr (.inr (.inl h))))
  have d4 : decide (25000 < n2) = false := decide_eq_false (fun h => hbad (.inr (.inr (.inr h))))
  have hk1 : 1 ≤ n1 ∧ n1 ≤ 14 ∧ 8 ≤ n2 ∧ n2 ≤ 25000 := by omega
  obtain ⟨hk1, hk2, hk3, hk4⟩ := hk1
  clear hbad hE3
  by_cases b5 : ((L.length - M : Nat) : Int) < n2
  · rw [if_pos b5] at hE
    have HE := hide hE.symm
    have HE0 : Hid (E ≠ 0) := hide (by rw [HE.out]; decide)
    have d5 : decide (((L.length - M : Nat) : Int) < n2) = true := decide_eq_true b5
    clear hE
    generalize strOfNums L = S at *
    go_enter Try.func20, Try.ntmps20
    go_wp2_with fail
    refine (Calls.mono HT.out ?_); rintro e w1 ⟨rfl, hg1⟩
    go_wp2_with fail
    refine (Calls.mono (HT2.out _) ?_); rintro e w2 ⟨rfl, hg2⟩
    go_wp2_with fail
    all_goals exact bodyPost_ret (v := .tuple #[.pointer none, .int .i64 4]) (by simp [results, Try.results20]) rfl ⟨below_step hg1 hg2, .inl ⟨HE0.out, by rw [HE.out]⟩⟩
  rw [if_neg b5] at hE
  have d5 : decide (((L.length - M : Nat) : Int) < n2) = false := decide_eq_false b5
  by_cases b6 : n2 < ((L.length - M : Nat) : Int)
  · rw [if_pos b6] at hE
    have HE := hide hE.symm
    have HE0 : Hid (E ≠ 0) := hide (by rw [HE.out]; decide)
    have d6 : decide (n2 < ((L.length - M : Nat) : Int)) = true := decide_eq_true b6
    clear hE
    generalize strOfNums L = S at *
    go_enter Try.func20, Try.ntmps20
    go_wp2_with fail
    refine (Calls.mono HT.out ?_); rintro e w1 ⟨rfl, hg1⟩
    go_wp2_with fail
    refine (Calls.mono (HT2.out _) ?_); rintro e w2 ⟨rfl, hg2⟩
    go_wp2_with fail
    all_goals exact bodyPost_ret (v := .tuple #[.pointer none, .int .i64 3]) (by simp [results, Try.results20]) rfl ⟨below_step hg1 hg2, .inl ⟨HE0.out, by rw [HE.out]⟩⟩
  rw [if_neg b6] at hE
  have HE := hide hE.symm
  have d6 : decide (n2 < ((L.length - M : Nat) : Int)) = false := decide_eq_false b6
  have hdl : (L.drop M).length = L.length - M := List.length_drop ..
  have HCV : Hid (∀ W : World, ∃ gc w', (convert 9 27 (.string ((strOfNums L).extract M L.length))).run Try.prog W = .ok (.slice (some ⟨W.heap.size, 0, none⟩) (L.length - M) gc) w' ∧
    Below W.heap.size W w' ∧ W.heap.size < w'.heap.size ∧ ValsAt u8v w' (some ⟨W.heap.size, 0, none⟩) (L.drop M) ∧ L.length - M ≤ gc ∧ gc ≤ maxLen) := hide (fun W => by
    have := str_bytes (L.drop M) (fun b hb => HBB.out b (List.mem_of_mem_drop hb)) (by omega) W
    rw [← str_drop, hdl] at this
    exact this)
  obtain ⟨k, rfl⟩ : ∃ k : Nat, n1 = k := ⟨n1.toNat, by omega⟩
  have HDL := hide hdl
  have HLB : Hid (1 ≤ L.length - M ∧ L.length - M ≤ 25000) := hide (by omega)
  have hwk : IntKind.i64.wrap (k : Int) = k := by rw [IntKind.wrap_i64]; omega
  clear hE hdl b5 b6
  generalize strOfNums L = S at *
  go_enter Try.func20, Try.ntmps20
  go_wp2_with fail
  refine (Calls.mono HT.out ?_); rintro e w1 ⟨rfl, hg1⟩
  go_wp2_with fail
  refine (Calls.mono (HT2.out _) ?_); rintro e w2 ⟨rfl, hg2⟩
  obtain ⟨gc, w3, hcv, hb3, hlt3, hrow3, hgl, hgm⟩ := HCV.out w2
  have HB3 := hide (below_step (below_step hg1 hg2) hb3)
  have HG := hide hrow3
  clear hb3 hrow3
  go_wp2_with fail
  have hba : Below w3.heap.size w3 (w3.alloc (.cells #[.int .i64 k, .slice (some ⟨w2.heap.size, 0, none⟩) (L.length - M) gc] 44)) := below_alloc (Below.refl _ _) _
  have hnew := heap_alloc_new w3 (.cells #[.int .i64 k, .slice (some ⟨w2.heap.size, 0, none⟩) (L.length - M) gc] 44)
  refine bodyPost_ret (v := .tuple #[.pointer (some ⟨w3.heap.size, 0, none⟩), .int .i64 0]) (by simp [results, Try.results20]) rfl ⟨below_alloc HB3.out _, .inr ⟨HE.out, w3.heap.size, w2.heap.size, gc, k, rfl, HB3.out.size, rfl, ?_⟩⟩
  rw [HRR.out]
  have hlb := HLB.out
  refine ⟨(cell_of_row _ w3.heap.size 0 _ _ _ hnew).trans rfl, ?_, by simp, HG.out.below hba, by omega, by rw [HDL.out]; exact hlb, fun b hb => HBB.out b (List.mem_of_mem_drop hb)⟩
  rw [HDL.out]
  exact (cell_of_row _ w3.heap.size 1 _ _ _ hnew).trans rfl
end Go.Proofs.Ytdhpjeenbejajaa
