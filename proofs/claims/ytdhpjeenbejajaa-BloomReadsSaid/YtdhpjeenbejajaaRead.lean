/- clepsydra/bloom.Read, slices.Clone of bytes: contracts. Conditions: typed at each. -/
import Derived.Test.YtdhpjeenbejajaaTake
import Derived.Test.YtdhpjeenbejajaaFv
import Derived.Laws.Cover3
namespace Go.Proofs.Ytdhpjeenbejajaa
set_option linter.unusedVariables false
set_option linter.unusedSimpArgs false
open Go.ChangeShapes Go.WideShapes Go.ChangeAt Go.RowKit

theorem vals_drop {α : Type} {val : α → Value} {w : World} {b off : Nat} {L : List α} (h : ValsAt val w (some ⟨b, off, none⟩) L) (k : Nat) : ValsAt val w (some ⟨b, off + k, none⟩) (L.drop k) := by
  intro hne
  have hL : L ≠ [] := fun e => by subst e; simp at hne
  obtain ⟨b', off', e, hlt, hc⟩ := h hL
  injection e with e
  injection e with e1 e2 _
  subst e1 e2
  refine ⟨b, off + k, rfl, hlt, fun j hj i u hu => ?_⟩
  have hj2 : k + j < L.length := by rw [List.length_drop] at hj; omega
  have := hc (k + j) hj2 i u (by simpa using hu)
  have e3 : off + (k + j) * 1 + i = off + k + j * 1 + i := by omega
  rw [← e3]
  exact this
theorem takeAux_ok {L : List Int} (hB : ∀ b ∈ L, isB b) (i : Nat) (n : Int) (h : (takeAux L i n).2.2 = 0) (hi : i ≤ 9) (hn : 0 ≤ n) (hn2 : n < 128 ^ i) :
    1 ≤ (takeAux L i n).2.1 - i ∧ (takeAux L i n).2.1 - i ≤ L.length ∧ (takeAux L i n).2.1 ≤ 10 ∧ 0 ≤ (takeAux L i n).1 ∧ (takeAux L i n).1 < 18446744073709551616 := by
  induction L generalizing i n with
  | nil => simp [takeAux] at h
  | cons c L ih =>
    rw [takeAux_cons] at h ⊢
    have hc := hB c (by simp)
    split at h
    · simp at h
    · rename_i hbad
      rw [if_neg hbad]
      obtain ⟨_, q2, q3, q4⟩ := stepN_eq hn hn2 hc hi (fun e => by omega)
      split at h
      · rename_i hs
        rw [if_pos hs]
        simp only [List.length_cons]
        refine ⟨by omega, by omega, by omega, q2, q4⟩
      · rename_i hs
        rw [if_neg hs]
        have := ih (fun b hb => hB b (List.mem_cons_of_mem _ hb)) (i + 1) _ h (by
          unfold isB at hc
          by_cases e : i = 9
          · exfalso; omega
          · omega) q2 q3
        simp only [List.length_cons]
        omega
theorem takeL_ok {L : List Int} (hB : ∀ b ∈ L, isB b) (h : (takeL L).2.2 = 0) : 1 ≤ (takeL L).2.1 ∧ (takeL L).2.1 ≤ L.length ∧ 0 ≤ (takeL L).1 ∧ (takeL L).1 < 18446744073709551616 := by
  have := takeAux_ok hB 0 0 h (by omega) (by omega) (by decide)
  unfold takeL
  omega
theorem takeAux_err (L : List Int) (i : Nat) (n : Int) : (takeAux L i n).2.2 = 0 ∨ (takeAux L i n).2.2 = 3 ∨ (takeAux L i n).2.2 = 4 := by
  induction L generalizing i n with
  | nil => simp [takeAux]
  | cons c L ih =>
    rw [takeAux_cons]
    split
    · simp
    · split
      · simp
      · exact ih _ _

set_option maxHeartbeats 1000000 in
theorem clone_any (b off c : Nat) (L : List Int) (w : World) (hl : L.length ≤ 1099511627776) (hL : ValsAt u8v w (some ⟨b, off, none⟩) L) :
    Calls Try.prog 29 #[.slice (some ⟨b, off, none⟩) L.length c] w fun e w' => ∃ v, e = .returned v ∧ OwnL (one1 u8v) 1 5 w.heap.size w' v L ∧ Below w.heap.size w w' := by
  have hq : (binOp .eql 27 (.slice (some ⟨b, off, none⟩) L.length c) (.slice none 0 0)).run Try.prog w = .ok (.bool false) w := by
    simp [go_sem, binOp, run_equal_slice_nil (P := Try.prog) w 27 5 (some ⟨b, off, none⟩) L.length c Try.underlying27]
  have hob : OwnL (one1 u8v) 1 5 w.heap.size (w.alloc (.cells #[] 5)) (.slice (some ⟨w.heap.size, 0, none⟩) 0 0) ([] : List Int) :=
    ⟨by simp, .inr ⟨w.heap.size, 0, #[], rfl, Nat.le_refl _, heap_alloc_new _ _, Nat.le_refl _, by simp, by simp, by simp⟩⟩
  have hb0 : Below w.heap.size w (w.alloc (.cells #[] 5)) := below_alloc (Below.refl _ _) _
  go_enter Try.func29, Try.ntmps29
  go_wp2_with (at_builtin; refine wpList_append_vals rfl (.tmp 5) (.tmp 6) 27 5 _ 1 rfl Try.underlying27 Try.infoU8 rfl (fun _ => rfl) (by omega) w.heap.size _ [] rfl hob (some ⟨b, off, none⟩) c L rfl (hL.below hb0) (by simp; omega) (by simp) ?_; intro v1 u1 ho1 hgu1)
  have hgn : (w.alloc (.cells #[] 5)).grownBy u1 (some w.heap.size) := hgu1
  refine bodyPost_ret (v := v1) (by simp [results, Try.results29]) rfl ⟨v1, rfl, by simpa using ho1, hb0.grown hgn (by simp) (fun k hk => by injection hk with hk; omega)⟩

def rdB (L : List Int) : Int × Int × Int := takeL (L.drop (takeL L).2.1.toNat)
def rdR (L : List Int) : List Int := L.drop ((takeL L).2.1.toNat + (rdB L).2.1.toNat)
def readE (L : List Int) : Int :=
  if (takeL L).2.2 ≠ 0 then (takeL L).2.2 else if (rdB L).2.2 ≠ 0 then (rdB L).2.2 else if (takeL L).1 < 1 ∨ 14 < (takeL L).1 ∨ (rdB L).1 < 8 ∨ 25000 < (rdB L).1 then 3
  else if ((rdR L).length : Int) < (rdB L).1 then 4 else if (rdB L).1 < ((rdR L).length : Int) then 3 else 0

theorem own_form {α : Type} {val : α → Value} {e : TypeId} {base : Nat} {w : World} {v : Value} {L : List α} (h : OwnL (one1 val) 1 e base w v L) (hne : L ≠ []) :
    ∃ g cap, v = .slice (some ⟨g, 0, none⟩) L.length cap ∧ base ≤ g ∧ g < w.heap.size ∧ ValsAt val w (some ⟨g, 0, none⟩) L ∧ L.length ≤ cap ∧ cap ≤ maxLen := by
  obtain ⟨A, c, e1, hr, hab, h1, h2⟩ := OwnL.row (cells := one1 val) (fun _ => rfl) h
  rcases h.2 with ⟨_, h0⟩ | ⟨g, cap, cur, e2, hb, hh, _⟩
  · exact absurd (List.eq_nil_of_length_eq_zero h0) hne
  · rw [e1] at e2
    injection e2 with e3 e4 e5
    subst e3 e5
    exact ⟨g, c, e1, hb, (Array.getElem?_eq_some_iff.1 hh).1, hr, h1, h2⟩

set_option maxHeartbeats 1600000 in
theorem read_any (A : Option Addr) (c : Nat) (L : List Int) (w : World) (hl : L.length ≤ 1099511627776) (hlc : L.length ≤ c) (hcm : c ≤ maxLen) (hL : ValsAt u8v w A L) (hB : ∀ b ∈ L, isB b) :
    Calls Try.prog 17 #[.slice A L.length c] w fun e w' => Below w.heap.size w w' ∧ (readE L ≠ 0 ∧ e = .returned (.tuple #[.pointer none, .int .i64 (readE L)]) ∨
      readE L = 0 ∧ ∃ (p g gc k : Nat), e = .returned (.tuple #[.pointer (some ⟨p, 0, none⟩), .int .i64 0]) ∧ w.heap.size ≤ p ∧ (k : Int) = (takeL L).1 ∧ Fv w' p g gc k (rdR L)) := by
  obtain ⟨n1, s1, e1, hTL⟩ : ∃ n s e, takeL L = (n, s, e) := ⟨_, _, _, rfl⟩
  have hT := take_any A c L w (by omega) hL hB
  have hok := takeL_ok (L := L) hB
  obtain ⟨E, hE⟩ : ∃ E, readE L = E := ⟨_, rfl⟩
  rw [hE]
  unfold readE at hE
  rw [hTL] at hT hok hE ⊢
  unfold tripV at hT
  dsimp only at hT hok hE ⊢
  have HT := hide hT
  clear hT
  by_cases he : e1 = 0
  case neg =>
    rw [if_pos he] at hE
    subst hE
    have d0 : (e1 != 0) = true := bne_iff_ne.2 he
    clear hok hTL
    go_enter Try.func17, Try.ntmps17
    go_wp2_with fail
    refine (Calls.mono HT.out ?_); rintro e w1 ⟨rfl, hg1⟩
    go_wp2_with fail
    exact bodyPost_ret (v := .tuple #[.pointer none, .int .i64 e1]) (by simp [results, Try.results17]) rfl ⟨hg1, .inl ⟨he, rfl⟩⟩
  rw [if_neg (by simpa using he)] at hE
  subst he
  obtain ⟨hs1, hs2, hn1, hn2⟩ := hok rfl
  have hne : L ≠ [] := fun e => by subst e; simp at hs2; omega
  obtain ⟨b, off, rfl, hbb, _⟩ := hL hne
  obtain ⟨m1, rfl⟩ : ∃ m : Nat, s1 = m := ⟨s1.toNat, by omega⟩
  have hm1L : m1 ≤ L.length := by omega
  have hB2 : ∀ b ∈ L.drop m1, isB b := fun b hb => hB b (List.mem_of_mem_drop hb)
  obtain ⟨n2, s2, e2, hTL2⟩ : ∃ n s e, takeL (L.drop m1) = (n, s, e) := ⟨_, _, _, rfl⟩
  have hrdB : rdB L = (n2, s2, e2) := by unfold rdB; rw [hTL]; exact hTL2
  have hok2 := takeL_ok hB2
  rw [hTL2] at hok2
  rw [hrdB] at hE
  dsimp only at hok2 hE
  have hT2 : ∀ W, m1 < c → Below w.heap.size w W → Calls Try.prog 28 #[.slice (some ⟨b, off + m1, none⟩) (L.length - m1) (c - m1)] W fun e w' => e = .returned (.tuple #[.int .u64 n2, .int .i64 s2, .int .i64 e2]) ∧ Below W.heap.size W w' := fun W _ hW => by
    have := take_any (some ⟨b, off + m1, none⟩) (c - m1) (L.drop m1) W (by rw [List.length_drop]; omega) ((vals_drop hL m1).below hW) hB2
    rw [List.length_drop, hTL2] at this
    exact this
  have hT3 : ∀ W, c = m1 → Below w.heap.size w W → Calls Try.prog 28 #[.slice (some ⟨b, off, none⟩) 0 0] W fun e w' => e = .returned (.tuple #[.int .u64 n2, .int .i64 s2, .int .i64 e2]) ∧ Below W.heap.size W w' := fun W hcm1 hW => by
    have h0 : L.drop m1 = [] := List.drop_of_length_le (by omega)
    have := take_any (some ⟨b, off, none⟩) 0 [] W (Nat.zero_le _) RowAt.nil_ (by simp)
    have e0 : takeL [] = (n2, s2, e2) := by rw [← h0]; exact hTL2
    rw [e0] at this
    exact this
  have hT2 := hide hT2
  have hT3 := hide hT3
  have hrR : rdR L = L.drop (m1 + s2.toNat) := by unfold rdR; rw [hTL, hrdB]; rfl
  have HRR := hide hrR
  rw [hrR] at hE
  have HL := hide hL
  have HBB := hide hB
  have hmi : (m1 : Int) ≤ (L.length : Int) := by omega
  have hmc : (m1 : Int) ≤ (c : Int) := by omega
  clear hrR hTL hTL2 hrdB hL hB hB2 hok
  by_cases hcm1 : c = m1
  · have he2 : e2 ≠ 0 := fun h => by
      have := hok2 h
      rw [List.length_drop] at this
      omega
    rw [if_pos he2] at hE
    subst hE
    have d0 : (e2 != 0) = true := bne_iff_ne.2 he2
    have HT3 := hide (fun W => hT3.out W hcm1)
    clear hok2 hT2 hT3
    subst hcm1
    go_enter Try.func17, Try.ntmps17
    go_wp2_with fail
    refine (Calls.mono HT.out ?_); rintro e w1 ⟨rfl, hg1⟩
    go_wp2_with fail
    refine (Calls.mono (HT3.out _ hg1) ?_); rintro e w2 ⟨rfl, hg2⟩
    go_wp2_with fail
    refine bodyPost_ret (v := .tuple #[.pointer none, .int .i64 e2]) (by simp [results, Try.results17]) rfl ⟨below_step hg1 hg2, .inl ⟨he2, rfl⟩⟩
  have hcl : m1 < c := by omega
  have hci : (m1 : Int) < (c : Int) := by omega
  have hc0 : ¬ c - m1 = 0 := by omega
  have HT2 := hide (fun W => hT2.out W hcl)
  clear hT2 hT3
  by_cases he2 : e2 = 0
  case neg =>
    rw [if_pos he2] at hE
    subst hE
    have d0 : (e2 != 0) = true := bne_iff_ne.2 he2
    clear hok2
    go_enter Try.func17, Try.ntmps17
    go_wp2_with fail
    refine (Calls.mono HT.out ?_); rintro e w1 ⟨rfl, hg1⟩
    go_wp2_with fail
    refine (Calls.mono (HT2.out _ hg1) ?_); rintro e w2 ⟨rfl, hg2⟩
    go_wp2_with fail
    refine bodyPost_ret (v := .tuple #[.pointer none, .int .i64 e2]) (by simp [results, Try.results17]) rfl ⟨below_step hg1 hg2, .inl ⟨he2, rfl⟩⟩
  subst he2
  rw [if_neg (by simp)] at hE
  obtain ⟨hs21, hs22, hn21, hn22⟩ := hok2 rfl
  rw [List.length_drop] at hs22
  obtain ⟨m2, rfl⟩ : ∃ m : Nat, s2 = m := ⟨s2.toNat, by omega⟩
  have hrl : (L.drop (m1 + (m2 : Int).toNat)).length = L.length - (m1 + m2) := by rw [List.length_drop, Int.toNat_natCast]
  rw [hrl] at hE
  obtain ⟨M, hM⟩ : ∃ M : Nat, (m1 : Int) + (m2 : Int) = (M : Int) := ⟨m1 + m2, by omega⟩
  have hMn : m1 + (m2 : Int).toNat = M := by omega
  have hM2 : m1 + m2 = M := by omega
  rw [hMn] at HRR
  rw [hM2] at hE
  have hsum : (M : Int) ≤ (L.length : Int) := by omega
  have hsumc : (M : Int) ≤ (c : Int) := by omega
  have hMl : M ≤ L.length := by omega
  have hl40 : L.length ≤ 1099511627776 := hl
  have hE3 := hide hE
  have hK : Hid (2 ≤ M) := hide (by omega)
  clear hok2 hrl hMn hM2 hE hs1 hs2 hs21 hs22 hm1L hl
  by_cases hbad : n1 < 1 ∨ 14 < n1 ∨ n2 < 8 ∨ 25000 < n2
  · have hE := hE3.out
    rw [if_pos hbad] at hE
    have HE := hide hE.symm
    have HE0 : Hid (E ≠ 0) := hide (by rw [HE.out]; decide)
    clear hE hE3
    by_cases b1 : n1 < 1
    · have d1 : decide (n1 < 1) = true := decide_eq_true b1
      clear hbad b1
      go_enter Try.func17, Try.ntmps17
      go_wp2_with fail
      refine (Calls.mono HT.out ?_); rintro e w1 ⟨rfl, hg1⟩
      go_wp2_with fail
      refine (Calls.mono (HT2.out _ hg1) ?_); rintro e w2 ⟨rfl, hg2⟩
      go_wp2_with fail
      all_goals exact bodyPost_ret (v := .tuple #[.pointer none, .int .i64 3]) (by simp [results, Try.results17]) rfl ⟨below_step hg1 hg2, .inl ⟨HE0.out, by rw [HE.out]⟩⟩
    have d1 : decide (n1 < 1) = false := decide_eq_false b1
    by_cases b2 : 14 < n1
    · have d2 : decide (14 < n1) = true := decide_eq_true b2
      clear hbad b1 b2
      go_enter Try.func17, Try.ntmps17
      go_wp2_with fail
      refine (Calls.mono HT.out ?_); rintro e w1 ⟨rfl, hg1⟩
      go_wp2_with fail
      refine (Calls.mono (HT2.out _ hg1) ?_); rintro e w2 ⟨rfl, hg2⟩
      go_wp2_with fail
      all_goals exact bodyPost_ret (v := .tuple #[.pointer none, .int .i64 3]) (by simp [results, Try.results17]) rfl ⟨below_step hg1 hg2, .inl ⟨HE0.out, by rw [HE.out]⟩⟩
    have d2 : decide (14 < n1) = false := decide_eq_false b2
    by_cases b3 : n2 < 8
    · have d3 : decide (n2 < 8) = true := decide_eq_true b3
      clear hbad b1 b2 b3
      go_enter Try.func17, Try.ntmps17
      go_wp2_with fail
      refine (Calls.mono HT.out ?_); rintro e w1 ⟨rfl, hg1⟩
      go_wp2_with fail
      refine (Calls.mono (HT2.out _ hg1) ?_); rintro e w2 ⟨rfl, hg2⟩
      go_wp2_with fail
      all_goals exact bodyPost_ret (v := .tuple #[.pointer none, .int .i64 3]) (by simp [results, Try.results17]) rfl ⟨below_step hg1 hg2, .inl ⟨HE0.out, by rw [HE.out]⟩⟩
    have d3 : decide (n2 < 8) = false := decide_eq_false b3
    have b4 : 25000 < n2 := by omega
    have d4 : decide (25000 < n2) = true := decide_eq_true b4
    clear hbad b1 b2 b3 b4
    go_enter Try.func17, Try.ntmps17
    go_wp2_with fail
    refine (Calls.mono HT.out ?_); rintro e w1 ⟨rfl, hg1⟩
    go_wp2_with fail
    refine (Calls.mono (HT2.out _ hg1) ?_); rintro e w2 ⟨rfl, hg2⟩
    go_wp2_with fail
    all_goals exact bodyPost_ret (v := .tuple #[.pointer none, .int .i64 3]) (by simp [results, Try.results17]) rfl ⟨below_step hg1 hg2, .inl ⟨HE0.out, by rw [HE.out]⟩⟩
  have hE := hE3.out
  rw [if_neg hbad] at hE
  have d1 : decide (n1 < 1) = false := decide_eq_false (fun h => hbad (.inl h))
  have d2 : decide (14 < n1) = false := decide_eq_false (fun h => hbad (.inr (.inl h)))
  have d3 : decide (n2 < 8) = false := decide_eq_false (fun h => hbad (.inr (.inr (.inl h))))
  have d4 : decide (25000 < n2) = false := decide_eq_false (fun h => hbad (.inr (.inr (.inr h))))
  have hk1 : 1 ≤ n1 ∧ n1 ≤ 14 ∧ 8 ≤ n2 ∧ n2 ≤ 25000 := by omega
  obtain ⟨hk1, hk2, hk3, hk4⟩ := hk1
  clear hbad hE3
  have hwl : IntKind.u64.wrap ((L.length - M : Nat) : Int) = ((L.length - M : Nat) : Int) := by rw [IntKind.wrap_u64]; omega
  by_cases b5 : ((L.length - M : Nat) : Int) < n2
  · rw [if_pos b5] at hE
    have HE := hide hE.symm
    have HE0 : Hid (E ≠ 0) := hide (by rw [HE.out]; decide)
    have d5 : decide (((L.length - M : Nat) : Int) < n2) = true := decide_eq_true b5
    clear hE
    go_enter Try.func17, Try.ntmps17
    go_wp2_with fail
    refine (Calls.mono HT.out ?_); rintro e w1 ⟨rfl, hg1⟩
    go_wp2_with fail
    refine (Calls.mono (HT2.out _ hg1) ?_); rintro e w2 ⟨rfl, hg2⟩
    go_wp2_with fail
    all_goals exact bodyPost_ret (v := .tuple #[.pointer none, .int .i64 4]) (by simp [results, Try.results17]) rfl ⟨below_step hg1 hg2, .inl ⟨HE0.out, by rw [HE.out]⟩⟩
  rw [if_neg b5] at hE
  have d5 : decide (((L.length - M : Nat) : Int) < n2) = false := decide_eq_false b5
  by_cases b6 : n2 < ((L.length - M : Nat) : Int)
  · rw [if_pos b6] at hE
    have HE := hide hE.symm
    have HE0 : Hid (E ≠ 0) := hide (by rw [HE.out]; decide)
    have d6 : decide (n2 < ((L.length - M : Nat) : Int)) = true := decide_eq_true b6
    clear hE
    go_enter Try.func17, Try.ntmps17
    go_wp2_with fail
    refine (Calls.mono HT.out ?_); rintro e w1 ⟨rfl, hg1⟩
    go_wp2_with fail
    refine (Calls.mono (HT2.out _ hg1) ?_); rintro e w2 ⟨rfl, hg2⟩
    go_wp2_with fail
    all_goals exact bodyPost_ret (v := .tuple #[.pointer none, .int .i64 3]) (by simp [results, Try.results17]) rfl ⟨below_step hg1 hg2, .inl ⟨HE0.out, by rw [HE.out]⟩⟩
  rw [if_neg b6] at hE
  have HE := hide hE.symm
  have d6 : decide (n2 < ((L.length - M : Nat) : Int)) = false := decide_eq_false b6
  have hMc : M < c := by omega
  have hMc1 : ¬ c = M := by omega
  have hMc2 : ¬ c - M = 0 := by omega
  have hMci : (M : Int) < (c : Int) := by omega
  have HCL : Hid (∀ W, Below w.heap.size w W → Calls Try.prog 29 #[.slice (some ⟨b, off + M, none⟩) (L.length - M) (c - M)] W fun e w' => ∃ v, e = .returned v ∧ OwnL (one1 u8v) 1 5 W.heap.size w' v (L.drop M) ∧ Below W.heap.size W w') := hide (fun W hW => by
    have := clone_any b (off + M) (c - M) (L.drop M) W (by rw [List.length_drop]; omega) ((vals_drop HL.out M).below hW)
    rw [List.length_drop] at this
    exact this)
  obtain ⟨k, rfl⟩ : ∃ k : Nat, n1 = k := ⟨n1.toNat, by omega⟩
  have hdl : (L.drop M).length = L.length - M := List.length_drop ..
  have hne2 : L.drop M ≠ [] := fun e => by rw [e] at hdl; simp at hdl; omega
  have HNE := hide hne2
  have HDL := hide hdl
  have HLB : Hid (1 ≤ L.length - M ∧ L.length - M ≤ 25000) := hide (by omega)
  have hwk : IntKind.i64.wrap (k : Int) = k := by rw [IntKind.wrap_i64]; omega
  clear hE hdl hne2 b5 b6
  go_enter Try.func17, Try.ntmps17
  go_wp2_with fail
  refine (Calls.mono HT.out ?_); rintro e w1 ⟨rfl, hg1⟩
  go_wp2_with fail
  refine (Calls.mono (HT2.out _ hg1) ?_); rintro e w2 ⟨rfl, hg2⟩
  go_wp2_with fail
  refine (Calls.mono (HCL.out _ (below_step hg1 hg2)) ?_); rintro e w3 ⟨v3, rfl, ho3, hg3⟩
  obtain ⟨g, gc, rfl, hgb, hgs, hgr, hgl, hgm⟩ := own_form ho3 HNE.out
  have HG := hide hgr
  have HB3 := hide (below_step (below_step hg1 hg2) hg3)
  rw [HDL.out] at hgl ⊢
  clear ho3
  go_wp2_with fail
  have hba : Below w3.heap.size w3 (w3.alloc (.cells #[.int .i64 k, .slice (some ⟨g, 0, none⟩) (L.length - M) gc] 50)) := below_alloc (Below.refl _ _) _
  have hnew := heap_alloc_new w3 (.cells #[.int .i64 k, .slice (some ⟨g, 0, none⟩) (L.length - M) gc] 50)
  refine bodyPost_ret (v := .tuple #[.pointer (some ⟨w3.heap.size, 0, none⟩), .int .i64 0]) (by simp [results, Try.results17]) rfl ⟨below_alloc HB3.out _, .inr ⟨HE.out, w3.heap.size, g, gc, k, rfl, HB3.out.size, rfl, ?_⟩⟩
  rw [HRR.out]
  have hlb := HLB.out
  refine ⟨(cell_of_row _ w3.heap.size 0 _ _ _ hnew).trans rfl, ?_, by simp, HG.out.below hba, by omega, by rw [HDL.out]; exact hlb, fun b hb => HBB.out b (List.mem_of_mem_drop hb)⟩
  rw [HDL.out]
  exact (cell_of_row _ w3.heap.size 1 _ _ _ hnew).trans rfl
end Go.Proofs.Ytdhpjeenbejajaa
