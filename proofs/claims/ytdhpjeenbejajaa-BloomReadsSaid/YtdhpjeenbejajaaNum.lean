/- clepsydra/num.Put: a contract. Conditions: typed at it. -/
import Derived.Test.YtdhpjeenbejajaaBlm4
namespace Go.Proofs.Ytdhpjeenbejajaa
set_option linter.unusedVariables false
set_option linter.unusedSimpArgs false
open Go.ChangeShapes Go.WideShapes Go.ChangeAt Go.RowKit

def putAux : Nat → Int → List Int
  | 0, _ => []
  | f + 1, n => if n < 128 then [n] else bits .or .u8 (n % 256) 128 :: putAux f (n / 128)
def putL (n : Int) : List Int := putAux 11 n
theorem putAux_len (f : Nat) (n : Int) : (putAux f n).length ≤ f := by
  induction f generalizing n with
  | zero => simp [putAux]
  | succ f ih =>
    rw [putAux]
    split
    · simp
    · rw [List.length_cons]; have := ih (n / 128); omega

set_option maxHeartbeats 1000000 in
theorem put_any (A : Option Addr) (c : Nat) (L : List Int) (n : Int) (w : World) (hl : L.length ≤ 1099511627776) (hL : ValsAt u8v w A L) (hn : 0 ≤ n ∧ n < 18446744073709551616) :
    Calls Try.prog 25 #[.slice A L.length c, .int .u64 n] w fun e w' => ∃ v, e = .returned v ∧ OwnL (one1 u8v) 1 5 w.heap.size w' v (L ++ putL n) ∧ Below w.heap.size w w' := by
  go_enter Try.func25, Try.ntmps25
  go_wp2_with (at_builtin; refine wpList_append_vals rfl (.const (.slice none 0 0)) (.tmp 6) 27 5 _ 1 rfl Try.underlying27 Try.infoU8 rfl (fun _ => rfl) (by omega) w.heap.size _ [] rfl (OwnL.nil_ _ _ _ _ _) A c L rfl hL (by simp; omega) (Nat.le_refl _) ?_; intro v1 u1 ho1 hgu1)
  have hgu2 : w.grownBy u1 none := hgu1
  have hb1 : Below w.heap.size w u1 := (Below.refl _ _).grown hgu2 (Nat.le_refl _) (fun k hk => nomatch hk)
  have HO1 := hide ho1
  have HB1 := hide hb1
  clear ho1 hgu1 hgu2 hb1 hL
  rw [List.nil_append] at HO1
  go_loopw [1, 5] (fun m v wr => ∃ (f : Nat) (M : List Int) (x : Int), M.length + f = 10 ∧ 0 ≤ x ∧ x < 2 ^ (7 * f) ∧ x < 18446744073709551616 ∧ putL n = M ++ putAux (f + 1) x ∧ m = .int .u64 x ∧ OwnL (one1 u8v) 1 5 w.heap.size wr v (L ++ M) ∧ Below w.heap.size w wr) (fun m _ _ => (intOf m).toNat)
  case atStart => exact ⟨10, [], n, rfl, hn.1, Int.lt_trans hn.2 (by decide), hn.2, rfl, rfl, by rw [List.append_nil]; exact HO1.out, HB1.out⟩
  case round =>
    obtain ⟨f, M, x, hf, hx0, hx1, hx2, hpe, rfl, ho, hb⟩ := hrel
    clear HO1 HB1
    have HO := hide ho
    have HB := hide hb
    have HPE := hide hpe
    have hbs := hb.size
    have HX1 := hide hx1
    clear ho hb hpe hx1
    by_cases h128 : x < 128
    · have hge : ¬ (128 ≤ x) := by omega
      have hxm : x % 256 = x := by omega
      go_wp2_with (at_builtin; refine wpList_append_one rfl (.tmp 18) (.tmp 21) 27 5 _ 1 rfl Try.underlying27 Try.infoU8 rfl (fun _ => rfl) (by omega) _ _ _ _ _ _ (L ++ M) x rfl rfl rfl HO.out HB.out (Nat.le_refl _) hbs (by rw [List.length_append]; omega) ?_; intro v2 u2 ho2 hbu2 hgu2)
      refine bodyPost_ret (v := v2) (by simp [results, Try.results25]) rfl ⟨v2, rfl, ?_, hbu2⟩
      rw [HPE.out, show putAux (f + 1) x = [x] from by rw [putAux, if_pos h128], ← List.append_assoc]
      exact ho2
    · have hge : 128 ≤ x := by omega
      obtain ⟨y, hy⟩ : ∃ y, bits .or .u8 (x % 256) 128 = y := ⟨_, rfl⟩
      go_wp2_with (at_builtin; refine wpList_append_one rfl (.tmp 12) (.tmp 16) 27 5 _ 1 rfl Try.underlying27 Try.infoU8 rfl (fun _ => rfl) (by omega) _ _ _ _ _ _ (L ++ M) y rfl rfl rfl HO.out HB.out (Nat.le_refl _) hbs (by rw [List.length_append]; omega) ?_; intro v2 u2 ho2 hbu2 hgu2)
      rcases f with _ | f
      · have := HX1.out
        simp at this
        omega
      have hx3 : x / 128 < 2 ^ (7 * f) := by
        apply Int.ediv_lt_of_lt_mul (by decide)
        have h := HX1.out
        rw [show 7 * (f + 1) = 7 * f + 7 by omega, Int.pow_add] at h
        exact h
      refine ⟨⟨f, M ++ [y], x / 128, by rw [List.length_append, List.length_singleton]; omega, by omega, hx3, by omega, ?_, rfl, ?_, hbu2⟩, by simp [intOf]; omega⟩
      · rw [HPE.out, show putAux (f + 1 + 1) x = bits .or .u8 (x % 256) 128 :: putAux (f + 1) (x / 128) from by rw [putAux, if_neg h128], hy]
        simp
      · rw [← List.append_assoc]; exact ho2
end Go.Proofs.Ytdhpjeenbejajaa
