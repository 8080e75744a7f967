/- What many keys make of a filter: plain facts; two fillings with the same keys; a row of bytes as a string. -/
import Derived.Test.YtdhpjeenbejajaaBlmAwake
import Derived.Test.YtdhpjeenbejajaaNest
import Derived.Laws.BytesArg
namespace Go.Proofs.Ytdhpjeenbejajaa
set_option linter.unusedVariables false
set_option linter.unusedSimpArgs false
open Go.ChangeShapes Go.WideShapes Go.ChangeAt Go.RowKit

def plG (S k : Nat) (K : List Int) : List Int := placesL (hashL K) S k
def addsG (S k : Nat) (Ks : List (Sv Int)) : List Int := Ks.foldl (fun B s => addL B (plG S k s.L)) (zeros S)
theorem addsG_snoc (S k : Nat) (Ks : List (Sv Int)) (s : Sv Int) : addsG S k (Ks ++ [s]) = addL (addsG S k Ks) (plG S k s.L) := by simp [addsG]
theorem okQ_plG {S k : Nat} (hS : 0 < S) (K : List Int) : ∀ q ∈ plG S k K, okQ S q := okQ_places hS
theorem addsG_inv {S : Nat} (hS : 0 < S) (k : Nat) (Ks : List (Sv Int)) :
    okB (addsG S k Ks) ∧ (addsG S k Ks).length = S ∧ ∀ p, okQ S p → (clrP (addsG S k Ks) p = true ↔ ∀ s ∈ Ks, p ∉ plG S k s.L) := by
  induction h : Ks.length generalizing Ks with
  | zero =>
    obtain rfl := List.eq_nil_of_length_eq_zero h
    exact ⟨okB_zeros S, by simp [addsG, zeros], fun p hp => by simp [addsG, show clrP (zeros S) p = true from clrP_zeros S hp]⟩
  | succ n ih =>
    rcases List.eq_nil_or_concat Ks with rfl | ⟨M, s, rfl⟩
    · simp at h
    · rw [List.concat_eq_append] at *
      obtain ⟨h1, h2, h3⟩ := ih M (by simpa using h)
      rw [addsG_snoc]
      refine ⟨okB_addL h1 _, by rw [addL_len, h2], fun p hp => ?_⟩
      rw [clrP_addL h1 (by rw [h2]; exact okQ_plG hS _) (by rw [h2]; exact hp)]
      simp only [Bool.and_eq_true, Bool.not_eq_true', decide_eq_false_iff_not, h3 p hp, List.mem_append, List.mem_singleton]
      constructor
      · rintro ⟨a, b⟩ t (ht | rfl)
        · exact a t ht
        · exact b
      · intro a
        exact ⟨fun t ht => a t (.inl ht), a s (.inr rfl)⟩
theorem addsG_same {S : Nat} (hS : 0 < S) (k : Nat) {Ks Ms : List (Sv Int)} (h1 : ∀ s ∈ Ks, s ∈ Ms) (h2 : ∀ s ∈ Ms, s ∈ Ks) : addsG S k Ks = addsG S k Ms := by
  obtain ⟨a1, a2, a3⟩ := addsG_inv hS k Ks
  obtain ⟨b1, b2, b3⟩ := addsG_inv hS k Ms
  refine bytes_ext a1 b1 (by rw [a2, b2]) fun q hq => ?_
  rw [a2] at hq
  rw [Bool.eq_iff_iff, a3 q hq, b3 q hq]
  exact ⟨fun h s hs => h s (h2 s hs), fun h s hs => h s (h1 s hs)⟩

theorem conv_vals {w : World} {A : Option Addr} {c : Nat} {L : List Int} (hL : ValsAt u8v w A L) (hne : L ≠ []) : (convert 27 9 (.slice A L.length c)).run Try.prog w = .ok (.string (strOfNums L)) w := by
  obtain ⟨b, off, rfl, _, hc⟩ := hL hne
  refine run_convert_bytes_arg w 27 5 Try.underlying27 Try.underlying5 b off L.length c L rfl (fun i hi => ?_) 9 Try.underlying9
  have := hc i hi 0 _ rfl
  simpa [List.getD, List.getElem?_eq_getElem hi] using this
theorem Flt.grown {w w' : World} {p g k : Nat} {B : List Int} {r : Nat} (h : Flt w p g k B) (hg : w.grownBy w' (some r)) (h1 : p ≠ r) (h2 : g ≠ r) : Flt w' p g k B :=
  { h with st := (hg.block p h.lt.1 (by intro e; injection e with e; exact h1 e)).trans h.st, bl := (hg.block g h.lt.2 (by intro e; injection e with e; exact h2 e)).trans h.bl }
end Go.Proofs.Ytdhpjeenbejajaa
