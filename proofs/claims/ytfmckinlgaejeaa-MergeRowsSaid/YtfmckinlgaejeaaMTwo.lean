/- Two rows merged; plain words for MergeTwo. Conditions: the rows readable. -/
import Derived.Test.YtfmckinlgaejeaaMRows
import Derived.Test.YtfmckinlgaejeaaLRows
import Derived.Test.YtfmckinlgaejeaaClean
import Derived.Test.YtfmckinlgaejeaaMOvl
namespace Go.Proofs.Ytfmckinlgaejeaa
set_option linter.unusedVariables false
set_option linter.unusedSimpArgs false
open Go.ChangeShapes Go.WideShapes Go.ChangeAt Go.RowKit

theorem two_at {w : World} {g : Nat} {s t : Sv It} {ty : TypeId} (hg : w.heap[g]? = some (.cells #[s.val, t.val] ty (0, 0))) : RowAt svC 1 w (some ⟨g, 0, none⟩) [s, t] := by
  refine fun _ => ⟨g, 0, rfl, (Array.getElem?_eq_some_iff.1 hg).1, fun k hk j u hu => ?_⟩
  have hj : j = 0 := by
    cases j with
    | zero => rfl
    | succ j => simp at hu
  subst hj
  have hk2 : k = 0 ∨ k = 1 := by simp only [List.length_cons, List.length_nil] at hk; omega
  rcases hk2 with rfl | rfl
  · exact (cell_of_row _ _ 0 _ _ _ hg).trans hu
  · exact (cell_of_row _ _ 1 _ _ _ hg).trans hu
def mrgT (L M : List It) : List It := mrgG (lenR [L, M]) [L, M] []
theorem mrgG_len : ∀ (n : Nat) (R : List (List It)) (O : List It), (mrgG n R O).length ≤ O.length + n
  | 0, R, O => Nat.le_refl _
  | n + 1, R, O => by
    rw [mrgG]
    cases scan R R.length with
    | none => show O.length ≤ _; omega
    | some a =>
      have h1 := mrgG_len n (R.set a ((rowI R a).drop 1)) (addO O (hd R a))
      have h2 := addO_len O (hd R a)
      show (mrgG n _ _).length ≤ _
      omega
theorem mrgT_len (L M : List It) : (mrgT L M).length ≤ L.length + M.length := by
  have := mrgG_len (lenR [L, M]) [L, M] []
  unfold mrgT
  simp [lenR] at this ⊢
  omega
theorem mrgT_row {L M S : List It} (hL : Rising L) (h : RowOf S M) : RowOf (L ++ S) (mrgT L M) := by
  have := mrgG_flat (R := [L, M]) (by
    intro l hl
    simp only [List.mem_cons, List.not_mem_nil, or_false] at hl
    rcases hl with rfl | rfl
    · exact hL
    · exact h.up)
  rw [show [L, M].flatten = L ++ M by simp] at this
  exact ⟨this.up, fun z => (this.mem z).trans (best_append (rising_rowOf hL) h z)⟩
theorem mrgT_self {L : List It} (h : Rising L) : mrgT L L = L := by
  refine (mrgT_row h (rising_rowOf h)).uniq ((rising_rowOf h).congr fun z => ?_)
  simp
theorem m2_any (g : Nat) (s t : Sv It) (w : World) {ty : TypeId} (hg : w.heap[g]? = some (.cells #[s.val, t.val] ty (0, 0))) (hs : ItemsAt w s.A s.L) (hs1 : s.L.length ≤ s.c) (hs2 : s.c ≤ maxLen) (ht : ItemsAt w t.A t.L) (ht1 : t.L.length ≤ t.c) (ht2 : t.c ≤ maxLen) (hl : s.L.length + t.L.length ≤ 100000000) :
    Calls Try.prog 13 #[.slice (some ⟨g, 0, none⟩) 2 2] w (RetSl (mrgT s.L t.L) w) := by
  have := mrows_any (some ⟨g, 0, none⟩) 2 [s, t] w (two_at hg) (by
    intro r hr
    simp only [List.mem_cons, List.not_mem_nil, or_false] at hr
    rcases hr with rfl | rfl
    · exact ⟨hs, hs1, hs2⟩
    · exact ⟨ht, ht1, ht2⟩) (by simp) (by simp [lenR, lsR]; omega)
  exact this
theorem ovB_comm (L M : List It) : ovB L M = ovB M L := by
  cases L with
  | nil => rw [ovB_nil, ovB_nil2]
  | cons x L =>
    cases M with
    | nil => rfl
    | cons y M => exact Bool.and_comm _ _
theorem step_keep {f : Int → Option Int} {g : Int → Option Int} {x : It} (h : hidT g x = true) : stepF f x = f := by
  unfold hidT at h
  simp only [Bool.and_eq_true, decide_eq_true_eq] at h
  funext s
  unfold stepF
  rw [if_neg (fun e => by omega)]
theorem tomb_clean (g : Int → Option Int) : ∀ (L : List It) (f : Int → Option Int), (keepL (hidT g) L).foldl stepF f = L.foldl stepF f
  | [], f => rfl
  | x :: L, f => by
    unfold keepL
    rw [List.filter_cons]
    cases h : hidT g x with
    | true =>
      rw [if_neg (by simp), List.foldl_cons, step_keep h]
      exact tomb_clean g L f
    | false =>
      rw [if_pos (by simp), List.foldl_cons, List.foldl_cons]
      exact tomb_clean g L _
theorem clean_clean (L : List It) : cleanL (cleanL L) = cleanL L := by
  have h : tombF (cleanL L) = tombF L := tomb_clean (tombF L) L _
  show keepL (hidT (tombF (cleanL L))) (cleanL L) = cleanL L
  rw [h]
  unfold cleanL keepL
  rw [List.filter_filter]
  congr 1
  funext x
  simp
theorem clean_len (L : List It) : (cleanL L).length ≤ L.length := by unfold cleanL keepL; exact List.length_filter_le _ _
theorem clean_mem {L : List It} {x : It} (h : x ∈ cleanL L) : x ∈ L := (List.mem_filter.1 h).1
theorem rk_mem {L : List It} {x : It} (h : x ∈ rk L) : x ∈ L := by
  have hr := mrgsL_flat (((L.take 40).filter goodB).map fun x => [x]) (fun l hl => by
    obtain ⟨x, _, rfl⟩ := List.mem_map.1 hl
    exact rising_1 x)
  have := ((hr.mem x).1 h).1
  rw [List.mem_flatten] at this
  obtain ⟨l, hl, hx⟩ := this
  obtain ⟨y, hy, rfl⟩ := List.mem_map.1 hl
  obtain rfl := List.mem_singleton.1 hx
  exact List.mem_of_mem_take (List.mem_filter.1 hy).1
end Go.Proofs.Ytfmckinlgaejeaa
