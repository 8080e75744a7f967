/- RoundWhole in plain words: what each node has; the round behind i fills. -/
import Derived.Test.YtikecafblampeaaRndR
import Derived.Test.YtikecafblampeaaEqSl
import Derived.Test.YtikecafblampeaaNest
import Derived.Test.YtikecafblampeaaBits
import Derived.Test.YtikecafblampeaaRAl
import Derived.Test.YtikecafblampeaaMsg2
namespace Go.Proofs.Ytikecafblampeaa.roundWhole
set_option linter.unusedVariables false
set_option linter.unusedSimpArgs false
open Go.ChangeShapes Go.WideShapes Go.ChangeAt Go.RowKit
/-- What a list counts for. -/
def effL (L : List It) : List It := if L.length ≤ 40 ∧ L.all goodB = true then L else []
def effE (L0 : List (Sv It)) (j : Nat) : List It := if h : j < L0.length then effL (L0[j]).L else []
theorem effL_len (L : List It) : (effL L).length ≤ 40 := by
  unfold effL
  split
  · rename_i h; exact h.1
  · simp
theorem effE_len (L0 : List (Sv It)) (j : Nat) : (effE L0 j).length ≤ 1000 := by
  unfold effE
  split
  · have := effL_len (L0[j]).L
    omega
  · simp
theorem effL_good (L : List It) : (effL L).all goodB = true := by
  unfold effL
  split
  · rename_i h; exact h.2
  · rfl
theorem effE_good (L0 : List (Sv It)) (j : Nat) : (effE L0 j).all goodB = true := by
  unfold effE
  split
  · exact effL_good _
  · rfl
abbrev mW (k : Int) (i : Nat) (A : Option Addr) (c : Nat) (L : List It) : Mg := ⟨k, (i : Int), 0, 9, 140737488355328, A, c, L⟩
theorem mW_ok {i : Nat} (h : i < 7) {A : Option Addr} {c : Nat} {L : List It} (hl : L.length ≤ 1000) : mokB (mW 7 i A c L) = L.all goodB := by
  have h1 : (i : Int) < 7 := by omega
  have h2 : L.length ≤ 1500 := by omega
  unfold mokB nodeB withB
  simp [h1, h2]
theorem mF_ok {i : Nat} (h : i < 7) : mokB (mW 9 i none 0 []) = true := by
  have h1 : (i : Int) < 7 := by omega
  unfold mokB nodeB withB
  simp [h1]
theorem Sl.sets {S : Nat → Prop} {w w' : World} {v : Value} {L : List It} (h : Sl w v L) (k : Sets S w w') (hS : ∀ g, v.ownBlock = some g → ¬ S g) : Sl w' v L := by
  obtain ⟨A, c, rfl, hr, h1, h2⟩ := h
  refine ⟨A, c, rfl, fun hne => ?_, h1, h2⟩
  obtain ⟨b, off, rfl, hlt, hc⟩ := hr hne
  exact ⟨b, off, rfl, Nat.lt_of_lt_of_le hlt k.size, fun j hj i u hu => (World.cell?_of_block (k.block b hlt (hS b rfl))).trans (hc j hj i u hu)⟩
/-- Behind i fills. -/
noncomputable def RF (E : Nat → List It) (n s i : Nat) : Rs := if i = n then endG n 0 9 140737488355328 (rotC n s n) (JL E n s n) 0 0 140737488355328 else stG n 0 9 140737488355328 2 (rotC n s i) (JL E n s n) 0
section
variable {E : Nat → List It} {n s i : Nat}
theorem RF_k (hn : 1 ≤ n ∧ n ≤ 7) (hE : ∀ j, (E j).length ≤ 1000) : RndK (RF E n s i) := by
  have h2 := JL_len hE n s n
  unfold RF
  split
  · exact endG_k (by omega) (by omega) (by omega)
  · exact stG_k (by omega) (by omega) (by omega) (by omega)
theorem RF_zero (hn : 1 ≤ n) (hs : s < n) : RF E n s 0 = stG n 0 9 140737488355328 2 (fun _ => false) (JL E n s n) 0 := by
  unfold RF
  rw [if_neg (by omega), rotC_zero hs]
theorem RF_end : RF E n s n = endG n 0 9 140737488355328 (rotC n s n) (JL E n s n) 0 0 140737488355328 := by unfold RF; rw [if_pos rfl]
theorem RF_st (h : i ≠ n) : RF E n s i = stG n 0 9 140737488355328 2 (rotC n s i) (JL E n s n) 0 := by unfold RF; rw [if_neg h]
theorem RF_on (hn : n ≤ 7) (hs : s < n) (hi : i < n) : onR (RF E n s i) (mW 9 (rot n s i) none 0 []) = RF E n s (i + 1) ∧ ∃ M, onM (RF E n s i) (mW 9 (rot n s i) none 0 []) = M ∧ (i + 1 < n → M = []) ∧ (i + 1 = n → M.length = n ∧ ∀ x ∈ M, x.k = 10) := by
  have hr := rot_lt hs hi
  rw [RF_st (by omega)]
  by_cases hlast : i + 1 = n
  · obtain ⟨h1, h2⟩ := on_done (n := n) (a := 0) (id := 9) (f := 140737488355328) (C := rotC n s i) (L := JL E n s n) (tk := 0) (m := mW 9 (rot n s i) none 0 []) (i := rot n s i) rfl (mF_ok (by omega)) rfl rfl rfl rfl hr (rotC_at hs hi) (rotC_full hs hlast)
    rw [h1, h2, rotC_set hs hi]
    refine ⟨by rw [hlast, RF_end], _, rfl, fun h => absurd h (by omega), fun _ => ⟨evenTo_len _ _, fun x hx => ?_⟩⟩
    unfold evenTo at hx
    obtain ⟨j, _, rfl⟩ := List.mem_map.1 hx
    rfl
  · obtain ⟨h1, h2⟩ := on_more (n := n) (a := 0) (id := 9) (f := 140737488355328) (p := 2) (C := rotC n s i) (L := JL E n s n) (tk := 0) (m := mW 9 (rot n s i) none 0 []) (i := rot n s i) (.inr ⟨rfl, rfl⟩) (mF_ok (by omega)) rfl rfl rfl rfl hr (rotC_at hs hi) (rotC_next hs (by omega))
    rw [h1, h2, rotC_set hs hi]
    refine ⟨?_, _, rfl, fun _ => rfl, fun h => absurd h hlast⟩
    rw [RF_st hlast]
    rfl
/-- What is told behind the last seal. -/
theorem fills_at {R : Rs} {N : List Mg} (hp : R.ph = 2) (hn : R.n = (n : Int)) (h : N.map Mg.bare = sendR R true) : N.length = n ∧ ∀ j (hj : j < N.length), (N[j]'hj).k = 8 ∧ (N[j]'hj).t = (j : Int) ∧ (N[j]'hj).L = R.L := by
  have e : sendR R true = (List.range n).map fun (j : Nat) => toM R (j : Int) 8 := by
    unfold sendR
    rw [if_neg (by omega)]
    unfold sendTo kindR
    rw [if_pos hp, hn]
    have : ((List.range (n : Int).toNat).filter fun j => true || !R.C j) = List.range n := by
      show (List.range (n : Int).toNat).filter (fun _ => true) = _
      simp
    rw [this]
  rw [e] at h
  have hl : N.length = n := by
    have := congrArg List.length h
    simpa using this
  refine ⟨hl, fun j hj => ?_⟩
  have hm : (N[j]'hj).bare = toM R (j : Int) 8 := by
    have h1 : (N.map Mg.bare)[j]'(by simpa using hj) = ((List.range n).map fun (j : Nat) => toM R (j : Int) 8)[j]'(by simp; omega) := by simp only [h]
    simpa using h1
  unfold Mg.bare toM at hm
  injection hm with e1 e2 e3 e4 e5 e6 e7 e8
  exact ⟨e1, e3, by simpa using e8⟩
end
end Go.Proofs.Ytikecafblampeaa.roundWhole
