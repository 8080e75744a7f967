/- A get that lacks what it must have is told as wrong: plain words. -/
import Derived.Test.YtebnifpclebliaaAxParts
import Derived.Test.YtebnifpclebliaaAxEv
namespace Go.Proofs.Ytebnifpclebliaa
set_option linter.unusedVariables false
set_option linter.unusedSimpArgs false
open Go.ChangeShapes Go.WideShapes Go.ChangeAt Go.RowKit

/-- The numbers of puts without deletes. -/
def putX (x : Int) : Int := x % 64 + 64
def mN (L : List Int) (k : Nat) : List Int := (List.range k).map fun i => putX (L.getD i 0)
theorem mN_len (L : List Int) (k : Nat) : (mN L k).length = k := by simp [mN]
theorem mN_snoc (L : List Int) (k : Nat) : mN L (k + 1) = mN L k ++ [putX (L.getD k 0)] := by simp [mN, List.range_succ]
theorem mN_get (L : List Int) (k i : Nat) (h : i < k) : (mN L k).getD i 0 = putX (L.getD i 0) := by
  unfold mN
  rw [List.getD_eq_getElem?_getD, List.getElem?_map, List.getElem?_range h]
  rfl
/-- Of these items none deletes, and its version tells which one it is. -/
structure Puts (M : List It) : Prop where
  good : ∀ z ∈ M, It.good z
  put : ∀ z ∈ M, z.k = 2
  one : ∀ y ∈ M, ∀ z ∈ M, y.v = z.v → y = z
  low : ∀ z ∈ M, z.v ≤ 1000
theorem puts_m {L : List Int} {k : Nat} (hk : k ≤ 20) : Puts (itemsL (putsN (mN L k) k)) := by
  rw [putsN_part]
  have hm : ∀ z, z ∈ itemsL (partA (mN L k) (fun _ => true) k) → ∃ i, i < k ∧ z = pit i (putX (L.getD i 0)) := fun z hz => by
    obtain ⟨i, hi, _, rfl⟩ := (mem_part (by omega)).1 hz
    exact ⟨i, hi, by rw [mN_get L k i hi]⟩
  refine ⟨part_good (by omega), fun z hz => ?_, fun y hy z hz h => ?_, fun z hz => ?_⟩
  · obtain ⟨i, hi, rfl⟩ := hm z hz
    unfold pit putX
    rw [if_neg (by omega)]
  · obtain ⟨i, hi, rfl⟩ := hm y hy
    obtain ⟨j, hj, rfl⟩ := hm z hz
    rw [pit_v, pit_v] at h
    obtain rfl : i = j := by omega
    rfl
  · obtain ⟨i, hi, rfl⟩ := hm z hz
    rw [pit_v]
    omega
theorem puts_some {L : List Int} {k : Nat} (hk : k ≤ 20) (h0 : 0 < k) : itemsL (putsN (mN L k) k) ≠ [] := fun e => by
  rw [putsN_part] at e
  have : pit 0 ((mN L k).getD 0 0) ∈ itemsL (partA (mN L k) (fun _ => true) k) := (mem_part (by omega)).2 ⟨0, h0, rfl, rfl⟩
  rw [e] at this
  simp at this
theorem fold_some {M : List It} (hg : ∀ z ∈ M, It.good z) (hk : ∀ z ∈ M, z.k = 2) (h : M ≠ []) : ofL M ≠ [] := fun e => by
  obtain ⟨x, hx⟩ := List.exists_mem_of_ne_nil M h
  obtain ⟨y, hy, hxy, _, hb⟩ := best_ex M x hx
  have : y ∈ ofL M := (fold_there hg).2 ⟨hy, fun z hz hs => hb z hz (by obtain ⟨a, b, c⟩ := hs; obtain ⟨d, e, f⟩ := hxy; exact ⟨d.trans a, e.trans b, f.trans c⟩), fun t ht hh => by have := hk t ht; have := hh.1; omega⟩
  rw [e] at this
  simp at this
def lackL (G : List It) (x : It) : List It := G.filter fun y => !eqI y x
def oddI (v : Int) (x y : It) : It := if eqI y x then ⟨y.s, y.k, y.t, y.v, v⟩ else y
theorem lack_read {M : List It} {x : It} (hM : Puts M) (hx : x ∈ ofL M) : readL M [x.v] (lackL ((ofL M).filter (serP x.s)) x) x.s = false := by
  have hxM := ((fold_there hM.good).1 hx).1
  unfold readL
  have : anyI (rd2 x.s [x.v] M (lackL ((ofL M).filter (serP x.s)) x)) M = true := anyI_true.2 ⟨x, hxM, rd2_iff.2 ⟨rfl, hasU_iff.2 (by simp), by
    unfold thereB
    have e1 : anyI (isB x) (lackL ((ofL M).filter (serP x.s)) x) = false := anyI_false.2 fun y hy => Bool.eq_false_iff.2 fun e => by
      obtain ⟨a, b⟩ := List.mem_filter.1 hy
      have hyS := (List.mem_filter.1 a).1
      have hs := (isB_iff.1 e).1
      have hyx : y = x := by
        have hst := ofL_state M
        have key := hst.isOf
        have t1 := (key.mem x).1 hx
        have t2 := (key.mem y).1 hyS
        have hs' : It.same y x := ⟨hs.1.symm, hs.2.1.symm, hs.2.2.symm⟩
        exact It.same_eq hs' (t1.2.1 y hyS hs) (t2.2.1 x hx hs')
      subst hyx
      rw [eqI_self] at b
      cases b
    have e2 : anyI (goneB x (lackL ((ofL M).filter (serP x.s)) x)) M = false := anyI_false.2 fun t ht => Bool.eq_false_iff.2 fun e => by
      have h1 := (goneB_iff.1 e).1
      have h2 := hM.put t ht
      omega
    rw [e1, e2]; rfl⟩⟩
  rw [this]; simp
theorem read_nobody {M G : List It} {s : Int} (hst : IsState G) (h : ∀ y ∈ G, y.s = s ∧ y ∈ M) : readL M [] G s = true := by
  unfold readL
  have e1 : anyI (rd1 s M) G = false := anyI_false.2 fun y hy => by
    obtain ⟨a, b⟩ := h y hy
    unfold rd1
    rw [decide_eq_true a, eqI_any.2 b]; rfl
  have e2 : anyI (rd2 s [] M G) M = false := anyI_false.2 fun y _ => Bool.eq_false_iff.2 fun e => by
    have := (rd2_iff.1 e).2.1
    simp [hasU] at this
  rw [stateB_true hst, e1, e2]; rfl
theorem lack_nobody {M : List It} {x : It} (hM : Puts M) : readL M [] (lackL ((ofL M).filter (serP x.s)) x) x.s = true :=
  read_nobody (((ofL_state M).filter _).filter _) fun y hy => by
    obtain ⟨a, _⟩ := List.mem_filter.1 hy
    obtain ⟨b, c⟩ := List.mem_filter.1 a
    exact ⟨by unfold serP at c; exact of_decide_eq_true c, ((fold_there hM.good).1 b).1⟩
theorem odd_nobody {M : List It} {x : It} (v : Int) (hM : Puts M) (hx : x ∈ ofL M) : readL M [] (((ofL M).filter (serP x.s)).map (oddI v x)) x.s = (v == x.x) := by
  have hxG : x ∈ (ofL M).filter (serP x.s) := List.mem_filter.2 ⟨hx, by unfold serP; simp⟩
  have hxM := ((fold_there hM.good).1 hx).1
  by_cases h : v = x.x
  · have e : ((ofL M).filter (serP x.s)).map (oddI v x) = (ofL M).filter (serP x.s) := by
      conv => rhs; rw [← List.map_id ((ofL M).filter (serP x.s))]
      refine List.map_congr_left fun y _ => ?_
      unfold oddI
      by_cases hy : eqI y x = true
      · rw [if_pos hy]
        have := eqI_iff.1 hy
        subst this
        subst h
        rfl
      · rw [if_neg hy]; rfl
    rw [e, read_nobody ((ofL_state M).filter _) fun y hy => by
      obtain ⟨b, c⟩ := List.mem_filter.1 hy
      exact ⟨by unfold serP at c; exact of_decide_eq_true c, ((fold_there hM.good).1 b).1⟩]
    simp [h]
  · have hb : (v == x.x) = false := by simp [h]
    rw [hb]
    unfold readL
    have : anyI (rd1 x.s M) (((ofL M).filter (serP x.s)).map (oddI v x)) = true := anyI_true.2 ⟨oddI v x x, List.mem_map.2 ⟨x, hxG, rfl⟩, by
      unfold rd1
      have e : oddI v x x = ⟨x.s, x.k, x.t, x.v, v⟩ := by unfold oddI; rw [if_pos (eqI_self x)]
      rw [e]
      have hno : anyI (eqI ⟨x.s, x.k, x.t, x.v, v⟩) M = false := Bool.eq_false_iff.2 fun ha => by
        have hm := eqI_any.1 ha
        have := hM.one _ hm _ hxM rfl
        rw [← this] at h
        exact h rfl
      rw [hno]; simp⟩
    rw [this]; simp
def delA (s v : Int) : An := ⟨99, 2, s, 0, 0, 0, v, none, 0, 0⟩
theorem del_gone {M : List It} {x : It} (hM : Puts M) (hx : x ∈ ofL M) : goneL [delA x.s (x.v + 1)] ((ofL M).filter (serP x.s)) = false := by
  have hxM := ((fold_there hM.good).1 hx).1
  have hg := hM.good x hxM
  have hl := hM.low x hxM
  have hgt : It.good ⟨x.s, 1, 0, x.v + 1, 0⟩ := by have h1 := hg.1; have h2 := hg.2.1; unfold It.good; dsimp only; omega
  have hi : itemsL [delA x.s (x.v + 1)] = [⟨x.s, 1, 0, x.v + 1, 0⟩] := by
    obtain ⟨e1, e2⟩ := it_two (k := 2) (s := x.s) (t := 0) (x := 0) (v := x.v + 1) 99 0 none 0 0 rfl
    rw [goodB_true hgt] at e1 e2
    have : itO (delA x.s (x.v + 1)) = some ⟨x.s, 1, 0, x.v + 1, 0⟩ := by
      unfold itO delA
      rw [if_pos (by rw [e1]; rfl)]
      rfl
    unfold itemsL
    simp [this]
  unfold goneL
  rw [hi]
  have : anyI (fun t => anyI (hidesB t) ((ofL M).filter (serP x.s))) [⟨x.s, 1, 0, x.v + 1, 0⟩] = true := anyI_true.2 ⟨⟨x.s, 1, 0, x.v + 1, 0⟩, List.mem_singleton.2 rfl, anyI_true.2 ⟨x, List.mem_filter.2 ⟨hx, by unfold serP; simp⟩, hidesB_iff.2 ⟨rfl, hM.put x hxM, rfl, by show x.v ≤ x.v + 1; omega⟩⟩⟩
  rw [this]; rfl
theorem gone_none (G : List It) : goneL [] G = true := rfl

theorem lack_in {G : List It} {x : It} {k : Nat} (hk : k < G.length) (h : eqI G[k] x = false) : lackL (G.take (k + 1)) x = lackL (G.take k) x ++ [G[k]] := by
  unfold lackL
  rw [List.take_succ_eq_append_getElem hk, List.filter_append]
  simp [h]
theorem lack_out {G : List It} {x : It} {k : Nat} (hk : k < G.length) (h : eqI G[k] x = true) : lackL (G.take (k + 1)) x = lackL (G.take k) x := by
  unfold lackL
  rw [List.take_succ_eq_append_getElem hk, List.filter_append]
  simp [h]
theorem lack_len (G : List It) (x : It) : (lackL G x).length ≤ G.length := List.length_filter_le _ _
/-- The last cell of an item in a row. -/
theorem setx (v : Int) : ∀ (L : List It) (i : Nat) (R : List Value) (hi : i < L.length), (flat L ++ R).set (i * 5 + 4) (.int .i64 v) = flat (L.set i ⟨L[i].s, L[i].k, L[i].t, L[i].v, v⟩) ++ R
  | y :: L, 0, R, _ => by simp [flat_cons, It.cells]
  | y :: L, i + 1, R, h => by
    have ih := setx v L i R (by simpa using h)
    have e : (i + 1) * 5 + 4 = (It.cells y).length + (i * 5 + 4) := by simp [It.cells]; omega
    simp only [List.set_cons_succ, flat_cons, List.append_assoc, List.getElem_cons_succ]
    rw [e, List.set_append_right _ _ (by omega), Nat.add_sub_cancel_left, ih]
def halfL (f : It → It) (L : List It) (k : Nat) : List It := (L.take k).map f ++ L.drop k
theorem halfL_len (f : It → It) (L : List It) (k : Nat) (hk : k ≤ L.length) : (halfL f L k).length = L.length := by unfold halfL; simp; omega
theorem halfL_at (f : It → It) {L : List It} {k : Nat} (hk : k < L.length) (h : k < (halfL f L k).length) : (halfL f L k)[k] = L[k] := by
  have e : (halfL f L k)[k]? = some L[k] := by
    unfold halfL
    rw [List.getElem?_append_right (by simp; omega), List.getElem?_drop, List.length_map, List.length_take, show k + (k - min k L.length) = k by omega, List.getElem?_eq_getElem hk]
  exact (List.getElem?_eq_some_iff.1 e).2
theorem halfL_set (f : It → It) {L : List It} {k : Nat} (hk : k < L.length) : (halfL f L k).set k (f L[k]) = halfL f L (k + 1) := by
  unfold halfL
  rw [List.set_append_right _ _ (by simp; omega), List.drop_eq_getElem_cons hk, List.take_succ_eq_append_getElem hk]
  rw [List.length_map, List.length_take, show k - min k L.length = 0 by omega, List.set_cons_zero, List.map_append, List.append_assoc]
  rfl
theorem halfL_all (f : It → It) (L : List It) : halfL f L L.length = L.map f := by unfold halfL; simp
theorem halfL_none (f : It → It) (L : List It) : halfL f L 0 = L := by unfold halfL; simp
theorem halfL_same (f : It → It) {L : List It} {k : Nat} (hk : k < L.length) (h : f L[k] = L[k]) : halfL f L (k + 1) = halfL f L k := by
  rw [← halfL_set f hk, h]
  have hl : k < (halfL f L k).length := by rw [halfL_len f L k (by omega)]; exact hk
  rw [← halfL_at f hk hl, List.set_getElem_self]
theorem halfL_put (v : Int) (x : It) {L : List It} {k : Nat} (hk : k < L.length) (h : eqI L[k] x = true) (R : List Value) : (flat (halfL (oddI v x) L k) ++ R).set (k * 5 + 4) (.int .i64 v) = flat (halfL (oddI v x) L (k + 1)) ++ R := by
  have hl : k < (halfL (oddI v x) L k).length := by rw [halfL_len _ L k (by omega)]; exact hk
  rw [setx _ _ k R hl, halfL_at _ hk hl]
  have e : oddI v x L[k] = ⟨L[k].s, L[k].k, L[k].t, L[k].v, v⟩ := by unfold oddI; rw [if_pos h]
  rw [← e, halfL_set _ hk]
theorem oddI_not {v : Int} {x y : It} (h : eqI y x = false) : oddI v x y = y := by unfold oddI; rw [h]; rfl
end Go.Proofs.Ytebnifpclebliaa
