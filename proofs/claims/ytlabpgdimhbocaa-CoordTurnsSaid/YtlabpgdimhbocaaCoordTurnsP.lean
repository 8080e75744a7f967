/- CoordTurns in plain words: two answers, in either order. -/
import Derived.Test.YtlabpgdimhbocaaCoI
import Derived.Test.YtlabpgdimhbocaaStLaw
namespace Go.Proofs.Ytlabpgdimhbocaa
set_option linter.unusedVariables false
set_option linter.unusedSimpArgs false
open Go.ChangeShapes Go.WideShapes Go.ChangeAt Go.RowKit
/-- On, with the blocks that it wrote. -/
theorem con_x {w0 w : World} {b : Nat} {X : Nat → Prop} {R R' : Co} {B : Bool} (h : CoO w0 w b X R) (k : CoK R) (m : Mg) (hm : m.rd w0) (e1 : conR R m = R') (e2 : conB R m = B) (hI : refC R m = false → hitC R m → R.cnt + 1 = R.n / 2 + 1 → ItemsH b (gotC R m).G R.cs) :
    Calls Try.prog 9 #[.pointer (some ⟨b, 0, none⟩), m.val] w fun e w' => e = .returned (.bool B) ∧ CoO w0 w' b (Xn X w w') R' ∧ Sets X w w' := by
  subst e1
  subst e2
  have hl : m.L.length ≤ 9223372036854775807 := by
    have h1 := hm.2
    unfold maxLen at h1
    omega
  exact con_any h m hm hl k hI
/-- A get of three nodes. -/
abbrev g3 (a s : Int) (C : Nat → Bool) (G : List Gt) : Co := coG 3 a 5 3 s 0 0 0 C G 0
abbrev gB (n : Int) (L : List It) : Gt := ⟨n, none, 0, L⟩
theorem g3_k {a s : Int} (hs : 0 ≤ s ∧ s ≤ 255) {C : Nat → Bool} {G : List Gt} (hG : G.length ≤ 1000) : CoK (g3 a s C G) := coG_k (by omega) hs (by omega) hG
section
variable {a s : Int} {m m' : Mg} {i j : Nat}
theorem t1_yes (hk : m.k = 5) (hm : mokB m = true) (ht : m.t = a) (hid : m.id = 5) (hf : m.f = (i : Int)) (hi : i < 3) : conR (g3 a s (fun _ => false) []) m = g3 a s (setC (fun _ => false) i) [gB m.n m.L] ∧ conB (g3 a s (fun _ => false) []) m = true := by
  have h := con_more (n := 3) (a := a) (id := 5) (k := 3) (s := s) (t := 0) (x := 0) (v := 0) (C := fun _ => false) (G := []) (tk := 0) (m := m) (i := i) (.inl ⟨rfl, hk⟩) hm ht hid hf hi rfl (by rw [cntC_none]; omega)
  exact h
theorem t_no {C : Nat → Bool} {G : List Gt} (hm : mokB m = false) : conR (g3 a s C G) m = g3 a s C G ∧ conB (g3 a s C G) m = false := by
  have hr : refC (g3 a s C G) m = true := by unfold refC; simp [hm]
  exact ⟨by unfold conR; rw [if_pos hr], by unfold conB; rw [hr]; rfl⟩
theorem t2_yes {n0 : Int} {L0 : List It} (hk : m.k = 5) (hm : mokB m = true) (ht : m.t = a) (hid : m.id = 5) (hf : m.f = (j : Int)) (hj : j < 3) (hi : i < 3) (hij : i ≠ j) :
    conR (g3 a s (setC (fun _ => false) i) [gB n0 L0]) m = end1C (g3 a s (setC (setC (fun _ => false) i) j) [gB n0 L0, gB m.n m.L]) 0 0 (itemsC [gB n0 L0, gB m.n m.L] s) ∧ conB (g3 a s (setC (fun _ => false) i) [gB n0 L0]) m = true := by
  have h := con_ends (n := 3) (a := a) (id := 5) (k := 3) (s := s) (t := 0) (x := 0) (v := 0) (C := setC (fun _ => false) i) (G := [gB n0 L0]) (tk := 0) (m := m) (i := j) (.inl ⟨rfl, hk⟩) hm ht hid hf hj (by unfold setC; rw [if_neg (fun e => hij e.symm)]) (by rw [cntC_set hi rfl, cntC_none])
  exact h
theorem end1_AL (R : Co) (ver : Int) (LI : List It) : (end1C R 0 ver LI).AL = LI := by
  show endA 0 LI = LI
  unfold endA
  rw [if_pos rfl]
/-- What is behind two messages. -/
noncomputable def two (a s : Int) (m m' : Mg) : Co := conR (conR (g3 a s (fun _ => false) []) m) m'
noncomputable def one (a s : Int) (m : Mg) : Co := conR (g3 a s (fun _ => false) []) m
theorem one_eq (hk : m.k = 5) (ht : m.t = a) (hid : m.id = 5) (hf : m.f = (i : Int)) (hi : i < 3) : one a s m = (if mokB m = true then g3 a s (setC (fun _ => false) i) [gB m.n m.L] else g3 a s (fun _ => false) []) ∧ conB (g3 a s (fun _ => false) []) m = mokB m := by
  cases hm : mokB m with
  | true => exact ⟨by rw [if_pos rfl]; exact (t1_yes hk hm ht hid hf hi).1, (t1_yes hk hm ht hid hf hi).2⟩
  | false => exact ⟨by rw [if_neg (by simp)]; exact (t_no hm).1, (t_no hm).2⟩
theorem two_eq (hk : m.k = 5) (ht : m.t = a) (hid : m.id = 5) (hf : m.f = (i : Int)) (hi : i < 3) (hk' : m'.k = 5) (ht' : m'.t = a) (hid' : m'.id = 5) (hf' : m'.f = (j : Int)) (hj : j < 3) (hij : i ≠ j) :
    conB (one a s m) m' = mokB m' ∧ (two a s m m').dn = (mokB m && mokB m') ∧ (two a s m m').ae = 0 ∧ (two a s m m').AL = (if mokB m = true ∧ mokB m' = true then itemsC [gB m.n m.L, gB m'.n m'.L] s else []) := by
  have h1 := (one_eq (s := s) hk ht hid hf hi).1
  unfold two
  rw [show conR (g3 a s (fun _ => false) []) m = one a s m from rfl]
  cases hm : mokB m with
  | true =>
    rw [hm, if_pos rfl] at h1
    rw [h1]
    cases hm' : mokB m' with
    | true =>
      have h2 := t2_yes (s := s) (n0 := m.n) (L0 := m.L) hk' hm' ht' hid' hf' hj hi hij
      refine ⟨h2.2, by rw [h2.1]; rfl, by rw [h2.1]; rfl, ?_⟩
      rw [h2.1]
      have e1 : (end1C (g3 a s (setC (setC (fun _ => false) i) j) [gB m.n m.L, gB m'.n m'.L]) 0 0 (itemsC [gB m.n m.L, gB m'.n m'.L] s)).AL = itemsC [gB m.n m.L, gB m'.n m'.L] s := end1_AL _ _ _
      rw [e1]
      exact (if_pos ⟨rfl, rfl⟩).symm
    | false =>
      have h2 := t_no (a := a) (s := s) (C := setC (fun _ => false) i) (G := [gB m.n m.L]) hm'
      refine ⟨h2.2, by rw [h2.1]; rfl, by rw [h2.1]; rfl, by rw [h2.1, if_neg (by simp)]; rfl⟩
  | false =>
    rw [hm, if_neg (by simp)] at h1
    rw [h1]
    have h2 := one_eq (a := a) (s := s) hk' ht' hid' hf' hj
    unfold one at h2
    cases hm' : mokB m' with
    | true =>
      rw [hm', if_pos rfl] at h2
      refine ⟨h2.2, by rw [h2.1]; rfl, by rw [h2.1]; rfl, by rw [h2.1, if_neg (by simp)]; rfl⟩
    | false =>
      rw [hm', if_neg (by simp)] at h2
      refine ⟨h2.2, by rw [h2.1]; rfl, by rw [h2.1]; rfl, by rw [h2.1, if_neg (by simp)]; rfl⟩
/-- What its calls want of a call, between. -/
theorem one_k (hs : 0 ≤ s ∧ s ≤ 255) (hk : m.k = 5) (ht : m.t = a) (hid : m.id = 5) (hf : m.f = (i : Int)) (hi : i < 3) : CoK (one a s m) ∧ (one a s m).G.length ≤ 1 ∧ (∀ g ∈ (one a s m).G, g.L.length ≤ m.L.length) ∧ (one a s m).cs = s ∧ (one a s m).ck = 3 := by
  rw [(one_eq (s := s) hk ht hid hf hi).1]
  split
  · exact ⟨g3_k hs (by simp), by simp [coG], fun g hg => by simp [coG] at hg; rw [hg]; exact Nat.le_refl _, rfl, rfl⟩
  · exact ⟨g3_k hs (by simp), by simp [coG], fun g hg => by simp [coG] at hg, rfl, rfl⟩
theorem got_lim {R : Co} (h1 : R.G.length ≤ 1) (h2 : ∀ g ∈ R.G, g.L.length ≤ 40) (h3 : m.L.length ≤ 40) : (gotC R m).G.length ≤ 1000 ∧ ∀ g ∈ (gotC R m).G, g.L.length ≤ 1000000 := by
  unfold gotC
  split
  · refine ⟨by simp; omega, fun g hg => ?_⟩
    rcases List.mem_append.1 hg with h | h
    · have := h2 g h
      omega
    · rw [List.mem_singleton] at h
      rw [h]
      show m.L.length ≤ _
      omega
  · exact ⟨by omega, fun g hg => by have := h2 g hg; omega⟩
theorem joinL_nil_is (L : List It) (h : Goods L) : IsOf L (joinL [] L) := by
  rw [joinL_nil]
  have := ofL_is L
  rwa [goods_of h] at this
theorem all_goods {L : List It} (h : L.all goodB = true) : Goods L := fun y hy => by
  have := List.all_eq_true.1 h y hy
  unfold goodB at this
  exact of_decide_eq_true this
theorem join2 {L0 L1 : List It} (h0 : Goods L0) (h1 : Goods L1) : joinL (joinL [] L0) L1 = joinL (joinL [] L1) L0 := by
  have a1 := joinL_list (joinL_nil_is L0 h0) h0 L1
  have a2 := joinL_list (joinL_nil_is L1 h1) h1 L0
  rw [goods_of h1] at a1
  rw [goods_of h0] at a2
  exact a1.uniq (a2.congr fun x => by simp only [List.mem_append]; exact or_comm)
theorem mokB_goods (h : mokB m = true) : Goods m.L := by
  unfold mokB at h
  simp only [Bool.and_eq_true] at h
  exact all_goods h.1.2
theorem items_turn {n0 : Int} {L0 L1 : List It} (h0 : Goods L0) (h1 : Goods L1) : itemsC [gB n0 L0, gB n0 L1] s = itemsC [gB n0 L1, gB n0 L0] s := by
  unfold itemsC
  have e : certG [gB n0 L0, gB n0 L1] = certG [gB n0 L1, gB n0 L0] := rfl
  rw [e]
  congr 1
  unfold joinG takeG certG
  simp only [List.foldl_cons, List.foldl_nil]
  by_cases hn : n0 < max (max 0 n0) n0
  · simp only [hn, if_true]
    exact join2 (fun y hy => h0 y (List.mem_filter.1 hy).1) (fun y hy => h1 y (List.mem_filter.1 hy).1)
  · simp only [hn, if_false]
    exact join2 h0 h1
theorem two_turn (hn : m.n = m'.n) (hk : m.k = 5) (ht : m.t = a) (hid : m.id = 5) (hf : m.f = (i : Int)) (hi : i < 3) (hk' : m'.k = 5) (ht' : m'.t = a) (hid' : m'.id = 5) (hf' : m'.f = (j : Int)) (hj : j < 3) (hij : i ≠ j) : (two a s m m').AL = (two a s m' m).AL := by
  rw [(two_eq (s := s) hk ht hid hf hi hk' ht' hid' hf' hj hij).2.2.2, (two_eq (s := s) hk' ht' hid' hf' hj hk ht hid hf hi (fun e => hij e.symm)).2.2.2]
  by_cases h : mokB m = true ∧ mokB m' = true
  · rw [if_pos h, if_pos ⟨h.2, h.1⟩, hn]
    exact items_turn (mokB_goods h.1) (mokB_goods h.2)
  · rw [if_neg h, if_neg (fun e => h ⟨e.2, e.1⟩)]
theorem two_len (h1 : m.L.length ≤ 40) (h2 : m'.L.length ≤ 40) (hk : m.k = 5) (ht : m.t = a) (hid : m.id = 5) (hf : m.f = (i : Int)) (hi : i < 3) (hk' : m'.k = 5) (ht' : m'.t = a) (hid' : m'.id = 5) (hf' : m'.f = (j : Int)) (hj : j < 3) (hij : i ≠ j) : (two a s m m').AL.length ≤ 80 := by
  rw [(two_eq (s := s) hk ht hid hf hi hk' ht' hid' hf' hj hij).2.2.2]
  split
  · unfold itemsC
    refine Nat.le_trans (List.length_filter_le _ _) ?_
    have := joinG_len (certG [gB m.n m.L, gB m'.n m'.L]) [gB m.n m.L, gB m'.n m'.L] 40 (fun g hg => by
      simp at hg
      rcases hg with rfl | rfl
      · exact h1
      · exact h2)
    simpa using this
  · simp
end
end Go.Proofs.Ytlabpgdimhbocaa
