/- XStLaw, XCoordTurnsP, XCdP, XCoordReadsP, XBits in one text. Conditions: as typed. -/
import Derived.Test.YtlabpgdimhbocaaStRef
import Derived.Test.YtlabpgdimhbocaaFil
import Derived.Test.YtlabpgdimhbocaaCoI
import Derived.Test.YtlabpgdimhbocaaCdG
import Derived.Test.YtlabpgdimhbocaaREq
import Derived.Test.YtlabpgdimhbocaaLib
namespace Go.Proofs.Ytlabpgdimhbocaa
set_option linter.unusedVariables false
set_option linter.unusedSimpArgs false

theorem there_swap {S T b : List It} (h : IsOf T b) (x : It) : There (b ++ S) x ↔ There (T ++ S) x := by
  have hbT : ∀ y ∈ b, y ∈ T := fun y hy => ((h.mem y).1 hy).1
  unfold There
  constructor
  · rintro ⟨h0, h1, h2⟩
    have h1b : ∀ y ∈ b, It.same x y → ¬ It.wins y x := fun y hy => h1 y (List.mem_append_left _ hy)
    have h1S : ∀ y ∈ S, It.same x y → ¬ It.wins y x := fun y hy => h1 y (List.mem_append_right _ hy)
    have h2b : ∀ t ∈ b, ¬ It.hides t x := fun t ht => h2 t (List.mem_append_left _ ht)
    have h2S : ∀ t ∈ S, ¬ It.hides t x := fun t ht => h2 t (List.mem_append_right _ ht)
    have h2T : ∀ t ∈ T, ¬ It.hides t x := by
      intro t ht hh
      obtain ⟨u, hu, hs, hw⟩ := tomb_there ht hh.1
      refine h2b u ((h.mem u).2 hu) ?_
      unfold It.hides at *
      unfold It.same at hs
      unfold It.wins at hw
      omega
    refine ⟨?_, fun y hy hs hw => ?_, fun t ht => ?_⟩
    · rcases List.mem_append.1 h0 with h3 | h3
      · exact List.mem_append_left _ (hbT x h3)
      · exact List.mem_append_right _ h3
    · rcases List.mem_append.1 hy with h3 | h3
      · obtain ⟨u, hu, hsu, hwu, hbu⟩ := best_ex T y h3
        by_cases hh : ∃ t ∈ T, It.hides t u
        · obtain ⟨t, ht, hh⟩ := hh
          refine h2T t ht ?_
          unfold It.hides at *
          unfold It.same at *
          unfold It.wins at *
          omega
        · have hub : u ∈ b := by
            refine (h.mem u).2 ⟨hu, fun z hz hs' => hbu z hz (by unfold It.same at *; omega), fun t ht hh' => hh ⟨t, ht, hh'⟩⟩
          have := h1b u hub (by unfold It.same at *; omega)
          unfold It.wins at *
          omega
      · exact h1S y h3 hs hw
    · rcases List.mem_append.1 ht with h3 | h3
      · exact h2T t h3
      · exact h2S t h3
  · rintro ⟨h0, h1, h2⟩
    refine ⟨?_, fun y hy => h1 y ?_, fun t ht => h2 t ?_⟩
    · rcases List.mem_append.1 h0 with h3 | h3
      · exact List.mem_append_left _ ((h.mem x).2 ⟨h3, fun y hy => h1 y (List.mem_append_left _ hy), fun t ht => h2 t (List.mem_append_left _ ht)⟩)
      · exact List.mem_append_right _ h3
    · rcases List.mem_append.1 hy with h3 | h3
      · exact List.mem_append_left _ (hbT y h3)
      · exact List.mem_append_right _ h3
    · rcases List.mem_append.1 ht with h3 | h3
      · exact List.mem_append_left _ (hbT t h3)
      · exact List.mem_append_right _ h3
def Goods (S : List It) : Prop := ∀ y ∈ S, It.good y
theorem goods_good (l : List It) : Goods (goods l) := fun y hy => (mem_goods.1 hy).2
theorem Goods.app {S T : List It} (h : Goods S) (k : Goods T) : Goods (S ++ T) := fun y hy => by
  rcases List.mem_append.1 hy with h1 | h1
  · exact h y h1
  · exact k y h1
theorem goods_of {S : List It} (h : Goods S) : goods S = S := by
  unfold goods
  exact List.filter_eq_self.2 fun x hx => goodB_true (h x hx)
theorem IsOf.goods_ {S l : List It} (h : IsOf S l) (hS : Goods S) : Goods l := fun y hy => hS y ((h.mem y).1 hy).1
/-- What two states come to that come of S and of T. -/
theorem joinL_isOf {S T a b : List It} (ha : IsOf S a) (hb : IsOf T b) (hS : Goods S) (hT : Goods T) : IsOf (T ++ S) (joinL a b) := by
  rw [joinL_of (ha.state hS)]
  have h := foldl_isOf b ha hS
  rw [goods_of (hb.goods_ hT)] at h
  exact ⟨h.up, fun x => (h.mem x).trans (there_swap hb x)⟩
/-- A state with the items of any list. -/
theorem joinL_list {S a : List It} (ha : IsOf S a) (hS : Goods S) (b : List It) : IsOf (goods b ++ S) (joinL a b) := by
  rw [joinL_of (ha.state hS)]
  exact foldl_isOf b ha hS
theorem ofL_is (l : List It) : IsOf (goods l) (ofL l) := ofL_isOf l
theorem ofL_congr {l m : List It} (h : ∀ x, x ∈ l ↔ x ∈ m) : ofL l = ofL m :=
  (ofL_is l).uniq ((ofL_is m).congr fun x => by simp [mem_goods, h x])
theorem ofL_state_eq {l : List It} (h : IsState l) : ofL l = l := (ofL_is l).uniq (by rw [goods_of h.1]; exact h.isOf)

theorem joins_comm (a b : List It) : joinL (ofL a) (ofL b) = joinL (ofL b) (ofL a) :=
  (joinL_isOf (ofL_is a) (ofL_is b) (goods_good a) (goods_good b)).uniq ((joinL_isOf (ofL_is b) (ofL_is a) (goods_good b) (goods_good a)).congr fun x => by simp only [List.mem_append]; exact or_comm)
theorem joins_again (a b : List It) : joinL (joinL (ofL a) (ofL b)) (ofL b) = joinL (ofL a) (ofL b) :=
  (joinL_isOf (joinL_isOf (ofL_is a) (ofL_is b) (goods_good a) (goods_good b)) (ofL_is b) ((goods_good b).app (goods_good a)) (goods_good b)).uniq
    ((joinL_isOf (ofL_is a) (ofL_is b) (goods_good a) (goods_good b)).congr fun x => by simp only [List.mem_append]; constructor <;> (intro h; simp_all))
theorem joins_assoc (a b c : List It) : joinL (joinL (ofL a) (ofL b)) (ofL c) = joinL (ofL a) (joinL (ofL b) (ofL c)) :=
  (joinL_isOf (joinL_isOf (ofL_is a) (ofL_is b) (goods_good a) (goods_good b)) (ofL_is c) ((goods_good b).app (goods_good a)) (goods_good c)).uniq
    ((joinL_isOf (ofL_is a) (joinL_isOf (ofL_is b) (ofL_is c) (goods_good b) (goods_good c)) (goods_good a) ((goods_good c).app (goods_good b))).congr fun x => by simp only [List.mem_append]; constructor <;> (intro h; simp_all [or_assoc]))
theorem joins_self (a : List It) : joinL (ofL a) (ofL a) = ofL a :=
  (joinL_isOf (ofL_is a) (ofL_is a) (goods_good a) (goods_good a)).uniq ((ofL_is a).congr fun x => by simp)
theorem joins_nil (a : List It) : joinL [] (ofL a) = ofL a := by rw [joinL_nil]; exact ofL_state_eq (ofL_state a)
theorem addS_len (l : List It) (x : It) : (addS l x).length ≤ l.length + 1 := by
  unfold addS
  split
  · exact addL_len l x
  · omega
end Go.Proofs.Ytlabpgdimhbocaa
namespace Go.Proofs.Ytlabpgdimhbocaa
set_option linter.unusedVariables false
set_option linter.unusedSimpArgs false
open Go.ChangeShapes Go.WideShapes Go.ChangeAt Go.RowKit
/-- On, with the blocks that it wrote. -/
theorem con_x {w0 w : World} {b : Nat} {X : Nat → Prop} {R R' : Co} {B : Bool} (h : CoO w0 w b X R) (k : CoK R) (m : Mg) (hm : m.rd w0) (e1 : conR R m = R') (e2 : conB R m = B) (hI : refC R m = false → hitC R m → R.cnt + 1 = R.n / 2 + 1 → ItemsH b (gotC R m).G R.cs) :
    Calls Try.prog 9 #[.pointer (some ⟨b, 0, none⟩), m.val] w fun e w' => e = .returned (.bool B) ∧ CoO w0 w' b (Xn X w w') R' ∧ Sets X w w' := by
  subst e1
  subst e2
  have hl : m.L.length ≤ 9223372036854775807 := by
    have h1 := hm.2
    unfold maxLen at h1
    omega
  exact con_any h m hm hl k hI
/-- A get of three nodes. -/
abbrev g3 (a s : Int) (C : Nat → Bool) (G : List Gt) : Co := coG 3 a 5 3 s 0 0 0 C G 0
abbrev gB (n : Int) (L : List It) : Gt := ⟨n, none, 0, L⟩
theorem g3_k {a s : Int} (hs : 0 ≤ s ∧ s ≤ 255) {C : Nat → Bool} {G : List Gt} (hG : G.length ≤ 1000) : CoK (g3 a s C G) := coG_k (by omega) hs (by omega) hG
section
variable {a s : Int} {m m' : Mg} {i j : Nat}
theorem t1_yes (hk : m.k = 5) (hm : mokB m = true) (ht : m.t = a) (hid : m.id = 5) (hf : m.f = (i : Int)) (hi : i < 3) : conR (g3 a s (fun _ => false) []) m = g3 a s (setC (fun _ => false) i) [gB m.n m.L] ∧ conB (g3 a s (fun _ => false) []) m = true := by
  have h := con_more (n := 3) (a := a) (id := 5) (k := 3) (s := s) (t := 0) (x := 0) (v := 0) (C := fun _ => false) (G := []) (tk := 0) (m := m) (i := i) (.inl ⟨rfl, hk⟩) hm ht hid hf hi rfl (by rw [cntC_none]; omega)
  exact h
theorem t_no {C : Nat → Bool} {G : List Gt} (hm : mokB m = false) : conR (g3 a s C G) m = g3 a s C G ∧ conB (g3 a s C G) m = false := by
  have hr : refC (g3 a s C G) m = true := by unfold refC; simp [hm]
  exact ⟨by unfold conR; rw [if_pos hr], by unfold conB; rw [hr]; rfl⟩
theorem t2_yes {n0 : Int} {L0 : List It} (hk : m.k = 5) (hm : mokB m = true) (ht : m.t = a) (hid : m.id = 5) (hf : m.f = (j : Int)) (hj : j < 3) (hi : i < 3) (hij : i ≠ j) :
    conR (g3 a s (setC (fun _ => false) i) [gB n0 L0]) m = end1C (g3 a s (setC (setC (fun _ => false) i) j) [gB n0 L0, gB m.n m.L]) 0 0 (itemsC [gB n0 L0, gB m.n m.L] s) ∧ conB (g3 a s (setC (fun _ => false) i) [gB n0 L0]) m = true := by
  have h := con_ends (n := 3) (a := a) (id := 5) (k := 3) (s := s) (t := 0) (x := 0) (v := 0) (C := setC (fun _ => false) i) (G := [gB n0 L0]) (tk := 0) (m := m) (i := j) (.inl ⟨rfl, hk⟩) hm ht hid hf hj (by unfold setC; rw [if_neg (fun e => hij e.symm)]) (by rw [cntC_set hi rfl, cntC_none])
  exact h
theorem end1_AL (R : Co) (ver : Int) (LI : List It) : (end1C R 0 ver LI).AL = LI := by
  show endA 0 LI = LI
  unfold endA
  rw [if_pos rfl]
/-- What is behind two messages. -/
noncomputable def two (a s : Int) (m m' : Mg) : Co := conR (conR (g3 a s (fun _ => false) []) m) m'
noncomputable def one (a s : Int) (m : Mg) : Co := conR (g3 a s (fun _ => false) []) m
theorem one_eq (hk : m.k = 5) (ht : m.t = a) (hid : m.id = 5) (hf : m.f = (i : Int)) (hi : i < 3) : one a s m = (if mokB m = true then g3 a s (setC (fun _ => false) i) [gB m.n m.L] else g3 a s (fun _ => false) []) ∧ conB (g3 a s (fun _ => false) []) m = mokB m := by
  cases hm : mokB m with
  | true => exact ⟨by rw [if_pos rfl]; exact (t1_yes hk hm ht hid hf hi).1, (t1_yes hk hm ht hid hf hi).2⟩
  | false => exact ⟨by rw [if_neg (by simp)]; exact (t_no hm).1, (t_no hm).2⟩
theorem two_eq (hk : m.k = 5) (ht : m.t = a) (hid : m.id = 5) (hf : m.f = (i : Int)) (hi : i < 3) (hk' : m'.k = 5) (ht' : m'.t = a) (hid' : m'.id = 5) (hf' : m'.f = (j : Int)) (hj : j < 3) (hij : i ≠ j) :
    conB (one a s m) m' = mokB m' ∧ (two a s m m').dn = (mokB m && mokB m') ∧ (two a s m m').ae = 0 ∧ (two a s m m').AL = (if mokB m = true ∧ mokB m' = true then itemsC [gB m.n m.L, gB m'.n m'.L] s else []) := by
  have h1 := (one_eq (s := s) hk ht hid hf hi).1
  unfold two
  rw [show conR (g3 a s (fun _ => false) []) m = one a s m from rfl]
  cases hm : mokB m with
  | true =>
    rw [hm, if_pos rfl] at h1
    rw [h1]
    cases hm' : mokB m' with
    | true =>
      have h2 := t2_yes (s := s) (n0 := m.n) (L0 := m.L) hk' hm' ht' hid' hf' hj hi hij
      refine ⟨h2.2, by rw [h2.1]; rfl, by rw [h2.1]; rfl, ?_⟩
      rw [h2.1]
      have e1 : (end1C (g3 a s (setC (setC (fun _ => false) i) j) [gB m.n m.L, gB m'.n m'.L]) 0 0 (itemsC [gB m.n m.L, gB m'.n m'.L] s)).AL = itemsC [gB m.n m.L, gB m'.n m'.L] s := end1_AL _ _ _
      rw [e1]
      exact (if_pos ⟨rfl, rfl⟩).symm
    | false =>
      have h2 := t_no (a := a) (s := s) (C := setC (fun _ => false) i) (G := [gB m.n m.L]) hm'
      refine ⟨h2.2, by rw [h2.1]; rfl, by rw [h2.1]; rfl, by rw [h2.1, if_neg (by simp)]; rfl⟩
  | false =>
    rw [hm, if_neg (by simp)] at h1
    rw [h1]
    have h2 := one_eq (a := a) (s := s) hk' ht' hid' hf' hj
    unfold one at h2
    cases hm' : mokB m' with
    | true =>
      rw [hm', if_pos rfl] at h2
      refine ⟨h2.2, by rw [h2.1]; rfl, by rw [h2.1]; rfl, by rw [h2.1, if_neg (by simp)]; rfl⟩
    | false =>
      rw [hm', if_neg (by simp)] at h2
      refine ⟨h2.2, by rw [h2.1]; rfl, by rw [h2.1]; rfl, by rw [h2.1, if_neg (by simp)]; rfl⟩
/-- What its calls want of a call, between. -/
theorem one_k (hs : 0 ≤ s ∧ s ≤ 255) (hk : m.k = 5) (ht : m.t = a) (hid : m.id = 5) (hf : m.f = (i : Int)) (hi : i < 3) : CoK (one a s m) ∧ (one a s m).G.length ≤ 1 ∧ (∀ g ∈ (one a s m).G, g.L.length ≤ m.L.length) ∧ (one a s m).cs = s ∧ (one a s m).ck = 3 := by
  rw [(one_eq (s := s) hk ht hid hf hi).1]
  split
  · exact ⟨g3_k hs (by simp), by simp [coG], fun g hg => by simp [coG] at hg; rw [hg]; exact Nat.le_refl _, rfl, rfl⟩
  · exact ⟨g3_k hs (by simp), by simp [coG], fun g hg => by simp [coG] at hg, rfl, rfl⟩
theorem got_lim {R : Co} (h1 : R.G.length ≤ 1) (h2 : ∀ g ∈ R.G, g.L.length ≤ 40) (h3 : m.L.length ≤ 40) : (gotC R m).G.length ≤ 1000 ∧ ∀ g ∈ (gotC R m).G, g.L.length ≤ 1000000 := by
  unfold gotC
  split
  · refine ⟨by simp; omega, fun g hg => ?_⟩
    rcases List.mem_append.1 hg with h | h
    · have := h2 g h
      omega
    · rw [List.mem_singleton] at h
      rw [h]
      show m.L.length ≤ _
      omega
  · exact ⟨by omega, fun g hg => by have := h2 g hg; omega⟩
theorem joinL_nil_is (L : List It) (h : Goods L) : IsOf L (joinL [] L) := by
  rw [joinL_nil]
  have := ofL_is L
  rwa [goods_of h] at this
theorem all_goods {L : List It} (h : L.all goodB = true) : Goods L := fun y hy => by
  have := List.all_eq_true.1 h y hy
  unfold goodB at this
  exact of_decide_eq_true this
theorem join2 {L0 L1 : List It} (h0 : Goods L0) (h1 : Goods L1) : joinL (joinL [] L0) L1 = joinL (joinL [] L1) L0 := by
  have a1 := joinL_list (joinL_nil_is L0 h0) h0 L1
  have a2 := joinL_list (joinL_nil_is L1 h1) h1 L0
  rw [goods_of h1] at a1
  rw [goods_of h0] at a2
  exact a1.uniq (a2.congr fun x => by simp only [List.mem_append]; exact or_comm)
theorem mokB_goods (h : mokB m = true) : Goods m.L := by
  unfold mokB at h
  simp only [Bool.and_eq_true] at h
  exact all_goods h.1.2
theorem items_turn {n0 : Int} {L0 L1 : List It} (h0 : Goods L0) (h1 : Goods L1) : itemsC [gB n0 L0, gB n0 L1] s = itemsC [gB n0 L1, gB n0 L0] s := by
  unfold itemsC
  have e : certG [gB n0 L0, gB n0 L1] = certG [gB n0 L1, gB n0 L0] := rfl
  rw [e]
  congr 1
  unfold joinG takeG certG
  simp only [List.foldl_cons, List.foldl_nil]
  by_cases hn : n0 < max (max 0 n0) n0
  · simp only [hn, if_true]
    exact join2 (fun y hy => h0 y (List.mem_filter.1 hy).1) (fun y hy => h1 y (List.mem_filter.1 hy).1)
  · simp only [hn, if_false]
    exact join2 h0 h1
theorem two_turn (hn : m.n = m'.n) (hk : m.k = 5) (ht : m.t = a) (hid : m.id = 5) (hf : m.f = (i : Int)) (hi : i < 3) (hk' : m'.k = 5) (ht' : m'.t = a) (hid' : m'.id = 5) (hf' : m'.f = (j : Int)) (hj : j < 3) (hij : i ≠ j) : (two a s m m').AL = (two a s m' m).AL := by
  rw [(two_eq (s := s) hk ht hid hf hi hk' ht' hid' hf' hj hij).2.2.2, (two_eq (s := s) hk' ht' hid' hf' hj hk ht hid hf hi (fun e => hij e.symm)).2.2.2]
  by_cases h : mokB m = true ∧ mokB m' = true
  · rw [if_pos h, if_pos ⟨h.2, h.1⟩, hn]
    exact items_turn (mokB_goods h.1) (mokB_goods h.2)
  · rw [if_neg h, if_neg (fun e => h ⟨e.2, e.1⟩)]
theorem two_len (h1 : m.L.length ≤ 40) (h2 : m'.L.length ≤ 40) (hk : m.k = 5) (ht : m.t = a) (hid : m.id = 5) (hf : m.f = (i : Int)) (hi : i < 3) (hk' : m'.k = 5) (ht' : m'.t = a) (hid' : m'.id = 5) (hf' : m'.f = (j : Int)) (hj : j < 3) (hij : i ≠ j) : (two a s m m').AL.length ≤ 80 := by
  rw [(two_eq (s := s) hk ht hid hf hi hk' ht' hid' hf' hj hij).2.2.2]
  split
  · unfold itemsC
    refine Nat.le_trans (List.length_filter_le _ _) ?_
    have := joinG_len (certG [gB m.n m.L, gB m'.n m'.L]) [gB m.n m.L, gB m'.n m'.L] 40 (fun g hg => by
      simp at hg
      rcases hg with rfl | rfl
      · exact h1
      · exact h2)
    simpa using this
  · simp
end
end Go.Proofs.Ytlabpgdimhbocaa
namespace Go.Proofs.Ytlabpgdimhbocaa
set_option linter.unusedVariables false
set_option linter.unusedSimpArgs false
open Go.ChangeShapes Go.WideShapes Go.ChangeAt Go.RowKit
/-- What a message makes of the document's call. -/
def gotK (K : Cs) (m : Mg) : Cs := if K.ck = 3 then { K with G := K.G ++ [m] } else K
def oldK (K : Cs) (m : Mg) : Prop := ¬ K.ck = 3 ∧ m.k = 3
def hitK (K : Cs) (m : Mg) : Prop := (K.ck = 3 ∧ m.k = 5) ∨ (¬ K.ck = 3 ∧ m.k = 2)
instance (K : Cs) (m : Mg) : Decidable (oldK K m) := by unfold oldK; exact inferInstance
instance (K : Cs) (m : Mg) : Decidable (hitK K m) := by unfold hitK; exact inferInstance
noncomputable def swK (K : Cs) (m : Mg) : Cs := if oldK K m then endM K 21 m.n else if hitK K m then goK (gotK K m) m.f.toNat else K
def swKB (K : Cs) (m : Mg) : Bool := decide (oldK K m) || decide (hitK K m)
noncomputable def conK (K : Cs) (m : Mg) : Cs := if refD K m = true then K else swK K m
def conKB (K : Cs) (m : Mg) : Bool := !refD K m && swKB K m
theorem rd_any {w0 w : World} {D : Nat → Prop} {p cb : Nat} {K : Cs} (h : CallD w0 w D p cb K) (m : Mg) (hm : m.rd w0) (hr : K.rd = false) (hn7 : K.n ≤ 7) (hml : mokB m = true → m.L.length ≤ 1000000) (hG : K.G.length ≤ 900) (hL : ∀ g ∈ K.G, g.L.length ≤ 1000000) :
    Calls Try.prog 14 #[.pointer (some ⟨p, 0, none⟩), m.val] w (RdP w0 w D p cb (conK K m) (conKB K m)) := by
  cases href : refD K m with
  | true =>
    rw [show conK K m = K by unfold conK; rw [if_pos href], show conKB K m = false by unfold conKB; rw [href]; rfl]
    exact rd_ref h m hm hr href
  | false =>
    rw [show conK K m = swK K m by unfold conK; rw [if_neg (by simp [href])], show conKB K m = swKB K m by unfold conKB; rw [href]; rfl]
    have hmo : mokB m = true := by
      unfold refD at href
      simp only [Bool.or_eq_false_iff, Bool.not_eq_false'] at href
      exact href.1.1.1.1.2
    by_cases hg : K.ck = 3
    · have ho : ¬ oldK K m := fun e => e.1 hg
      by_cases h5 : m.k = 5
      · have hh : hitK K m := .inl ⟨hg, h5⟩
        rw [show swK K m = goK { K with G := K.G ++ [m] } m.f.toNat by unfold swK gotK; rw [if_neg ho, if_pos hh, if_pos hg], show swKB K m = true by unfold swKB; simp [hh]]
        exact rd_got h m hm hr href hn7 hg h5 (hml hmo) hG hL
      · have hh : ¬ hitK K m := fun e => by rcases e with e | e; exact h5 e.2; exact e.1 hg
        rw [show swK K m = K by unfold swK; rw [if_neg ho, if_neg hh], show swKB K m = false by unfold swKB; simp [ho, hh]]
        exact rd_none_get h m hm hr href hg h5
    · by_cases h3 : m.k = 3
      · have ho : oldK K m := ⟨hg, h3⟩
        rw [show swK K m = endM K 21 m.n by unfold swK; rw [if_pos ho], show swKB K m = true by unfold swKB; simp [ho]]
        exact rd_old h m hm hr href hg h3 hG hL
      · have ho : ¬ oldK K m := fun e => h3 e.2
        by_cases h2 : m.k = 2
        · have hh : hitK K m := .inr ⟨hg, h2⟩
          rw [show swK K m = goK K m.f.toNat by unfold swK gotK; rw [if_neg ho, if_pos hh, if_neg hg], show swKB K m = true by unfold swKB; simp [hh]]
          exact rd_done h m hm hr href hn7 hg h2 hG hL
        · have hh : ¬ hitK K m := fun e => by rcases e with e | e; exact hg e.1; exact h2 e.2
          rw [show swK K m = K by unfold swK; rw [if_neg ho, if_neg hh], show swKB K m = false by unfold swKB; simp [ho, hh]]
          exact rd_none_put h m hm hr href hg h3 h2
/-! ### what is joined -/
theorem join_one {S o : List It} (ho : IsOf S o) (hS : Goods S) {x : It} (hx : It.good x) : IsOf ([x] ++ S) (joinL o [x]) := by
  have h := joinL_list ho hS [x]
  rwa [goods_of (fun y hy => by rw [List.mem_singleton] at hy; rw [hy]; exact hx)] at h
theorem fold_one : ∀ (L : List It) {S o : List It}, IsOf S o → Goods S → Goods L → L.foldl (fun o x => joinL o [x]) o = joinL o L
  | [], S, o, ho, hS, _ => by
    have h := joinL_list ho hS []
    exact ho.uniq (h.congr fun x => by simp [goods])
  | x :: L, S, o, ho, hS, hL => by
    have hx : It.good x := hL x (List.mem_cons_self ..)
    have hL' : Goods L := fun y hy => hL y (List.mem_cons_of_mem _ hy)
    have h1 := join_one ho hS hx
    have hS1 : Goods ([x] ++ S) := Goods.app (fun y hy => by rw [List.mem_singleton] at hy; rw [hy]; exact hx) hS
    rw [List.foldl_cons, fold_one L h1 hS1 hL']
    have a := joinL_list h1 hS1 L
    have b := joinL_list ho hS (x :: L)
    rw [goods_of hL'] at a
    rw [goods_of hL] at b
    exact a.uniq (b.congr fun y => by
      simp only [List.mem_append, List.mem_cons, List.mem_singleton, List.not_mem_nil, or_false]
      constructor
      · rintro ((h | h) | h)
        · exact .inr (.inl h)
        · exact .inl h
        · exact .inr (.inr h)
      · rintro (h | h | h)
        · exact .inl (.inr h)
        · exact .inl (.inl h)
        · exact .inr h)
theorem fold_if (P : It → Prop) [DecidablePred P] : ∀ (L : List It) (o : List It), L.foldl (fun o x => if P x then joinL o [x] else o) o = (L.filter (fun x => decide (P x))).foldl (fun o x => joinL o [x]) o
  | [], o => rfl
  | x :: L, o => by
    rw [List.foldl_cons, fold_if P L, List.filter_cons]
    by_cases h : P x
    · rw [if_pos h, decide_eq_true h]; rfl
    · rw [if_neg h, decide_eq_false h]; rfl
theorem readI_join {c n : Int} (hn : n ≤ c) {S o L : List It} (ho : IsOf S o) (hS : Goods S) (hL : Goods L) : readI c n o L = joinL o (takeG c ⟨n, none, 0, L⟩) := by
  unfold readI takeG
  rw [fold_if (fun x => n = c ∨ c < x.v)]
  by_cases h : n = c
  · rw [if_neg (show ¬ n < c by omega)]
    have e : L.filter (fun x => decide (n = c ∨ c < x.v)) = L := List.filter_eq_self.2 fun x _ => by simp [h]
    rw [e]
    exact fold_one L ho hS hL
  · rw [if_pos (show n < c by omega)]
    have e : L.filter (fun x => decide (n = c ∨ c < x.v)) = L.filter (fun x => decide (c < x.v)) := List.filter_congr fun x _ => by simp [h]
    rw [e]
    exact fold_one _ ho hS (fun y hy => hL y (List.mem_filter.1 hy).1)
def gtM (m : Mg) : Gt := ⟨m.n, none, 0, m.L⟩
theorem cert_gtM : ∀ (G : List Mg) (c : Int), (G.map gtM).foldl (fun c g => max c g.n) c = G.foldl (fun c g => max c g.n) c
  | [], _ => rfl
  | g :: G, c => by rw [List.map_cons, List.foldl_cons, List.foldl_cons]; exact cert_gtM G _
theorem cert_le : ∀ (G : List Mg) (c : Int), c ≤ G.foldl (fun c g => max c g.n) c ∧ ∀ g ∈ G, g.n ≤ G.foldl (fun c g => max c g.n) c
  | [], c => ⟨Int.le_refl _, fun g hg => by cases hg⟩
  | g :: G, c => by
    have h := cert_le G (max c g.n)
    rw [List.foldl_cons]
    refine ⟨by have := h.1; omega, fun x hx => ?_⟩
    rcases List.mem_cons.1 hx with h1 | h1
    · rw [h1]; have := h.1; omega
    · exact h.2 x h1
theorem read_join (c : Int) : ∀ (G : List Mg) {S o : List It}, IsOf S o → Goods S → (∀ g ∈ G, Goods g.L ∧ g.n ≤ c) → G.foldl (fun o g => readI c g.n o g.L) o = (G.map gtM).foldl (fun o g => joinL o (takeG c g)) o
  | [], _, _, _, _, _ => rfl
  | g :: G, S, o, ho, hS, hG => by
    have hg := hG g (List.mem_cons_self ..)
    rw [List.map_cons, List.foldl_cons, List.foldl_cons, readI_join hg.2 ho hS hg.1]
    have hT : Goods (takeG c (gtM g)) := fun y hy => by
      unfold takeG at hy
      split at hy
      · exact hg.1 y (List.mem_filter.1 hy).1
      · exact hg.1 y hy
    have h1 := joinL_list ho hS (takeG c (gtM g))
    rw [goods_of hT] at h1
    exact read_join c G h1 (Goods.app hT hS) (fun x hx => hG x (List.mem_cons_of_mem _ hx))
theorem items_same {G : List Mg} (s : Int) (hG : ∀ g ∈ G, Goods g.L) : itemsK G s = itemsC (G.map gtM) s := by
  unfold itemsK itemsC readM joinG
  have e : certG (G.map gtM) = certM G := cert_gtM G 0
  rw [e]
  have h0 : IsOf ([] : List It) [] := by
    have h := ofL_is []
    have : ofL ([] : List It) = [] := ofL_state_eq IsState.nil_
    rw [this] at h
    simpa [goods] using h
  rw [read_join (certM G) G h0 (fun y hy => by cases hy) (fun g hg => ⟨hG g hg, (cert_le G 0).2 g hg⟩)]
/-! ### the two calls side by side -/
structure SameC (R : Co) (K : Cs) : Prop where
  id : K.id = R.id
  n : (K.n : Int) = R.n
  at_ : K.at_ = R.at_
  rd : K.rd = false
  ck : K.ck = R.ck
  cs : K.cs = R.cs
  ct : K.ct = R.ct
  cv : K.cv = R.cv
  ver : K.ver = R.ver
  C : K.C = R.C
  cnt : R.cnt = (cntC R.C K.n : Nat)
  lim : R.dn = false → R.cnt < R.n / 2 + 1 ∧ R.d = 0
  G : K.G.map gtM = R.G
  goods : ∀ g ∈ K.G, Goods g.L
  put : ¬ R.ck = 3 → K.G = []
  tk : K.tk = R.tk
  dn : K.dn = R.dn
  aid : K.aid = R.aid
  ack : K.ack = R.ack
  acs : K.acs = R.acs
  act : K.act = R.act
  acv : K.acv = R.acv
  ae : K.ae = R.ae
  av : K.av = R.av
  AL : K.AL = R.AL
theorem same_ref {R : Co} {K : Cs} (h : SameC R K) (m : Mg) : refD K m = refC R m := by
  unfold refD refC
  rw [h.dn, h.at_, h.id, h.n, h.C]
theorem same_end {R : Co} {K : Cs} (h : SameC R K) (ee vv : Int) : SameC (end1C R ee vv (itemsC R.G R.cs)) (endM K ee vv) := by
  have hAL : (endM K ee vv).AL = (end1C R ee vv (itemsC R.G R.cs)).AL := by
    show (if ee = 0 ∧ K.ck = 3 then itemsK K.G K.cs else []) = endA ee (itemsC R.G R.cs)
    unfold endA
    by_cases he : ee = 0
    · rw [if_pos he]
      by_cases hk : K.ck = 3
      · rw [if_pos ⟨he, hk⟩, items_same K.cs h.goods, h.G, h.cs]
      · rw [if_neg (fun e => hk e.2), ← h.G, h.put (by rw [← h.ck]; exact hk)]
        rfl
    · rw [if_neg he, if_neg (fun e => he e.1)]
  exact ⟨h.id, h.n, h.at_, h.rd, h.ck, h.cs, h.ct, h.cv, h.ver, h.C, h.cnt, fun e => (by cases e), h.G, h.goods, h.put, h.tk, rfl, h.id, h.ck, h.cs, h.ct, h.cv, rfl, rfl, hAL⟩
theorem end1_nil (R : Co) {ee : Int} (he : ¬ ee = 0) (vv : Int) (LI LJ : List It) : end1C R ee vv LI = end1C R ee vv LJ := by
  unfold end1C endA
  rw [if_neg he, if_neg he]
theorem same_on {R : Co} {K : Cs} (h : SameC R K) (m : Mg) : conKB K m = conB R m ∧ SameC (conR R m) (conK K m) := by
  have hr := same_ref h m
  have ho : oldK K m ↔ oldB R m := by unfold oldK oldB; rw [h.ck]
  have hh : hitK K m ↔ hitC R m := by unfold hitK hitC; rw [h.ck]
  refine ⟨by unfold conKB conB swKB swB; rw [hr]; simp only [ho, hh], ?_⟩
  unfold conR conK
  rw [hr]
  cases href : refC R m with
  | true => rw [if_pos rfl, if_pos rfl]; exact h
  | false =>
    rw [if_neg (by simp), if_neg (by simp)]
    obtain ⟨hdn, hmo⟩ := refC_false href
    have hl := h.lim hdn
    have hfc : R.C m.f.toNat = false := by
      unfold refC at href
      simp only [Bool.or_eq_false_iff] at href
      exact href.2
    have hfn : m.f.toNat < K.n := by
      have h1 := mokBf hmo
      unfold refC at href
      simp only [Bool.or_eq_false_iff, decide_eq_false_iff_not] at href
      have := href.1.2
      have := h.n
      omega
    unfold swC swK
    by_cases hold : oldB R m
    · rw [if_pos hold, if_pos (ho.2 hold), end1_nil R (by omega) m.n [] (itemsC R.G R.cs)]
      exact same_end h 21 m.n
    · rw [if_neg hold, if_neg (fun e => hold (ho.1 e))]
      by_cases hhit : hitC R m
      · rw [if_pos hhit, if_pos (hh.2 hhit)]
        have hg : SameC (gotC R m) (gotK K m) ∧ (gotC R m).C = R.C ∧ (gotC R m).cnt = R.cnt ∧ (gotC R m).n = R.n ∧ (gotC R m).ver = R.ver ∧ (gotK K m).n = K.n ∧ (gotK K m).C = K.C ∧ (gotC R m).dn = R.dn ∧ (gotC R m).d = R.d ∧ (gotK K m).ver = K.ver := by
          unfold gotC gotK
          by_cases hk : R.ck = 3
          · rw [if_pos hk, if_pos (by rw [h.ck]; exact hk)]
            refine ⟨⟨h.id, h.n, h.at_, h.rd, h.ck, h.cs, h.ct, h.cv, h.ver, h.C, h.cnt, h.lim, ?_, ?_, fun e => absurd hk e, h.tk, h.dn, h.aid, h.ack, h.acs, h.act, h.acv, h.ae, h.av, h.AL⟩, rfl, rfl, rfl, rfl, rfl, rfl, rfl, rfl, rfl⟩
            · show (K.G ++ [m]).map gtM = R.G ++ [⟨m.n, none, 0, m.L⟩]
              rw [List.map_append, h.G]; rfl
            · intro g hg
              rcases List.mem_append.1 hg with h1 | h1
              · exact h.goods g h1
              · rw [List.mem_singleton] at h1
                rw [h1]; exact mokB_goods hmo
          · rw [if_neg hk, if_neg (by rw [h.ck]; exact hk)]
            exact ⟨h, rfl, rfl, rfl, rfl, rfl, rfl, rfl, rfl, rfl⟩
        obtain ⟨hg, g1, g2, g3, g4, g5, g6, g7, g8, g9⟩ := hg
        generalize gotC R m = R1 at *
        generalize gotK K m = K1 at *
        generalize m.f.toNat = i at *
        have hcn : cntC (setC K1.C i) K1.n = cntC K1.C K1.n + 1 := cntC_set (by rw [g5]; exact hfn) (by rw [hg.C, g1]; exact hfc)
        have hcnt := hg.cnt
        have hn := hg.n
        have hC := hg.C
        have hmark : SameC (countC R1 i) (markK K1 i) ∨ R1.cnt + 1 = R1.n / 2 + 1 := by
          by_cases hq : R1.cnt + 1 = R1.n / 2 + 1
          · exact .inr hq
          · refine .inl ⟨hg.id, hg.n, hg.at_, hg.rd, hg.ck, hg.cs, hg.ct, hg.cv, hg.ver, ?_, ?_, ?_, hg.G, hg.goods, hg.put, hg.tk, hg.dn, hg.aid, hg.ack, hg.acs, hg.act, hg.acv, hg.ae, hg.av, hg.AL⟩
            · show setC K1.C i = _; rw [hC]; rfl
            · show R1.cnt + 1 = ((cntC (setC R1.C i) K1.n : Nat) : Int)
              rw [← hC, hcn, hcnt, ← hC]; omega
            · intro _
              have h2 := hg.lim (by rw [g7]; exact hdn)
              exact ⟨show R1.cnt + 1 < R1.n / 2 + 1 by omega, h2.2⟩
        unfold goC goK
        by_cases hq : R1.cnt + 1 = R1.n / 2 + 1
        · rw [if_pos hq, if_pos (show K1.n / 2 + 1 ≤ cntC (setC K1.C i) K1.n by rw [hcn]; rw [← hC] at hcnt; omega)]
          have hm2 : SameC { countC R1 i with dn := true } { markK K1 i with dn := true } := ⟨hg.id, hg.n, hg.at_, hg.rd, hg.ck, hg.cs, hg.ct, hg.cv, hg.ver, (show setC K1.C i = _ by rw [hC]; rfl), (show R1.cnt + 1 = ((cntC (setC R1.C i) K1.n : Nat) : Int) by rw [← hC, hcn, hcnt, ← hC]; omega), fun e => (by cases e), hg.G, hg.goods, hg.put, hg.tk, rfl, hg.aid, hg.ack, hg.acs, hg.act, hg.acv, hg.ae, hg.av, hg.AL⟩
          have h3 := same_end hm2 0 R1.ver
          have hv := hg.ver
          rw [hv]
          exact h3
        · rw [if_neg hq, if_neg (show ¬ K1.n / 2 + 1 ≤ cntC (setC K1.C i) K1.n by
            rw [hcn]
            have h2 := hg.lim (by rw [g7]; exact hdn)
            rw [← hC] at hcnt
            omega)]
          rcases hmark with h2 | h2
          · exact h2
          · exact absurd h2 hq
      · rw [if_neg hhit, if_neg (fun e => hhit (hh.1 e))]
        exact h
theorem same_new (n : Nat) (a id k s t x v : Int) : SameC (co0 n a id k s t x v) (cs0 n a id k s t x v false) := by
  refine ⟨rfl, rfl, rfl, rfl, rfl, rfl, rfl, rfl, rfl, rfl, ?_, ?_, rfl, (fun g hg => by cases hg), fun _ => rfl, rfl, rfl, rfl, rfl, rfl, rfl, rfl, rfl, rfl, rfl⟩
  · show (0 : Int) = ((cntC (fun _ => false) n : Nat) : Int)
    rw [cntC_none]; rfl
  · intro _
    exact ⟨show (0 : Int) < (n : Int) / 2 + 1 by omega, rfl⟩
set_option maxRecDepth 100000 in
set_option maxHeartbeats 1600000 in
theorem samea_eq (i k s t x e v : Int) (A B : Option Addr) (c d : Nat) (M : List It) (w : World) (hA : ItemsAt w A M) (hB : ItemsAt w B M) (hn : M.length ≤ 1000000000) :
    Calls Try.prog 15 #[.agg #[.int .u64 i, .int .i64 k, .int .i64 s, .int .u64 t, .int .i64 x, .int .i64 e, .int .u64 v, .slice A M.length c], .agg #[.int .u64 i, .int .i64 k, .int .i64 s, .int .u64 t, .int .i64 x, .int .i64 e, .int .u64 v, .slice B M.length d]] w fun e w' => e = .returned (.bool true) ∧ Below w.heap.size w w' := by
  have HQ := hide (fun (W : World) (hW : Below w.heap.size w W) => requal_any A B c d M M W (hA.below hW) (hB.below hW) (by omega) (by omega))
  clear hA hB
  go_enter Try.func15, Try.ntmps15
  go_wp2_with fail
  refine (Calls.mono (HQ.out _ (below_alloc (below_alloc (Below.refl _ _) _) _)) ?_); rintro e w1 ⟨rfl, hb1⟩
  rw [show eqL M M = true from eqL_iff.2 rfl]
  have HB1 := hide (below_step (below_alloc (below_alloc (Below.refl _ _) _) _) hb1)
  clear hb1 HQ
  go_wp2_with fail
  go_ret
  exact ⟨rfl, HB1.out⟩
end Go.Proofs.Ytlabpgdimhbocaa
namespace Go.Proofs.Ytlabpgdimhbocaa
set_option linter.unusedVariables false
set_option linter.unusedSimpArgs false
open Go.ChangeShapes Go.WideShapes Go.ChangeAt Go.RowKit
theorem joinL_mem {S o : List It} (ho : IsOf S o) (hS : Goods S) {b : List It} {x : It} (h : x ∈ joinL o b) : x ∈ b ∨ x ∈ S := by
  have h1 := ((joinL_list ho hS b).mem x).1 h
  have h2 := h1.1
  rcases List.mem_append.1 h2 with h3 | h3
  · exact .inl (mem_goods.1 h3).1
  · exact .inr h3
theorem takeG_mem {c : Int} {g : Gt} {x : It} (h : x ∈ takeG c g) : x ∈ g.L := by
  unfold takeG at h
  split at h
  · exact (List.mem_filter.1 h).1
  · exact h
theorem items_mem2 {n0 n1 s : Int} {L0 L1 : List It} (h0 : Goods L0) {x : It} (h : x ∈ itemsC [gB n0 L0, gB n1 L1] s) : (x ∈ L0 ∨ x ∈ L1) ∧ x.s = s := by
  unfold itemsC at h
  obtain ⟨h1, h2⟩ := List.mem_filter.1 h
  refine ⟨?_, by simpa [serP] using h2⟩
  unfold joinG at h1
  simp only [List.foldl_cons, List.foldl_nil] at h1
  have hG0 : Goods (takeG (certG [gB n0 L0, gB n1 L1]) (gB n0 L0)) := fun y hy => h0 y (takeG_mem hy)
  have ha := joinL_nil_is _ hG0
  rcases joinL_mem ha hG0 h1 with h3 | h3
  · exact .inr (takeG_mem h3)
  · exact .inl (takeG_mem h3)
def inB (L : List It) (z : It) (j : Nat) : Bool := (L.take j).any fun y => eqI y z
theorem inB_zero (L : List It) (z : It) : inB L z 0 = false := by simp [inB]
theorem inB_snoc {L : List It} {z : It} {j : Nat} (hj : j < L.length) : inB L z (j + 1) = (inB L z j || eqI L[j] z) := by
  unfold inB
  rw [List.take_succ_eq_append_getElem hj, List.any_append]
  simp
theorem inB_mem {L : List It} {z : It} (h : z ∈ L) : inB L z L.length = true := by
  unfold inB
  rw [List.take_of_length_le (Nat.le_refl _), List.any_eq_true]
  exact ⟨z, h, by simp [eqI]⟩
/-- What the document's call keeps, by the program's. -/
theorem same_lim {R : Co} {K : Cs} (h : SameC R K) {a b : Nat} (h1 : R.G.length ≤ a) (h2 : ∀ g ∈ R.G, g.L.length ≤ b) : K.G.length ≤ a ∧ ∀ g ∈ K.G, g.L.length ≤ b := by
  refine ⟨by rw [← h.G, List.length_map] at h1; exact h1, fun g hg => ?_⟩
  have := h2 (gtM g) (by rw [← h.G]; exact List.mem_map_of_mem hg)
  exact this
end Go.Proofs.Ytlabpgdimhbocaa
namespace Go.Proofs.Ytlabpgdimhbocaa
set_option linter.unusedVariables false
set_option linter.unusedSimpArgs false
open Go.RowKit

theorem and_mask_i64 (a : Int) (k : Nat) (m : Int) (hk : k < 63) (hm : m = 2 ^ k - 1) : bits .and .i64 a m = a % 2 ^ k := by
  have h2 : ((2 : Nat) ^ k) < 2 ^ 63 := Nat.pow_lt_pow_right (by omega) hk
  have h2' : (2 : Nat) ^ k ∣ 2 ^ 64 := Nat.pow_dvd_pow 2 (by omega)
  have hpos : 0 < (2 : Nat) ^ k := Nat.pow_pos (by omega)
  have ec : ((2 ^ k : Nat) : Int) = (2 : Int) ^ k := by simp
  have hm' : m = ((2 ^ k - 1 : Nat) : Int) := by omega
  show IntKind.i64.wrap ((BitVec.ofInt 64 a &&& BitVec.ofInt 64 m).toNat : Int) = _
  have e1 : (BitVec.ofInt 64 m).toNat = 2 ^ k - 1 := by
    rw [hm', BitVec.ofInt_natCast, BitVec.toNat_ofNat]; exact Nat.mod_eq_of_lt (by omega)
  rw [BitVec.toNat_and, e1, Nat.and_two_pow_sub_one_eq_mod, BitVec.toNat_ofInt]
  have e2 : (((a % ((2 ^ 64 : Nat) : Int)).toNat % 2 ^ k : Nat) : Int) = a % 2 ^ k := by
    have hnn : 0 ≤ a % ((2 ^ 64 : Nat) : Int) := Int.emod_nonneg _ (by decide)
    rw [Int.natCast_emod, Int.toNat_of_nonneg hnn, ← ec]
    exact Int.emod_emod_of_dvd a (by exact_mod_cast h2')
  rw [e2, IntKind.wrap_i64]
  have h3 : 0 ≤ a % (2 : Int) ^ k := Int.emod_nonneg _ (by omega)
  have h4 : a % (2 : Int) ^ k < 2 ^ k := Int.emod_lt_of_pos _ (by omega)
  omega

/-- How many of the first n bits are set. -/
def cnt (x : Int) : Nat → Int
  | 0 => 0
  | n + 1 => cnt x n + x / 2 ^ n % 2
theorem cnt_bd (x : Int) : ∀ n : Nat, 0 ≤ cnt x n ∧ cnt x n ≤ n
  | 0 => by simp [cnt]
  | n + 1 => by
    have := cnt_bd x n
    simp only [cnt]
    omega
theorem cnt_two (x y : Int) : ∀ n : Nat, (∀ i < n, ¬ (x / 2 ^ i % 2 = 1 ∧ y / 2 ^ i % 2 = 1)) → cnt x n + cnt y n ≤ n
  | 0, _ => by simp [cnt]
  | n + 1, h => by
    have h1 := cnt_two x y n (fun i hi => h i (by omega))
    have h2 := h n (by omega)
    simp only [cnt]
    omega
theorem and_zero_bits {a b : Int} (ha : 0 ≤ a) (hb : 0 ≤ b) (ha' : a < 18446744073709551616) (hb' : b < 18446744073709551616) (h : bits .and .u64 a b = 0) (i : Nat) : ¬ (a / 2 ^ i % 2 = 1 ∧ b / 2 ^ i % 2 = 1) := by
  rw [u64_and a b ha ha' hb hb'] at h
  have h0 : a.toNat &&& b.toNat = 0 := by omega
  rintro ⟨h1, h2⟩
  have key : ∀ x : Int, 0 ≤ x → x / 2 ^ i % 2 = 1 → x.toNat.testBit i = true := by
    intro x hx h3
    rw [Nat.testBit_eq_decide_div_mod_eq]
    have ec : ((2 ^ i : Nat) : Int) = (2 : Int) ^ i := by simp
    have e : ((x.toNat / 2 ^ i % 2 : Nat) : Int) = x / 2 ^ i % 2 := by
      rw [Int.natCast_emod, Int.natCast_ediv, Int.toNat_of_nonneg hx, ec]; rfl
    have : x.toNat / 2 ^ i % 2 = 1 := by omega
    simp [this]
  have := congrArg (fun n => n.testBit i) h0
  simp [Nat.testBit_and, key a ha h1, key b hb h2] at this
end Go.Proofs.Ytlabpgdimhbocaa
