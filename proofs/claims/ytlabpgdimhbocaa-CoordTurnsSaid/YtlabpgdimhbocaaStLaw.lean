/- Plain law, no program: what states joined come to, by the items that they come of; equations between states. No conditions but those typed. -/
import Derived.Test.YtlabpgdimhbocaaStRef
import Derived.Test.YtlabpgdimhbocaaFil
namespace Go.Proofs.Ytlabpgdimhbocaa
set_option linter.unusedVariables false
set_option linter.unusedSimpArgs false

theorem there_swap {S T b : List It} (h : IsOf T b) (x : It) : There (b ++ S) x ↔ There (T ++ S) x := by
  have hbT : ∀ y ∈ b, y ∈ T := fun y hy => ((h.mem y).1 hy).1
  unfold There
  constructor
  · rintro ⟨h0, h1, h2⟩
    have h1b : ∀ y ∈ b, It.same x y → ¬ It.wins y x := fun y hy => h1 y (List.mem_append_left _ hy)
    have h1S : ∀ y ∈ S, It.same x y → ¬ It.wins y x := fun y hy => h1 y (List.mem_append_right _ hy)
    have h2b : ∀ t ∈ b, ¬ It.hides t x := fun t ht => h2 t (List.mem_append_left _ ht)
    have h2S : ∀ t ∈ S, ¬ It.hides t x := fun t ht => h2 t (List.mem_append_right _ ht)
    have h2T : ∀ t ∈ T, ¬ It.hides t x := by
      intro t ht hh
      obtain ⟨u, hu, hs, hw⟩ := tomb_there ht hh.1
      refine h2b u ((h.mem u).2 hu) ?_
      unfold It.hides at *
      unfold It.same at hs
      unfold It.wins at hw
      omega
    refine ⟨?_, fun y hy hs hw => ?_, fun t ht => ?_⟩
    · rcases List.mem_append.1 h0 with h3 | h3
      · exact List.mem_append_left _ (hbT x h3)
      · exact List.mem_append_right _ h3
    · rcases List.mem_append.1 hy with h3 | h3
      · obtain ⟨u, hu, hsu, hwu, hbu⟩ := best_ex T y h3
        by_cases hh : ∃ t ∈ T, It.hides t u
        · obtain ⟨t, ht, hh⟩ := hh
          refine h2T t ht ?_
          unfold It.hides at *
          unfold It.same at *
          unfold It.wins at *
          omega
        · have hub : u ∈ b := by
            refine (h.mem u).2 ⟨hu, fun z hz hs' => hbu z hz (by unfold It.same at *; omega), fun t ht hh' => hh ⟨t, ht, hh'⟩⟩
          have := h1b u hub (by unfold It.same at *; omega)
          unfold It.wins at *
          omega
      · exact h1S y h3 hs hw
    · rcases List.mem_append.1 ht with h3 | h3
      · exact h2T t h3
      · exact h2S t h3
  · rintro ⟨h0, h1, h2⟩
    refine ⟨?_, fun y hy => h1 y ?_, fun t ht => h2 t ?_⟩
    · rcases List.mem_append.1 h0 with h3 | h3
      · exact List.mem_append_left _ ((h.mem x).2 ⟨h3, fun y hy => h1 y (List.mem_append_left _ hy), fun t ht => h2 t (List.mem_append_left _ ht)⟩)
      · exact List.mem_append_right _ h3
    · rcases List.mem_append.1 hy with h3 | h3
      · exact List.mem_append_left _ (hbT y h3)
      · exact List.mem_append_right _ h3
    · rcases List.mem_append.1 ht with h3 | h3
      · exact List.mem_append_left _ (hbT t h3)
      · exact List.mem_append_right _ h3
def Goods (S : List It) : Prop := ∀ y ∈ S, It.good y
theorem goods_good (l : List It) : Goods (goods l) := fun y hy => (mem_goods.1 hy).2
theorem Goods.app {S T : List It} (h : Goods S) (k : Goods T) : Goods (S ++ T) := fun y hy => by
  rcases List.mem_append.1 hy with h1 | h1
  · exact h y h1
  · exact k y h1
theorem goods_of {S : List It} (h : Goods S) : goods S = S := by
  unfold goods
  exact List.filter_eq_self.2 fun x hx => goodB_true (h x hx)
theorem IsOf.goods_ {S l : List It} (h : IsOf S l) (hS : Goods S) : Goods l := fun y hy => hS y ((h.mem y).1 hy).1
/-- What two states come to that come of S and of T. -/
theorem joinL_isOf {S T a b : List It} (ha : IsOf S a) (hb : IsOf T b) (hS : Goods S) (hT : Goods T) : IsOf (T ++ S) (joinL a b) := by
  rw [joinL_of (ha.state hS)]
  have h := foldl_isOf b ha hS
  rw [goods_of (hb.goods_ hT)] at h
  exact ⟨h.up, fun x => (h.mem x).trans (there_swap hb x)⟩
/-- A state with the items of any list. -/
theorem joinL_list {S a : List It} (ha : IsOf S a) (hS : Goods S) (b : List It) : IsOf (goods b ++ S) (joinL a b) := by
  rw [joinL_of (ha.state hS)]
  exact foldl_isOf b ha hS
theorem ofL_is (l : List It) : IsOf (goods l) (ofL l) := ofL_isOf l
theorem ofL_congr {l m : List It} (h : ∀ x, x ∈ l ↔ x ∈ m) : ofL l = ofL m :=
  (ofL_is l).uniq ((ofL_is m).congr fun x => by simp [mem_goods, h x])
theorem ofL_state_eq {l : List It} (h : IsState l) : ofL l = l := (ofL_is l).uniq (by rw [goods_of h.1]; exact h.isOf)

theorem joins_comm (a b : List It) : joinL (ofL a) (ofL b) = joinL (ofL b) (ofL a) :=
  (joinL_isOf (ofL_is a) (ofL_is b) (goods_good a) (goods_good b)).uniq ((joinL_isOf (ofL_is b) (ofL_is a) (goods_good b) (goods_good a)).congr fun x => by simp only [List.mem_append]; exact or_comm)
theorem joins_again (a b : List It) : joinL (joinL (ofL a) (ofL b)) (ofL b) = joinL (ofL a) (ofL b) :=
  (joinL_isOf (joinL_isOf (ofL_is a) (ofL_is b) (goods_good a) (goods_good b)) (ofL_is b) ((goods_good b).app (goods_good a)) (goods_good b)).uniq
    ((joinL_isOf (ofL_is a) (ofL_is b) (goods_good a) (goods_good b)).congr fun x => by simp only [List.mem_append]; constructor <;> (intro h; simp_all))
theorem joins_assoc (a b c : List It) : joinL (joinL (ofL a) (ofL b)) (ofL c) = joinL (ofL a) (joinL (ofL b) (ofL c)) :=
  (joinL_isOf (joinL_isOf (ofL_is a) (ofL_is b) (goods_good a) (goods_good b)) (ofL_is c) ((goods_good b).app (goods_good a)) (goods_good c)).uniq
    ((joinL_isOf (ofL_is a) (joinL_isOf (ofL_is b) (ofL_is c) (goods_good b) (goods_good c)) (goods_good a) ((goods_good c).app (goods_good b))).congr fun x => by simp only [List.mem_append]; constructor <;> (intro h; simp_all [or_assoc]))
theorem joins_self (a : List It) : joinL (ofL a) (ofL a) = ofL a :=
  (joinL_isOf (ofL_is a) (ofL_is a) (goods_good a) (goods_good a)).uniq ((ofL_is a).congr fun x => by simp)
theorem joins_nil (a : List It) : joinL [] (ofL a) = ofL a := by rw [joinL_nil]; exact ofL_state_eq (ofL_state a)
theorem addS_len (l : List It) (x : It) : (addS l x).length ≤ l.length + 1 := by
  unfold addS
  split
  · exact addL_len l x
  · omega
end Go.Proofs.Ytlabpgdimhbocaa
