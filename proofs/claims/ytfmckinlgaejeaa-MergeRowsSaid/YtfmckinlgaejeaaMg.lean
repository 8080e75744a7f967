/- Plain law, no program: rows that rise made one: of those that are the same the one that wins. -/
import Derived.Test.YtfmckinlgaejeaaSt
namespace Go.Proofs.Ytfmckinlgaejeaa
set_option linter.unusedVariables false
set_option linter.unusedSimpArgs false

/-- x is of the items S, and nothing of its place beats it. -/
def Best (S : List It) (x : It) : Prop := x ∈ S ∧ ∀ y ∈ S, It.same x y → ¬ It.wins y x
/-- The row of the items S. -/
structure RowOf (S l : List It) : Prop where
  up : Rising l
  mem : ∀ x, x ∈ l ↔ Best S x
theorem RowOf.uniq {S l m : List It} (h : RowOf S l) (k : RowOf S m) : l = m := rising_ext h.up k.up fun x => (h.mem x).trans (k.mem x).symm
theorem best_congr {S T : List It} (h : ∀ x, x ∈ S ↔ x ∈ T) (x : It) : Best S x ↔ Best T x := by
  unfold Best
  rw [h x]
  constructor
  · rintro ⟨h0, h1⟩; exact ⟨h0, fun y hy => h1 y ((h y).2 hy)⟩
  · rintro ⟨h0, h1⟩; exact ⟨h0, fun y hy => h1 y ((h y).1 hy)⟩
theorem RowOf.congr {S T l : List It} (h : ∀ x, x ∈ S ↔ x ∈ T) (k : RowOf S l) : RowOf T l := ⟨k.up, fun x => (k.mem x).trans (best_congr h x)⟩
theorem rising_same {l : List It} (h : Rising l) {a b : It} (ha : a ∈ l) (hb : b ∈ l) (hs : It.same a b) : a = b := by
  induction l with
  | nil => simp at ha
  | cons c l ih =>
    obtain ⟨hc, hl⟩ := rising_cons.1 h
    rcases List.mem_cons.1 ha with e | e <;> rcases List.mem_cons.1 hb with e' | e'
    · rw [e, e']
    · subst e; have := hc b e'; unfold It.lt at this; unfold It.same at hs; omega
    · subst e'; have := hc a e; unfold It.lt at this; unfold It.same at hs; omega
    · exact ih hl e e'
theorem rising_rowOf {l : List It} (h : Rising l) : RowOf l l :=
  ⟨h, fun x => ⟨fun hx => ⟨hx, fun y hy hs hw => by have := rising_same h hx hy hs; subst this; unfold It.wins at hw; omega⟩, fun hx => hx.1⟩⟩

/-- Two rows made one. -/
def mrg2 : List It → List It → List It
  | [], m => m
  | a :: l, [] => a :: l
  | a :: l, b :: m => if sameB a b then (if winsB b a then b else a) :: mrg2 l m else if ltB a b then a :: mrg2 l (b :: m) else b :: mrg2 (a :: l) m
  termination_by l m => l.length + m.length

theorem mrg2_nil_left (m : List It) : mrg2 [] m = m := by rw [mrg2]
theorem mrg2_nil_right (l : List It) : mrg2 l [] = l := by cases l <;> simp [mrg2]
theorem mrg2_from (P : It → Prop) : ∀ (l m : List It), (∀ x ∈ l, P x) → (∀ x ∈ m, P x) → ∀ x ∈ mrg2 l m, P x
  | [], m, _, hm => by rw [mrg2_nil_left]; exact hm
  | a :: l, [], hl, _ => by rw [mrg2_nil_right]; exact hl
  | a :: l, b :: m, hl, hm => by
    intro x hx
    have ha := hl a (by simp)
    have hb := hm b (by simp)
    have hl' : ∀ x ∈ l, P x := fun x hx => hl x (by simp [hx])
    have hm' : ∀ x ∈ m, P x := fun x hx => hm x (by simp [hx])
    rw [mrg2] at hx
    split at hx
    · rcases List.mem_cons.1 hx with e | e
      · subst e; split <;> assumption
      · exact mrg2_from P l m hl' hm' x e
    · split at hx
      · rcases List.mem_cons.1 hx with e | e
        · subst e; exact ha
        · exact mrg2_from P l (b :: m) hl' hm x e
      · rcases List.mem_cons.1 hx with e | e
        · subst e; exact hb
        · exact mrg2_from P (a :: l) m hl hm' x e
  termination_by l m => l.length + m.length

theorem mrg2_up : ∀ (l m : List It), Rising l → Rising m → Rising (mrg2 l m)
  | [], m, _, hm => by rw [mrg2_nil_left]; exact hm
  | a :: l, [], hl, _ => by rw [mrg2_nil_right]; exact hl
  | a :: l, b :: m, hl, hm => by
    obtain ⟨ha, hl'⟩ := rising_cons.1 hl
    obtain ⟨hb, hm'⟩ := rising_cons.1 hm
    rw [mrg2]
    split
    · rename_i hs
      have hs' : It.same a b := by simpa only [sameB, decide_eq_true_eq] using hs
      refine rising_cons.2 ⟨mrg2_from _ l m (fun x hx => ?_) (fun x hx => ?_), mrg2_up l m hl' hm'⟩
      · have := ha x hx
        split
        · unfold It.lt It.same at *; omega
        · exact this
      · have := hb x hx
        split
        · exact this
        · unfold It.lt It.same at *; omega
    · rename_i hs
      have hs' : ¬ It.same a b := by simpa only [sameB, decide_eq_true_eq] using hs
      split
      · rename_i hlt
        have hlt' : It.lt a b := by simpa only [ltB, decide_eq_true_eq] using hlt
        refine rising_cons.2 ⟨mrg2_from _ l (b :: m) ha (fun x hx => ?_), mrg2_up l (b :: m) hl' hm⟩
        rcases List.mem_cons.1 hx with e | e
        · subst e; exact hlt'
        · have := hb x e; unfold It.lt at *; omega
      · rename_i hlt
        have hlt' : ¬ It.lt a b := by simpa only [ltB, decide_eq_true_eq] using hlt
        refine rising_cons.2 ⟨mrg2_from _ (a :: l) m (fun x hx => ?_) hb, mrg2_up (a :: l) m hl hm'⟩
        rcases List.mem_cons.1 hx with e | e
        · subst e; unfold It.lt It.same at *; omega
        · have := ha x e; unfold It.lt It.same at *; omega
  termination_by l m => l.length + m.length

theorem mrg2_mem : ∀ (l m : List It), Rising l → Rising m → ∀ x, x ∈ mrg2 l m ↔ Best (l ++ m) x
  | [], m, _, hm, x => by rw [mrg2_nil_left]; exact (rising_rowOf hm).mem x
  | a :: l, [], hl, _, x => by rw [mrg2_nil_right, List.append_nil]; exact (rising_rowOf hl).mem x
  | a :: l, b :: m, hl, hm, x => by
    obtain ⟨ha, hl'⟩ := rising_cons.1 hl
    obtain ⟨hb, hm'⟩ := rising_cons.1 hm
    rw [mrg2]
    split
    · rename_i hs
      have hs' : It.same a b := by simpa only [sameB, decide_eq_true_eq] using hs
      rw [List.mem_cons, mrg2_mem l m hl' hm' x]
      have far : ∀ y, y ∈ l ∨ y ∈ m → ¬ It.same a y ∧ ¬ It.same b y := by
        rintro y (h | h)
        · have := ha y h; unfold It.lt It.same at *; omega
        · have := hb y h; unfold It.lt It.same at *; omega
      unfold Best
      simp only [List.mem_append, List.mem_cons]
      constructor
      · rintro (e | ⟨h1, h2⟩)
        · subst e
          split
          · rename_i hw
            have hw' : It.wins b a := by simpa only [winsB, decide_eq_true_eq] using hw
            refine ⟨.inr (.inl rfl), ?_⟩
            rintro y ((e | h) | (e | h)) hsy
            · subst e; unfold It.wins at *; omega
            · exact absurd hsy (far y (.inl h)).2
            · subst e; unfold It.wins; omega
            · exact absurd hsy (far y (.inr h)).2
          · rename_i hw
            have hw' : ¬ It.wins b a := by simpa only [winsB, decide_eq_true_eq] using hw
            refine ⟨.inl (.inl rfl), ?_⟩
            rintro y ((e | h) | (e | h)) hsy
            · subst e; unfold It.wins; omega
            · exact absurd hsy (far y (.inl h)).1
            · subst e; exact hw'
            · exact absurd hsy (far y (.inr h)).1
        · have hf := far x h1
          refine ⟨by rcases h1 with h | h <;> simp [h], ?_⟩
          rintro y ((e | h) | (e | h)) hsy
          · subst e; exact absurd (by unfold It.same at *; omega) hf.1
          · exact h2 y (.inl h) hsy
          · subst e; exact absurd (by unfold It.same at *; omega) hf.2
          · exact h2 y (.inr h) hsy
      · rintro ⟨(e | h) | (e | h), h2⟩
        · subst e
          have := h2 b (.inr (.inl rfl)) hs'
          rw [if_neg (by simpa only [winsB, decide_eq_true_eq] using this)]
          exact .inl rfl
        · exact .inr ⟨.inl h, fun y hy => h2 y (by rcases hy with h | h <;> simp [h])⟩
        · subst e
          have h3 := h2 a (.inl (.inl rfl)) (by unfold It.same at *; omega)
          by_cases hw : It.wins x a
          · rw [if_pos (by simpa only [winsB, decide_eq_true_eq] using hw)]; exact .inl rfl
          · rw [if_neg (by simpa only [winsB, decide_eq_true_eq] using hw)]
            exact .inl (It.same_eq (by unfold It.same at *; omega) hw h3)
        · exact .inr ⟨.inr h, fun y hy => h2 y (by rcases hy with h | h <;> simp [h])⟩
    · rename_i hs
      have hs' : ¬ It.same a b := by simpa only [sameB, decide_eq_true_eq] using hs
      split
      · rename_i hlt
        have hlt' : It.lt a b := by simpa only [ltB, decide_eq_true_eq] using hlt
        rw [List.mem_cons, mrg2_mem l (b :: m) hl' hm x]
        have far : ∀ y, y ∈ l ++ b :: m → ¬ It.same a y := by
          intro y hy
          rcases List.mem_append.1 hy with h | h
          · have := ha y h; unfold It.lt It.same at *; omega
          · rcases List.mem_cons.1 h with e | h
            · subst e; exact hs'
            · have := hb y h; unfold It.lt It.same at *; omega
        unfold Best
        rw [List.cons_append]
        constructor
        · rintro (e | ⟨h1, h2⟩)
          · subst e
            refine ⟨by simp, fun y hy hsy => ?_⟩
            rcases List.mem_cons.1 hy with e | h
            · subst e; unfold It.wins; omega
            · exact absurd hsy (far y h)
          · refine ⟨List.mem_cons_of_mem _ h1, fun y hy hsy => ?_⟩
            rcases List.mem_cons.1 hy with e | h
            · subst e; exact absurd (by unfold It.same at *; omega) (far x h1)
            · exact h2 y h hsy
        · rintro ⟨h1, h2⟩
          rcases List.mem_cons.1 h1 with e | h
          · exact .inl e
          · exact .inr ⟨h, fun y hy => h2 y (List.mem_cons_of_mem _ hy)⟩
      · rename_i hlt
        have hlt' : ¬ It.lt a b := by simpa only [ltB, decide_eq_true_eq] using hlt
        rw [List.mem_cons, mrg2_mem (a :: l) m hl hm' x]
        have far : ∀ y, y ∈ (a :: l) ++ m → ¬ It.same b y := by
          intro y hy
          rcases List.mem_append.1 hy with h | h
          · rcases List.mem_cons.1 h with e | h
            · subst e; unfold It.same at *; omega
            · have := ha y h; unfold It.lt It.same at *; omega
          · have := hb y h; unfold It.lt It.same at *; omega
        have mem' : ∀ y, y ∈ (a :: l) ++ b :: m ↔ y = b ∨ y ∈ (a :: l) ++ m := by
          intro y; simp only [List.mem_append, List.mem_cons]; constructor <;> (intro h; rcases h with (h | h) | h | h <;> simp_all) 
        unfold Best
        rw [mem' x]
        constructor
        · rintro (e | ⟨h1, h2⟩)
          · subst e
            refine ⟨.inl rfl, fun y hy hsy => ?_⟩
            rcases (mem' y).1 hy with e | h
            · subst e; unfold It.wins; omega
            · exact absurd hsy (far y h)
          · refine ⟨.inr h1, fun y hy hsy => ?_⟩
            rcases (mem' y).1 hy with e | h
            · subst e; exact absurd (by unfold It.same at *; omega) (far x h1)
            · exact h2 y h hsy
        · rintro ⟨e | h, h2⟩
          · exact .inl e
          · exact .inr ⟨h, fun y hy => h2 y ((mem' y).2 (.inr hy))⟩
  termination_by l m => l.length + m.length
end Go.Proofs.Ytfmckinlgaejeaa
