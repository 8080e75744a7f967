/- Plain law, no program: many rows made one, the least head first. -/
import Derived.Test.YtfmckinlgaejeaaMg
import Derived.Test.YtfmckinlgaejeaaStRef
namespace Go.Proofs.Ytfmckinlgaejeaa
set_option linter.unusedVariables false
set_option linter.unusedSimpArgs false

theorem best_same {S : List It} {x y : It} (hx : Best S x) (hy : Best S y) (h : It.same x y) : x = y := by
  have h1 := hx.2 y hy.1 h
  have h2 := hy.2 x hx.1 (by unfold It.same at *; omega)
  exact It.same_eq h h2 h1
theorem row_best {S l : List It} (h : RowOf S l) {c : It} (hc : c ∈ S) : ∃ y ∈ l, It.same c y ∧ ¬ It.wins c y := by
  obtain ⟨y, hy, hs, hw, hb⟩ := best_ex S c hc
  exact ⟨y, (h.mem y).2 ⟨hy, fun z hz hyz => hb z hz (by unfold It.same at *; omega)⟩, hs, hw⟩
theorem best_append {S T l m : List It} (h : RowOf S l) (k : RowOf T m) (z : It) : Best (l ++ m) z ↔ Best (S ++ T) z := by
  unfold Best
  simp only [List.mem_append]
  constructor
  · rintro ⟨hz, hb⟩
    refine ⟨hz.elim (fun e => .inl ((h.mem z).1 e).1) (fun e => .inr ((k.mem z).1 e).1), fun y hy hs hw => ?_⟩
    rcases hy with hy | hy
    · obtain ⟨u, hu, hsu, hwu⟩ := row_best h hy
      have := hb u (.inl hu) (by unfold It.same at *; omega)
      unfold It.wins at *; omega
    · obtain ⟨u, hu, hsu, hwu⟩ := row_best k hy
      have := hb u (.inr hu) (by unfold It.same at *; omega)
      unfold It.wins at *; omega
  · rintro ⟨hz, hb⟩
    refine ⟨hz.elim (fun e => .inl ((h.mem z).2 ⟨e, fun y hy => hb y (.inl hy)⟩) ) (fun e => .inr ((k.mem z).2 ⟨e, fun y hy => hb y (.inr hy)⟩)), fun y hy hs => ?_⟩
    rcases hy with hy | hy
    · exact hb y (.inl ((h.mem y).1 hy).1) hs
    · exact hb y (.inr ((k.mem y).1 hy).1) hs
theorem mrg2_row {S T l m : List It} (h : RowOf S l) (k : RowOf T m) : RowOf (S ++ T) (mrg2 l m) :=
  ⟨mrg2_up l m h.up k.up, fun z => (mrg2_mem l m h.up k.up z).trans (best_append h k z)⟩
theorem rowOf_nil : RowOf [] [] := ⟨Rising.nil_, fun x => by simp [Best]⟩

abbrev It0 : It := ⟨0, 0, 0, 0, 0⟩
def rowI (R : List (List It)) (j : Nat) : List It := R[j]?.getD []
def hd (R : List (List It)) (a : Nat) : It := ((rowI R a).head?).getD It0
/-- The least head among the first n rows. -/
def scan (R : List (List It)) : Nat → Option Nat
  | 0 => none
  | i + 1 => match (rowI R i).head? with
    | none => scan R i
    | some y => match scan R i with
      | none => some i
      | some a => if ltB y (hd R a) then some i else some a
/-- One item behind those that are. -/
def addO (O : List It) (x : It) : List It := match O.getLast? with
  | none => [x]
  | some y => if sameB y x then (if winsB x y then O.set (O.length - 1) x else O) else O ++ [x]
def mrgG : Nat → List (List It) → List It → List It
  | 0, _, O => O
  | n + 1, R, O => match scan R R.length with
    | none => O
    | some a => mrgG n (R.set a ((rowI R a).drop 1)) (addO O (hd R a))
def lenR (R : List (List It)) : Nat := (R.map List.length).sum

theorem scan_none {R : List (List It)} : ∀ {n : Nat}, scan R n = none → ∀ j, j < n → rowI R j = []
  | 0, _, j, hj => by omega
  | n + 1, h, j, hj => by
    rw [scan] at h
    cases hh : (rowI R n).head? with
    | some y =>
      rw [hh] at h
      simp only at h
      split at h
      · cases h
      · split at h <;> cases h
    | none =>
      rw [hh] at h
      by_cases e : j = n
      · subst e
        exact List.head?_eq_none_iff.1 hh
      · exact scan_none h j (by omega)
theorem scan_some {R : List (List It)} : ∀ {n a : Nat}, scan R n = some a → a < n ∧ (∃ l, rowI R a = hd R a :: l) ∧ ∀ j, j < n → ∀ y, (rowI R j).head? = some y → ltB y (hd R a) = false
  | 0, a, h => by cases h
  | n + 1, a, h => by
    rw [scan] at h
    cases hh : (rowI R n).head? with
    | none =>
      rw [hh] at h
      obtain ⟨h1, h2, h3⟩ := scan_some h
      refine ⟨by omega, h2, fun j hj y hy => ?_⟩
      by_cases e : j = n
      · subst e
        rw [hh] at hy
        cases hy
      · exact h3 j (by omega) y hy
    | some x =>
      rw [hh] at h
      simp only at h
      have hx : hd R n = x := by unfold hd; rw [hh]; rfl
      have hl : ∃ l, rowI R n = hd R n :: l := by
        rw [hx]
        cases hr : rowI R n with
        | nil => rw [hr] at hh; cases hh
        | cons z l => rw [hr] at hh; simp at hh; subst hh; exact ⟨l, rfl⟩
      cases hs : scan R n with
      | none =>
        rw [hs] at h
        simp only at h
        obtain rfl := Option.some.inj h
        refine ⟨by omega, hl, fun j hj y hy => ?_⟩
        by_cases e : j = n
        · subst e
          rw [hh] at hy
          obtain rfl := Option.some.inj hy
          rw [hx]
          simp [ltB, It.lt]
        · have := scan_none hs j (by omega)
          rw [this] at hy
          cases hy
      | some a' =>
        rw [hs] at h
        simp only at h
        obtain ⟨h1, h2, h3⟩ := scan_some hs
        by_cases hlt : ltB x (hd R a') = true
        · rw [if_pos hlt] at h
          obtain rfl := Option.some.inj h
          refine ⟨by omega, hl, fun j hj y hy => ?_⟩
          by_cases e : j = n
          · subst e
            rw [hh] at hy
            obtain rfl := Option.some.inj hy
            rw [hx]
            simp [ltB, It.lt]
          · have h4 := h3 j (by omega) y hy
            rw [hx]
            simp only [ltB, decide_eq_true_eq, decide_eq_false_iff_not] at *
            unfold It.lt at *
            omega
        · rw [if_neg hlt] at h
          obtain rfl := Option.some.inj h
          refine ⟨by omega, h2, fun j hj y hy => ?_⟩
          by_cases e : j = n
          · subst e
            rw [hh] at hy
            obtain rfl := Option.some.inj hy
            simpa using hlt
          · exact h3 j (by omega) y hy

theorem addO_row {S O : List It} {x : It} (h : RowOf S O) (hx : ∀ c ∈ S, ¬ It.lt x c) : RowOf (x :: S) (addO O x) := by
  rcases List.eq_nil_or_concat O with rfl | ⟨M, y, rfl⟩
  · have hS : ∀ c ∈ S, False := fun c hc => by
      obtain ⟨y, hy, _⟩ := row_best h hc
      cases hy
    refine ⟨rising_cons.2 ⟨fun z hz => (by cases hz), Rising.nil_⟩, fun z => ?_⟩
    show z ∈ [x] ↔ _
    rw [List.mem_singleton]
    unfold Best
    constructor
    · rintro rfl
      refine ⟨List.mem_cons_self, fun c hc hs hw => ?_⟩
      rcases List.mem_cons.1 hc with rfl | hc
      · unfold It.wins at hw; omega
      · exact hS c hc
    · rintro ⟨hz, _⟩
      rcases List.mem_cons.1 hz with e | e
      · exact e
      · exact (hS z e).elim
  · rw [List.concat_eq_append] at *
    have hy : y ∈ M ++ [y] := by simp
    have hyS := (h.mem y).1 hy
    have hup := h.up
    unfold Rising at hup
    obtain ⟨hM, _, hMy⟩ := List.pairwise_append.1 hup
    have hMy : ∀ m ∈ M, It.lt m y := fun m hm => hMy m hm y (by simp)
    have hyx := hx y hyS.1
    have hlast : (M ++ [y]).getLast? = some y := by simp
    have hle : ∀ c ∈ S, ¬ It.lt y c := by
      intro c hc hl
      obtain ⟨u, hu, hsu, _⟩ := row_best h hc
      rcases List.mem_append.1 hu with e | e
      · have := hMy u e
        unfold It.lt It.same at *; omega
      · obtain rfl := List.mem_singleton.1 e
        unfold It.lt It.same at *; omega
    unfold addO
    rw [hlast]
    simp only
    by_cases hs : sameB y x = true
    · have hs' : It.same y x := by simpa [sameB] using hs
      rw [if_pos hs]
      by_cases hw : winsB x y = true
      · have hw' : It.wins x y := by simpa [winsB] using hw
        rw [if_pos hw, show (M ++ [y]).set ((M ++ [y]).length - 1) x = M ++ [x] by simp]
        refine ⟨?_, fun z => ?_⟩
        · unfold Rising
          refine List.pairwise_append.2 ⟨hM, List.pairwise_singleton _ _, fun m hm u hu => ?_⟩
          obtain rfl := List.mem_singleton.1 hu
          have := hMy m hm
          unfold It.lt It.same at *; omega
        · constructor
          · intro hz
            rcases List.mem_append.1 hz with e | e
            · have hzS := (h.mem z).1 (List.mem_append.2 (.inl e))
              have hzy := hMy z e
              refine ⟨List.mem_cons_of_mem _ hzS.1, fun u hu hsu => ?_⟩
              rcases List.mem_cons.1 hu with rfl | hu
              · unfold It.lt It.same at *; omega
              · exact hzS.2 u hu hsu
            · obtain rfl := List.mem_singleton.1 e
              refine ⟨List.mem_cons_self, fun u hu hsu => ?_⟩
              rcases List.mem_cons.1 hu with rfl | hu
              · unfold It.wins; omega
              · have := hyS.2 u hu (by unfold It.same at *; omega)
                unfold It.wins at *; omega
          · rintro ⟨hz, hb⟩
            rcases List.mem_cons.1 hz with rfl | hz
            · simp
            · have hzO := (h.mem z).2 ⟨hz, fun u hu => hb u (List.mem_cons_of_mem _ hu)⟩
              rcases List.mem_append.1 hzO with e | e
              · exact List.mem_append.2 (.inl e)
              · obtain rfl := List.mem_singleton.1 e
                exact absurd hw' (hb x List.mem_cons_self hs')
      · have hw' : ¬ It.wins x y := by simpa [winsB] using hw
        rw [if_neg hw]
        refine ⟨h.up, fun z => (h.mem z).trans ?_⟩
        constructor
        · rintro ⟨hz, hb⟩
          refine ⟨List.mem_cons_of_mem _ hz, fun u hu hsu hwu => ?_⟩
          rcases List.mem_cons.1 hu with rfl | hu
          · have hzy := best_same ⟨hz, hb⟩ hyS (by unfold It.same at *; omega)
            subst hzy
            exact hw' hwu
          · exact hb u hu hsu hwu
        · rintro ⟨hz, hb⟩
          rcases List.mem_cons.1 hz with rfl | hz
          · have := It.same_eq (a := y) (b := z) hs' (hb y (List.mem_cons_of_mem _ hyS.1) (by unfold It.same at *; omega)) hw'
            subst this
            exact hyS
          · exact ⟨hz, fun u hu => hb u (List.mem_cons_of_mem _ hu)⟩
    · have hs' : ¬ It.same y x := by simpa [sameB] using hs
      have hlt : It.lt y x := by unfold It.lt It.same at *; omega
      rw [if_neg hs]
      have hfar : ∀ c ∈ S, ¬ It.same c x := fun c hc hcx => by
        have := hle c hc
        unfold It.lt It.same at *; omega
      refine ⟨?_, fun z => ?_⟩
      · unfold Rising
        refine List.pairwise_append.2 ⟨h.up, List.pairwise_singleton _ _, fun m hm u hu => ?_⟩
        obtain rfl := List.mem_singleton.1 hu
        rcases List.mem_append.1 hm with e | e
        · have := hMy m e
          unfold It.lt at *; omega
        · obtain rfl := List.mem_singleton.1 e
          exact hlt
      · rw [List.mem_append, List.mem_singleton, h.mem z]
        constructor
        · rintro (⟨hz, hb⟩ | rfl)
          · refine ⟨List.mem_cons_of_mem _ hz, fun u hu hsu => ?_⟩
            rcases List.mem_cons.1 hu with rfl | hu
            · exact absurd hsu (hfar z hz)
            · exact hb u hu hsu
          · refine ⟨List.mem_cons_self, fun u hu hsu => ?_⟩
            rcases List.mem_cons.1 hu with rfl | hu
            · unfold It.wins; omega
            · exact absurd (show It.same u z by unfold It.same at *; omega) (hfar u hu)
        · rintro ⟨hz, hb⟩
          rcases List.mem_cons.1 hz with rfl | hz
          · exact .inr rfl
          · exact .inl ⟨hz, fun u hu => hb u (List.mem_cons_of_mem _ hu)⟩

theorem rowI_lt {R : List (List It)} {j : Nat} (hj : j < R.length) : rowI R j = R[j] := by unfold rowI; rw [List.getElem?_eq_getElem hj]; rfl
theorem mem_flat {R : List (List It)} {z : It} : z ∈ R.flatten ↔ ∃ j, j < R.length ∧ z ∈ rowI R j := by
  rw [List.mem_flatten]
  constructor
  · rintro ⟨l, hl, hz⟩
    obtain ⟨j, hj, rfl⟩ := List.getElem_of_mem hl
    exact ⟨j, hj, by rw [rowI_lt hj]; exact hz⟩
  · rintro ⟨j, hj, hz⟩
    rw [rowI_lt hj] at hz
    exact ⟨_, List.getElem_mem hj, hz⟩
theorem rowI_set {R : List (List It)} {a j : Nat} {l : List It} (ha : a < R.length) : rowI (R.set a l) j = if j = a then l else rowI R j := by
  unfold rowI
  rw [List.getElem?_set]
  by_cases e : a = j
  · subst e; simp [ha]
  · rw [if_neg e, if_neg (fun h => e h.symm)]
theorem lenR_set : ∀ (R : List (List It)) (a : Nat) (x : It) (l : List It), rowI R a = x :: l → lenR (R.set a l) + 1 = lenR R
  | [], a, x, l, h => by simp [rowI] at h
  | r :: R, 0, x, l, h => by
    have h' : r = x :: l := by simpa [rowI] using h
    subst h'
    simp [lenR]
    omega
  | r :: R, a + 1, x, l, h => by
    have ih := lenR_set R a x l (by simpa [rowI] using h)
    simp [lenR] at ih ⊢
    omega
theorem lenR_zero {R : List (List It)} (h : lenR R = 0) : R.flatten = [] := by
  induction R with
  | nil => rfl
  | cons r R ih =>
    simp [lenR] at h
    have h1 : r = [] := h.1
    subst h1
    have h2 : lenR R = 0 := h.2
    simpa using ih h2
theorem flat_empty {R : List (List It)} (h : ∀ j, j < R.length → rowI R j = []) : R.flatten = [] := by
  apply List.eq_nil_iff_forall_not_mem.2
  intro z hz
  obtain ⟨j, hj, hz⟩ := mem_flat.1 hz
  rw [h j hj] at hz
  cases hz
theorem mrgG_row : ∀ (n : Nat) (R : List (List It)) (S O : List It), (∀ j, j < R.length → Rising (rowI R j)) → RowOf S O → (∀ c ∈ S, ∀ y ∈ R.flatten, ¬ It.lt y c) → lenR R ≤ n → RowOf (R.flatten ++ S) (mrgG n R O)
  | 0, R, S, O, _, h, _, hn => by
    rw [lenR_zero (by omega)]
    exact h
  | n + 1, R, S, O, hr, h, hle, hn => by
    rw [mrgG]
    cases hs : scan R R.length with
    | none =>
      rw [flat_empty (scan_none hs)]
      exact h
    | some a =>
      obtain ⟨ha, ⟨l, hl⟩, hmin⟩ := scan_some hs
      simp only
      rw [show (rowI R a).drop 1 = l by rw [hl]; rfl]
      generalize hd R a = x at *
      have hxf : x ∈ R.flatten := mem_flat.2 ⟨a, ha, by rw [hl]; simp⟩
      have hra := hr a ha
      rw [hl] at hra
      obtain ⟨hxl, hrl⟩ := rising_cons.1 hra
      have hset : ∀ j, rowI (R.set a l) j = if j = a then l else rowI R j := fun j => rowI_set ha
      have hback : ∀ y, y ∈ (R.set a l).flatten → y ∈ R.flatten := by
        intro y hy
        obtain ⟨j, hj, hy⟩ := mem_flat.1 hy
        rw [List.length_set] at hj
        rw [hset] at hy
        by_cases e : j = a
        · rw [if_pos e] at hy
          exact mem_flat.2 ⟨a, ha, by rw [hl]; simp [hy]⟩
        · rw [if_neg e] at hy
          exact mem_flat.2 ⟨j, hj, hy⟩
      have hall : ∀ y, y ∈ R.flatten → ¬ It.lt y x := by
        intro y hy hyx
        obtain ⟨j, hj, hy⟩ := mem_flat.1 hy
        have hrj := hr j hj
        cases hrow : rowI R j with
        | nil => rw [hrow] at hy; cases hy
        | cons y0 m =>
          have h0 := hmin j hj y0 (by rw [hrow]; rfl)
          have h0 : ¬ It.lt y0 x := by simpa [ltB] using h0
          rw [hrow] at hy hrj
          rcases List.mem_cons.1 hy with rfl | hy
          · exact h0 hyx
          · have := (rising_cons.1 hrj).1 y hy
            unfold It.lt at *; omega
      have ih := mrgG_row n (R.set a l) (x :: S) (addO O x) (fun j hj => by
          rw [List.length_set] at hj
          rw [hset]
          by_cases e : j = a
          · rw [if_pos e]; exact hrl
          · rw [if_neg e]; exact hr j hj) (addO_row h (fun c hc => hle c hc x hxf)) (fun c hc y hy => by
          rcases List.mem_cons.1 hc with rfl | hc
          · exact hall y (hback y hy)
          · exact hle c hc y (hback y hy)) (by have := lenR_set R a x l hl; omega)
      refine ih.congr (fun z => ?_)
      simp only [List.mem_append, List.mem_cons]
      constructor
      · rintro (h1 | rfl | h1)
        · exact .inl (hback z h1)
        · exact .inl hxf
        · exact .inr h1
      · rintro (h1 | h1)
        · obtain ⟨j, hj, hz⟩ := mem_flat.1 h1
          by_cases e : j = a
          · subst e
            rw [hl] at hz
            rcases List.mem_cons.1 hz with rfl | hz
            · exact .inr (.inl rfl)
            · exact .inl (mem_flat.2 ⟨j, by rw [List.length_set]; exact ha, by rw [hset, if_pos rfl]; exact hz⟩)
          · exact .inl (mem_flat.2 ⟨j, by rw [List.length_set]; exact hj, by rw [hset, if_neg e]; exact hz⟩)
        · exact .inr (.inr h1)
/-- Rows that rise, made one. -/
theorem mrgG_flat {R : List (List It)} (hr : ∀ l ∈ R, Rising l) : RowOf R.flatten (mrgG (lenR R) R []) := by
  have := mrgG_row (lenR R) R [] [] (fun j hj => by rw [rowI_lt hj]; exact hr _ (List.getElem_mem hj)) rowOf_nil (fun c hc => (by cases hc)) (Nat.le_refl _)
  rwa [List.append_nil] at this
def mrgsL (R : List (List It)) : List It := R.foldl (fun out l => mrg2 out l) []
theorem mrgsL_flat : ∀ (R : List (List It)), (∀ l ∈ R, Rising l) → RowOf R.flatten (mrgsL R) := by
  have key : ∀ (R : List (List It)) (S O : List It), (∀ l ∈ R, Rising l) → RowOf S O → RowOf (S ++ R.flatten) (R.foldl (fun out l => mrg2 out l) O) := by
    intro R
    induction R with
    | nil => intro S O _ h; simpa using h
    | cons r R ih =>
      intro S O hr h
      have := ih (S ++ r) (mrg2 O r) (fun l hl => hr l (List.mem_cons_of_mem _ hl)) (mrg2_row h (rising_rowOf (hr r List.mem_cons_self)))
      rw [List.append_assoc] at this
      exact this
  intro R hr
  exact key R [] [] hr rowOf_nil
theorem mrgG_eq {R : List (List It)} (hr : ∀ l ∈ R, Rising l) : mrgG (lenR R) R [] = mrgsL R := (mrgG_flat hr).uniq (mrgsL_flat R hr)
end Go.Proofs.Ytfmckinlgaejeaa
