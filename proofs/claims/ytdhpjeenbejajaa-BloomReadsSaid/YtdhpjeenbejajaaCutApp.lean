/- append onto the head of a block that may be marked at its end (a cut slice of []byte(s)): plain law and its walk. Conditions: typed at each. -/
import Derived.Test.YtdhpjeenbejajaaRead
import Derived.ArgAppend
namespace Go.Proofs.Ytdhpjeenbejajaa
set_option linter.unusedVariables false
set_option linter.unusedSimpArgs false
open Go.ChangeShapes Go.WideShapes Go.ChangeAt Go.RowKit

theorem setCells_size (b : Nat) : ∀ (vs : List Value) (o : Nat) (w : World), (w.setCells b o vs).heap.size = w.heap.size
  | [], _, _ => rfl
  | v :: r, o, w => by rw [World.setCells, setCells_size b r]; simp
theorem setCells_grown (w : World) (b : Nat) : ∀ (vs : List Value) (o : Nat), w.grownBy (w.setCells b o vs) (some b)
  | [], _ => World.grownBy.refl w _
  | v :: r, o => by
    rw [World.setCells]
    have h1 : w.grownBy (w.setCell ⟨b, o, none⟩ v) (some b) := grownBy_setCell w b o v
    have h2 := setCells_grown (w.setCell ⟨b, o, none⟩ v) b r (o + 1)
    exact grownBy_trans h1 h2
theorem ValsAt.list {α : Type} {val : α → Value} {w : World} {b off : Nat} {L : List α} (h : ValsAt val w (some ⟨b, off, none⟩) L) {j : Nat} {u : Value} (hu : (L.map val)[j]? = some u) : w.cell? ⟨b, off + j, none⟩ = some u := by
  have hj : j < L.length := by have := (List.getElem?_eq_some_iff.1 hu).1; simpa using this
  have hne : L ≠ [] := fun e => by subst e; simp at hj
  obtain ⟨b', off', e, _, hc⟩ := h hne
  injection e with e
  injection e with e1 e2 _
  subst e1 e2
  have := hc j hj 0 u (by simpa [one1, hj] using hu)
  simpa using this
theorem vals_of_list {α : Type} {val : α → Value} {w : World} {b off : Nat} {L : List α} (hb : b < w.heap.size) (h : ∀ j u, (L.map val)[j]? = some u → w.cell? ⟨b, off + j, none⟩ = some u) : ValsAt val w (some ⟨b, off, none⟩) L := by
  intro _
  refine ⟨b, off, rfl, hb, fun k hk j u hu => ?_⟩
  have hj : j = 0 := by
    have := (List.getElem?_eq_some_iff.1 hu).1
    simpa [one1] using this
  subst hj
  have := h k u (by simpa [one1, hk] using hu)
  simpa using this
theorem ValsAt.take {α : Type} {val : α → Value} {w : World} {b off : Nat} {L : List α} (h : ValsAt val w (some ⟨b, off, none⟩) L) (hb : b < w.heap.size) (k : Nat) : ValsAt val w (some ⟨b, off, none⟩) (L.take k) :=
  vals_of_list hb fun j u hu => by
    refine h.list ?_
    rw [List.map_take, List.getElem?_take] at hu
    split at hu
    · exact hu
    · cases hu

theorem run_append_cut {P : Program} {α : Type} {val : α → Value} (w : World) (t ty e : TypeId) (z : Value) (bytes : Nat) (ht : P.underlying t = some (.slice e)) (hinf : (P.info? e).map (fun i => (i.zero, i.size, i.bytes)) = some (some z, 1, bytes)) (hzs : z.cells.size = 1) (h1 : ∀ a, (val a).oneCell' = true) (hby : bytes ≤ 16)
    (g gc : Nat) (L : List α) (hg : g < w.heap.size) (hL : ValsAt val w (some ⟨g, 0, none⟩) L) (hc : ∀ j, j < gc → (w.cell? ⟨g, j, none⟩).isSome = true) (hf : ∀ j, j < gc → w.frozen? ⟨g, j, none⟩ = false) (hgc : L.length ≤ gc) (hgm : gc ≤ maxLen)
    (A : Option Addr) (c : Nat) (M : List α) (hM : ValsAt val w A M) (hn : L.length + M.length ≤ 2199023255552) :
    ∃ g' c' w', (Builtin.append_ #[t, t] ty #[.slice (some ⟨g, 0, none⟩) L.length gc, .slice A M.length c]).run P w = .ok (.slice (some ⟨g', 0, none⟩) (L.length + M.length) c') w' ∧ ValsAt val w' (some ⟨g', 0, none⟩) (L ++ M) ∧ w.grownBy w' (some g) ∧ L.length + M.length ≤ c' ∧ c' ≤ maxLen := by
  obtain ⟨i0, hi, hz0, hz1, hz2⟩ := info_parts hinf
  rcases M with _ | ⟨m, M⟩
  · refine ⟨g, gc, w, ?_, by simpa using hL, World.grownBy.refl w _, hgc, hgm⟩
    cases A with
    | none => simp [Builtin.append_, run_underlying ht, sizeOf, typeInfo, hi, Builtin.lenOf, hgc, Builtin.firstCells, storeCells]
    | some ad => exact run_append_room_cells (P := P) w t ty e i0 ht hi g 0 L.length gc ad 0 c [] (by simp) (by simp) (by simp) hgc (by simp) (by simp)
  obtain ⟨b, off, e1, hbb, _⟩ := hM (by simp)
  subst e1
  generalize hMM : m :: M = N at *
  clear hMM m M
  have hnl : (N.map val).length = N.length * i0.size := by rw [hz1]; simp
  have hol : (L.map val).length = L.length * i0.size := by rw [hz1]; simp
  have hnews : ∀ j u, (N.map val)[j]? = some u → w.cell? ((⟨b, off, none⟩ : Addr).add j) = some u := fun j u hu => by rw [Addr.add_lit]; exact hM.list hu
  have holds : ∀ j u, (L.map val)[j]? = some u → w.cell? ((⟨g, 0, none⟩ : Addr).add j) = some u := fun j u hu => by rw [Addr.add_lit]; exact hL.list hu
  have hone : ∀ u ∈ N.map val, u.oneCell' = true := fun u hu => by
    obtain ⟨a, _, rfl⟩ := List.mem_map.1 hu
    exact h1 a
  by_cases hroom : L.length + N.length ≤ gc
  · have hr := run_append_room_cells (P := P) w t ty e i0 ht hi g 0 L.length gc ⟨b, off, none⟩ N.length c (N.map val) hnl hnews hone hroom (fun j hj => hc _ (by simp [hz1] at hj ⊢; omega)) (fun j hj => hf _ (by simp [hz1] at hj ⊢; omega))
    refine ⟨g, gc, _, hr, ?_, setCells_grown _ _ _ _, hroom, hgm⟩
    refine vals_of_list (by rw [setCells_size]; exact hg) fun j u hu => ?_
    rw [hz1]
    have hj : j < L.length + N.length := by have := (List.getElem?_eq_some_iff.1 hu).1; simpa using this
    rw [List.map_append] at hu
    by_cases hjl : j < L.length
    · rw [World.cell?_setCells_out g _ _ _ _ (fun _ _ => .inl (by simp; omega))]
      rw [List.getElem?_append_left (by simpa using hjl)] at hu
      have := hL.list hu
      simpa using this
    · rw [List.getElem?_append_right (by simpa using Nat.le_of_not_lt hjl)] at hu
      have hj2 : j - L.length < (N.map val).length := by simp; omega
      have := World.cell?_setCells_in g (N.map val) (0 + L.length * 1) w (fun i hi => hc _ (by simp at hi ⊢; omega)) (j - L.length) hj2
      rw [show 0 + j = 0 + L.length * 1 + (j - L.length) by omega, this, ← hu]
      rw [List.length_map, List.getElem?_eq_getElem hj2]
  · have hbb2 : (L.length + N.length) * i0.bytes ≤ 140737488355328 := by
      rw [hz2]
      have : (L.length + N.length) * bytes ≤ (L.length + N.length) * 16 := Nat.mul_le_mul_left _ hby
      omega
    have hgt : gc < L.length + N.length := by omega
    have hr := run_append_grow (P := P) w t ty e i0 z ht hi hz0 ⟨g, 0, none⟩ L.length gc (L.map val) hol holds ⟨b, off, none⟩ N.length c (N.map val) hnl hnews hgt (by omega) (growslice_fits hgt hbb2)
    refine ⟨w.heap.size, _, _, hr, ?_, ⟨rfl, rfl, rfl, by simp, fun k hk _ => heap_alloc_old w.drew _ hk⟩, grownCap_ge w _ gc e, grownCap_le_maxLen w _ gc e (by simp only [maxLen]; omega)⟩
    refine vals_of_list (by simp) fun j u hu => ?_
    have hnew := heap_alloc_new w.drew (.cells ((L.map val).toArray ++ (N.map val).toArray ++ Builtin.zeroCells z.cells (grownCap w (L.length + N.length) gc e - (L.length + N.length))) e)
    have hc := cell_of_row _ w.heap.size (0 + j) _ _ _ hnew
    rw [hc, Nat.zero_add]
    rw [List.map_append] at hu
    have hj : j < (L.map val ++ N.map val).length := (List.getElem?_eq_some_iff.1 hu).1
    rw [Array.getElem?_append_left (by simp at hj ⊢; omega), ← hu]
    simp

theorem wpList_append_cut {P : Program} {α : Type} {val : α → Value} {ops : Array Oper} {rest : List Oper} {o : Oper} {a : Act} {w : World} {Q : Exit → Act → World → Prop} (hgd : o.guard = none) (s x : Operand) (t e : TypeId) (z : Value) (bytes : Nat)
    (ho : o.op = .call { callee := .builtin .append, args := #[s, x], argTypes := #[t, t] })
    (ht : P.underlying t = some (.slice e)) (hinf : (P.info? e).map (fun i => (i.zero, i.size, i.bytes)) = some (some z, 1, bytes)) (hzs : z.cells.size = 1) (h1 : ∀ a, (val a).oneCell' = true) (hby : bytes ≤ 16)
    (g gc k : Nat) (L : List α) (hs : a.eval s = .slice (some ⟨g, 0, none⟩) k gc) (hk : k = L.length) (hg : g < w.heap.size) (hL : ValsAt val w (some ⟨g, 0, none⟩) L) (hc : ∀ j, j < gc → (w.cell? ⟨g, j, none⟩).isSome = true) (hf : ∀ j, j < gc → w.frozen? ⟨g, j, none⟩ = false) (hgc : L.length ≤ gc) (hgm : gc ≤ maxLen)
    (A : Option Addr) (c : Nat) (M : List α) (hx : a.eval x = .slice A M.length c) (hM : ValsAt val w A M) (hn : L.length + M.length ≤ 2199023255552) (D : List α) (hD : L ++ M = D)
    (h : ∀ g' c' w', ValsAt val w' (some ⟨g', 0, none⟩) D → w.grownBy w' (some g) → D.length ≤ c' → c' ≤ maxLen → wpList P ops Q rest (a.put o.dst (.slice (some ⟨g', 0, none⟩) D.length c')) w') : wpList P ops Q (o :: rest) a w := by
  subst hk
  subst hD
  simp only [List.length_append] at h
  refine wpList_plain hgd fun K hK => ?_
  obtain ⟨g', c', w', hrun, h2, h3, h4, h5⟩ := run_append_cut (P := P) w t o.type e z bytes ht hinf hzs h1 hby g gc L hg hL hc hf hgc hgm A c M hM hn
  unfold Oper.wp execOp
  simp only [ho, resolve, invoke, builtin, Sem.run_bind, Sem.run_pure, Result.andThen_ok, List.map_toArray, List.map_cons, List.map_nil, hs, hx, hrun]
  exact hK _ _ (h g' c' w' h2 h3 h4 h5)
/-- The block of []byte(s), one byte of it stored anew. -/
theorem blk_free {w : World} {g gc : Nat} {l : Array Value} {t : TypeId} (h : w.heap[g]? = some (.cells l t (gc, gc + 1))) {o : Nat} (ho : o < gc) : w.frozen? ⟨g, o, none⟩ = false := by
  simp [World.frozen?, h]
  omega
theorem blk_set {w : World} {g gc : Nat} {L : List Int} {t : TypeId} {fr : Nat × Nat} (h : w.heap[g]? = some (.cells ((L.map u8v) ++ List.replicate (gc - L.length) (Value.int .u8 0)).toArray t fr)) {m : Nat} (hm : m < L.length) (x : Int) :
    (w.setCell ⟨g, m, none⟩ (.int .u8 x)).heap[g]? = some (.cells (((L.set m x).map u8v) ++ List.replicate (gc - (L.set m x).length) (Value.int .u8 0)).toArray t fr) := by
  simp only [World.setCell, Array.getElem?_modify, if_true, h, Option.map_some, List.setIfInBounds_toArray, List.map_set, List.length_set]
  rw [List.set_append_left _ _ (by simpa using hm)]
  rfl
theorem blk_vals {w : World} {g gc : Nat} {L : List Int} {t : TypeId} {fr : Nat × Nat} (h : w.heap[g]? = some (.cells ((L.map u8v) ++ List.replicate (gc - L.length) (Value.int .u8 0)).toArray t fr)) : ValsAt u8v w (some ⟨g, 0, none⟩) L := by
  refine vals_of_list (Array.getElem?_eq_some_iff.1 h).1 fun j u hu => ?_
  have hc := cell_of_row _ g (0 + j) _ _ _ h
  rw [hc, Nat.zero_add]
  have hj : j < (L.map u8v).length := (List.getElem?_eq_some_iff.1 hu).1
  rw [List.getElem?_toArray, List.getElem?_append_left hj]
  exact hu
theorem blk_some {w : World} {g gc : Nat} {L : List Int} {t : TypeId} {fr : Nat × Nat} (h : w.heap[g]? = some (.cells ((L.map u8v) ++ List.replicate (gc - L.length) (Value.int .u8 0)).toArray t fr)) {j : Nat} (hj : j < gc) : (w.cell? ⟨g, j, none⟩).isSome = true := by
  have hc := cell_of_row _ g j _ _ _ h
  rw [hc, List.getElem?_toArray, List.getElem?_eq_getElem (by simp; omega)]
  rfl
theorem xor_isB (x y : Int) : isB (bits .xor .u8 x y) := by
  unfold isB bits
  simp only [IntKind.wrap, IntKind.bits, IntKind.signed]
  simp
  omega
end Go.Proofs.Ytdhpjeenbejajaa
