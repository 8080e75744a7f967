/- slices.DeleteFunc on a slice that the call made: contract, for any function value that answers as a Lean predicate whatever stands in the row. Condition: the length's bound; the callee's contract. -/
import Derived.Test.YtihhepojhoaacaaIns
import Derived.Test.YtihhepojhoaacaaIdx
namespace Go.Proofs.Ytihhepojhoaacaa
set_option linter.unusedVariables false
set_option linter.unusedSimpArgs false
open Go.ChangeShapes Go.WideShapes Go.ChangeAt Go.RowKit

/-- A function value that tells a predicate of every item of a list, whatever stands in one row. -/
def TellsG (F : FuncId) (caps : Array Value) (p : It → Bool) (L : List It) (row : Option Nat) (w : World) : Prop :=
  ∀ x ∈ L, ∀ w1, w.grownBy w1 row → Calls Try.prog F (#[x.val] ++ caps) w1 fun e w2 => e = .returned (.bool (p x)) ∧ Below w1.heap.size w1 w2
theorem TellsG.tells {F : FuncId} {caps : Array Value} {p : It → Bool} {L : List It} {row : Option Nat} {w : World} (h : TellsG F caps p L row w) : Tells F caps p L w := fun x hx w1 hb => h x hx w1 (grownBy_below hb)
theorem row_item5 {w : World} {g : Nat} {M : List It} {R : List Value} {t : TypeId} (h : w.heap[g]? = some (.cells (flat M ++ R).toArray t (0, 0))) {k : Nat} (hk : k < M.length) :
    w.cell? ⟨g, k * 5, none⟩ = some (.int .i64 M[k].s) ∧ w.cell? ⟨g, k * 5 + 1, none⟩ = some (.int .i64 M[k].k) ∧ w.cell? ⟨g, k * 5 + 2, none⟩ = some (.int .u64 M[k].t) ∧ w.cell? ⟨g, k * 5 + 3, none⟩ = some (.int .u64 M[k].v) ∧ w.cell? ⟨g, k * 5 + 4, none⟩ = some (.int .i64 M[k].x) := by
  have f : ∀ j u, (It.cells M[k])[j]? = some u → w.cell? ⟨g, k * 5 + j, none⟩ = some u := fun j u hu => by
    rw [cell_of_row w g (k * 5 + j) _ _ _ h]
    have := flat_at M R k hk j u hu
    simpa using this
  exact ⟨f 0 _ rfl, f 1 _ rfl, f 2 _ rfl, f 3 _ rfl, f 4 _ rfl⟩
theorem row_free {w : World} {g : Nat} {l : Array Value} {t : TypeId} (h : w.heap[g]? = some (.cells l t (0, 0))) : ∀ o, w.frozen? ⟨g, o, none⟩ = false := fun o => by simp [World.frozen?, h]

section
variable {P : Program}
theorem wpList_clear_rowN (w : World) {ops : Array Oper} {rest : List Oper} {o : Oper} {a : Act} {Q : Exit → Act → World → Prop} (hgd : o.guard = none) (s : Operand) (dT : TypeId)
    (ho : o.op = .call { callee := .builtin .clear, args := #[s], argTypes := #[dT] }) (elem : TypeId) (i : TypeInfo) (z : Value) (hu : P.underlying dT = some (.slice elem)) (hi : P.info? elem = some i) (hz : i.zero = some z)
    (g off n c : Nat) (hs : a.eval s = .slice (some ⟨g, off, none⟩) n c) (hn : 0 < n)
    (cur : List Value) (t : TypeId) (hg : w.heap[g]? = some (.cells cur.toArray t (0, 0))) (hfit : off + n * z.cells.size ≤ cur.length) (h1 : ∀ v ∈ (Builtin.zeroCells z.cells n).toList, v.oneCell' = true)
    (h : ∀ w', Hid (w'.heap[g]? = some (.cells (cur.take off ++ (Builtin.zeroCells z.cells n).toList ++ cur.drop (off + (Builtin.zeroCells z.cells n).toList.length)).toArray t (0, 0))) → w.grownBy w' (some g) → wpList P ops Q rest (a.put o.dst (.tuple #[])) w') : wpList P ops Q (o :: rest) a w := by
  refine wpList_plain hgd fun K hK => ?_
  obtain ⟨m, rfl⟩ : ∃ m, n = m + 1 := ⟨n - 1, by omega⟩
  have hst := run_storeCells_at P g off t (Builtin.zeroCells z.cells (m + 1)).toList 0 cur.toArray w hg (by rw [Array.length_toList, size_zeroCells]; simpa using hfit) h1
  have hrun : (Builtin.clear_ #[dT] o.type #[.slice (some ⟨g, off, none⟩) (m + 1) c]).run P w = .ok (.tuple #[]) (w.setRow g (cur.take off ++ (Builtin.zeroCells z.cells (m + 1)).toList ++ cur.drop (off + (Builtin.zeroCells z.cells (m + 1)).toList.length)).toArray) := by
    simp only [Nat.add_zero, List.toList_toArray] at hst
    simp [Builtin.clear_, run_underlying hu, zeroValue, typeInfo, hi, hz, hst]
  unfold Oper.wp
  simp only [execOp, ho, resolve, invoke, builtin, Sem.run_bind, Sem.run_pure, Result.andThen_ok, List.map_toArray, List.map_cons, List.map_nil, hs, hrun]
  exact hK _ _ (h _ (show _ = _ from setRow_heap w g _ _ t _ hg) (grownBy_setRow w g _))
end
def keepL (p : It → Bool) (L : List It) : List It := L.filter fun y => !p y

theorem keep_snoc {p : It → Bool} {L : List It} {j : Nat} (hj : j < L.length) : keepL p (L.take (j + 1)) = keepL p (L.take j) ++ (if p L[j] then [] else [L[j]]) := by
  unfold keepL
  rw [List.take_succ_eq_append_getElem hj, List.filter_append]
  cases h : p L[j] <;> simp [h]
theorem keep_all {p : It → Bool} {L : List It} (h : findI p L = -1) : keepL p L = L := by
  unfold keepL
  refine List.filter_eq_self.2 fun x hx => ?_
  unfold findI at h
  cases e : L.findIdx? p with
  | some i => rw [e] at h; simp at h; try omega
  | none => rw [List.findIdx?_eq_none_iff] at e; simp [e x hx]
theorem find_some {p : It → Bool} {L : List It} (h : ¬ findI p L = -1) : ∃ i : Nat, findI p L = i ∧ i < L.length ∧ keepL p (L.take (i + 1)) = L.take i := by
  unfold findI at *
  cases e : L.findIdx? p with
  | none => rw [e] at h; exact absurd rfl h
  | some i =>
    rw [List.findIdx?_eq_some_iff_getElem] at e
    obtain ⟨hi, hp, hno⟩ := e
    refine ⟨i, rfl, hi, ?_⟩
    rw [keep_snoc hi, hp]
    simp only [if_true, List.append_nil]
    unfold keepL
    refine List.filter_eq_self.2 fun x hx => ?_
    obtain ⟨j, hj, rfl⟩ := List.getElem_of_mem hx
    have hj' : j < i := by simp at hj; omega
    rw [List.getElem_take]
    have := hno j hj'
    simpa using this
/-- What the sweep has made of the row behind j rounds: what stays, what is no longer wanted, what comes. -/
def Swept (p : It → Bool) (L : List It) (j i : Nat) (M : List It) : Prop := ∃ J, J ≠ [] ∧ M = keepL p (L.take j) ++ J ++ L.drop j ∧ (keepL p (L.take j)).length = i ∧ i + J.length = j
theorem Swept.len {p : It → Bool} {L : List It} {j i : Nat} {M : List It} (h : Swept p L j i M) (hj : j ≤ L.length) : M.length = L.length ∧ i < j := by
  obtain ⟨J, h0, rfl, h1, h2⟩ := h
  have : 0 < J.length := List.length_pos_iff.2 h0
  simp only [List.length_append, List.length_drop]
  omega
theorem Swept.at_ {p : It → Bool} {L : List It} {j i : Nat} {M : List It} (h : Swept p L j i M) (hj : j < L.length) (hM : j < M.length) : M[j] = L[j] := by
  obtain ⟨J, h0, rfl, h1, h2⟩ := h
  rw [List.getElem_append_right (by simp only [List.length_append]; omega)]
  simp only [List.length_append, List.getElem_drop]
  congr 1; omega
theorem Swept.drop_ {p : It → Bool} {L : List It} {j i : Nat} {M : List It} (h : Swept p L j i M) (hj : j < L.length) (hp : p L[j] = true) : Swept p L (j + 1) i M := by
  obtain ⟨J, h0, rfl, h1, h2⟩ := h
  refine ⟨J ++ [L[j]], by simp, ?_, ?_, by simp; omega⟩
  · rw [keep_snoc hj, hp, List.drop_eq_getElem_cons hj]; simp
  · rw [keep_snoc hj, hp]; simpa using h1
theorem Swept.keep_ {p : It → Bool} {L : List It} {j i : Nat} {M : List It} (h : Swept p L j i M) (hj : j < L.length) (hp : p L[j] = false) : Swept p L (j + 1) (i + 1) (M.set i L[j]) := by
  obtain ⟨J, h0, rfl, h1, h2⟩ := h
  cases J with
  | nil => exact absurd rfl h0
  | cons a J1 =>
    refine ⟨J1 ++ [L[j]], by simp, ?_, ?_, by simp at *; omega⟩
    · rw [keep_snoc hj, hp, List.drop_eq_getElem_cons hj, List.append_assoc, List.set_append_right _ _ (by omega), h1, Nat.sub_self]
      simp
    · rw [keep_snoc hj, hp]; simp [h1]
theorem swept_start {p : It → Bool} {L : List It} {i : Nat} (hi : i < L.length) (h : keepL p (L.take (i + 1)) = L.take i) : Swept p L (i + 1) i L := by
  refine ⟨[L[i]], by simp, ?_, ?_, by simp⟩
  · rw [h]
    rw [List.append_assoc, List.singleton_append, ← List.drop_eq_getElem_cons hi, List.take_append_drop]
  · rw [h, List.length_take]; omega
theorem zero_cells (n : Nat) : (Builtin.zeroCells (Value.agg #[.int .i64 0, .int .i64 0, .int .u64 0, .int .u64 0, .int .i64 0]).cells n).toList.length = n * 5 := by
  rw [Array.length_toList, size_zeroCells]; rfl
theorem zero_one (n : Nat) : ∀ v ∈ (Builtin.zeroCells (Value.agg #[.int .i64 0, .int .i64 0, .int .u64 0, .int .u64 0, .int .i64 0]).cells n).toList, v.oneCell' = true := by
  intro v hv
  simp only [Builtin.zeroCells, Array.toList_flatten, Array.toList_replicate, Array.toList_map, List.mem_flatten, List.mem_map] at hv
  obtain ⟨a, _, rfl⟩ := hv
  have h : a % 5 < 5 := Nat.mod_lt _ (by omega)
  show ((#[.int .i64 0, .int .i64 0, .int .u64 0, .int .u64 0, .int .i64 0] : Array Value)[a % 5]!).oneCell' = true
  generalize a % 5 = k at h ⊢
  match k, h with
  | 0, _ => rfl
  | 1, _ => rfl
  | 2, _ => rfl
  | 3, _ => rfl
  | 4, _ => rfl
theorem swept_end {p : It → Bool} {L : List It} {i : Nat} {M : List It} {R Z : List Value} (h : Swept p L L.length i M) (hZ : Z.length = (L.length - i) * 5) :
    (flat M ++ R).take (i * 5) ++ Z ++ (flat M ++ R).drop (i * 5 + Z.length) = flat (keepL p L) ++ (Z ++ R) ∧ (keepL p L).length = i := by
  obtain ⟨J, h0, rfl, h1, h2⟩ := h
  rw [List.take_length] at *
  have hk : (flat (keepL p L)).length = i * 5 := by rw [flat_length, h1]
  have hJ : (flat J).length = Z.length := by rw [flat_length, hZ]; congr 1; omega
  refine ⟨?_, h1⟩
  rw [List.drop_length, List.append_nil, flat_app, ← hk, List.append_assoc (flat (keepL p L)), List.take_left, List.drop_append, List.drop_eq_nil_of_le (by omega), List.nil_append, Nat.add_sub_cancel_left, ← hJ, List.drop_left, List.append_assoc]

end Go.Proofs.Ytihhepojhoaacaa
