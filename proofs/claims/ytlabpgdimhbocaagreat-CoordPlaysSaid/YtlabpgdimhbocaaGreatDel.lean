/- slices.DeleteFunc on a slice that the call made: contract, for any function value that answers as a Lean predicate whatever stands in the row. Condition: the length's bound; the callee's contract. -/
import Derived.Test.YtlabpgdimhbocaaGreatIns
import Derived.Test.YtlabpgdimhbocaaGreatIdx
namespace Go.Proofs.YtlabpgdimhbocaaGreat
set_option linter.unusedVariables false
set_option linter.unusedSimpArgs false
open Go.ChangeShapes Go.WideShapes Go.ChangeAt Go.RowKit

/-- A function value that tells a predicate of every item of a list, whatever stands in one row. -/
def TellsG (F : FuncId) (caps : Array Value) (p : It → Bool) (L : List It) (row : Option Nat) (w : World) : Prop :=
  ∀ x ∈ L, ∀ w1, w.grownBy w1 row → Calls Tryz.prog F (#[x.val] ++ caps) w1 fun e w2 => e = .returned (.bool (p x)) ∧ Below w1.heap.size w1 w2
theorem TellsG.tells {F : FuncId} {caps : Array Value} {p : It → Bool} {L : List It} {row : Option Nat} {w : World} (h : TellsG F caps p L row w) : Tells F caps p L w := fun x hx w1 hb => h x hx w1 (grownBy_below hb)
theorem row_item5 {w : World} {g : Nat} {M : List It} {R : List Value} {t : TypeId} (h : w.heap[g]? = some (.cells (flat M ++ R).toArray t (0, 0))) {k : Nat} (hk : k < M.length) :
    w.cell? ⟨g, k * 5, none⟩ = some (.int .i64 M[k].s) ∧ w.cell? ⟨g, k * 5 + 1, none⟩ = some (.int .i64 M[k].k) ∧ w.cell? ⟨g, k * 5 + 2, none⟩ = some (.int .u64 M[k].t) ∧ w.cell? ⟨g, k * 5 + 3, none⟩ = some (.int .u64 M[k].v) ∧ w.cell? ⟨g, k * 5 + 4, none⟩ = some (.int .i64 M[k].x) := by
  have f : ∀ j u, (It.cells M[k])[j]? = some u → w.cell? ⟨g, k * 5 + j, none⟩ = some u := fun j u hu => by
    rw [cell_of_row w g (k * 5 + j) _ _ _ h]
    have := flat_at M R k hk j u hu
    simpa using this
  exact ⟨f 0 _ rfl, f 1 _ rfl, f 2 _ rfl, f 3 _ rfl, f 4 _ rfl⟩
theorem row_free {w : World} {g : Nat} {l : Array Value} {t : TypeId} (h : w.heap[g]? = some (.cells l t (0, 0))) : ∀ o, w.frozen? ⟨g, o, none⟩ = false := fun o => by simp [World.frozen?, h]

section
variable {P : Program}
theorem wpList_clear_rowN (w : World) {ops : Array Oper} {rest : List Oper} {o : Oper} {a : Act} {Q : Exit → Act → World → Prop} (hgd : o.guard = none) (s : Operand) (dT : TypeId)
    (ho : o.op = .call { callee := .builtin .clear, args := #[s], argTypes := #[dT] }) (elem : TypeId) (i : TypeInfo) (z : Value) (hu : P.underlying dT = some (.slice elem)) (hi : P.info? elem = some i) (hz : i.zero = some z)
    (g off n c : Nat) (hs : a.eval s = .slice (some ⟨g, off, none⟩) n c) (hn : 0 < n)
    (cur : List Value) (t : TypeId) (hg : w.heap[g]? = some (.cells cur.toArray t (0, 0))) (hfit : off + n * z.cells.size ≤ cur.length) (h1 : ∀ v ∈ (Builtin.zeroCells z.cells n).toList, v.oneCell' = true)
    (h : ∀ w', Hid (w'.heap[g]? = some (.cells (cur.take off ++ (Builtin.zeroCells z.cells n).toList ++ cur.drop (off + (Builtin.zeroCells z.cells n).toList.length)).toArray t (0, 0))) → w.grownBy w' (some g) → wpList P ops Q rest (a.put o.dst (.tuple #[])) w') : wpList P ops Q (o :: rest) a w := by
  refine wpList_plain hgd fun K hK => ?_
  obtain ⟨m, rfl⟩ : ∃ m, n = m + 1 := ⟨n - 1, by omega⟩
  have hst := run_storeCells_at P g off t (Builtin.zeroCells z.cells (m + 1)).toList 0 cur.toArray w hg (by rw [Array.length_toList, size_zeroCells]; simpa using hfit) h1
  have hrun : (Builtin.clear_ #[dT] o.type #[.slice (some ⟨g, off, none⟩) (m + 1) c]).run P w = .ok (.tuple #[]) (w.setRow g (cur.take off ++ (Builtin.zeroCells z.cells (m + 1)).toList ++ cur.drop (off + (Builtin.zeroCells z.cells (m + 1)).toList.length)).toArray) := by
    simp only [Nat.add_zero, List.toList_toArray] at hst
    simp [Builtin.clear_, run_underlying hu, zeroValue, typeInfo, hi, hz, hst]
  unfold Oper.wp
  simp only [execOp, ho, resolve, invoke, builtin, Sem.run_bind, Sem.run_pure, Result.andThen_ok, List.map_toArray, List.map_cons, List.map_nil, hs, hrun]
  exact hK _ _ (h _ (show _ = _ from setRow_heap w g _ _ t _ hg) (grownBy_setRow w g _))
end
def keepL (p : It → Bool) (L : List It) : List It := L.filter fun y => !p y

theorem keep_snoc {p : It → Bool} {L : List It} {j : Nat} (hj : j < L.length) : keepL p (L.take (j + 1)) = keepL p (L.take j) ++ (if p L[j] then [] else [L[j]]) := by
  unfold keepL
  rw [List.take_succ_eq_append_getElem hj, List.filter_append]
  cases h : p L[j] <;> simp [h]
theorem keep_all {p : It → Bool} {L : List It} (h : findI p L = -1) : keepL p L = L := by
  unfold keepL
  refine List.filter_eq_self.2 fun x hx => ?_
  unfold findI at h
  cases e : L.findIdx? p with
  | some i => rw [e] at h; simp at h; try omega
  | none => rw [List.findIdx?_eq_none_iff] at e; simp [e x hx]
theorem find_some {p : It → Bool} {L : List It} (h : ¬ findI p L = -1) : ∃ i : Nat, findI p L = i ∧ i < L.length ∧ keepL p (L.take (i + 1)) = L.take i := by
  unfold findI at *
  cases e : L.findIdx? p with
  | none => rw [e] at h; exact absurd rfl h
  | some i =>
    rw [List.findIdx?_eq_some_iff_getElem] at e
    obtain ⟨hi, hp, hno⟩ := e
    refine ⟨i, rfl, hi, ?_⟩
    rw [keep_snoc hi, hp]
    simp only [if_true, List.append_nil]
    unfold keepL
    refine List.filter_eq_self.2 fun x hx => ?_
    obtain ⟨j, hj, rfl⟩ := List.getElem_of_mem hx
    have hj' : j < i := by simp at hj; omega
    rw [List.getElem_take]
    have := hno j hj'
    simpa using this
/-- What the sweep has made of the row behind j rounds: what stays, what is no longer wanted, what comes. -/
def Swept (p : It → Bool) (L : List It) (j i : Nat) (M : List It) : Prop := ∃ J, J ≠ [] ∧ M = keepL p (L.take j) ++ J ++ L.drop j ∧ (keepL p (L.take j)).length = i ∧ i + J.length = j
theorem Swept.len {p : It → Bool} {L : List It} {j i : Nat} {M : List It} (h : Swept p L j i M) (hj : j ≤ L.length) : M.length = L.length ∧ i < j := by
  obtain ⟨J, h0, rfl, h1, h2⟩ := h
  have : 0 < J.length := List.length_pos_iff.2 h0
  simp only [List.length_append, List.length_drop]
  omega
theorem Swept.at_ {p : It → Bool} {L : List It} {j i : Nat} {M : List It} (h : Swept p L j i M) (hj : j < L.length) (hM : j < M.length) : M[j] = L[j] := by
  obtain ⟨J, h0, rfl, h1, h2⟩ := h
  rw [List.getElem_append_right (by simp only [List.length_append]; omega)]
  simp only [List.length_append, List.getElem_drop]
  congr 1; omega
theorem Swept.drop_ {p : It → Bool} {L : List It} {j i : Nat} {M : List It} (h : Swept p L j i M) (hj : j < L.length) (hp : p L[j] = true) : Swept p L (j + 1) i M := by
  obtain ⟨J, h0, rfl, h1, h2⟩ := h
  refine ⟨J ++ [L[j]], by simp, ?_, ?_, by simp; omega⟩
  · rw [keep_snoc hj, hp, List.drop_eq_getElem_cons hj]; simp
  · rw [keep_snoc hj, hp]; simpa using h1
theorem Swept.keep_ {p : It → Bool} {L : List It} {j i : Nat} {M : List It} (h : Swept p L j i M) (hj : j < L.length) (hp : p L[j] = false) : Swept p L (j + 1) (i + 1) (M.set i L[j]) := by
  obtain ⟨J, h0, rfl, h1, h2⟩ := h
  cases J with
  | nil => exact absurd rfl h0
  | cons a J1 =>
    refine ⟨J1 ++ [L[j]], by simp, ?_, ?_, by simp at *; omega⟩
    · rw [keep_snoc hj, hp, List.drop_eq_getElem_cons hj, List.append_assoc, List.set_append_right _ _ (by omega), h1, Nat.sub_self]
      simp
    · rw [keep_snoc hj, hp]; simp [h1]
theorem swept_start {p : It → Bool} {L : List It} {i : Nat} (hi : i < L.length) (h : keepL p (L.take (i + 1)) = L.take i) : Swept p L (i + 1) i L := by
  refine ⟨[L[i]], by simp, ?_, ?_, by simp⟩
  · rw [h]
    rw [List.append_assoc, List.singleton_append, ← List.drop_eq_getElem_cons hi, List.take_append_drop]
  · rw [h, List.length_take]; omega
theorem zero_cells (n : Nat) : (Builtin.zeroCells (Value.agg #[.int .i64 0, .int .i64 0, .int .u64 0, .int .u64 0, .int .i64 0]).cells n).toList.length = n * 5 := by
  rw [Array.length_toList, size_zeroCells]; rfl
theorem zero_one (n : Nat) : ∀ v ∈ (Builtin.zeroCells (Value.agg #[.int .i64 0, .int .i64 0, .int .u64 0, .int .u64 0, .int .i64 0]).cells n).toList, v.oneCell' = true := by
  intro v hv
  simp only [Builtin.zeroCells, Array.toList_flatten, Array.toList_replicate, Array.toList_map, List.mem_flatten, List.mem_map] at hv
  obtain ⟨a, _, rfl⟩ := hv
  have h : a % 5 < 5 := Nat.mod_lt _ (by omega)
  show ((#[.int .i64 0, .int .i64 0, .int .u64 0, .int .u64 0, .int .i64 0] : Array Value)[a % 5]!).oneCell' = true
  generalize a % 5 = k at h ⊢
  match k, h with
  | 0, _ => rfl
  | 1, _ => rfl
  | 2, _ => rfl
  | 3, _ => rfl
  | 4, _ => rfl
theorem swept_end {p : It → Bool} {L : List It} {i : Nat} {M : List It} {R Z : List Value} (h : Swept p L L.length i M) (hZ : Z.length = (L.length - i) * 5) :
    (flat M ++ R).take (i * 5) ++ Z ++ (flat M ++ R).drop (i * 5 + Z.length) = flat (keepL p L) ++ (Z ++ R) ∧ (keepL p L).length = i := by
  obtain ⟨J, h0, rfl, h1, h2⟩ := h
  rw [List.take_length] at *
  have hk : (flat (keepL p L)).length = i * 5 := by rw [flat_length, h1]
  have hJ : (flat J).length = Z.length := by rw [flat_length, hZ]; congr 1; omega
  refine ⟨?_, h1⟩
  rw [List.drop_length, List.append_nil, flat_app, ← hk, List.append_assoc (flat (keepL p L)), List.take_left, List.drop_append, List.drop_eq_nil_of_le (by omega), List.nil_append, Nat.add_sub_cancel_left, ← hJ, List.drop_left, List.append_assoc]

set_option maxHeartbeats 4000000 in
set_option maxRecDepth 100000 in
theorem del_row (F : FuncId) (caps : Array Value) (hcf : Enters Tryz.prog F) (p : It → Bool) (g cap base : Nat) (R : List Value) (L : List It) (w : World) (hb : base ≤ g) (hg : w.heap[g]? = some (.cells (flat L ++ R).toArray 78 (0, 0)))
    (hnc : L.length ≤ cap) (hcm : cap ≤ maxLen) (hfit : cap * 5 ≤ L.length * 5 + R.length) (hF : TellsG F caps p L (some g) w) :
    Calls Tryz.prog 81 #[.slice (some ⟨g, 0, none⟩) L.length cap, .func (.func F) #[] caps] w (RetOg base (keepL p L) (.slice (some ⟨g, 0, none⟩) L.length cap) w) := by
  have hgl : g < w.heap.size := (Array.getElem?_eq_some_iff.1 hg).1
  have HI := hide (fun W hW => index_any F caps hcf p (some ⟨g, 0, none⟩) cap L W (by unfold maxLen at hcm; omega) (RowAt.below (row_items hg) hW) (fun x hx w1 h1 => hF x hx w1 (grownBy_below (below_step hW h1))))
  have HF := hide hF
  have HCF := hide hcf
  have HG := hide hg
  clear hg hF hcf
  by_cases hf : findI p L = -1
  · have HK := hide (keep_all hf)
    rw [hf] at HI
    go_enter Tryz.func81, Tryz.ntmps81
    go_wp2_with fail
    refine (Calls.mono (HI.out _ (Below.refl _ _)) ?_); rintro e w1 ⟨rfl, hg1⟩
    go_wp2_with fail
    go_ret
    refine ⟨_, rfl, ?_, ⟨grownBy_below hg1, .inl rfl⟩⟩
    rw [HK.out]
    exact .inr ⟨g, cap, R, rfl, hb, (hg1.block g hgl).trans HG.out, hnc, hcm, hfit⟩
  · obtain ⟨i0, hf2, hi0, hk0⟩ := find_some hf
    rw [hf2] at HI
    have HS := hide (swept_start hi0 hk0)
    clear hf hf2 hk0
    have hc63 : cap ≤ 9223372036854775807 := by unfold maxLen at hcm; omega
    have bi : ((i0 : Int) == -1) = false := beq_eq_false_iff_ne.2 (by omega)
    go_enter Tryz.func81, Tryz.ntmps81
    go_wp2_with fail
    refine (Calls.mono (HI.out _ (Below.refl _ _)) ?_); rintro e w1 ⟨rfl, hg1⟩
    have HG1 := hide ((hg1.block g hgl).trans HG.out)
    have HB1 := hide (grownBy_below (row := some g) hg1)
    clear hg1 HI
    go_wp2_with fail
    go_loopw [5, 6] (fun a b wr => ∃ (i j : Nat) (M : List It), a = .int .i64 i ∧ b = .int .i64 j ∧ j ≤ L.length ∧ Swept p L j i M ∧ wr.heap[g]? = some (.cells (flat M ++ R).toArray 78 (0, 0)) ∧ w.grownBy wr (some g)) (fun _ b _ => L.length - (intOf b).toNat)
    case atStart => exact ⟨i0, i0 + 1, L, rfl, by go_num, by omega, HS.out, HG1.out, HB1.out⟩
    case round =>
      obtain ⟨i, j, M, rfl, rfl, hj, hsw, hgr, hgb⟩ := hrel
      obtain ⟨hMl, hij⟩ := hsw.len hj
      have hml : M.length ≤ L.length := by omega
      have hml2 : L.length ≤ M.length := by omega
      have HMl := hide hMl
      clear hMl
      have hgl' : g < wr.heap.size := (Array.getElem?_eq_some_iff.1 hgr).1
      have HGR := hide hgr
      have HGB := hide hgb
      clear hgr hgb
      by_cases hlt : j < L.length
      · obtain ⟨y0, y1, y2, y3, y4⟩ := row_item5 HGR.out (k := j) (by omega)
        have hat := hsw.at_ hlt (by omega)
        have H1 := hide (fun h => hsw.drop_ hlt h)
        have H2 := hide (fun h => hsw.keep_ hlt h)
        have hcall := HF.out L[j] (List.getElem_mem _)
        rw [hat] at y0 y1 y2 y3 y4
        clear hsw hat
        generalize L[j] = y at *
        have HC := hide (fun W hW => hcall W hW)
        clear hcall
        have hcf := HCF.out
        unfold Enters at hcf
        have hjc : (j : Int) < (L.length : Int) := by omega
        cases hp : p y
        all_goals
          go_wp2_with fail
          refine (Calls.mono (HC.out _ (grownBy_trans HGB.out (World.grownBy_alloc _ _ _))) ?_); rintro e w2 ⟨rfl, hg2⟩
          rw [hp]
          have HG2 := hide ((hg2.block g (by simp; omega)).trans ((Below.heap_alloc wr _ g hgl').trans HGR.out))
          have HB2 := hide (grownBy_trans HGB.out (grownBy_trans (World.grownBy_alloc _ _ _) (grownBy_below (row := some g) hg2)))
          obtain ⟨x0, x1, x2, x3, x4⟩ := box_item (x := y) ((hg2.block wr.heap.size (by simp)).trans (heap_alloc_new wr _))
          clear hg2
        · obtain ⟨z0, z1, z2, z3, z4⟩ := row_item5 HG2.out (k := i) (by omega)
          have hfz := row_free HG2.out
          have hne : ¬ (wr.heap.size = g) := by omega
          have hne2 : ¬ (g = wr.heap.size) := by omega
          have hic : (i : Int) < (L.length : Int) := by omega
          have hil : i < M.length := by omega
          go_wp2_with fail
          go_roundw
          case rel => exact ⟨i + 1, j + 1, M.set i y, by go_num, by go_num, by omega, H2.out hp, put5_row HG2.out hil, grownBy_trans HB2.out (put5_grown _ g (i * 5) y)⟩
          case measure => simp [intOf]; omega
        · go_wp2_with fail
          go_roundw
          case rel => exact ⟨i, j + 1, M, rfl, by go_num, by omega, H1.out hp, HG2.out, HB2.out⟩
          case measure => simp [intOf]; omega
      · obtain rfl : j = L.length := by omega
        have hc1 : ¬ (cap = i) := by omega
        have hil : (i : Int) ≤ (L.length : Int) := by omega
        have hil2 : (i : Int) ≤ (cap : Int) := by omega
        obtain ⟨i0', hi0', hz0, hz1, hz2⟩ := info_parts Tryz.infoItem
        have HE := hide (swept_end (R := R) hsw (zero_cells _))
        have HZ1 := hide (show i * 5 + (L.length - i) * (Value.agg #[.int .i64 0, .int .i64 0, .int .u64 0, .int .u64 0, .int .i64 0]).cells.size ≤ (flat M ++ R).length by
          rw [List.length_append, flat_length]; show i * 5 + (L.length - i) * 5 ≤ _; omega)
        go_wp2_with (refine wpList_clear_rowN _ rfl (.tmp 38) 37 rfl 78 i0' _ Tryz.underlying37 hi0' hz0 g (i * 5) (L.length - i) (cap - i) rfl (by omega) _ 78 HGR.out HZ1.out (zero_one _) ?_; intro w2 hg2 hw2)
        have hg3 := hg2.out
        rw [HE.out.1] at hg3
        have HG3 := hide hg3
        clear hg2 hg3
        go_wp2_with fail
        go_ret
        refine ⟨_, rfl, .inr ⟨g, cap, _, by rw [HE.out.2]; rfl, hb, HG3.out, by rw [HE.out.2]; omega, hcm, ?_⟩, ⟨grownBy_trans HGB.out hw2, .inl rfl⟩⟩
        rw [HE.out.2, List.length_append, zero_cells]; omega
theorem del_any (F : FuncId) (caps : Array Value) (hcf : Enters Tryz.prog F) (p : It → Bool) (base : Nat) (v : Value) (L : List It) (w : World) (h : Og base w v L) (hF : TellsG F caps p L v.ownBlock w) :
    Calls Tryz.prog 81 #[v, .func (.func F) #[] caps] w (RetOg base (keepL p L) v w) := by
  rcases h with ⟨rfl, rfl⟩ | ⟨g, cap, R, rfl, hb, hg, hnc, hcm, hfit⟩
  · have HI := hide (index_any F caps hcf p none 0 [] w (by simp) RowAt.nil_ (fun x hx => by simp at hx))
    clear hF hcf
    go_enter Tryz.func81, Tryz.ntmps81
    go_wp2_with fail
    refine (Calls.mono HI.out ?_); rintro e w1 ⟨rfl, hg1⟩
    rw [show findI p [] = -1 from rfl]
    go_wp2_with fail
    go_ret
    exact ⟨_, rfl, .inl ⟨rfl, rfl⟩, ⟨grownBy_below hg1, .inl rfl⟩⟩
  · exact del_row F caps hcf p g cap base R L w hb hg hnc hcm hfit hF
end Go.Proofs.YtlabpgdimhbocaaGreat
