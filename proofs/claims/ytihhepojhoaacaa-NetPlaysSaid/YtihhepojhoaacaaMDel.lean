/- slices.Delete of one message out of a row of one's own: a contract. Conditions: typed. -/
import Derived.Test.YtihhepojhoaacaaMsg3
import Derived.Test.YtihhepojhoaacaaSsE
import Derived.Test.YtihhepojhoaacaaDel
import Derived.Test.YtihhepojhoaacaaJ
import Derived.Deep.RegionLaw
namespace Go.Proofs.Ytihhepojhoaacaa
set_option linter.unusedVariables false
set_option linter.unusedSimpArgs false
open Go.ChangeShapes Go.WideShapes Go.ChangeAt Go.RowKit

def fl (M : List Mg) : List Value := M.flatMap Mg.cells
theorem fl_length (M : List Mg) : (fl M).length = M.length * 6 := flat_len Mg.cells_len M
theorem fl_one (M : List Mg) : ∀ u ∈ fl M, u.oneCell' = true := by
  intro u hu
  obtain ⟨a, _, ha⟩ := List.mem_flatMap.1 hu
  exact Mg.cells_one a u ha
theorem fl_app (L M : List Mg) : fl (L ++ M) = fl L ++ fl M := List.flatMap_append
theorem fl_split (M : List Mg) (i : Nat) : fl M = fl (M.take i) ++ fl (M.drop i) := by rw [← fl_app, List.take_append_drop]
theorem heap_cells {g : Nat} {t : TypeId} : ∀ (news : List Value) (off : Nat) (cur : List Value) (w : World), w.heap[g]? = some (.cells cur.toArray t (0, 0)) → off + news.length ≤ cur.length →
    (w.setCells g off news).heap[g]? = some (.cells (cur.take off ++ news ++ cur.drop (off + news.length)).toArray t (0, 0))
  | [], off, cur, w, h, _ => by simpa [World.setCells] using h
  | v :: r, off, cur, w, h, hl => by
    simp only [List.length_cons] at hl
    have h1 := heap_cells r (off + 1) (cur.set off v) (w.setCell ⟨g, off, none⟩ v) (heap_setE h) (by rw [List.length_set]; omega)
    rw [World.setCells, h1]
    congr 3
    have e1 : (cur.set off v).take (off + 1) = cur.take off ++ [v] := by
      rw [List.take_succ_eq_append_getElem (by rw [List.length_set]; omega), List.take_set_of_le (Nat.le_refl _), List.getElem_set_self]
    rw [e1, List.drop_set_of_lt (by omega)]
    simp only [List.length_cons, List.append_assoc, List.singleton_append]
    congr 3
    omega
theorem setCells_sizeM (b : Nat) : ∀ (vs : List Value) (o : Nat) (w : World), (w.setCells b o vs).heap.size = w.heap.size
  | [], _, _ => rfl
  | v :: r, o, w => by rw [World.setCells, setCells_sizeM b r]; simp
theorem setCells_grownM (w : World) (b : Nat) (vs : List Value) (o : Nat) : w.grownBy (w.setCells b o vs) (some b) := by
  induction vs generalizing o w with
  | nil => exact World.grownBy.refl w _
  | cons v r ih =>
    have h2 := ih (w.setCell ⟨b, o, none⟩ v) (o + 1)
    rw [World.setCells]
    refine ⟨h2.os, h2.tape, h2.output, Nat.le_trans (by simp) h2.size, fun k hk hne => ?_⟩
    exact (h2.block k (by simpa using hk) hne).trans (Below.heap_setCell w ⟨b, o, none⟩ v k (fun e => hne (by rw [e])))
theorem _root_.Go.World.grownBy.trans_ {a b c : World} {row : Option Nat} (h : a.grownBy b row) (k : b.grownBy c row) : a.grownBy c row :=
  ⟨k.os.trans h.os, k.tape.trans h.tape, k.output.trans h.output, Nat.le_trans h.size k.size, fun i hi hne => (k.block i (Nat.lt_of_lt_of_le hi h.size) hne).trans (h.block i hi hne)⟩
abbrev zM : Value := .agg #[.int .i64 0, .int .i64 0, .int .i64 0, .int .u64 0, .int .u64 0, .slice none 0 0]
theorem zeroM_one : ∀ v ∈ (Builtin.zeroCells zM.cells 1).toList, v.oneCell' = true := by
  intro v hv
  simp only [Builtin.zeroCells, Array.toList_flatten, Array.toList_replicate, Array.toList_map, List.mem_flatten, List.mem_map] at hv
  obtain ⟨a, _, rfl⟩ := hv
  have h : a % 6 < 6 := Nat.mod_lt _ (by omega)
  show ((#[.int .i64 0, .int .i64 0, .int .i64 0, .int .u64 0, .int .u64 0, .slice none 0 0] : Array Value)[a % 6]!).oneCell' = true
  generalize a % 6 = k at h ⊢
  match k, h with
  | 0, _ => rfl
  | 1, _ => rfl
  | 2, _ => rfl
  | 3, _ => rfl
  | 4, _ => rfl
  | 5, _ => rfl
theorem zeroM_len : (Builtin.zeroCells zM.cells 1).toList.length = 6 := by
  rw [Array.length_toList, size_zeroCells]; rfl
set_option maxRecDepth 100000 in
set_option maxHeartbeats 1600000 in
theorem delm_any {base : Nat} {v : Value} {M : List Mg} {w : World} (h : OwnL Mg.cells 6 28 base w v M) (i : Nat) (hi : i < M.length) :
    Calls Try.prog 26 #[v, .int .i64 i, .int .i64 ((i : Int) + 1)] w fun e w' => ∃ v', e = .returned v' ∧ OwnL Mg.cells 6 28 base w' v' (M.eraseIdx i) ∧ w.grownBy w' v.ownBlock ∧ v'.ownBlock = v.ownBlock := by
  obtain ⟨hlen, hh⟩ := h
  rcases hh with ⟨_, h0⟩ | ⟨g, cap, cur, rfl, hb, hg, hnc, hcm, hcs, htk⟩
  · omega
  obtain ⟨i0, hi0, hz0, hz1, hz2⟩ := info_parts Try.infoMsg
  obtain ⟨l, rfl⟩ : ∃ l : List Value, cur = l.toArray := ⟨cur.toList, by simp⟩
  have hl : l.length = cap * 6 := by simpa using hcs
  rw [List.toList_toArray] at htk
  have hgl : g < w.heap.size := (Array.getElem?_eq_some_iff.1 hg).1
  have hgd : w.drew.heap[g]? = some (.cells l.toArray 28 (0, 0)) := hg
  have hdl : (fl (M.drop (i + 1))).length = (M.length - (i + 1)) * 6 := by rw [fl_length, List.length_drop]
  have hcell : ∀ (j : Nat) (u : Value), (fl (M.drop (i + 1)))[j]? = some u → w.drew.cell? ⟨g, (i + 1) * 6 + j, none⟩ = some u := fun j u hu => by
    rw [cell_of_row w.drew g _ _ _ _ hgd, List.getElem?_toArray]
    have h1 : j < (M.length - (i + 1)) * 6 := by rw [← hdl]; exact (List.getElem?_eq_some_iff.1 hu).1
    have h2 : (l.take (M.length * 6))[(i + 1) * 6 + j]? = some u := by
      rw [htk]
      show (fl M)[(i + 1) * 6 + j]? = some u
      have h3 : (fl (M.take (i + 1))).length = (i + 1) * 6 := by rw [fl_length, List.length_take]; congr 1; omega
      rw [fl_split M (i + 1), List.getElem?_append_right (by omega), h3, Nat.add_sub_cancel_left]
      exact hu
    rw [List.getElem?_take] at h2
    split at h2
    · exact h2
    · cases h2
  have hsp : ∀ j, j < (fl (M.drop (i + 1))).length → (w.drew.cell? ⟨g, 0 + i * 6 + j, none⟩).isSome = true ∧ w.drew.frozen? ⟨g, 0 + i * 6 + j, none⟩ = false := fun j hj => by
    constructor
    · rw [cell_of_row w.drew g _ _ _ _ hgd, List.getElem?_toArray, List.getElem?_eq_getElem (by rw [hl]; omega)]
      rfl
    · simp [World.frozen?, hgd]
  obtain ⟨n, hn⟩ : ∃ n, M.length = n := ⟨_, rfl⟩
  rw [hn] at hdl hnc hi htk
  have hlE : (M.eraseIdx i).length = n - 1 := by rw [List.length_eraseIdx_of_lt (by omega), hn]
  have hpre : l.take (i * 6) = fl (M.take i) := by
    have h1 : l.take (i * 6) = (l.take (n * 6)).take (i * 6) := by rw [List.take_take]; congr 1; omega
    rw [h1, htk]
    show (fl M).take (i * 6) = _
    have h3 : (fl (M.take i)).length = i * 6 := by rw [fl_length, List.length_take]; congr 1; omega
    rw [fl_split M i, ← h3, List.take_left]
  have hEL : fl (M.eraseIdx i) = fl (M.take i) ++ fl (M.drop (i + 1)) := by rw [List.eraseIdx_eq_take_drop_succ, fl_app]
  have hELl : (fl (M.eraseIdx i)).length = (n - 1) * 6 := by rw [fl_length, hlE]
  have hftl : (l.take (i * 6) ++ fl (M.drop (i + 1)) ++ l.drop (i * 6 + (fl (M.drop (i + 1))).length)).length = cap * 6 := by
    simp only [List.length_append, List.length_take, List.length_drop, hl, hdl]; omega
  have hfin : (l.take (i * 6) ++ fl (M.drop (i + 1)) ++ l.drop (i * 6 + (fl (M.drop (i + 1))).length)).take ((n - 1) * 6) ++ (Builtin.zeroCells zM.cells 1).toList ++ (l.take (i * 6) ++ fl (M.drop (i + 1)) ++ l.drop (i * 6 + (fl (M.drop (i + 1))).length)).drop ((n - 1) * 6 + (Builtin.zeroCells zM.cells 1).toList.length) = fl (M.eraseIdx i) ++ ((Builtin.zeroCells zM.cells 1).toList ++ l.drop (n * 6)) := by
    rw [zeroM_len, hpre, ← hEL]
    rw [← hELl, List.take_left, List.append_assoc]
    congr 2
    rw [List.drop_append, List.drop_eq_nil_of_le (by omega), List.nil_append, List.drop_drop, hdl]
    congr 1
    omega
  have hsz : (fl (M.eraseIdx i) ++ ((Builtin.zeroCells zM.cells 1).toList ++ l.drop (n * 6))).toArray.size = cap * 6 := by
    simp only [List.size_toArray, List.length_append, List.length_drop, hELl, zeroM_len, hl]; omega
  have htk2 : (fl (M.eraseIdx i) ++ ((Builtin.zeroCells zM.cells 1).toList ++ l.drop (n * 6))).toArray.toList.take ((M.eraseIdx i).length * 6) = (M.eraseIdx i).flatMap Mg.cells := by
    rw [List.toList_toArray, hlE, ← hELl, List.take_left]
    rfl
  have HG := hide hgd
  have HB := hide hb
  have HN : Hid ((fl (M.drop (i + 1))).length = (n - (i + 1)) * 6) := hide hdl
  have HSP := hide hsp
  have HF : Hid (i * 6 + (fl (M.drop (i + 1))).length ≤ l.length) := hide (by rw [hdl, hl]; omega)
  have HFT : Hid ((n - 1) * 6 + 1 * zM.cells.size ≤ (l.take (i * 6) ++ fl (M.drop (i + 1)) ++ l.drop (i * 6 + (fl (M.drop (i + 1))).length)).length) := hide (by rw [hftl]; show (n - 1) * 6 + 1 * 6 ≤ _; omega)
  have HFIN := hide hfin
  have HSZ := hide hsz
  have HTK := hide htk2
  have HLE := hide hlE
  have hroom : i + (n - (i + 1)) ≤ cap := by omega
  unfold maxLen at hcm
  have hneq : ((i : Int) == (i : Int) + 1) = false := beq_eq_false_iff_ne.2 (by omega)
  have hle1 : (i : Int) ≤ (cap : Int) := by omega
  have hle2 : (i : Int) + 1 ≤ (n : Int) := by omega
  have hle0 : (0 : Int) ≤ (i : Int) + 1 := by omega
  have hle4 : (i : Int) ≤ (i : Int) + 1 := by omega
  have hle3 : (n : Int) ≤ (cap : Int) := by omega
  have hcn : ¬ cap = n - 1 := by omega
  have hn1 : ((n - 1 : Nat) : Int) ≤ (n : Int) := by omega
  have hn2 : n - (n - 1) = 1 := by omega
  show Calls Try.prog 26 #[.slice (some ⟨g, 0, none⟩) M.length cap, .int .i64 i, .int .i64 ((i : Int) + 1)] w _
  rw [hn]
  clear hlen hg hcs htk hgl hgd hdl hsp hlE hpre hEL hELl hftl hfin hsz htk2 hb hl hz2
  have hle2N : i + 1 ≤ n := by omega
  obtain ⟨D, hD⟩ : ∃ D, M.drop (i + 1) = D := ⟨_, rfl⟩
  rw [hD] at HN HSP HF HFT HFIN hcell
  clear hD
  by_cases hce : cap = i + 1
  · have HC : Hid (∀ (j : Nat) (u : Value), (fl (D))[j]? = some u → w.drew.cell? ((⟨g, 0, none⟩ : Addr).add j) = some u) := hide (fun j u hu => by
      have h1 := (List.getElem?_eq_some_iff.1 hu).1
      rw [HN.out] at h1
      omega)
    have HN : Hid ((fl (D)).length = 0 * 6) := hide (by rw [HN.out]; omega)
    have hroom : i + 0 ≤ cap := by omega
    obtain rfl : n = cap := by omega
    have hce2 : i + 1 = n := hce.symm
    clear hcell hce
    go_enter Try.func26, Try.ntmps26
    go_upto_region 5 with fail
    refine j_start [6, 7] (by kernel_rfl) ?_
    refine' j_take (i := 0) (v := _) [2, 6, 7] ?hi0b (by kernel_rfl) (by kernel_rfl) (by kernel_rfl) (by kernel_rfl) (by kernel_rfl) (Or.inl ⟨?hw0b, ?hy0b⟩) ?rest0b
    case hi0b => (simp only [List.getElem?_toArray, List.getElem?_cons_succ, List.getElem?_cons_zero]; rfl)
    case hw0b => rfl
    case hy0b => (intro w' hw'; go_simp; try with_reducible rfl)
    try simp only [Act.put, List.setIfInBounds_toArray, List.set_cons_zero, List.set_cons_succ]
    refine' j_take (i := 1) (v := _) [2, 6, 7] ?hi1b (by kernel_rfl) (by kernel_rfl) (by kernel_rfl) (by kernel_rfl) (by kernel_rfl) (Or.inl ⟨?hw1b, ?hy1b⟩) ?rest1b
    case hi1b => (simp only [List.getElem?_toArray, List.getElem?_cons_succ, List.getElem?_cons_zero]; rfl)
    case hw1b => rfl
    case hy1b => (intro w' hw'; go_simp; try with_reducible rfl)
    try simp only [Act.put, List.setIfInBounds_toArray, List.set_cons_zero, List.set_cons_succ]
    refine' j_take (i := 2) (v := _) [6, 7] ?hi2b (by kernel_rfl) (by kernel_rfl) (by kernel_rfl) (by kernel_rfl) (by kernel_rfl) (Or.inl ⟨?hw2b, ?hy2b⟩) ?rest2b
    case hi2b => (simp only [List.getElem?_toArray, List.getElem?_cons_succ, List.getElem?_cons_zero]; rfl)
    case hw2b => rfl
    case hy2b => (intro w' hw'; go_simp; try with_reducible rfl)
    try simp only [Act.put, List.setIfInBounds_toArray, List.set_cons_zero, List.set_cons_succ]
    refine' j_take (i := 3) (v := _) [5, 6, 7] ?hi3b (by kernel_rfl) (by kernel_rfl) (by kernel_rfl) (by kernel_rfl) (by kernel_rfl) (Or.inl ⟨?hw3b, ?hy3b⟩) ?rest3b
    case hi3b => (simp only [List.getElem?_toArray, List.getElem?_cons_succ, List.getElem?_cons_zero]; rfl)
    case hw3b => rfl
    case hy3b => (intro w' hw'; go_simp; try with_reducible rfl)
    try simp only [Act.put, List.setIfInBounds_toArray, List.set_cons_zero, List.set_cons_succ]
    refine' j_take (i := 4) (v := _) [5, 6, 7] ?hi4b (by kernel_rfl) (by kernel_rfl) (by kernel_rfl) (by kernel_rfl) (by kernel_rfl) (Or.inl ⟨?hw4b, ?hy4b⟩) ?rest4b
    case hi4b => (simp only [List.getElem?_toArray, List.getElem?_cons_succ, List.getElem?_cons_zero]; rfl)
    case hw4b => rfl
    case hy4b => (intro w' hw'; go_simp; try with_reducible rfl)
    try simp only [Act.put, List.setIfInBounds_toArray, List.set_cons_zero, List.set_cons_succ]
    refine' j_take (i := 5) (v := _) [6, 7] ?hi5b (by kernel_rfl) (by kernel_rfl) (by kernel_rfl) (by kernel_rfl) (by kernel_rfl) (Or.inl ⟨?hw5b, ?hy5b⟩) ?rest5b
    case hi5b => (simp only [List.getElem?_toArray, List.getElem?_cons_succ, List.getElem?_cons_zero]; rfl)
    case hw5b => rfl
    case hy5b => (intro w' hw'; go_simp; try with_reducible rfl)
    try simp only [Act.put, List.setIfInBounds_toArray, List.set_cons_zero, List.set_cons_succ]
    refine' wpAnyJ_last (i := 6) (o := _) (by kernel_rfl) ?ho6b (by kernel_rfl) (fun K hK => ?step6b)
    case ho6b => (simp only [List.getElem?_toArray, List.getElem?_cons_succ, List.getElem?_cons_zero]; rfl)
    refine step_append_room rfl (.tmp 22) (.tmp 25) 41 rfl 28 i0 6 Try.underlying41 hi0 hz1 g 0 i n rfl ⟨g, 0, none⟩ 0 0 (fl D) rfl HN.out HC.out (fl_one _) hroom HSP.out ?_
    rw [show 0 + i * 6 = i * 6 by omega]
    refine hK.out _ _ ?_
    clear hK K
    try simp only [Act.put, List.setIfInBounds_toArray, List.set_cons_zero, List.set_cons_succ]
    refine' wpAnyJ_last (i := 7) (o := _) (by kernel_rfl) ?ho7b (by kernel_rfl) (fun K hK => ?step7b)
    case ho7b => (simp only [List.getElem?_toArray, List.getElem?_cons_succ, List.getElem?_cons_zero]; rfl)
    go_simp
    refine hK.out _ _ ?_
    clear hK K
    try simp only [Act.put, List.setIfInBounds_toArray, List.set_cons_zero, List.set_cons_succ]
    refine wpAnyJ_done (by kernel_rfl) ?_ _
    refine NoPanic.normal ?_
    have hw1 : ((w.drew.setCells g (i * 6) (fl D)).heap[g]? = some (.cells (l.take (i * 6) ++ fl D ++ l.drop (i * 6 + (fl D).length)).toArray 28 (0, 0))) := heap_cells _ _ _ _ HG.out HF.out
    have hgr := setCells_grownM w.drew g (fl D) (i * 6)
    obtain ⟨w1, hw1e⟩ : ∃ w1, w.drew.setCells g (i * 6) (fl D) = w1 := ⟨_, rfl⟩
    rw [hw1e] at hw1 hgr
    have HW1 := hide hw1
    have HGR := hide hgr
    have hin : n - 1 = i := by omega
    rw [hin] at HFT HFIN
    have hni : n - i = 1 := by omega
    have HFT : Hid (i * 6 + (n - i) * zM.cells.size ≤ (l.take (i * 6) ++ fl D ++ l.drop (i * 6 + (fl D).length)).length) := hide (by rw [hni]; exact HFT.out)
    have HZ1 : Hid (∀ v ∈ (Builtin.zeroCells zM.cells (n - i)).toList, v.oneCell' = true) := hide (by rw [hni]; exact zeroM_one)
    have HNI := hide hni
    clear hni
    try rw [hw1e]
    clear hw1 hgr hw1e
    go_wp2_with (refine wpList_clear_rowN _ rfl (.tmp 31) 41 rfl 28 i0 _ Try.underlying41 hi0 hz0 g (i * 6) (n - i) (n - i) rfl (by omega) _ 28 HW1.out HFT.out HZ1.out ?_; intro w2 hg2 hw2)
    go_ret
    have hg3 := hg2.out
    rw [HNI.out, HFIN.out] at hg3
    refine ⟨.slice (some ⟨g, 0, none⟩) i n, rfl, ?_, ?_, rfl⟩
    · exact ⟨fl_length _, .inr ⟨g, n, _, by rw [HLE.out, hin], HB.out, hg3, by rw [HLE.out]; omega, by unfold maxLen; omega, HSZ.out, HTK.out⟩⟩
    · exact (show w.grownBy w1 (some g) from ⟨HGR.out.os, HGR.out.tape, HGR.out.output, HGR.out.size, HGR.out.block⟩).trans_ hw2
  · have HC : Hid (∀ (j : Nat) (u : Value), (fl (D))[j]? = some u → w.drew.cell? ((⟨g, (i + 1) * 6, none⟩ : Addr).add j) = some u) := hide (fun j u hu => by
      have h1 := hcell j u hu
      unfold Addr.add
      by_cases hj : j = 0
      · simpa [hj] using h1
      · simpa [hj] using h1)
    clear hcell
    go_enter Try.func26, Try.ntmps26
    go_upto_region 5 with fail
    refine j_start [6, 7] (by kernel_rfl) ?_
    refine' j_take (i := 0) (v := _) [2, 6, 7] ?hi0a (by kernel_rfl) (by kernel_rfl) (by kernel_rfl) (by kernel_rfl) (by kernel_rfl) (Or.inl ⟨?hw0a, ?hy0a⟩) ?rest0a
    case hi0a => (simp only [List.getElem?_toArray, List.getElem?_cons_succ, List.getElem?_cons_zero]; rfl)
    case hw0a => rfl
    case hy0a => (intro w' hw'; go_simp; try with_reducible rfl)
    try simp only [Act.put, List.setIfInBounds_toArray, List.set_cons_zero, List.set_cons_succ]
    refine' j_take (i := 1) (v := _) [2, 6, 7] ?hi1a (by kernel_rfl) (by kernel_rfl) (by kernel_rfl) (by kernel_rfl) (by kernel_rfl) (Or.inl ⟨?hw1a, ?hy1a⟩) ?rest1a
    case hi1a => (simp only [List.getElem?_toArray, List.getElem?_cons_succ, List.getElem?_cons_zero]; rfl)
    case hw1a => rfl
    case hy1a => (intro w' hw'; go_simp; try with_reducible rfl)
    try simp only [Act.put, List.setIfInBounds_toArray, List.set_cons_zero, List.set_cons_succ]
    refine' j_take (i := 2) (v := _) [6, 7] ?hi2a (by kernel_rfl) (by kernel_rfl) (by kernel_rfl) (by kernel_rfl) (by kernel_rfl) (Or.inl ⟨?hw2a, ?hy2a⟩) ?rest2a
    case hi2a => (simp only [List.getElem?_toArray, List.getElem?_cons_succ, List.getElem?_cons_zero]; rfl)
    case hw2a => rfl
    case hy2a => (intro w' hw'; go_simp; try with_reducible rfl)
    try simp only [Act.put, List.setIfInBounds_toArray, List.set_cons_zero, List.set_cons_succ]
    refine' j_take (i := 3) (v := _) [5, 6, 7] ?hi3a (by kernel_rfl) (by kernel_rfl) (by kernel_rfl) (by kernel_rfl) (by kernel_rfl) (Or.inl ⟨?hw3a, ?hy3a⟩) ?rest3a
    case hi3a => (simp only [List.getElem?_toArray, List.getElem?_cons_succ, List.getElem?_cons_zero]; rfl)
    case hw3a => rfl
    case hy3a => (intro w' hw'; go_simp; try with_reducible rfl)
    try simp only [Act.put, List.setIfInBounds_toArray, List.set_cons_zero, List.set_cons_succ]
    refine' j_take (i := 4) (v := _) [5, 6, 7] ?hi4a (by kernel_rfl) (by kernel_rfl) (by kernel_rfl) (by kernel_rfl) (by kernel_rfl) (Or.inl ⟨?hw4a, ?hy4a⟩) ?rest4a
    case hi4a => (simp only [List.getElem?_toArray, List.getElem?_cons_succ, List.getElem?_cons_zero]; rfl)
    case hw4a => rfl
    case hy4a => (intro w' hw'; go_simp; try with_reducible rfl)
    try simp only [Act.put, List.setIfInBounds_toArray, List.set_cons_zero, List.set_cons_succ]
    refine' j_take (i := 5) (v := _) [6, 7] ?hi5a (by kernel_rfl) (by kernel_rfl) (by kernel_rfl) (by kernel_rfl) (by kernel_rfl) (Or.inl ⟨?hw5a, ?hy5a⟩) ?rest5a
    case hi5a => (simp only [List.getElem?_toArray, List.getElem?_cons_succ, List.getElem?_cons_zero]; rfl)
    case hw5a => rfl
    case hy5a => (intro w' hw'; go_simp; try with_reducible rfl)
    try simp only [Act.put, List.setIfInBounds_toArray, List.set_cons_zero, List.set_cons_succ]
    refine' wpAnyJ_last (i := 6) (o := _) (by kernel_rfl) ?ho6a (by kernel_rfl) (fun K hK => ?step6a)
    case ho6a => (simp only [List.getElem?_toArray, List.getElem?_cons_succ, List.getElem?_cons_zero]; rfl)
    refine step_append_room rfl (.tmp 22) (.tmp 25) 41 rfl 28 i0 6 Try.underlying41 hi0 hz1 g 0 i cap rfl ⟨g, (i + 1) * 6, none⟩ (n - (i + 1)) (cap - (i + 1)) (fl D) rfl HN.out HC.out (fl_one _) hroom HSP.out ?_
    rw [show 0 + i * 6 = i * 6 by omega]
    refine hK.out _ _ ?_
    clear hK K
    try simp only [Act.put, List.setIfInBounds_toArray, List.set_cons_zero, List.set_cons_succ]
    refine' wpAnyJ_last (i := 7) (o := _) (by kernel_rfl) ?ho7a (by kernel_rfl) (fun K hK => ?step7a)
    case ho7a => (simp only [List.getElem?_toArray, List.getElem?_cons_succ, List.getElem?_cons_zero]; rfl)
    go_simp
    refine hK.out _ _ ?_
    clear hK K
    try simp only [Act.put, List.setIfInBounds_toArray, List.set_cons_zero, List.set_cons_succ]
    refine wpAnyJ_done (by kernel_rfl) ?_ _
    refine NoPanic.normal ?_
    have hw1 : ((w.drew.setCells g (i * 6) (fl D)).heap[g]? = some (.cells (l.take (i * 6) ++ fl D ++ l.drop (i * 6 + (fl D).length)).toArray 28 (0, 0))) := heap_cells _ _ _ _ HG.out HF.out
    have hgr := setCells_grownM w.drew g (fl D) (i * 6)
    obtain ⟨w1, hw1e⟩ : ∃ w1, w.drew.setCells g (i * 6) (fl D) = w1 := ⟨_, rfl⟩
    rw [hw1e] at hw1 hgr
    have HW1 := hide hw1
    have HGR := hide hgr
    rw [show i + (n - (i + 1)) = n - 1 by omega]
    try rw [hw1e]
    clear hw1 hgr hw1e
    go_wp2_with (refine wpList_clear_rowN _ rfl (.tmp 31) 41 rfl 28 i0 _ Try.underlying41 hi0 hz0 g ((n - 1) * 6) 1 (cap - (n - 1)) rfl (by omega) _ 28 HW1.out HFT.out zeroM_one ?_; intro w2 hg2 hw2)
    go_ret
    have hg3 := hg2.out
    rw [HFIN.out] at hg3
    refine ⟨.slice (some ⟨g, 0, none⟩) (n - 1) cap, rfl, ?_, ?_, rfl⟩
    · exact ⟨fl_length _, .inr ⟨g, cap, _, by rw [HLE.out], HB.out, hg3, by rw [HLE.out]; omega, by unfold maxLen; omega, HSZ.out, HTK.out⟩⟩
    · exact (show w.grownBy w1 (some g) from ⟨HGR.out.os, HGR.out.tape, HGR.out.output, HGR.out.size, HGR.out.block⟩).trans_ hw2
end Go.Proofs.Ytihhepojhoaacaa
