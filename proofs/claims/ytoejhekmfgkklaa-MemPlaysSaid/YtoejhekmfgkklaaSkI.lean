/- A node put into a list of nodes, level by level: plain words, and how it lies in memory meanwhile. Conditions: typed at each. -/
import Derived.Test.YtoejhekmfgkklaaSkR
namespace Go.Proofs.Ytoejhekmfgkklaa
set_option linter.unusedVariables false
set_option linter.unusedSimpArgs false
open Go.ChangeShapes Go.WideShapes Go.ChangeAt Go.RowKit

/-- A list that is one: its items rise, its towers are 1 to 6 high. -/
structure SkOk (F : List Nd) : Prop where
  up : Rising (itsF F)
  hts : ∀ n ∈ F, 1 ≤ n.h ∧ n.h ≤ 6
theorem prv_zero {F : List Nd} (hF : SkOk F) {q : Nat} (hq : q < F.length) : IsPrv F 0 q q := ⟨Nat.le_refl _, ⟨hq, (hF.hts _ (List.getElem_mem hq)).1⟩, fun j _ h1 h2 => by omega⟩
theorem nx_zero {F : List Nd} (hF : SkOk F) (i : Nat) : nxtP 0 (F.drop (i + 1)) = F[i + 1]?.map (·.b) := by
  unfold nxtP
  congr 1
  by_cases h : i + 1 < F.length
  · rw [List.drop_eq_getElem_cons h, List.find?_cons_of_pos, List.getElem?_eq_getElem h]
    have := (hF.hts _ (List.getElem_mem h)).1
    simp
    omega
  · rw [List.drop_eq_nil_of_le (by omega), List.getElem?_eq_none (by omega)]
    rfl
/-- The list with a node behind place q. -/
def insF (F : List Nd) (q : Nat) (n : Nd) : List Nd := F.take (q + 1) ++ n :: F.drop (q + 1)
theorem nxtP_append (k : Nat) (A B : List Nd) : nxtP k (A ++ B) = (nxtP k A).or (nxtP k B) := by
  unfold nxtP
  rw [List.find?_append, Option.map_or]
def segF (F : List Nd) (q j : Nat) : List Nd := (F.drop (j + 1)).take (q - j)
theorem drop_seg (F : List Nd) {q j : Nat} (h : j ≤ q) : F.drop (j + 1) = segF F q j ++ F.drop (q + 1) := by
  unfold segF
  have := (List.take_append_drop (q - j) (F.drop (j + 1))).symm
  rw [List.drop_drop, show j + 1 + (q - j) = q + 1 by omega] at this
  exact this
theorem ins_seg {F : List Nd} {q j : Nat} (n : Nd) (h : j ≤ q) (hq : q < F.length) : (insF F q n).drop (j + 1) = segF F q j ++ n :: F.drop (q + 1) := by
  unfold insF segF
  rw [List.drop_append_of_le_length (by simp; omega), List.drop_take, show q + 1 - (j + 1) = q - j by omega]
theorem ins_len {F : List Nd} {q : Nat} (n : Nd) : (insF F q n).length = F.length + 1 := by unfold insF; simp; omega
theorem seg_mem {F : List Nd} {q j : Nat} (hq : q < F.length) {n : Nd} : n ∈ segF F q j ↔ ∃ (i : Nat) (hi : i < F.length), j < i ∧ i ≤ q ∧ F[i] = n := by
  unfold segF
  rw [List.mem_iff_getElem]
  constructor
  · rintro ⟨m, hm, e⟩
    have hm2 : m < q - j ∧ m < F.length - (j + 1) := by simp at hm; omega
    refine ⟨j + 1 + m, by omega, by omega, by omega, ?_⟩
    rw [← e]
    simp
  · rintro ⟨i, hi, h1, h2, e⟩
    refine ⟨i - (j + 1), by simp; omega, ?_⟩
    rw [← e]
    simp
    congr 1
    omega
theorem seg_none {F : List Nd} {k q i : Nat} (hq : q < F.length) (h : IsPrv F k q i) : nxtP k (segF F q i) = none := by
  unfold nxtP
  rw [Option.map_eq_none_iff, List.find?_eq_none]
  intro n hn
  obtain ⟨j, hj, h1, h2, rfl⟩ := (seg_mem hq).1 hn
  have := h.2.2 j hj h1 h2
  simpa using this
theorem seg_some {F : List Nd} {k q i j : Nat} (hq : q < F.length) (hi : i < F.length) (hji : j < i) (hiq : i ≤ q) (hk : k < F[i].h) : ∃ b, nxtP k (segF F q j) = some b := by
  unfold nxtP
  cases h : (segF F q j).find? fun n => decide (k < n.h) with
  | some n => exact ⟨n.b, rfl⟩
  | none =>
    rw [List.find?_eq_none] at h
    have := h _ ((seg_mem hq).2 ⟨i, hi, hji, hiq, rfl⟩)
    simp at this
    omega
/-- The cell that is linked anew. -/
theorem nx_link {F : List Nd} {k q i : Nat} {n : Nd} (hq : q < F.length) (h : IsPrv F k q i) (hk : k < n.h) : nxtP k ((insF F q n).drop (i + 1)) = some n.b := by
  rw [ins_seg n h.1 hq, nxtP_append, seg_none hq h]
  unfold nxtP
  rw [List.find?_cons_of_pos (by simpa using hk)]
  rfl
/-- What it held is what stands behind the new node. -/
theorem nx_old {F : List Nd} {k q i : Nat} (hq : q < F.length) (h : IsPrv F k q i) : nxtP k (F.drop (i + 1)) = nxtP k (F.drop (q + 1)) := by
  rw [drop_seg F h.1, nxtP_append, seg_none hq h]
  rfl
/-- The cells ahead of it stay. -/
theorem nx_ahead {F : List Nd} {k q i j : Nat} {n : Nd} (hq : q < F.length) (h : IsPrv F k q i) (hji : j < i) : nxtP k ((insF F q n).drop (j + 1)) = nxtP k (F.drop (j + 1)) := by
  obtain ⟨hiq, ⟨hi, hk⟩, _⟩ := h
  obtain ⟨b, hb⟩ := seg_some hq hi hji hiq hk
  rw [ins_seg n (by omega) hq, drop_seg F (by omega : j ≤ q), nxtP_append, nxtP_append, hb]
  rfl
/-- Levels above the new node stay. -/
theorem nx_above {F : List Nd} {k q j : Nat} {n : Nd} (hq : q < F.length) (hj : j ≤ q) (hk : ¬ k < n.h) : nxtP k ((insF F q n).drop (j + 1)) = nxtP k (F.drop (j + 1)) := by
  rw [ins_seg n hj hq, drop_seg F hj, nxtP_append, nxtP_append]
  congr 1
  unfold nxtP
  rw [List.find?_cons_of_neg (by simpa using hk)]
theorem ins_lo {F : List Nd} {q i : Nat} {n : Nd} (hq : q < F.length) (hi : i ≤ q) (h : i < (insF F q n).length) : (insF F q n)[i] = F[i]'(by omega) := by
  apply Option.some.inj
  rw [← List.getElem?_eq_getElem, ← List.getElem?_eq_getElem]
  unfold insF
  rw [List.getElem?_append_left (by simp; omega), List.getElem?_take, if_pos (by omega)]
theorem ins_at {F : List Nd} {q : Nat} {n : Nd} (hq : q < F.length) (h : q + 1 < (insF F q n).length) : (insF F q n)[q + 1] = n := by
  apply Option.some.inj
  rw [← List.getElem?_eq_getElem]
  unfold insF
  rw [List.getElem?_append_right (by simp; omega), show q + 1 - (F.take (q + 1)).length = 0 by simp; omega, List.getElem?_cons_zero]
theorem ins_hi {F : List Nd} {q i : Nat} {n : Nd} (hq : q < F.length) (hi : q + 1 < i) (h : i < (insF F q n).length) : (insF F q n)[i] = F[i - 1]'(by rw [ins_len] at h; omega) := by
  have hl := ins_len (F := F) (q := q) n
  apply Option.some.inj
  rw [← List.getElem?_eq_getElem, ← List.getElem?_eq_getElem]
  unfold insF
  rw [List.getElem?_append_right (by simp; omega), show i - (F.take (q + 1)).length = (i - q - 2) + 1 by simp; omega, List.getElem?_cons_succ, List.getElem?_drop]
  congr 1
  omega
theorem ins_drop {F : List Nd} {q i : Nat} {n : Nd} (hq : q < F.length) (hi : q + 1 ≤ i) : (insF F q n).drop (i + 1) = F.drop i := by
  unfold insF
  rw [List.drop_append, List.drop_eq_nil_of_le (by simp; omega), show i + 1 - (F.take (q + 1)).length = (i - (q + 1)) + 1 by simp; omega, List.drop_succ_cons, List.drop_drop, List.nil_append]
  congr 1
  omega
theorem ins_mem {F : List Nd} {q : Nat} {n m : Nd} : m ∈ insF F q n ↔ m = n ∨ m ∈ F := by
  unfold insF
  rw [List.mem_append, List.mem_cons]
  have h : m ∈ F ↔ m ∈ F.take (q + 1) ∨ m ∈ F.drop (q + 1) := by
    conv => lhs; rw [← List.take_append_drop (q + 1) F, List.mem_append]
  rw [h]
  constructor
  · rintro (h | h | h) <;> simp [h]
  · rintro (h | h | h) <;> simp [h]

/-- Heights behind the head. -/
def htsF (F : List Nd) : List Nat := (F.drop 1).map (·.h)
theorem its_ins {F : List Nd} {q : Nat} {n : Nd} (hF : 0 < F.length) : itsF (insF F q n) = (itsF F).take q ++ n.x :: (itsF F).drop q := by
  unfold itsF insF
  cases F with
  | nil => simp at hF
  | cons a N => simp
theorem hts_ins {F : List Nd} {q : Nat} {n : Nd} (hF : 0 < F.length) : htsF (insF F q n) = (htsF F).take q ++ n.h :: (htsF F).drop q := by
  unfold htsF insF
  cases F with
  | nil => simp at hF
  | cons a N => simp

/-- Blocks of a list are apart. -/
theorem dis_parts {p : Nat} {F : List Nd} (h : (p :: F.flatMap fun n => [n.b, n.t]).Nodup) : (∀ (i j : Nat) (hi : i < F.length) (hj : j < F.length), i ≠ j → F[i].b ≠ F[j].b ∧ F[i].t ≠ F[j].t) ∧ (∀ (i j : Nat) (hi : i < F.length) (hj : j < F.length), F[i].b ≠ F[j].t) ∧ ∀ n ∈ F, p ≠ n.b ∧ p ≠ n.t := by
  rw [List.nodup_cons] at h
  obtain ⟨hp, hn⟩ := h
  unfold List.Nodup at hn
  rw [List.pairwise_flatMap] at hn
  obtain ⟨h1, h2⟩ := hn
  rw [List.pairwise_iff_getElem] at h2
  have hx : ∀ (i j : Nat) (hi : i < F.length) (hj : j < F.length), i ≠ j → F[i].b ≠ F[j].b ∧ F[i].t ≠ F[j].t ∧ F[i].b ≠ F[j].t := fun i j hi hj hne => by
    rcases Nat.lt_or_gt_of_ne hne with e | e
    · have := h2 i j hi hj e
      exact ⟨this _ (by simp) _ (by simp), this _ (by simp) _ (by simp), this _ (by simp) _ (by simp)⟩
    · have := h2 j i hj hi e
      exact ⟨(this _ (by simp) _ (by simp)).symm, (this _ (by simp) _ (by simp)).symm, (this _ (by simp) _ (by simp)).symm⟩
  refine ⟨fun i j hi hj hne => ⟨(hx i j hi hj hne).1, (hx i j hi hj hne).2.1⟩, fun i j hi hj => ?_, fun n hn => ?_⟩
  · by_cases e : i = j
    · subst e
      have := h1 _ (List.getElem_mem hi)
      simp at this
      exact this
    · exact (hx i j hi hj e).2.2
  · simp at hp
    exact hp n hn
/-- A fresh node keeps the blocks apart. -/
theorem dis_ins {p : Nat} {F : List Nd} {q : Nat} {n : Nd} (h : (p :: F.flatMap fun n => [n.b, n.t]).Nodup) {z : Nat} (hp : p < z) (hF : ∀ m ∈ F, m.b < z ∧ m.t < z) (hb : z ≤ n.b) (ht : z ≤ n.t) (hne : n.b ≠ n.t) : (p :: (insF F q n).flatMap fun n => [n.b, n.t]).Nodup := by
  have hperm : (insF F q n).Perm (n :: F) := by
    unfold insF
    refine List.perm_middle.trans ?_
    rw [List.take_append_drop]
  have hp2 : (p :: (insF F q n).flatMap fun n => [n.b, n.t]).Perm (p :: (n :: F).flatMap fun n => [n.b, n.t]) := (hperm.flatMap_right _).cons _
  rw [hp2.nodup_iff]
  rw [List.nodup_cons] at h
  rw [List.flatMap_cons, List.nodup_cons]
  refine ⟨?_, ?_⟩
  · simp only [List.mem_append, List.mem_cons, List.not_mem_nil, or_false]
    rintro ((h0 | h0) | h0)
    · omega
    · omega
    · exact h.1 h0
  · rw [List.nodup_append]
    refine ⟨by simp [hne], h.2, ?_⟩
    intro a ha c hc e
    subst e
    rw [List.mem_flatMap] at hc
    obtain ⟨m, hm, hc⟩ := hc
    have := hF m hm
    simp at ha hc
    omega

/-- A new node on its way into a list: linked up to level m. -/
structure Mix (w : World) (F : List Nd) (q : Nat) (n : Nd) (m : Nat) : Prop where
  at_ : ∀ c ∈ F, NdAt w c
  new : NdAt w n
  lev : ∀ (j : Nat) (hj : j < F.length) (k : Nat), k < F[j].h → w.cell? ⟨F[j].t, k, none⟩ = some (ptrO (if k < m ∧ j ≤ q then nxtP k ((insF F q n).drop (j + 1)) else nxtP k (F.drop (j + 1))))
  own : ∀ k, k < n.h → w.cell? ⟨n.t, k, none⟩ = some (ptrO (if k < m then nxtP k (F.drop (q + 1)) else none))
theorem Mix.zero {w : World} {F : List Nd} {q : Nat} {n : Nd} (h : Nodes w F) (hn : NdAt w n) (ho : ∀ k, k < n.h → w.cell? ⟨n.t, k, none⟩ = some (.pointer none)) : Mix w F q n 0 :=
  ⟨h.at_, hn, fun j hj k hk => by rw [if_neg (by omega)]; exact h.lev j hj k hk, fun k hk => by rw [if_neg (by omega)]; exact ho k hk⟩
theorem NdAt.set {w : World} {n : Nd} (h : NdAt w n) {g o : Nat} (hne : n.b ≠ g) (u : Value) : NdAt (w.setCell ⟨g, o, none⟩ u) n :=
  ⟨by simpa using h.lb, by simpa using h.lt, (shape_of (Below.heap_setCell _ _ _ _ (fun e => hne (by simpa using e)))).trans h.sh, set_blk hne.symm h.c0, set_blk hne.symm h.c1, set_blk hne.symm h.c2, set_blk hne.symm h.c3, set_blk hne.symm h.c4, set_blk hne.symm h.c5,
   fun o' => by rw [World.frozen?_setCell]; exact h.fb o', fun o' => by rw [World.frozen?_setCell]; exact h.ft o'⟩
theorem Mix.step {w : World} {F : List Nd} {q : Nat} {n : Nd} {m i : Nat} (h : Mix w F q n m) (hq : q < F.length) (hm : m < n.h) (hi : IsPrv F m q i) (hil : i < F.length)
    (h1 : ∀ (i j : Nat) (hi : i < F.length) (hj : j < F.length), i ≠ j → F[i].t ≠ F[j].t) (h2 : ∀ c ∈ F, ∀ d ∈ F, c.b ≠ d.t) (h3 : ∀ c ∈ F, c.b ≠ n.t ∧ c.t ≠ n.t ∧ n.b ≠ c.t) (h4 : n.b ≠ n.t) :
    Mix ((w.setCell ⟨n.t, m, none⟩ (ptrO (nxtP m (F.drop (i + 1))))).setCell ⟨(F[i]'hil).t, m, none⟩ (.pointer (some ⟨n.b, 0, none⟩))) F q n (m + 1) := by
  have hmi : (F[i]'hil) ∈ F := List.getElem_mem hil
  refine ⟨fun c hc => ((h.at_ c hc).set (h3 c hc).1 _).set (h2 c hc _ hmi) _, (h.new.set h4 _).set (h3 _ hmi).2.2 _, fun j hj k hk => ?_, fun k hk => ?_⟩
  · have hc := set_blk (u := ptrO (if k < m ∧ j ≤ q then nxtP k ((insF F q n).drop (j + 1)) else nxtP k (F.drop (j + 1)))) (v := ptrO (nxtP m (F.drop (i + 1)))) (o := m) (h3 _ (List.getElem_mem hj)).2.1.symm (h.lev j hj k hk)
    by_cases e : i = j
    · subst e
      by_cases ek : m = k
      · subst ek
        rw [if_pos ⟨by omega, hi.1⟩, nx_link hq hi hm]
        exact set_same hc
      · rw [set_off ek hc]
        congr 3
        simp only [eq_iff_iff]
        omega
    · rw [set_blk (h1 i j hil hj e) hc]
      by_cases ek : m = k
      · subst ek
        by_cases hjq : j ≤ q
        · rw [if_neg (by omega), if_pos ⟨by omega, hjq⟩]
          have hji : j < i := by
            rcases Nat.lt_or_gt_of_ne e with g | g
            · exact absurd hk (hi.2.2 j hj g hjq)
            · exact g
          rw [nx_ahead hq hi hji]
        · rw [if_neg (by omega), if_neg (by omega)]
      · congr 3
        simp only [eq_iff_iff]
        omega
  · have ho := h.own k hk
    by_cases ek : m = k
    · subst ek
      rw [if_pos (by omega), ← nx_old hq hi]
      exact set_blk (h3 _ hmi).2.1 (set_same ho)
    · rw [set_blk (h3 _ hmi).2.1 (set_off ek ho)]
      congr 3
      simp only [eq_iff_iff]
      omega
theorem Mix.done {w : World} {F : List Nd} {q : Nat} {n : Nd} (h : Mix w F q n n.h) (hq : q < F.length) : Nodes w (insF F q n) := by
  refine ⟨fun c hc => ?_, fun i hi k hk => ?_⟩
  · rcases ins_mem.1 hc with rfl | hc
    · exact h.new
    · exact h.at_ c hc
  · have hil := hi
    rw [ins_len] at hil
    rcases Nat.lt_trichotomy i (q + 1) with e | e | e
    · have eg := ins_lo (n := n) hq (by omega : i ≤ q) hi
      rw [eg] at hk ⊢
      have := h.lev i (by omega) k hk
      by_cases ek : k < n.h
      · rw [if_pos ⟨ek, by omega⟩] at this
        exact this
      · rw [if_neg (by omega)] at this
        rw [nx_above hq (by omega) ek]
        exact this
    · subst e
      have eg := ins_at (n := n) hq hi
      rw [eg] at hk ⊢
      have := h.own k hk
      rw [if_pos hk] at this
      rw [ins_drop hq (by omega)]
      exact this
    · have eg := ins_hi (n := n) hq e hi
      rw [eg] at hk ⊢
      have := h.lev (i - 1) (by omega) k hk
      rw [if_neg (by omega), show i - 1 + 1 = i by omega] at this
      rw [ins_drop hq (by omega)]
      exact this
/-- All blocks but some stay. -/
structure Sets (S : Nat → Prop) (w w' : World) : Prop where
  os : w'.os = w.os
  tape : w'.tape = w.tape
  output : w'.output = w.output
  size : w.heap.size ≤ w'.heap.size
  block : ∀ b, b < w.heap.size → ¬ S b → w'.heap[b]? = w.heap[b]?
theorem Sets.of {S : Nat → Prop} {w w' : World} (h : Below w.heap.size w w') : Sets S w w' := ⟨h.os, h.tape, h.output, h.size, fun b hb _ => h.block b hb⟩
theorem Sets.refl {S : Nat → Prop} (w : World) : Sets S w w := Sets.of (Below.refl _ _)
theorem Sets.trans {S T : Nat → Prop} {a b c : World} (h : Sets S a b) (k : Sets T b c) (ht : ∀ i, i < a.heap.size → T i → S i) : Sets S a c :=
  ⟨k.os.trans h.os, k.tape.trans h.tape, k.output.trans h.output, Nat.le_trans h.size k.size, fun i hi hs => (k.block i (Nat.lt_of_lt_of_le hi h.size) (fun t => hs (ht i hi t))).trans (h.block i hi hs)⟩
theorem Sets.set {S : Nat → Prop} {w w' : World} (h : Sets S w w') {g : Nat} (hg : g < w.heap.size → S g) (o : Nat) (u : Value) : Sets S w (w'.setCell ⟨g, o, none⟩ u) :=
  ⟨h.os, h.tape, h.output, by simpa using h.size, fun i hi hs => by
    have hne : i ≠ g := fun e => hs (e ▸ hg (e ▸ hi))
    exact (Below.heap_setCell w' ⟨g, o, none⟩ u i (fun e => hne (by simpa using e))).trans (h.block i hi hs)⟩
theorem Sets.drew {S : Nat → Prop} {w w' : World} (h : Sets S w w') : Sets S w w'.drew := ⟨h.os, h.tape, h.output, h.size, h.block⟩
theorem Sets.below {S : Nat → Prop} {B : Nat} {w0 w w' : World} (h : Below B w0 w) (k : Sets S w w') (hS : ∀ b, S b → B ≤ b) (hB : B ≤ w.heap.size) : Below B w0 w' :=
  ⟨k.os.trans h.os, k.tape.trans h.tape, k.output.trans h.output, Nat.le_trans h.size k.size, fun i hi => (k.block i (by omega) (fun s => by have := hS i s; omega)).trans (h.block i hi)⟩
/-- A list stays where none of its blocks is set. -/
theorem SkAt.sets {S : Nat → Prop} {w w' : World} {p : Nat} {F : List Nd} (h : SkAt w p F) (k : Sets S w w') (hS : ∀ b, SBlk p F b → ¬ S b) : SkAt w' p F := by
  have hp := k.block p h.lp (hS p (.inl rfl))
  have hb : ∀ n ∈ F, w'.heap[n.b]? = w.heap[n.b]? ∧ w'.heap[n.t]? = w.heap[n.t]? := fun n hn => ⟨k.block _ (h.nds.at_ n hn).lb (hS _ (.inr ⟨n, hn, .inl rfl⟩)), k.block _ (h.nds.at_ n hn).lt (hS _ (.inr ⟨n, hn, .inr rfl⟩))⟩
  refine ⟨Nat.lt_of_lt_of_le h.lp k.size, ?_, (World.cell?_of_block hp).trans h.cnt, fun o => (World.frozen?_of_block hp).trans (h.fp o), ⟨fun n hn => (h.nds.at_ n hn).kept k.size (hb n hn).1 (hb n hn).2, fun i hi c hc => ?_⟩, h.dis⟩
  · obtain ⟨a, b, c⟩ := h.pos
    exact ⟨a, b, (World.cell?_of_block hp).trans c⟩
  · exact (World.cell?_of_block (hb _ (List.getElem_mem hi)).2).trans (h.nds.lev i hi c hc)
end Go.Proofs.Ytoejhekmfgkklaa
