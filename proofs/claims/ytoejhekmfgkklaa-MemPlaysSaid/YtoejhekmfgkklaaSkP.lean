/- skip.List.Put: contracts. Conditions: the list as it reads; its items rise; towers of 1 to 6. -/
import Derived.Test.YtoejhekmfgkklaaSkG
import Derived.Deep.RegionHeld3
namespace Go.Proofs.Ytoejhekmfgkklaa
set_option linter.unusedVariables false
set_option linter.unusedSimpArgs false
open Go.ChangeShapes Go.WideShapes Go.ChangeAt Go.RowKit

theorem set5_cells {w : World} {g : Nat} {u0 u1 u2 u3 u4 u5 : Value} (v0 v1 v2 v3 v4 : Value) (h0 : w.cell? ⟨g, 0, none⟩ = some u0) (h1 : w.cell? ⟨g, 1, none⟩ = some u1) (h2 : w.cell? ⟨g, 2, none⟩ = some u2) (h3 : w.cell? ⟨g, 3, none⟩ = some u3) (h4 : w.cell? ⟨g, 4, none⟩ = some u4) (h5 : w.cell? ⟨g, 5, none⟩ = some u5) :
    let w' := ((((w.setCell ⟨g, 0, none⟩ v0).setCell ⟨g, 1, none⟩ v1).setCell ⟨g, 2, none⟩ v2).setCell ⟨g, 3, none⟩ v3).setCell ⟨g, 4, none⟩ v4
    w'.cell? ⟨g, 0, none⟩ = some v0 ∧ w'.cell? ⟨g, 1, none⟩ = some v1 ∧ w'.cell? ⟨g, 2, none⟩ = some v2 ∧ w'.cell? ⟨g, 3, none⟩ = some v3 ∧ w'.cell? ⟨g, 4, none⟩ = some v4 ∧ w'.cell? ⟨g, 5, none⟩ = some u5 :=
  ⟨set_off (by omega) (set_off (by omega) (set_off (by omega) (set_off (by omega) (set_same h0)))), set_off (by omega) (set_off (by omega) (set_off (by omega) (set_same (set_off (by omega) h1)))), set_off (by omega) (set_off (by omega) (set_same (set_off (by omega) (set_off (by omega) h2)))),
   set_off (by omega) (set_same (set_off (by omega) (set_off (by omega) (set_off (by omega) h3)))), set_same (set_off (by omega) (set_off (by omega) (set_off (by omega) (set_off (by omega) h4)))), set_off (by omega) (set_off (by omega) (set_off (by omega) (set_off (by omega) (set_off (by omega) h5))))⟩
theorem set_block {w : World} {g c : Nat} (hne : c ≠ g) (o : Nat) (u : Value) : (w.setCell ⟨g, o, none⟩ u).heap[c]? = w.heap[c]? := Below.heap_setCell _ _ _ _ (fun e => hne (by simpa using e))
theorem set5_block {w : World} {g c : Nat} (hne : c ≠ g) (v0 v1 v2 v3 v4 : Value) : (((((w.setCell ⟨g, 0, none⟩ v0).setCell ⟨g, 1, none⟩ v1).setCell ⟨g, 2, none⟩ v2).setCell ⟨g, 3, none⟩ v3).setCell ⟨g, 4, none⟩ v4).heap[c]? = w.heap[c]? :=
  (set_block hne _ _).trans ((set_block hne _ _).trans ((set_block hne _ _).trans ((set_block hne _ _).trans (set_block hne _ _))))
theorem nxtP_pairs (k : Nat) (R : List Nd) : nxtP k R = ((R.map fun n => (n.b, n.h)).find? fun y => decide (k < y.2)).map (·.1) := by
  unfold nxtP
  rw [List.find?_map, Option.map_map]
  rfl
theorem nx_set {F : List Nd} {j : Nat} (hj : j < F.length) {n : Nd} (hb : n.b = F[j].b) (hh : n.h = F[j].h) (k i : Nat) : nxtP k ((F.set j n).drop i) = nxtP k (F.drop i) := by
  rw [nxtP_pairs, nxtP_pairs, List.map_drop, List.map_drop, List.map_set, hb, hh]
  congr 3
  apply List.ext_getElem?
  intro m
  by_cases e : j = m
  · subst e
    rw [List.getElem?_set_self (by simpa using hj), List.getElem?_map, List.getElem?_eq_getElem hj]
    rfl
  · rw [List.getElem?_set_ne e]
theorem dis_set {p : Nat} {F : List Nd} {j : Nat} (hj : j < F.length) {n : Nd} (hb : n.b = F[j].b) (ht : n.t = F[j].t) (h : (p :: F.flatMap fun n => [n.b, n.t]).Nodup) : (p :: (F.set j n).flatMap fun n => [n.b, n.t]).Nodup := by
  have e : ((F.set j n).flatMap fun n => [n.b, n.t]) = F.flatMap fun n => [n.b, n.t] := by
    rw [List.flatMap_def, List.flatMap_def, List.map_set, hb, ht]
    congr 1
    apply List.ext_getElem?
    intro m
    by_cases e : j = m
    · subst e
      rw [List.getElem?_set_self (by simpa using hj), List.getElem?_map, List.getElem?_eq_getElem hj]
      rfl
    · rw [List.getElem?_set_ne e]
  rw [e]
  exact h
theorem shape_set (w : World) (g o : Nat) (u : Value) (b : Nat) : (w.setCell ⟨g, o, none⟩ u).shape? b = w.shape? b := by
  by_cases e : b = g
  · subst e
    unfold World.shape? World.setCell
    simp only [Array.getElem?_modify, if_true]
    cases w.heap[b]? with
    | none => rfl
    | some o => cases o <;> simp
  · exact shape_of (set_block e _ _)
/-- A list where one node's item is set. -/
theorem SkAt.setw {w w' : World} {p : Nat} {F : List Nd} (h : SkAt w p F) {j : Nat} (h0 : 0 < j) (hj : j < F.length) {n : Nd} (hb : n.b = (F[j]'hj).b) (ht : n.t = (F[j]'hj).t) (hh : n.h = (F[j]'hj).h) (hz : w.heap.size ≤ w'.heap.size)
    (hk : ∀ c, c ≠ (F[j]'hj).b → w'.heap[c]? = w.heap[c]?) (hn : NdAt w' n) : SkAt w' p (F.set j n) := by
  obtain ⟨d1, d2, d3⟩ := dis_parts h.dis
  have hp := hk p (d3 _ (List.getElem_mem hj)).1
  refine ⟨Nat.lt_of_lt_of_le h.lp hz, ?_, (World.cell?_of_block hp).trans (by rw [h.cnt, List.length_set]), fun o => (World.frozen?_of_block hp).trans (h.fp o), ⟨?_, ?_⟩, dis_set hj hb ht h.dis⟩
  · obtain ⟨a, b, c⟩ := h.pos
    have e : (F.set j n)[0]'(by simpa using a) = F[0]'a := List.getElem_set_ne (by omega) _
    exact ⟨by simpa using a, by rw [e]; exact b, (World.cell?_of_block hp).trans (by rw [e]; exact c)⟩
  · intro c hc
    obtain ⟨i, hi, rfl⟩ := List.mem_iff_getElem.1 hc
    have hi2 : i < F.length := by simpa using hi
    by_cases e : j = i
    · subst e
      rw [List.getElem_set_self]
      exact hn
    · rw [List.getElem_set_ne e]
      exact (h.nds.at_ _ (List.getElem_mem hi2)).kept hz (hk _ (d1 i j hi2 hj (Ne.symm e)).1) (hk _ (d2 j i hj hi2).symm)
  · intro i hi k hkk
    have hi2 : i < F.length := by simpa using hi
    rw [nx_set hj hb hh]
    have et : ((F.set j n)[i]'hi).t = F[i].t ∧ ((F.set j n)[i]'hi).h = F[i].h := by
      by_cases e : j = i
      · subst e
        rw [List.getElem_set_self]
        exact ⟨ht, hh⟩
      · rw [List.getElem_set_ne e]
        exact ⟨rfl, rfl⟩
    rw [et.2] at hkk
    rw [et.1]
    exact (World.cell?_of_block (hk _ (d2 j i hj hi2).symm)).trans (h.nds.lev i hi2 k hkk)
theorem NdAt.setx {w : World} {n : Nd} (h : NdAt w n) (x : It) : NdAt (((((w.setCell ⟨n.b, 0, none⟩ (.int .i64 x.s)).setCell ⟨n.b, 1, none⟩ (.int .i64 x.k)).setCell ⟨n.b, 2, none⟩ (.int .u64 x.t)).setCell ⟨n.b, 3, none⟩ (.int .u64 x.v)).setCell ⟨n.b, 4, none⟩ (.int .i64 x.x)) ⟨n.b, n.t, n.h, x⟩ := by
  obtain ⟨lb, lt, sh, c0, c1, c2, c3, c4, c5, fb, ft⟩ := h
  obtain ⟨e0, e1, e2, e3, e4, e5⟩ := set5_cells (.int .i64 x.s) (.int .i64 x.k) (.int .u64 x.t) (.int .u64 x.v) (.int .i64 x.x) c0 c1 c2 c3 c4 c5
  refine ⟨by simpa using lb, by simpa using lt, ?_, e0, e1, e2, e3, e4, e5, fun o => ?_, fun o => ?_⟩
  · rw [shape_set, shape_set, shape_set, shape_set, shape_set]
    exact sh
  · simp only [World.frozen?_setCell]
    exact fb o
  · simp only [World.frozen?_setCell]
    exact ft o
/-- The one that wins is in the place of the one that is the same. -/
def SameSet (w' : World) (p : Nat) (F : List Nd) (j : Nat) (n : Nd) (x : It) : Prop := (winsB x n.x = true → SkAt w' p (F.set j ⟨n.b, n.t, n.h, x⟩)) ∧ (winsB x n.x = false → SkAt w' p F)
theorem Sets.set5 {S : Nat → Prop} {w w' : World} (h : Sets S w w') {g : Nat} (hg : g < w.heap.size → S g) (v0 v1 v2 v3 v4 : Value) : Sets S w (((((w'.setCell ⟨g, 0, none⟩ v0).setCell ⟨g, 1, none⟩ v1).setCell ⟨g, 2, none⟩ v2).setCell ⟨g, 3, none⟩ v3).setCell ⟨g, 4, none⟩ v4) :=
  ((((h.set hg _ _).set hg _ _).set hg _ _).set hg _ _).set hg _ _
theorem Mix.heap {w w' : World} {F : List Nd} {q : Nat} {n : Nd} {m : Nat} (h : Mix w F q n m) (e : ∀ b : Nat, w'.heap[b]? = w.heap[b]?) (hz : w.heap.size ≤ w'.heap.size) : Mix w' F q n m :=
  ⟨fun c hc => (h.at_ c hc).kept hz (e _) (e _), h.new.kept hz (e _) (e _), fun j hj k hk => (World.cell?_of_block (e _)).trans (h.lev j hj k hk), fun k hk => (World.cell?_of_block (e _)).trans (h.own k hk)⟩
theorem Mix.load {w : World} {F : List Nd} {q : Nat} {n : Nd} {m i : Nat} (h : Mix w F q n m) (hi : i < F.length) (hk : m < (F[i]'hi).h) : Calls Try.prog 43 #[.pointer (some ⟨(F[i]'hi).t, m, none⟩)] w fun e w' => e = .returned (ptrO (nxtP m (F.drop (i + 1)))) ∧ w' = w := by
  have hc := h.lev i hi m hk
  rw [if_neg (by omega)] at hc
  rcases nx_cases F m i with ⟨e, _⟩ | ⟨j, hj, _, _, e, _⟩
  · rw [e] at hc ⊢
    exact load_any _ _ _ _ hc trivial
  · rw [e] at hc ⊢
    exact load_any _ _ _ _ hc (h.at_ _ (List.getElem_mem hj)).ptr
theorem Mix.store {w : World} {F : List Nd} {q : Nat} {n : Nd} {m : Nat} (h : Mix w F q n m) (hm : m < n.h) (i : Nat) : Calls Try.prog 46 #[.pointer (some ⟨n.t, m, none⟩), ptrO (nxtP m (F.drop (i + 1)))] w fun e w' => e = .returned (.tuple #[]) ∧ w' = w.setCell ⟨n.t, m, none⟩ (ptrO (nxtP m (F.drop (i + 1)))) := by
  have hc := h.own m hm
  rw [if_neg (by omega)] at hc
  rcases nx_cases F m i with ⟨e, _⟩ | ⟨j, hj, _, _, e, _⟩
  · rw [e]
    exact store_any _ _ _ _ _ hc (h.new.ft m) trivial
  · rw [e]
    exact store_any _ _ _ _ _ hc (h.new.ft m) (h.at_ _ (List.getElem_mem hj)).ptr
theorem Mix.store2 {w : World} {F : List Nd} {q : Nat} {n : Nd} {m i : Nat} (h : Mix w F q n m) (hi : i < F.length) (hk : m < (F[i]'hi).h) (hne : (F[i]'hi).t ≠ n.t) (hnb : n.b ≠ n.t) (u : Value) : Calls Try.prog 46 #[.pointer (some ⟨(F[i]'hi).t, m, none⟩), .pointer (some ⟨n.b, 0, none⟩)] (w.setCell ⟨n.t, m, none⟩ u) fun e w' => e = .returned (.tuple #[]) ∧ w' = (w.setCell ⟨n.t, m, none⟩ u).setCell ⟨(F[i]'hi).t, m, none⟩ (.pointer (some ⟨n.b, 0, none⟩)) := by
  have hc := h.lev i hi m hk
  exact store_any _ _ _ _ _ (set_blk hne.symm hc) (by rw [World.frozen?_setCell]; exact (h.at_ _ (List.getElem_mem hi)).ft m) (h.new.set hnb u).ptr
/-- The new node linked on all its levels, and counted. -/
theorem SkAt.put {w w' : World} {p : Nat} {F : List Nd} {q : Nat} {n : Nd} {T : Nat → Prop} (h : SkAt w p F) (hq : q < F.length) (hs : Sets T w w') (hT : ¬ T p) (hm : Mix w' F q n n.h) {z : Nat} (hz : p < z ∧ ∀ c ∈ F, c.b < z ∧ c.t < z) (hb : z ≤ n.b) (ht : z ≤ n.t) (hne : n.b ≠ n.t) :
    SkAt (w'.setCell ⟨p, 1, none⟩ (.int .i64 F.length)) p (insF F q n) := by
  obtain ⟨d1, d2, d3⟩ := dis_parts h.dis
  have hp := hs.block p h.lp hT
  have hN := hm.done hq
  have hpn : ∀ c ∈ insF F q n, c.b ≠ p ∧ c.t ≠ p := fun c hc => by
    rcases ins_mem.1 hc with rfl | hc
    · omega
    · exact ⟨(d3 c hc).1.symm, (d3 c hc).2.symm⟩
  have hc1 : w'.cell? ⟨p, 1, none⟩ = _ := (World.cell?_of_block hp).trans h.cnt
  refine ⟨by simpa using Nat.lt_of_lt_of_le h.lp hs.size, ?_, ?_, fun o => by rw [World.frozen?_setCell]; exact (World.frozen?_of_block hp).trans (h.fp o), ⟨fun c hc => (hN.at_ c hc).set (hpn c hc).1 _, fun i hi k hk => set_blk (hpn _ (List.getElem_mem hi)).2.symm (hN.lev i hi k hk)⟩, dis_ins h.dis hz.1 hz.2 hb ht hne⟩
  · obtain ⟨a, b, c⟩ := h.pos
    have hl : 0 < (insF F q n).length := by rw [ins_len]; omega
    have e := ins_lo (n := n) hq (Nat.zero_le q) hl
    exact ⟨hl, by rw [e]; exact b, by rw [e]; exact set_off (by omega) ((World.cell?_of_block hp).trans c)⟩
  · rw [set_same hc1, ins_len]
    congr 2
    omega
set_option maxHeartbeats 1600000 in
theorem put_bad (p : Nat) (x : It) (h : Int) (w : World) (hb : ¬ (goodB x = true ∧ 1 ≤ h ∧ h ≤ 6)) :
    Calls Try.prog 28 #[.pointer (some ⟨p, 0, none⟩), x.val, .int .i64 h] w fun e w' => e = .returned (.tuple #[.bool false, .int .i64 1]) ∧ Below w.heap.size w w' := by
  have HG := hide (fun W => pgood_any x W)
  have HA := hide (below_alloc (Below.refl w.heap.size w) (.cells x.cells.toArray 24))
  cases hg : goodB x with
  | false =>
    rw [hg] at HG
    clear hg hb
    go_enter Try.func28, Try.ntmps28
    go_wp2_with fail
    refine (Calls.mono (HG.out _) ?_); rintro e w1 ⟨rfl, hg1⟩
    have HB := hide (below_step HA.out hg1)
    clear hg1
    go_wp2_with fail
    refine bodyPost_ret (v := .tuple #[.bool false, .int .i64 1]) (by simp [results, Try.results28, go_sem]) rfl ?_
    exact ⟨rfl, HB.out⟩
  | true =>
    rw [hg] at HG hb
    clear hg
    by_cases h1 : h < 1
    · have d1 : decide (h < 1) = true := decide_eq_true h1
      clear hb
      go_enter Try.func28, Try.ntmps28
      go_wp2_with fail
      refine (Calls.mono (HG.out _) ?_); rintro e w1 ⟨rfl, hg1⟩
      have HB := hide (below_step HA.out hg1)
      clear hg1
      go_wp2_with fail
      refine bodyPost_ret (v := .tuple #[.bool false, .int .i64 1]) (by simp [results, Try.results28, go_sem]) rfl ?_
      exact ⟨rfl, HB.out⟩
    · have h6 : 6 < h := by
        have : ¬ (1 ≤ h ∧ h ≤ 6) := fun e => hb ⟨rfl, e⟩
        omega
      have d1 : decide (h < 1) = false := decide_eq_false h1
      have d6 : decide (6 < h) = true := decide_eq_true h6
      clear hb
      go_enter Try.func28, Try.ntmps28
      go_wp2_with fail
      refine (Calls.mono (HG.out _) ?_); rintro e w1 ⟨rfl, hg1⟩
      have HB := hide (below_step HA.out hg1)
      clear hg1
      go_wp2_with fail
      refine bodyPost_ret (v := .tuple #[.bool false, .int .i64 1]) (by simp [results, Try.results28, go_sem]) rfl ?_
      exact ⟨rfl, HB.out⟩
set_option maxHeartbeats 3200000 in
set_option maxRecDepth 100000 in
theorem put_same (p : Nat) (F : List Nd) (x : It) (h : Nat) (w : World) (hS : SkAt w p F) (hF : SkOk F) (hg : goodB x = true) (hh1 : 1 ≤ h) (hh6 : h ≤ 6) (hj : lowI x (itsF F) + 1 < F.length) (hsb : sameB (F[lowI x (itsF F) + 1]'hj).x x = true) :
    Calls Try.prog 28 #[.pointer (some ⟨p, 0, none⟩), x.val, .int .i64 h] w fun e w' => e = .returned (.tuple #[.bool (winsB x (F[lowI x (itsF F) + 1]'hj).x), .int .i64 0]) ∧
      SameSet w' p F (lowI x (itsF F) + 1) (F[lowI x (itsF F) + 1]'hj) x ∧ Sets (SBlk p F) w w' := by
  obtain ⟨hF0, hF6, hFp⟩ := hS.pos
  have hql := low_len F x
  have hqF : lowI x (itsF F) < F.length := by omega
  have hb1 := below_alloc (Below.refl w.heap.size w) (.cells x.cells.toArray 24)
  have hbx := BxAt.box (x := x) (heap_alloc_new w (.cells x.cells.toArray 24))
  have HGD := hide (fun W => pgood_any x W)
  rw [hg] at HGD
  have HBF := hide (fun W hW => before_any p F x W (hS.below (w' := W) hW) hF.up (fun n hn => (hF.hts n hn).2))
  have HB1 := hide hb1
  have HBX := hide hbx
  have HS1 := hide hS
  have HOK := hide hF
  have HZ := hide (prv_zero hF hqF)
  have HNX := hide (nx_zero hF (lowI x (itsF F)))
  have hk0 := (hF.hts _ (List.getElem_mem hqF)).1
  have hd1 : decide ((h : Int) < 1) = false := decide_eq_false (by omega)
  have hd6 : decide (6 < (h : Int)) = false := decide_eq_false (by omega)
  have HC := hide (fun W => psame_any (F[lowI x (itsF F) + 1]'hj).x x W)
  rw [hsb] at HC
  have HWN := hide (fun W => pwins_any x (F[lowI x (itsF F) + 1]'hj).x W)
  rw [List.getElem?_eq_getElem hj] at HNX
  clear hsb
  generalize lowI x (itsF F) = q at *
  clear hS hb1 hF0 hF6 hFp hF hbx hg hql
  go_enter Try.func28, Try.ntmps28
  go_wp2_with fail
  refine (Calls.mono (HGD.out _) ?_); rintro e w1 ⟨rfl, hg1⟩
  have HB2 := hide (below_step HB1.out hg1)
  have HBX1 := hide (BxAt.kept HBX.out hg1.size (hg1.block _ HBX.out.lt))
  obtain ⟨lx, x0, x1, x2, x3, x4⟩ := HBX1.out
  clear hg1 HBX HB1
  go_wp2_with fail
  refine (Calls.mono (HBF.out _ HB2.out) ?_); rintro e w2 ⟨vs, hov, rfl, hg2⟩
  have HOV := hide hov
  have hv0 : vs[0]? = some (.pointer (some ⟨(F[q]'hqF).b, 0, none⟩)) := by
    obtain ⟨i, hi, e⟩ := hov.2.1 0 (by omega) (by omega)
    rw [e, prv_uniq hi HZ.out, bpV_at hqF]
  have HSW := hide (HS1.out.below (below_step HB2.out hg2))
  have HBX2 := hide (BxAt.kept HBX1.out hg2.size (hg2.block _ HBX1.out.lt))
  have HB3 := hide (below_step HB2.out hg2)
  clear lx x0 x1 x2 x3 x4 hg2 HBX1 HB2 HBF
  have hba := below_alloc (Below.refl w2.heap.size w2) (.cells vs.toArray 80)
  have hgo := heap_alloc_new w2 (.cells vs.toArray 80)
  have HGO := hide hgo
  have HS3 := hide (HSW.out.below hba)
  have HBX3 := hide (BxAt.kept HBX2.out hba.size (hba.block _ HBX2.out.lt))
  have HB4 := hide (below_step HB3.out hba)
  have HGZ : Hid (w.heap.size ≤ w2.heap.size) := hide HB3.out.size
  have hgoz : w2.heap.size < (w2.alloc (.cells vs.toArray 80)).heap.size := by simp
  have HNEX : Hid (w.heap.size ≠ w2.heap.size) := hide (fun e => by have := HBX2.out.lt; omega)
  have hc0 : (w2.alloc (.cells vs.toArray 80)).cell? ⟨w2.heap.size, 0, none⟩ = some (.pointer (some ⟨(F[q]'hqF).b, 0, none⟩)) := (cell_of_row _ _ 0 _ _ _ hgo).trans (by rw [List.getElem?_toArray]; exact hv0)
  have HNQ := hide (HS3.out.nds.at_ _ (List.getElem_mem hqF))
  have HLD := hide (lev_load HS3.out hqF (k := 0) (by omega))
  rw [HNX.out] at HLD
  have hhI : (0 : Int) < (((F[q]'hqF).h : Nat) : Int) := by omega
  have hhN : 0 < (F[q]'hqF).h := by omega
  have HC0 := hide hc0
  have HOA := hide (fun m (hm : m < 6) => hov.2.1 m (by omega) hm)
  obtain ⟨lb, lt, _, _, _, _, _, _, q5, _, _⟩ := HNQ.out
  obtain ⟨lx, x0, x1, x2, x3, x4⟩ := HBX3.out
  clear hov hv0 hba hgo HSW HBX2 HB3 HNQ HNX hc0
  obtain ⟨o0, o1, o2, o3, o4, o5, hvs⟩ := out_all HOV.out
  generalize (F[q]'hqF) = nq at *
  obtain rfl : o0 = some ⟨nq.b, 0, none⟩ := by
    have h1 := cell_of_row _ _ 0 _ _ _ HGO.out
    rw [HC0.out, hvs] at h1
    have := Option.some.inj h1
    injection this with this
    exact this.symm
  subst hvs
  have hc0 := HC0.out
  clear HC0
  obtain ⟨w3, hw3⟩ : ∃ w3, w2.alloc (.cells #[.pointer (some ⟨nq.b, 0, none⟩), .pointer o1, .pointer o2, .pointer o3, .pointer o4, .pointer o5] 80) = w3 := ⟨_, rfl⟩
  have hw3' : w2.alloc (.cells [Value.pointer (some ⟨nq.b, 0, none⟩), .pointer o1, .pointer o2, .pointer o3, .pointer o4, .pointer o5].toArray 80) = w3 := hw3
  rw [hw3'] at HS3 HBX3 HB4 hgoz HLD hc0 lb lt q5 lx x0 x1 x2 x3 x4 HGO
  have HW3 := hide hw3
  clear hw3 hw3'
  go_upto_region 4 with fail
  rw [show w2.alloc (.cells #[.pointer (some ⟨nq.b, 0, none⟩), .pointer o1, .pointer o2, .pointer o3, .pointer o4, .pointer o5] 80) = w3 from HW3.out]
  clear HW3
  generalize w2.heap.size = go at *
  have HNJ := hide (fun W hW => (HS3.out.below (w' := W) hW).nds.at_ _ (List.getElem_mem hj))
  have hps : ptrO (Option.map (fun x => x.b) (some (F[q + 1]'hj))) = .pointer (some ⟨(F[q + 1]'hj).b, 0, none⟩) := rfl
  rw [hps] at HLD
  clear hps
  go_wp2_with fail
  refine (Calls.mono HLD.out ?_); rintro e w4 ⟨rfl, rfl⟩
  clear HLD q5 hhI hhN lb lt hc0
  obtain ⟨jl, jt, _, j0, j1, j2, j3, j4, j5, _, _⟩ := HNJ.out w4 (Below.refl _ _)
  obtain ⟨nj, hnj⟩ : ∃ nj, F[q + 1]'hj = nj := ⟨_, rfl⟩
  have HNE := hide hnj
  rw [hnj] at HC HWN HNJ jl jt j0 j1 j2 j3 j4 j5 ⊢
  clear hnj
  have hnc := near_cells w4
  go_wp2_with fail
  refine wp_region_near (by kernel_rfl) (by kernel_rfl) ?_
  repeat (go_big_quiet_step ((first | (go_at_call 44; exact near_of (HC.out _)))))
  refine wpQuiet_nil ?_
  intro _ hw'
  obtain ⟨s1, rfl⟩ := hw'
  clear jl jt j0 j1 j2 j3 j4 j5 lx x0 x1 x2 x3 x4 HC hnc
  have HSX := hide (s1.is)
  have HBX5 := hide (BxAt.kept HBX3.out HSX.out.size (HSX.out.block _ HBX3.out.lt))
  have HB5 := hide (below_step HB4.out HSX.out)
  obtain ⟨lx, x0, x1, x2, x3, x4⟩ := HBX5.out
  obtain ⟨jl, jt, jsh, j0, j1, j2, j3, j4, j5, jf1, jf2⟩ := HNJ.out _ HSX.out
  clear jsh jf1 jf2
  obtain ⟨w5, hw5⟩ : ∃ w5, s1.at_ = w5 := ⟨_, rfl⟩
  have HS5 := hide (HS3.out.below HSX.out)
  have hnj5 : Hid (∀ W, Below w5.heap.size w5 W → NdAt W nj) := hide (fun W hW => HNJ.out W (below_step HSX.out (by rw [hw5]; exact hW)))
  rw [hw5] at HBX5 HB5 HSX HS5 lx x0 x1 x2 x3 x4 jl jt j0 j1 j2 j3 j4 j5 ⊢
  clear hw5 HNJ HBX3 HB4 HS3 HSX HOV HOA
  go_upto_region 5 with fail
  have hnc := near_cells w5
  refine wp_region_near (by kernel_rfl) (by kernel_rfl) ?_
  repeat (go_big_quiet_step ((first | (go_at_call 45; exact near_of (HWN.out _)))))
  refine wpQuiet_nil ?_
  intro _ hw'
  obtain ⟨s2, rfl⟩ := hw'
  clear jl jt j0 j1 j2 j3 j4 j5 lx x0 x1 x2 x3 x4 HWN hnc
  have hbx6 := BxAt.kept HBX5.out s2.is.size (s2.is.block _ HBX5.out.lt)
  have hb6 := below_step HB5.out s2.is
  have hs6 := HS5.out.below s2.is
  obtain ⟨lx, x0, x1, x2, x3, x4⟩ := hbx6
  obtain ⟨jl, jt, jsh, j0, j1, j2, j3, j4, j5, jfz, jf2⟩ := hnj5.out _ s2.is
  clear jsh jf2
  obtain ⟨w6, hw6⟩ : ∃ w6, s2.at_ = w6 := ⟨_, rfl⟩
  rw [hw6] at hb6 hs6 lx x0 x1 x2 x3 x4 jl jt j0 j1 j2 j3 j4 j5 jfz ⊢
  have HB6 := hide hb6
  have HS6 := hide hs6
  clear hw6 hb6 hs6 HBX5 HB5 HS5 hnj5
  have HSK : Hid (SkAt (((((w6.setCell ⟨nj.b, 0, none⟩ (.int .i64 x.s)).setCell ⟨nj.b, 1, none⟩ (.int .i64 x.k)).setCell ⟨nj.b, 2, none⟩ (.int .u64 x.t)).setCell ⟨nj.b, 3, none⟩ (.int .u64 x.v)).setCell ⟨nj.b, 4, none⟩ (.int .i64 x.x)) p (F.set (q + 1) ⟨nj.b, nj.t, nj.h, x⟩)) := hide (by
    refine SkAt.setw HS6.out (by omega : 0 < q + 1) hj (by rw [HNE.out]) (by rw [HNE.out]) (by rw [HNE.out]) (by simp) (fun c hc => set5_block (by rw [HNE.out] at hc; exact hc) _ _ _ _ _) (NdAt.setx ?_ x)
    have := HS6.out.nds.at_ _ (List.getElem_mem hj)
    rw [HNE.out] at this
    exact this)
  have HSB : Hid (nj.b < w.heap.size → SBlk p F nj.b) := hide (fun _ => .inr ⟨nj, by rw [← HNE.out]; exact List.getElem_mem hj, .inl rfl⟩)
  cases hw : winsB x nj.x with
  | false =>
    go_wp2_with fail
    refine bodyPost_ret (v := .tuple #[.bool false, .int .i64 0]) (by simp [results, Try.results28, go_sem]) rfl ?_
    rw [HNE.out]
    exact ⟨by rw [hw], ⟨fun e => absurd (hw.symm.trans e) (by simp), fun _ => HS6.out⟩, Sets.of HB6.out⟩
  | true =>
    go_wp2_with fail
    refine bodyPost_ret (v := .tuple #[.bool true, .int .i64 0]) (by simp [results, Try.results28, go_sem]) rfl ?_
    rw [HNE.out]
    exact ⟨by rw [hw], ⟨fun _ => HSK.out, fun e => absurd (hw.symm.trans e) (by simp)⟩, (Sets.of HB6.out).set5 HSB.out _ _ _ _ _⟩
set_option maxHeartbeats 6400000 in
set_option maxRecDepth 100000 in
theorem put_none (p : Nat) (F : List Nd) (x : It) (h : Nat) (w : World) (hS : SkAt w p F) (hF : SkOk F) (hlen : F.length ≤ 1099511627776) (hg : goodB x = true) (hh1 : 1 ≤ h) (hh6 : h ≤ 6) (hj : ¬ lowI x (itsF F) + 1 < F.length) :
    Calls Try.prog 28 #[.pointer (some ⟨p, 0, none⟩), x.val, .int .i64 h] w fun e w' => ∃ b t, e = .returned (.tuple #[.bool true, .int .i64 0]) ∧ w.heap.size ≤ b ∧ w.heap.size ≤ t ∧ SkAt w' p (insF F (lowI x (itsF F)) ⟨b, t, h, x⟩) ∧ Sets (SBlk p F) w w' := by
  obtain ⟨hF0, hF6, hFp⟩ := hS.pos
  have hql := low_len F x
  have hqF : lowI x (itsF F) < F.length := by omega
  have hb1 := below_alloc (Below.refl w.heap.size w) (.cells x.cells.toArray 24)
  have hbx := BxAt.box (x := x) (heap_alloc_new w (.cells x.cells.toArray 24))
  have HGD := hide (fun W => pgood_any x W)
  rw [hg] at HGD
  have HBF := hide (fun W hW => before_any p F x W (hS.below (w' := W) hW) hF.up (fun n hn => (hF.hts n hn).2))
  have HB1 := hide hb1
  have HBX := hide hbx
  have HS1 := hide hS
  have HOK := hide hF
  have HZ := hide (prv_zero hF hqF)
  have HNX := hide (nx_zero hF (lowI x (itsF F)))
  have hk0 := (hF.hts _ (List.getElem_mem hqF)).1
  have hd1 : decide ((h : Int) < 1) = false := decide_eq_false (by omega)
  have hd6 : decide (6 < (h : Int)) = false := decide_eq_false (by omega)
  rw [List.getElem?_eq_none (by omega)] at HNX
  generalize lowI x (itsF F) = q at *
  clear hS hb1 hF0 hF6 hFp hF hbx hg hql
  go_enter Try.func28, Try.ntmps28
  go_wp2_with fail
  refine (Calls.mono (HGD.out _) ?_); rintro e w1 ⟨rfl, hg1⟩
  have HB2 := hide (below_step HB1.out hg1)
  have HBX1 := hide (BxAt.kept HBX.out hg1.size (hg1.block _ HBX.out.lt))
  obtain ⟨lx, x0, x1, x2, x3, x4⟩ := HBX1.out
  clear hg1 HBX HB1
  go_wp2_with fail
  refine (Calls.mono (HBF.out _ HB2.out) ?_); rintro e w2 ⟨vs, hov, rfl, hg2⟩
  have HOV := hide hov
  have hv0 : vs[0]? = some (.pointer (some ⟨(F[q]'hqF).b, 0, none⟩)) := by
    obtain ⟨i, hi, e⟩ := hov.2.1 0 (by omega) (by omega)
    rw [e, prv_uniq hi HZ.out, bpV_at hqF]
  have HSW := hide (HS1.out.below (below_step HB2.out hg2))
  have HBX2 := hide (BxAt.kept HBX1.out hg2.size (hg2.block _ HBX1.out.lt))
  have HB3 := hide (below_step HB2.out hg2)
  clear lx x0 x1 x2 x3 x4 hg2 HBX1 HB2 HBF
  have hba := below_alloc (Below.refl w2.heap.size w2) (.cells vs.toArray 80)
  have hgo := heap_alloc_new w2 (.cells vs.toArray 80)
  have HGO := hide hgo
  have HS3 := hide (HSW.out.below hba)
  have HBX3 := hide (BxAt.kept HBX2.out hba.size (hba.block _ HBX2.out.lt))
  have HB4 := hide (below_step HB3.out hba)
  have HGZ : Hid (w.heap.size ≤ w2.heap.size) := hide HB3.out.size
  have hgoz : w2.heap.size < (w2.alloc (.cells vs.toArray 80)).heap.size := by simp
  have HNEX : Hid (w.heap.size ≠ w2.heap.size) := hide (fun e => by have := HBX2.out.lt; omega)
  have hc0 : (w2.alloc (.cells vs.toArray 80)).cell? ⟨w2.heap.size, 0, none⟩ = some (.pointer (some ⟨(F[q]'hqF).b, 0, none⟩)) := (cell_of_row _ _ 0 _ _ _ hgo).trans (by rw [List.getElem?_toArray]; exact hv0)
  have HNQ := hide (HS3.out.nds.at_ _ (List.getElem_mem hqF))
  have HLD := hide (lev_load HS3.out hqF (k := 0) (by omega))
  rw [HNX.out] at HLD
  have hhI : (0 : Int) < (((F[q]'hqF).h : Nat) : Int) := by omega
  have hhN : 0 < (F[q]'hqF).h := by omega
  have HC0 := hide hc0
  have HOA := hide (fun m (hm : m < 6) => hov.2.1 m (by omega) hm)
  obtain ⟨lb, lt, _, _, _, _, _, _, q5, _, _⟩ := HNQ.out
  obtain ⟨lx, x0, x1, x2, x3, x4⟩ := HBX3.out
  clear hov hv0 hba hgo HSW HBX2 HB3 HNQ HNX hc0
  obtain ⟨o0, o1, o2, o3, o4, o5, hvs⟩ := out_all HOV.out
  generalize (F[q]'hqF) = nq at *
  obtain rfl : o0 = some ⟨nq.b, 0, none⟩ := by
    have h1 := cell_of_row _ _ 0 _ _ _ HGO.out
    rw [HC0.out, hvs] at h1
    have := Option.some.inj h1
    injection this with this
    exact this.symm
  subst hvs
  have hc0 := HC0.out
  clear HC0
  obtain ⟨w3, hw3⟩ : ∃ w3, w2.alloc (.cells #[.pointer (some ⟨nq.b, 0, none⟩), .pointer o1, .pointer o2, .pointer o3, .pointer o4, .pointer o5] 80) = w3 := ⟨_, rfl⟩
  have hw3' : w2.alloc (.cells [Value.pointer (some ⟨nq.b, 0, none⟩), .pointer o1, .pointer o2, .pointer o3, .pointer o4, .pointer o5].toArray 80) = w3 := hw3
  rw [hw3'] at HS3 HBX3 HB4 hgoz HLD hc0 lb lt q5 lx x0 x1 x2 x3 x4 HGO
  have HW3 := hide hw3
  clear hw3 hw3'
  go_upto_region 4 with fail
  rw [show w2.alloc (.cells #[.pointer (some ⟨nq.b, 0, none⟩), .pointer o1, .pointer o2, .pointer o3, .pointer o4, .pointer o5] 80) = w3 from HW3.out]
  clear HW3
  generalize w2.heap.size = go at *
  have hps : ptrO (Option.map (fun x : Nd => x.b) none) = .pointer none := rfl
  rw [hps] at HLD
  clear hps
  go_wp2_with fail
  refine (Calls.mono HLD.out ?_); rintro e w4 ⟨rfl, rfl⟩
  clear HLD q5 hhI hhN lb lt hc0
  have hnc := near_cells w4
  go_wp2_with fail
  refine wp_region_near (by kernel_rfl) (by kernel_rfl) ?_
  repeat (go_big_quiet_step (fail))
  refine wpQuiet_nil ?_
  intro _ hw'
  obtain ⟨s1, rfl⟩ := hw'
  clear lx x0 x1 x2 x3 x4 hnc
  have hb5 := s1.is
  obtain ⟨w5, hw5⟩ : ∃ w5, s1.at_ = w5 := ⟨_, rfl⟩
  rw [hw5] at hb5 ⊢
  clear hw5
  have HS5 := hide (HS3.out.below hb5)
  have HB5 := hide (below_step HB4.out hb5)
  have HBX5 := hide (BxAt.kept HBX3.out hb5.size (hb5.block _ HBX3.out.lt))
  have HGO5 := hide ((hb5.block go hgoz).trans HGO.out)
  have HGZ5 := hide (Nat.lt_of_lt_of_le hgoz hb5.size)
  obtain ⟨lx, x0, x1, x2, x3, x4⟩ := HBX5.out
  clear HS3 HB4 HBX3 HGO hgoz hb5
  have HTW := hide (fun W => tower_any x h W hh6)
  go_wp2_with fail
  refine (Calls.mono (HTW.out _) ?_); rintro e w6 ⟨b, t, rfl, hbz, htz, hbt, hnd, hcl, hg6⟩
  have HMX := hide (Mix.zero (q := q) (HS5.out.below hg6).nds hnd hcl)
  have HBZ := hide hbz
  have HTZ := hide htz
  have HBT := hide hbt
  have HB6 := hide hg6
  have HS6 := hide (HS5.out.below hg6)
  have HGO6 := hide ((hg6.block go HGZ5.out).trans HGO5.out)
  have HGZ6 := hide (Nat.lt_of_lt_of_le HGZ5.out hg6.size)
  have HGT : Hid (∀ c ∈ F, go ≠ c.t) := hide (fun c hc e => by have := (HS1.out.nds.at_ c hc).lt; have := HGZ.out; omega)
  have HGT2 : Hid (go ≠ t) := hide (fun e => by have := HGZ5.out; omega)
  have HD := hide (dis_parts HS6.out.dis)
  have HF5 : Hid (∀ c ∈ F, c.b ≠ t ∧ c.t ≠ t ∧ b ≠ c.t) := hide (fun c hc => by have h1 := (HS5.out.nds.at_ c hc).lt; have h2 := (HS5.out.nds.at_ c hc).lb; omega)
  clear lx x0 x1 x2 x3 x4 hbz htz hbt hnd hcl hg6 HBX5 HGO5 HTW
  have hh6I : (h : Int) ≤ 6 := by omega
  go_wp2_with fail
  go_loopw [12, 60] (fun tv hv wr => ∃ m : Nat, m ≤ h ∧ hv = .int .i64 (m : Int) ∧ Mix wr F q ⟨b, t, h, x⟩ m ∧ wr.heap[go]? = some (.cells #[.pointer (some ⟨nq.b, 0, none⟩), .pointer o1, .pointer o2, .pointer o3, .pointer o4, .pointer o5] 80 (0, 0)) ∧ Sets (fun c => c = t ∨ ∃ n ∈ F, c = n.t) w6 wr) (fun _ hv _ => h - (intOf hv).toNat)
  case atStart => exact ⟨0, by omega, rfl, HMX.out, HGO6.out, Sets.refl _⟩
  case round =>
    obtain ⟨m, hm, rfl, hmx, hgo, hst⟩ := hrel
    have HM := hide hmx
    have HG := hide hgo
    have HST := hide hst
    clear hmx hgo hst
    by_cases hmh : m < h
    · obtain ⟨i, hprv, hvm⟩ := HOV.out.2.1 m (by omega) (by omega)
      have HPV := hide hprv
      obtain ⟨hiq, ⟨hil, hmi⟩, _⟩ := hprv
      have hgm : wr.cell? ⟨go, m, none⟩ = some (.pointer (some ⟨(F[i]'hil).b, 0, none⟩)) := (cell_of_row _ go m _ _ _ HG.out).trans (by rw [List.getElem?_toArray, hvm, bpV_at hil])
      have hmem : (F[i]'hil) ∈ F := List.getElem_mem hil
      have HMD := hide (HM.out.heap (w' := wr.drew) (fun _ => rfl) (Nat.le_refl _))
      have HL := hide (HMD.out.load hil hmi)
      have HSA := hide (HMD.out.store hmh i)
      have HSB2 := hide (fun u => HMD.out.store2 hil hmi (HF5.out _ hmem).2.1 HBT.out u)
      have HMS := hide (HMD.out.step hqF hmh HPV.out hil (fun i j hi hj e => (HD.out.1 i j hi hj e).2) (fun c hc d hd => by obtain ⟨i, hi, rfl⟩ := List.mem_iff_getElem.1 hc; obtain ⟨j, hj, rfl⟩ := List.mem_iff_getElem.1 hd; exact HD.out.2.1 i j hi hj) HF5.out HBT.out)
      have HTI : Hid (w6.heap.size ≤ w6.heap.size ∧ ∃ n ∈ F, (F[i]'hil).t = n.t) := hide ⟨Nat.le_refl _, _, hmem, rfl⟩
      have HNT := hide (HGT.out _ hmem)
      have HN2 := hide (HF5.out _ hmem)
      obtain ⟨nl, nt, nsh, n0, n1, n2, n3, n4, n5, nf1, nf2⟩ := HM.out.at_ _ hmem
      obtain ⟨bl, tl, bsh, b0, b1, b2, b3, b4, b5, bf1, bf2⟩ := HM.out.new
      have hgl : go < wr.heap.size := (Array.getElem?_eq_some_iff.1 HG.out).1
      have hmI : (m : Int) < (h : Int) := by omega
      have hmhI : (m : Int) < (((F[i]'hil).h : Nat) : Int) := by omega
      have hm6 : (m : Int) < 6 := by omega
      clear nsh n0 n1 n2 n3 n4 nf1 nf2 bsh b0 b1 b2 b3 b4 bf1 bf2 hmem hvm
      obtain ⟨ni, hni⟩ : ∃ ni, F[i]'hil = ni := ⟨_, rfl⟩
      rw [hni] at hgm HL HSB2 HMS HTI HNT HN2 nl nt n5 hmhI hmi
      clear hni HMD
      have hK : Hid (∀ W : World, (∀ c : Nat, c ≠ t → W.heap[c]? = wr.heap[c]?) → W.cell? ⟨b, 5, none⟩ = some (.slice (some ⟨t, 0, none⟩) h h) ∧ W.cell? ⟨go, m, none⟩ = some (.pointer (some ⟨ni.b, 0, none⟩)) ∧ W.cell? ⟨ni.b, 5, none⟩ = some (.slice (some ⟨ni.t, 0, none⟩) ni.h ni.h)) := hide (fun W hW => ⟨(World.cell?_of_block (hW b HBT.out)).trans b5, (World.cell?_of_block (hW go HGT2.out)).trans hgm, (World.cell?_of_block (hW ni.b HN2.out.1)).trans n5⟩)
      have HK0 := hide (hK.out wr.drew (fun _ _ => rfl))
      have HK1 := hide (hK.out (wr.drew.setCell ⟨t, m, none⟩ (ptrO (nxtP m (F.drop (i + 1))))) (fun c hc => set_block hc _ _))
      have tk1 : True := trivial
      clear hK
      go_upto_region 14 with fail
      go_region_held3 (fun w' => w'.cell? ⟨b, 5, none⟩ = some (.slice (some ⟨t, 0, none⟩) h h) ∧ w'.cell? ⟨go, m, none⟩ = some (.pointer (some ⟨ni.b, 0, none⟩)) ∧ w'.cell? ⟨ni.b, 5, none⟩ = some (.slice (some ⟨ni.t, 0, none⟩) ni.h ni.h)) (first | exact HK0.out | exact HK1.out) (first
        | (go_at_call 43; refine (Calls.mono HL.out ?_); rintro e v1 ⟨rfl, rfl⟩)
        | (go_at_call 46; refine (Calls.mono HSA.out ?_); rintro e v1 ⟨rfl, rfl⟩))
      obtain ⟨g0, g1, g2⟩ := HK1.out
      have HS7 : Hid (Sets (fun c => c = t ∨ ∃ n ∈ F, c = n.t) w6 (wr.drew.setCell ⟨t, m, none⟩ (ptrO (nxtP m (F.drop (i + 1)))))) := hide (HST.out.drew.set (fun _ => .inl rfl) _ _)
      have HG7 : Hid ((wr.drew.setCell ⟨t, m, none⟩ (ptrO (nxtP m (F.drop (i + 1))))).heap[go]? = _) := hide ((set_block HGT2.out _ _).trans HG.out)
      have hst2 := HSB2.out (ptrO (nxtP m (F.drop (i + 1))))
      have hz7 : (wr.drew.setCell ⟨t, m, none⟩ (ptrO (nxtP m (F.drop (i + 1))))).heap.size = wr.heap.size := by simp
      have e7 : (wr.setCell ⟨t, m, none⟩ (ptrO (nxtP m (F.drop (i + 1))))).drew = wr.drew.setCell ⟨t, m, none⟩ (ptrO (nxtP m (F.drop (i + 1)))) := rfl
      obtain ⟨u1, hu1⟩ : ∃ u1, wr.drew.setCell ⟨t, m, none⟩ (ptrO (nxtP m (F.drop (i + 1)))) = u1 := ⟨_, rfl⟩
      rw [hu1] at e7 g0 g1 g2 HMS HS7 HG7 hst2 hz7
      rw [e7]
      have HT2 := hide hst2
      rw [← hz7] at nl nt bl tl hgl
      clear e7 hu1 hst2 HK0 HK1 HL HSA HSB2 hz7 hgm n5 b5 HM HG HST
      go_wp2_with fail
      refine (Calls.mono HT2.out ?_); rintro e v1 ⟨rfl, rfl⟩
      clear g0 g1 g2 nl nt bl tl
      go_wp2_with fail
      go_roundw
      case rel => exact ⟨m + 1, by omega, by go_num, HMS.out, (set_block HNT.out _ _).trans HG7.out, HS7.out.set (fun _ => .inr HTI.out.2) _ _⟩
      case measure => (simp [intOf] <;> omega)
    · obtain rfl : m = h := by omega
      have hTp : ¬ (p = t ∨ ∃ n ∈ F, p = n.t) := by
        rintro (e | ⟨c, hc, e⟩)
        · have := HS5.out.lp
          have := HTZ.out
          omega
        · exact (HD.out.2.2 c hc).2 e
      have hpb := HST.out.block p HS6.out.lp hTp
      have hpc := (World.cell?_of_block hpb).trans HS6.out.cnt
      have hpf : ∀ o, wr.frozen? ⟨p, o, none⟩ = false := fun o => (World.frozen?_of_block hpb).trans (HS6.out.fp o)
      have hpl : p < wr.heap.size := Nat.lt_of_lt_of_le HS6.out.lp HST.out.size
      have hmI : ¬ (m : Int) < (m : Int) := by omega
      have HSK := hide (HS6.out.put hqF HST.out hTp HM.out (z := w5.heap.size) ⟨HS5.out.lp, fun c hc => ⟨(HS5.out.nds.at_ c hc).lb, (HS5.out.nds.at_ c hc).lt⟩⟩ HBZ.out HTZ.out HBT.out)
      have HFR := hide (((Sets.of (S := SBlk p F) (below_step HB5.out HB6.out)).trans HST.out (fun c hc hcT => by
        rcases hcT with rfl | ⟨d, hd, rfl⟩
        · have := HTZ.out
          have := HB5.out.size
          omega
        · exact .inr ⟨d, hd, .inr rfl⟩)).set (g := p) (fun _ => .inl rfl) 1 (.int .i64 F.length))
      have HFL : Hid ((F.length : Int) - 1 + 1 = F.length) := hide (by omega)
      have hcz : (0 : Int) ≤ (F.length : Int) - 1 ∧ (F.length : Int) - 1 ≤ 1099511627776 := by omega
      obtain ⟨cn, hcn⟩ : ∃ cn, (F.length : Int) - 1 = cn := ⟨_, rfl⟩
      rw [hcn] at hpc hcz HFL
      have HBF : Hid (w.heap.size ≤ b ∧ w.heap.size ≤ t) := hide (by have := HB5.out.size; have h1 := HBZ.out; have h2 := HTZ.out; omega)
      obtain ⟨hcz1, hcz2⟩ := hcz
      clear hcn hpb hTp HST HM HG
      go_wp2_with fail
      refine bodyPost_ret (v := .tuple #[.bool true, .int .i64 0]) (by simp [results, Try.results28, go_sem]) rfl ?_
      rw [HFL.out]
      exact ⟨rfl, b, HBF.out.1, t, HBF.out.2, HSK.out, HFR.out⟩
set_option maxHeartbeats 6400000 in
set_option maxRecDepth 100000 in
theorem put_next (p : Nat) (F : List Nd) (x : It) (h : Nat) (w : World) (hS : SkAt w p F) (hF : SkOk F) (hlen : F.length ≤ 1099511627776) (hg : goodB x = true) (hh1 : 1 ≤ h) (hh6 : h ≤ 6) (hj : lowI x (itsF F) + 1 < F.length) (hsb : sameB (F[lowI x (itsF F) + 1]'hj).x x = false) :
    Calls Try.prog 28 #[.pointer (some ⟨p, 0, none⟩), x.val, .int .i64 h] w fun e w' => ∃ b t, e = .returned (.tuple #[.bool true, .int .i64 0]) ∧ w.heap.size ≤ b ∧ w.heap.size ≤ t ∧ SkAt w' p (insF F (lowI x (itsF F)) ⟨b, t, h, x⟩) ∧ Sets (SBlk p F) w w' := by
  obtain ⟨hF0, hF6, hFp⟩ := hS.pos
  have hql := low_len F x
  have hqF : lowI x (itsF F) < F.length := by omega
  have hb1 := below_alloc (Below.refl w.heap.size w) (.cells x.cells.toArray 24)
  have hbx := BxAt.box (x := x) (heap_alloc_new w (.cells x.cells.toArray 24))
  have HGD := hide (fun W => pgood_any x W)
  rw [hg] at HGD
  have HBF := hide (fun W hW => before_any p F x W (hS.below (w' := W) hW) hF.up (fun n hn => (hF.hts n hn).2))
  have HB1 := hide hb1
  have HBX := hide hbx
  have HS1 := hide hS
  have HOK := hide hF
  have HZ := hide (prv_zero hF hqF)
  have HNX := hide (nx_zero hF (lowI x (itsF F)))
  have hk0 := (hF.hts _ (List.getElem_mem hqF)).1
  have hd1 : decide ((h : Int) < 1) = false := decide_eq_false (by omega)
  have hd6 : decide (6 < (h : Int)) = false := decide_eq_false (by omega)
  have HC := hide (fun W => psame_any (F[lowI x (itsF F) + 1]'hj).x x W)
  rw [hsb] at HC
  rw [List.getElem?_eq_getElem hj] at HNX
  clear hsb
  generalize lowI x (itsF F) = q at *
  clear hS hb1 hF0 hF6 hFp hF hbx hg hql
  go_enter Try.func28, Try.ntmps28
  go_wp2_with fail
  refine (Calls.mono (HGD.out _) ?_); rintro e w1 ⟨rfl, hg1⟩
  have HB2 := hide (below_step HB1.out hg1)
  have HBX1 := hide (BxAt.kept HBX.out hg1.size (hg1.block _ HBX.out.lt))
  obtain ⟨lx, x0, x1, x2, x3, x4⟩ := HBX1.out
  clear hg1 HBX HB1
  go_wp2_with fail
  refine (Calls.mono (HBF.out _ HB2.out) ?_); rintro e w2 ⟨vs, hov, rfl, hg2⟩
  have HOV := hide hov
  have hv0 : vs[0]? = some (.pointer (some ⟨(F[q]'hqF).b, 0, none⟩)) := by
    obtain ⟨i, hi, e⟩ := hov.2.1 0 (by omega) (by omega)
    rw [e, prv_uniq hi HZ.out, bpV_at hqF]
  have HSW := hide (HS1.out.below (below_step HB2.out hg2))
  have HBX2 := hide (BxAt.kept HBX1.out hg2.size (hg2.block _ HBX1.out.lt))
  have HB3 := hide (below_step HB2.out hg2)
  clear lx x0 x1 x2 x3 x4 hg2 HBX1 HB2 HBF
  have hba := below_alloc (Below.refl w2.heap.size w2) (.cells vs.toArray 80)
  have hgo := heap_alloc_new w2 (.cells vs.toArray 80)
  have HGO := hide hgo
  have HS3 := hide (HSW.out.below hba)
  have HBX3 := hide (BxAt.kept HBX2.out hba.size (hba.block _ HBX2.out.lt))
  have HB4 := hide (below_step HB3.out hba)
  have HGZ : Hid (w.heap.size ≤ w2.heap.size) := hide HB3.out.size
  have hgoz : w2.heap.size < (w2.alloc (.cells vs.toArray 80)).heap.size := by simp
  have HNEX : Hid (w.heap.size ≠ w2.heap.size) := hide (fun e => by have := HBX2.out.lt; omega)
  have hc0 : (w2.alloc (.cells vs.toArray 80)).cell? ⟨w2.heap.size, 0, none⟩ = some (.pointer (some ⟨(F[q]'hqF).b, 0, none⟩)) := (cell_of_row _ _ 0 _ _ _ hgo).trans (by rw [List.getElem?_toArray]; exact hv0)
  have HNQ := hide (HS3.out.nds.at_ _ (List.getElem_mem hqF))
  have HLD := hide (lev_load HS3.out hqF (k := 0) (by omega))
  rw [HNX.out] at HLD
  have hhI : (0 : Int) < (((F[q]'hqF).h : Nat) : Int) := by omega
  have hhN : 0 < (F[q]'hqF).h := by omega
  have HC0 := hide hc0
  have HOA := hide (fun m (hm : m < 6) => hov.2.1 m (by omega) hm)
  obtain ⟨lb, lt, _, _, _, _, _, _, q5, _, _⟩ := HNQ.out
  obtain ⟨lx, x0, x1, x2, x3, x4⟩ := HBX3.out
  clear hov hv0 hba hgo HSW HBX2 HB3 HNQ HNX hc0
  obtain ⟨o0, o1, o2, o3, o4, o5, hvs⟩ := out_all HOV.out
  generalize (F[q]'hqF) = nq at *
  obtain rfl : o0 = some ⟨nq.b, 0, none⟩ := by
    have h1 := cell_of_row _ _ 0 _ _ _ HGO.out
    rw [HC0.out, hvs] at h1
    have := Option.some.inj h1
    injection this with this
    exact this.symm
  subst hvs
  have hc0 := HC0.out
  clear HC0
  obtain ⟨w3, hw3⟩ : ∃ w3, w2.alloc (.cells #[.pointer (some ⟨nq.b, 0, none⟩), .pointer o1, .pointer o2, .pointer o3, .pointer o4, .pointer o5] 80) = w3 := ⟨_, rfl⟩
  have hw3' : w2.alloc (.cells [Value.pointer (some ⟨nq.b, 0, none⟩), .pointer o1, .pointer o2, .pointer o3, .pointer o4, .pointer o5].toArray 80) = w3 := hw3
  rw [hw3'] at HS3 HBX3 HB4 hgoz HLD hc0 lb lt q5 lx x0 x1 x2 x3 x4 HGO
  have HW3 := hide hw3
  clear hw3 hw3'
  go_upto_region 4 with fail
  rw [show w2.alloc (.cells #[.pointer (some ⟨nq.b, 0, none⟩), .pointer o1, .pointer o2, .pointer o3, .pointer o4, .pointer o5] 80) = w3 from HW3.out]
  clear HW3
  generalize w2.heap.size = go at *
  have hps : ptrO (Option.map (fun x => x.b) (some (F[q + 1]'hj))) = .pointer (some ⟨(F[q + 1]'hj).b, 0, none⟩) := rfl
  rw [hps] at HLD
  clear hps
  go_wp2_with fail
  refine (Calls.mono HLD.out ?_); rintro e w4 ⟨rfl, rfl⟩
  clear HLD q5 hhI hhN lb lt hc0
  obtain ⟨jl, jt, jsh, j0, j1, j2, j3, j4, j5, jf1, jf2⟩ := HS3.out.nds.at_ _ (List.getElem_mem hj)
  clear jsh jf1 jf2
  obtain ⟨nj, hnj⟩ : ∃ nj, F[q + 1]'hj = nj := ⟨_, rfl⟩
  rw [hnj] at HC jl jt j0 j1 j2 j3 j4 j5 ⊢
  clear hnj
  have hnc := near_cells w4
  go_wp2_with fail
  refine wp_region_near (by kernel_rfl) (by kernel_rfl) ?_
  repeat (go_big_quiet_step ((first | (go_at_call 44; exact near_of (HC.out _)))))
  refine wpQuiet_nil ?_
  intro _ hw'
  obtain ⟨s1, rfl⟩ := hw'
  clear jl jt j0 j1 j2 j3 j4 j5 lx x0 x1 x2 x3 x4 HC hnc
  have hb5 := s1.is
  obtain ⟨w5, hw5⟩ : ∃ w5, s1.at_ = w5 := ⟨_, rfl⟩
  rw [hw5] at hb5 ⊢
  clear hw5
  have HS5 := hide (HS3.out.below hb5)
  have HB5 := hide (below_step HB4.out hb5)
  have HBX5 := hide (BxAt.kept HBX3.out hb5.size (hb5.block _ HBX3.out.lt))
  have HGO5 := hide ((hb5.block go hgoz).trans HGO.out)
  have HGZ5 := hide (Nat.lt_of_lt_of_le hgoz hb5.size)
  obtain ⟨lx, x0, x1, x2, x3, x4⟩ := HBX5.out
  clear HS3 HB4 HBX3 HGO hgoz hb5
  have HTW := hide (fun W => tower_any x h W hh6)
  go_wp2_with fail
  refine (Calls.mono (HTW.out _) ?_); rintro e w6 ⟨b, t, rfl, hbz, htz, hbt, hnd, hcl, hg6⟩
  have HMX := hide (Mix.zero (q := q) (HS5.out.below hg6).nds hnd hcl)
  have HBZ := hide hbz
  have HTZ := hide htz
  have HBT := hide hbt
  have HB6 := hide hg6
  have HS6 := hide (HS5.out.below hg6)
  have HGO6 := hide ((hg6.block go HGZ5.out).trans HGO5.out)
  have HGZ6 := hide (Nat.lt_of_lt_of_le HGZ5.out hg6.size)
  have HGT : Hid (∀ c ∈ F, go ≠ c.t) := hide (fun c hc e => by have := (HS1.out.nds.at_ c hc).lt; have := HGZ.out; omega)
  have HGT2 : Hid (go ≠ t) := hide (fun e => by have := HGZ5.out; omega)
  have HD := hide (dis_parts HS6.out.dis)
  have HF5 : Hid (∀ c ∈ F, c.b ≠ t ∧ c.t ≠ t ∧ b ≠ c.t) := hide (fun c hc => by have h1 := (HS5.out.nds.at_ c hc).lt; have h2 := (HS5.out.nds.at_ c hc).lb; omega)
  clear lx x0 x1 x2 x3 x4 hbz htz hbt hnd hcl hg6 HBX5 HGO5 HTW
  have hh6I : (h : Int) ≤ 6 := by omega
  go_wp2_with fail
  go_loopw [12, 60] (fun tv hv wr => ∃ m : Nat, m ≤ h ∧ hv = .int .i64 (m : Int) ∧ Mix wr F q ⟨b, t, h, x⟩ m ∧ wr.heap[go]? = some (.cells #[.pointer (some ⟨nq.b, 0, none⟩), .pointer o1, .pointer o2, .pointer o3, .pointer o4, .pointer o5] 80 (0, 0)) ∧ Sets (fun c => c = t ∨ ∃ n ∈ F, c = n.t) w6 wr) (fun _ hv _ => h - (intOf hv).toNat)
  case atStart => exact ⟨0, by omega, rfl, HMX.out, HGO6.out, Sets.refl _⟩
  case round =>
    obtain ⟨m, hm, rfl, hmx, hgo, hst⟩ := hrel
    have HM := hide hmx
    have HG := hide hgo
    have HST := hide hst
    clear hmx hgo hst
    by_cases hmh : m < h
    · obtain ⟨i, hprv, hvm⟩ := HOV.out.2.1 m (by omega) (by omega)
      have HPV := hide hprv
      obtain ⟨hiq, ⟨hil, hmi⟩, _⟩ := hprv
      have hgm : wr.cell? ⟨go, m, none⟩ = some (.pointer (some ⟨(F[i]'hil).b, 0, none⟩)) := (cell_of_row _ go m _ _ _ HG.out).trans (by rw [List.getElem?_toArray, hvm, bpV_at hil])
      have hmem : (F[i]'hil) ∈ F := List.getElem_mem hil
      have HMD := hide (HM.out.heap (w' := wr.drew) (fun _ => rfl) (Nat.le_refl _))
      have HL := hide (HMD.out.load hil hmi)
      have HSA := hide (HMD.out.store hmh i)
      have HSB2 := hide (fun u => HMD.out.store2 hil hmi (HF5.out _ hmem).2.1 HBT.out u)
      have HMS := hide (HMD.out.step hqF hmh HPV.out hil (fun i j hi hj e => (HD.out.1 i j hi hj e).2) (fun c hc d hd => by obtain ⟨i, hi, rfl⟩ := List.mem_iff_getElem.1 hc; obtain ⟨j, hj, rfl⟩ := List.mem_iff_getElem.1 hd; exact HD.out.2.1 i j hi hj) HF5.out HBT.out)
      have HTI : Hid (w6.heap.size ≤ w6.heap.size ∧ ∃ n ∈ F, (F[i]'hil).t = n.t) := hide ⟨Nat.le_refl _, _, hmem, rfl⟩
      have HNT := hide (HGT.out _ hmem)
      have HN2 := hide (HF5.out _ hmem)
      obtain ⟨nl, nt, nsh, n0, n1, n2, n3, n4, n5, nf1, nf2⟩ := HM.out.at_ _ hmem
      obtain ⟨bl, tl, bsh, b0, b1, b2, b3, b4, b5, bf1, bf2⟩ := HM.out.new
      have hgl : go < wr.heap.size := (Array.getElem?_eq_some_iff.1 HG.out).1
      have hmI : (m : Int) < (h : Int) := by omega
      have hmhI : (m : Int) < (((F[i]'hil).h : Nat) : Int) := by omega
      have hm6 : (m : Int) < 6 := by omega
      clear nsh n0 n1 n2 n3 n4 nf1 nf2 bsh b0 b1 b2 b3 b4 bf1 bf2 hmem hvm
      obtain ⟨ni, hni⟩ : ∃ ni, F[i]'hil = ni := ⟨_, rfl⟩
      rw [hni] at hgm HL HSB2 HMS HTI HNT HN2 nl nt n5 hmhI hmi
      clear hni HMD
      have hK : Hid (∀ W : World, (∀ c : Nat, c ≠ t → W.heap[c]? = wr.heap[c]?) → W.cell? ⟨b, 5, none⟩ = some (.slice (some ⟨t, 0, none⟩) h h) ∧ W.cell? ⟨go, m, none⟩ = some (.pointer (some ⟨ni.b, 0, none⟩)) ∧ W.cell? ⟨ni.b, 5, none⟩ = some (.slice (some ⟨ni.t, 0, none⟩) ni.h ni.h)) := hide (fun W hW => ⟨(World.cell?_of_block (hW b HBT.out)).trans b5, (World.cell?_of_block (hW go HGT2.out)).trans hgm, (World.cell?_of_block (hW ni.b HN2.out.1)).trans n5⟩)
      have HK0 := hide (hK.out wr.drew (fun _ _ => rfl))
      have HK1 := hide (hK.out (wr.drew.setCell ⟨t, m, none⟩ (ptrO (nxtP m (F.drop (i + 1))))) (fun c hc => set_block hc _ _))
      have tk1 : True := trivial
      clear hK
      go_upto_region 14 with fail
      go_region_held3 (fun w' => w'.cell? ⟨b, 5, none⟩ = some (.slice (some ⟨t, 0, none⟩) h h) ∧ w'.cell? ⟨go, m, none⟩ = some (.pointer (some ⟨ni.b, 0, none⟩)) ∧ w'.cell? ⟨ni.b, 5, none⟩ = some (.slice (some ⟨ni.t, 0, none⟩) ni.h ni.h)) (first | exact HK0.out | exact HK1.out) (first
        | (go_at_call 43; refine (Calls.mono HL.out ?_); rintro e v1 ⟨rfl, rfl⟩)
        | (go_at_call 46; refine (Calls.mono HSA.out ?_); rintro e v1 ⟨rfl, rfl⟩))
      obtain ⟨g0, g1, g2⟩ := HK1.out
      have HS7 : Hid (Sets (fun c => c = t ∨ ∃ n ∈ F, c = n.t) w6 (wr.drew.setCell ⟨t, m, none⟩ (ptrO (nxtP m (F.drop (i + 1)))))) := hide (HST.out.drew.set (fun _ => .inl rfl) _ _)
      have HG7 : Hid ((wr.drew.setCell ⟨t, m, none⟩ (ptrO (nxtP m (F.drop (i + 1))))).heap[go]? = _) := hide ((set_block HGT2.out _ _).trans HG.out)
      have hst2 := HSB2.out (ptrO (nxtP m (F.drop (i + 1))))
      have hz7 : (wr.drew.setCell ⟨t, m, none⟩ (ptrO (nxtP m (F.drop (i + 1))))).heap.size = wr.heap.size := by simp
      have e7 : (wr.setCell ⟨t, m, none⟩ (ptrO (nxtP m (F.drop (i + 1))))).drew = wr.drew.setCell ⟨t, m, none⟩ (ptrO (nxtP m (F.drop (i + 1)))) := rfl
      obtain ⟨u1, hu1⟩ : ∃ u1, wr.drew.setCell ⟨t, m, none⟩ (ptrO (nxtP m (F.drop (i + 1)))) = u1 := ⟨_, rfl⟩
      rw [hu1] at e7 g0 g1 g2 HMS HS7 HG7 hst2 hz7
      rw [e7]
      have HT2 := hide hst2
      rw [← hz7] at nl nt bl tl hgl
      clear e7 hu1 hst2 HK0 HK1 HL HSA HSB2 hz7 hgm n5 b5 HM HG HST
      go_wp2_with fail
      refine (Calls.mono HT2.out ?_); rintro e v1 ⟨rfl, rfl⟩
      clear g0 g1 g2 nl nt bl tl
      go_wp2_with fail
      go_roundw
      case rel => exact ⟨m + 1, by omega, by go_num, HMS.out, (set_block HNT.out _ _).trans HG7.out, HS7.out.set (fun _ => .inr HTI.out.2) _ _⟩
      case measure => (simp [intOf] <;> omega)
    · obtain rfl : m = h := by omega
      have hTp : ¬ (p = t ∨ ∃ n ∈ F, p = n.t) := by
        rintro (e | ⟨c, hc, e⟩)
        · have := HS5.out.lp
          have := HTZ.out
          omega
        · exact (HD.out.2.2 c hc).2 e
      have hpb := HST.out.block p HS6.out.lp hTp
      have hpc := (World.cell?_of_block hpb).trans HS6.out.cnt
      have hpf : ∀ o, wr.frozen? ⟨p, o, none⟩ = false := fun o => (World.frozen?_of_block hpb).trans (HS6.out.fp o)
      have hpl : p < wr.heap.size := Nat.lt_of_lt_of_le HS6.out.lp HST.out.size
      have hmI : ¬ (m : Int) < (m : Int) := by omega
      have HSK := hide (HS6.out.put hqF HST.out hTp HM.out (z := w5.heap.size) ⟨HS5.out.lp, fun c hc => ⟨(HS5.out.nds.at_ c hc).lb, (HS5.out.nds.at_ c hc).lt⟩⟩ HBZ.out HTZ.out HBT.out)
      have HFR := hide (((Sets.of (S := SBlk p F) (below_step HB5.out HB6.out)).trans HST.out (fun c hc hcT => by
        rcases hcT with rfl | ⟨d, hd, rfl⟩
        · have := HTZ.out
          have := HB5.out.size
          omega
        · exact .inr ⟨d, hd, .inr rfl⟩)).set (g := p) (fun _ => .inl rfl) 1 (.int .i64 F.length))
      have HFL : Hid ((F.length : Int) - 1 + 1 = F.length) := hide (by omega)
      have hcz : (0 : Int) ≤ (F.length : Int) - 1 ∧ (F.length : Int) - 1 ≤ 1099511627776 := by omega
      obtain ⟨cn, hcn⟩ : ∃ cn, (F.length : Int) - 1 = cn := ⟨_, rfl⟩
      rw [hcn] at hpc hcz HFL
      have HBF : Hid (w.heap.size ≤ b ∧ w.heap.size ≤ t) := hide (by have := HB5.out.size; have h1 := HBZ.out; have h2 := HTZ.out; omega)
      obtain ⟨hcz1, hcz2⟩ := hcz
      clear hcn hpb hTp HST HM HG
      go_wp2_with fail
      refine bodyPost_ret (v := .tuple #[.bool true, .int .i64 0]) (by simp [results, Try.results28, go_sem]) rfl ?_
      rw [HFL.out]
      exact ⟨rfl, b, HBF.out.1, t, HBF.out.2, HSK.out, HFR.out⟩
end Go.Proofs.Ytoejhekmfgkklaa
