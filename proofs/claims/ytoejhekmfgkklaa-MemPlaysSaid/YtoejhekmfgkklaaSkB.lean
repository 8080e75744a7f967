/- skip.List.before: a contract. Conditions: the list as it reads; its items rise. -/
import Derived.Test.YtoejhekmfgkklaaSkM
import Derived.Test.YtoejhekmfgkklaaStRef
import Derived.BigQuiet
import Derived.Deep.LoopGhost
namespace Go.Proofs.Ytoejhekmfgkklaa
set_option linter.unusedVariables false
set_option linter.unusedSimpArgs false
open Go.ChangeShapes Go.WideShapes Go.ChangeAt Go.RowKit

/-- An item in memory at the head of a block. -/
structure BxAt (w : World) (g : Nat) (x : It) : Prop where
  lt : g < w.heap.size
  c0 : w.cell? ⟨g, 0, none⟩ = some (.int .i64 x.s)
  c1 : w.cell? ⟨g, 1, none⟩ = some (.int .i64 x.k)
  c2 : w.cell? ⟨g, 2, none⟩ = some (.int .u64 x.t)
  c3 : w.cell? ⟨g, 3, none⟩ = some (.int .u64 x.v)
  c4 : w.cell? ⟨g, 4, none⟩ = some (.int .i64 x.x)
theorem BxAt.kept {w w' : World} {g : Nat} {x : It} (h : BxAt w g x) (hz : w.heap.size ≤ w'.heap.size) (hb : w'.heap[g]? = w.heap[g]?) : BxAt w' g x :=
  ⟨Nat.lt_of_lt_of_le h.lt hz, (World.cell?_of_block hb).trans h.c0, (World.cell?_of_block hb).trans h.c1, (World.cell?_of_block hb).trans h.c2, (World.cell?_of_block hb).trans h.c3, (World.cell?_of_block hb).trans h.c4⟩
theorem BxAt.box {w : World} {g : Nat} {x : It} {t : TypeId} {fr : Nat × Nat} (h : w.heap[g]? = some (.cells #[.int .i64 x.s, .int .i64 x.k, .int .u64 x.t, .int .u64 x.v, .int .i64 x.x] t fr)) : BxAt w g x :=
  ⟨(Array.getElem?_eq_some_iff.1 h).1, (cell_of_row w g 0 _ _ _ h).trans rfl, (cell_of_row w g 1 _ _ _ h).trans rfl, (cell_of_row w g 2 _ _ _ h).trans rfl, (cell_of_row w g 3 _ _ _ h).trans rfl, (cell_of_row w g 4 _ _ _ h).trans rfl⟩
/-- Items of nodes behind the head. -/
def itsF (F : List Nd) : List It := (F.drop 1).map (·.x)
theorem itsF_get {F : List Nd} {j : Nat} (h0 : 0 < j) (hj : j < F.length) (h : j - 1 < (itsF F).length) : (itsF F)[j - 1] = F[j].x := by
  unfold itsF
  simp
  congr 2
  omega
theorem less_in {F : List Nd} {x : It} {j : Nat} (h0 : 0 < j) (hj : j < F.length) (h : j ≤ lowI x (itsF F)) : ltB F[j].x x = true := by
  have hl : j - 1 < (itsF F).length := by unfold itsF; simp; omega
  rw [← itsF_get h0 hj hl]
  exact low_lt x _ _ hl (by omega)
theorem less_out {F : List Nd} {x : It} (hr : Rising (itsF F)) {j : Nat} (h0 : 0 < j) (hj : j < F.length) (h : lowI x (itsF F) < j) : ltB F[j].x x = false := by
  have hl : j - 1 < (itsF F).length := by unfold itsF; simp; omega
  rw [← itsF_get h0 hj hl]
  exact low_ge hr hl (by omega)
theorem low_len (F : List Nd) (x : It) : lowI x (itsF F) ≤ F.length - 1 := by
  have := low_le x (itsF F)
  unfold itsF at *
  simpa using this
def bpV (F : List Nd) (i : Nat) : Value := .pointer (F[i]?.map fun n => ⟨n.b, 0, none⟩)
theorem bpV_at {F : List Nd} {i : Nat} (h : i < F.length) : bpV F i = .pointer (some ⟨F[i].b, 0, none⟩) := by unfold bpV; simp [h]
/-- The six last nodes ahead of place q, from level k on. -/
def OutAt (F : List Nd) (q k : Nat) (vs : List Value) : Prop := vs.length = 6 ∧ (∀ m, k ≤ m → m < 6 → ∃ i, IsPrv F m q i ∧ vs[m]? = some (bpV F i)) ∧ ∀ m, m < k → m < 6 → vs[m]? = some (.pointer none)
theorem out_first (F : List Nd) (q : Nat) : OutAt F q 6 (List.replicate 6 (Value.pointer none)) := ⟨by simp, fun m h1 h2 => by omega, fun m _ h2 => by rw [List.getElem?_replicate, if_pos h2]⟩
theorem out_next {F : List Nd} {q k i : Nat} {vs : List Value} (h : OutAt F q (k + 1) vs) (hk : k < 6) (hi : IsPrv F k q i) : OutAt F q k (vs.set k (bpV F i)) := by
  obtain ⟨h1, h2, h3⟩ := h
  refine ⟨by simpa using h1, fun m a b => ?_, fun m a b => ?_⟩
  · by_cases e : m = k
    · subst e; exact ⟨i, hi, by rw [List.getElem?_set_self (by omega)]⟩
    · obtain ⟨j, hj, hv⟩ := h2 m (by omega) b
      exact ⟨j, hj, by rw [List.getElem?_set_ne (by omega)]; exact hv⟩
  · rw [List.getElem?_set_ne (by omega)]
    exact h3 m (by omega) b

theorem out_all {F : List Nd} {q : Nat} {vs : List Value} (h : OutAt F q 0 vs) : ∃ o0 o1 o2 o3 o4 o5 : Option Addr, vs = [.pointer o0, .pointer o1, .pointer o2, .pointer o3, .pointer o4, .pointer o5] := by
  obtain ⟨h1, h2, _⟩ := h
  have hx : ∀ m, m < 6 → ∃ o : Option Addr, vs[m]? = some (.pointer o) := fun m hm => by
    obtain ⟨i, _, e⟩ := h2 m (by omega) hm
    exact ⟨_, e⟩
  obtain ⟨o0, e0⟩ := hx 0 (by omega)
  obtain ⟨o1, e1⟩ := hx 1 (by omega)
  obtain ⟨o2, e2⟩ := hx 2 (by omega)
  obtain ⟨o3, e3⟩ := hx 3 (by omega)
  obtain ⟨o4, e4⟩ := hx 4 (by omega)
  obtain ⟨o5, e5⟩ := hx 5 (by omega)
  match vs, h1, e0, e1, e2, e3, e4, e5 with
  | [a, b, c, d, e, f], _, e0, e1, e2, e3, e4, e5 =>
    have f0 : a = .pointer o0 := Option.some.inj e0
    have f1 : b = .pointer o1 := Option.some.inj e1
    have f2 : c = .pointer o2 := Option.some.inj e2
    have f3 : d = .pointer o3 := Option.some.inj e3
    have f4 : e = .pointer o4 := Option.some.inj e4
    have f5 : f = .pointer o5 := Option.some.inj e5
    subst f0 f1 f2 f3 f4 f5
    exact ⟨o0, o1, o2, o3, o4, o5, rfl⟩
theorem put6 {w : World} {g : Nat} {a0 a1 a2 a3 a4 a5 : Value} {t : TypeId} (v0 v1 v2 v3 v4 v5 : Value) (h : w.heap[g]? = some (.cells #[a0, a1, a2, a3, a4, a5] t (0, 0))) :
    ((((((w.setCell ⟨g, 0, none⟩ v0).setCell ⟨g, 1, none⟩ v1).setCell ⟨g, 2, none⟩ v2).setCell ⟨g, 3, none⟩ v3).setCell ⟨g, 4, none⟩ v4).setCell ⟨g, 5, none⟩ v5).heap[g]? = some (.cells #[v0, v1, v2, v3, v4, v5] t (0, 0)) := by
  simp [World.setCell, Array.getElem?_modify, h]
theorem six_cells {w : World} {g : Nat} {v0 v1 v2 v3 v4 v5 : Value} {t : TypeId} {fr : Nat × Nat} (h : w.heap[g]? = some (.cells #[v0, v1, v2, v3, v4, v5] t fr)) :
    w.cell? ⟨g, 0, none⟩ = some v0 ∧ w.cell? ⟨g, 1, none⟩ = some v1 ∧ w.cell? ⟨g, 2, none⟩ = some v2 ∧ w.cell? ⟨g, 3, none⟩ = some v3 ∧ w.cell? ⟨g, 4, none⟩ = some v4 ∧ w.cell? ⟨g, 5, none⟩ = some v5 :=
  ⟨(cell_of_row w g 0 _ _ _ h).trans rfl, (cell_of_row w g 1 _ _ _ h).trans rfl, (cell_of_row w g 2 _ _ _ h).trans rfl, (cell_of_row w g 3 _ _ _ h).trans rfl, (cell_of_row w g 4 _ _ _ h).trans rfl, (cell_of_row w g 5 _ _ _ h).trans rfl⟩
theorem lev_load {w : World} {p : Nat} {F : List Nd} (hS : SkAt w p F) {i k : Nat} (hi : i < F.length) (hk : k < (F[i]'hi).h) : Calls Try.prog 43 #[.pointer (some ⟨(F[i]'hi).t, k, none⟩)] w fun e w' => e = .returned (ptrO (nxtP k (F.drop (i + 1)))) ∧ w' = w := by
  have hc := hS.nds.lev i hi k hk
  rcases nx_cases F k i with ⟨e, _⟩ | ⟨j, hj, _, _, e, _⟩
  · rw [e] at hc ⊢
    exact load_any _ _ _ _ hc trivial
  · rw [e] at hc ⊢
    exact load_any _ _ _ _ hc (hS.nds.at_ _ (List.getElem_mem hj)).ptr
set_option maxHeartbeats 6400000 in
set_option maxRecDepth 100000 in
theorem before_any (p : Nat) (F : List Nd) (x : It) (w : World) (hS : SkAt w p F) (hr : Rising (itsF F)) (hh : ∀ n ∈ F, n.h ≤ 6) :
    Calls Try.prog 42 #[.pointer (some ⟨p, 0, none⟩), x.val] w fun e w' => ∃ vs, OutAt F (lowI x (itsF F)) 0 vs ∧ e = .returned (.agg vs.toArray) ∧ Below w.heap.size w w' := by
  obtain ⟨hF0, hF6, hFp⟩ := hS.pos
  have hlp := hS.lp
  have HS := hide hS
  have HUP := hide hr
  have HH := hide hh
  have hql := low_len F x
  have HLI := hide (fun (j : Nat) (hj : j < F.length) (h0 : 0 < j) h => less_in (x := x) h0 hj h)
  have HLO := hide (fun (j : Nat) (hj : j < F.length) (h0 : 0 < j) h => less_out (x := x) hr h0 hj h)
  generalize lowI x (itsF F) = q at *
  have hH0 : Hid (∀ k, k < 6 → k < (F[0]'hF0).h) := hide (fun k hk => by omega)
  have HP0 : Hid (bpV F 0 = .pointer (some ⟨(F[0]'hF0).b, 0, none⟩)) := hide (bpV_at hF0)
  rw [← HP0.out] at hFp
  clear hS hr hh hF6 HP0
  have hpz : 0 < F.length := hF0
  obtain ⟨hv, hhv⟩ : ∃ hv : Option Addr, bpV F 0 = .pointer hv := ⟨_, rfl⟩
  have HHV := hide hhv
  rw [hhv] at hFp
  clear hhv
  have hlp1 : p < w.heap.size + 1 := by omega
  have hlp2 : p < w.heap.size + 1 + 1 := by omega
  have g := al3s w (.cells x.cells.toArray 24) (.cells #[.pointer none, .pointer none, .pointer none, .pointer none, .pointer none, .pointer none] 80) (.cells #[.pointer none, .pointer none, .pointer none, .pointer none, .pointer none, .pointer none] 80)
  have g0 : (((w.alloc (.cells x.cells.toArray 24)).alloc (.cells #[.pointer none, .pointer none, .pointer none, .pointer none, .pointer none, .pointer none] 80)).alloc (.cells #[.pointer none, .pointer none, .pointer none, .pointer none, .pointer none, .pointer none] 80)).heap[w.heap.size]? = some (.cells x.cells.toArray 24) := (Below.heap_alloc _ _ _ (by simp; omega)).trans ((Below.heap_alloc _ _ _ (by simp)).trans (heap_alloc_new w _))
  obtain ⟨W, hW⟩ : ∃ W, ((w.alloc (.cells x.cells.toArray 24)).alloc (.cells #[.pointer none, .pointer none, .pointer none, .pointer none, .pointer none, .pointer none] 80)).alloc (.cells #[.pointer none, .pointer none, .pointer none, .pointer none, .pointer none, .pointer none] 80) = W := ⟨_, rfl⟩
  have hFp3 : (((w.alloc (.cells #[.int .i64 x.s, .int .i64 x.k, .int .u64 x.t, .int .u64 x.v, .int .i64 x.x] 24)).alloc (.cells #[.pointer none, .pointer none, .pointer none, .pointer none, .pointer none, .pointer none] 80)).alloc (.cells #[.pointer none, .pointer none, .pointer none, .pointer none, .pointer none, .pointer none] 80)).cell? ⟨p, 0, none⟩ = some (.pointer hv) := (g.2.2.cell (p := ⟨p, 0, none⟩) hlp).trans hFp
  rw [hW] at g g0
  obtain ⟨g1, g2, g3⟩ := g
  have HG0 := hide (BxAt.box (x := x) g0)
  have HG1 := hide g1
  have HG2 := hide g2
  have HG3 := hide g3
  have HWW := hide hW
  clear g0 g1 g2 g3 hW
  go_enter Try.func42, Try.ntmps42
  go_wp2_with fail
  rw [show ((w.alloc (.cells #[.int .i64 x.s, .int .i64 x.k, .int .u64 x.t, .int .u64 x.v, .int .i64 x.x] 24)).alloc (.cells #[.pointer none, .pointer none, .pointer none, .pointer none, .pointer none, .pointer none] 80)).alloc (.cells #[.pointer none, .pointer none, .pointer none, .pointer none, .pointer none, .pointer none] 80) = W from HWW.out]
  clear hFp3 hlp1 hlp2 HWW hFp
  have hgA : w.heap.size ≤ w.heap.size + 1 + 1 := by omega
  have hgB : w.heap.size ≤ w.heap.size + 1 := by omega
  have hne1 : w.heap.size + 1 ≠ w.heap.size + 1 + 1 := by omega
  have hne2 : w.heap.size ≠ w.heap.size + 1 + 1 := by omega
  have hne3 : w.heap.size ≠ w.heap.size + 1 := by omega
  obtain ⟨gx, hgx⟩ : ∃ gx, w.heap.size = gx := ⟨_, rfl⟩
  have HGX := hide hgx
  rw [hgx] at hgA hgB hne1 hne2 hne3 HG0 HG1 HG2 ⊢
  clear hgx
  generalize gx + 1 + 1 = go at *
  generalize gx + 1 = g4 at *
  go_loopw [6, 7] (fun at_ hv wr => ∃ k a : Nat, k ≤ 6 ∧ hv = .int .i64 ((k : Int) - 1) ∧ a ≤ q ∧ (∃ ha : a < F.length, at_ = bpV F a ∧ k ≤ (F[a]'ha).h) ∧ BxAt wr gx x ∧ (∃ vs, OutAt F q k vs ∧ wr.heap[go]? = some (.cells vs.toArray 80 (0, 0))) ∧ wr.heap[g4]? = some (.cells #[.pointer none, .pointer none, .pointer none, .pointer none, .pointer none, .pointer none] 80 (0, 0)) ∧ Below w.heap.size w wr) (fun _ hv _ => (intOf hv + 1).toNat)
  case atStart => exact ⟨6, 0, by omega, rfl, by omega, ⟨hpz, HHV.out.symm, by have := hH0.out 5 (by omega); omega⟩, HG0.out, ⟨_, out_first F q, HG2.out⟩, HG1.out, HG3.out⟩
  case round =>
    obtain ⟨k, a, hk, rfl, haq, ⟨ha, rfl, hka⟩, hbx, ⟨vs, hov, hgo⟩, hg4, hb⟩ := hrel
    have HBX := hide hbx
    have HOV := hide hov
    have HGO := hide hgo
    have HG4 := hide hg4
    have HB := hide hb
    have hgoz : go < wr.heap.size := (Array.getElem?_eq_some_iff.1 hgo).1
    have hgxz : gx < wr.heap.size := hbx.lt
    clear hbx hov hgo hg4 hb HG0 HG1 HG2 HG3
    by_cases hk0 : k = 0
    · subst hk0
      have hov := HOV.out
      obtain ⟨o0, o1, o2, o3, o4, o5, rfl⟩ := out_all hov
      clear hov
      obtain ⟨c0, c1, c2, c3, c4, c5⟩ := six_cells HGO.out
      obtain ⟨d0, d1, d2, d3, d4, d5⟩ := six_cells HG4.out
      have hfz := free_at HG4.out
      have hg4z : g4 < wr.heap.size := (Array.getElem?_eq_some_iff.1 HG4.out).1
      have hb0 := HB.out
      have HGA : Hid (w.heap.size ≤ g4) := hide (by rw [HGX.out]; exact hgB)
      clear hb0
      go_wp2_with fail
      obtain ⟨r0, r1, r2, r3, r4, r5⟩ := six_cells (put6 (.pointer o0) (.pointer o1) (.pointer o2) (.pointer o3) (.pointer o4) (.pointer o5) HG4.out)
      refine bodyPost_ret (v := .agg #[.pointer o0, .pointer o1, .pointer o2, .pointer o3, .pointer o4, .pointer o5]) (by simp [results, Try.results42, go_sem, r0, r1, r2, r3, r4, r5]) rfl ?_
      exact ⟨_, HOV.out, rfl, (((((HB.out.setCell HGA.out _).setCell HGA.out _).setCell HGA.out _).setCell HGA.out _).setCell HGA.out _).setCell HGA.out _⟩
    · obtain ⟨n, rfl⟩ : ∃ n, k = n + 1 := ⟨k - 1, by omega⟩
      have hnv : (((n + 1 : Nat) : Int) - 1) = (n : Int) := by omega
      rw [hnv]
      have hn6 : (n : Int) < 6 := by omega
      have hn0 : ¬ (n : Int) < 0 := by omega
      have hn0' : (0 : Int) ≤ (n : Int) := by omega
      have HSW := hide (HS.out.below HB.out)
      have hld := lev_load HSW.out ha (k := n) (by omega)
      have hnd := HSW.out.nds.at_ _ (List.getElem_mem ha)
      have hbp := bpV_at ha
      have hnh : ((n : Int)) < (((F[a]'ha).h : Nat) : Int) := by omega
      rw [hbp]
      have HLD := hide hld
      obtain ⟨lb, lt, sh, q0, q1, q2, q3, q4, q5, fb, ft⟩ := hnd
      clear hld sh fb ft q0 q1 q2 q3 q4 hnv
      have HBP := hide hbp
      clear hbp
      generalize hgn : F[a]'ha = nd at *
      have HGN := hide hgn
      clear hgn
      go_wp2_with fail
      refine (Calls.mono HLD.out ?_); rintro e w1 ⟨rfl, rfl⟩
      have hg4z : g4 < w1.heap.size := (Array.getElem?_eq_some_iff.1 HG4.out).1
      clear q5 lb lt
      go_wp2_with fail
      go_loopg [6, 8] (F.length - a) (fun g at_ nv wr => ∃ i, i ≤ q ∧ g = F.length - i ∧ (∃ hi : i < F.length, n < (F[i]'hi).h ∧ at_ = .pointer (some ⟨(F[i]'hi).b, 0, none⟩)) ∧ nv = ptrO (nxtP n (F.drop (i + 1))) ∧ Below w1.heap.size w1 wr)
      case atStart => exact ⟨a, haq, rfl, ⟨ha, by rw [HGN.out]; omega, by rw [HGN.out]⟩, rfl, Below.refl _ _⟩
      case round =>
        obtain ⟨i, hiq, rfl, ⟨hi, hni, rfl⟩, rfl, hb⟩ := hrel
        have HBR := hide hb
        have HSR := hide (HSW.out.below hb)
        have HBXR := hide (BxAt.kept HBX.out hb.size (hb.block gx hgxz))
        have hnc := near_cells wr
        obtain ⟨xl, x0, x1, x2, x3, x4⟩ := HBXR.out
        clear hb
        rcases nx_cases F n i with ⟨hnone, hall⟩ | ⟨j, hj, hij, hnj, hsome, hbet⟩
        · rw [hnone]
          have hpn : ptrO none = .pointer none := rfl
          rw [hpn]
          have hprv : IsPrv F n q i := ⟨hiq, ⟨hi, hni⟩, fun j' hj' h1 h2 => hall j' hj' h1⟩
          have HPV := hide (out_next HOV.out (by omega) hprv)
          clear hprv
          clear hnone hall hpn
          go_wp2_with fail
          refine wp_region_near (by kernel_rfl) (by kernel_rfl) ?_
          repeat (go_big_quiet_step (fail))
          refine wpQuiet_nil ?_
          intro _ hw'
          obtain ⟨s1, rfl⟩ := hw'
          have hgs : s1.at_.heap[go]? = some (.cells vs.toArray 80 (0, 0)) := (s1.is.block go (by have := HBR.out.size; omega)).trans ((HBR.out.block go hgoz).trans HGO.out)
          have hgs4 : s1.at_.heap[g4]? = some (.cells #[.pointer none, .pointer none, .pointer none, .pointer none, .pointer none, .pointer none] 80 (0, 0)) := (s1.is.block g4 (by have := HBR.out.size; omega)).trans ((HBR.out.block g4 hg4z).trans HG4.out)
          have hvn : vs[n]? = some (.pointer none) := HOV.out.2.2 n (by omega) (by omega)
          have hcn : s1.at_.cell? ⟨go, n, none⟩ = some (.pointer none) := (cell_of_row _ go n _ _ _ hgs).trans (by rw [List.getElem?_toArray]; exact hvn)
          have hfz := free_at hgs
          have HST := hide (heap_set (o := n) (u := bpV F i) hgs)
          have HS4 := hide ((Below.heap_setCell s1.at_ ⟨go, n, none⟩ (bpV F i) g4 (fun e => hne1 (by simpa using e))).trans hgs4)
          have HBB : Hid (BxAt (s1.at_.setCell ⟨go, n, none⟩ (bpV F i)) gx x) := hide (BxAt.kept (BxAt.kept (BxAt.kept HBX.out HBR.out.size (HBR.out.block gx hgxz)) s1.is.size (s1.is.block gx (by have := HBR.out.size; omega))) (by simp) (Below.heap_setCell _ _ _ _ (fun e => hne2 (by simpa using e))))
          have HBF : Hid (Below w.heap.size w (s1.at_.setCell ⟨go, n, none⟩ (bpV F i))) := hide ((below_step (below_step HB.out HBR.out) s1.is).setCell (by rw [HGX.out]; exact hgA) _)
          rw [bpV_at hi] at HST HS4 HBB HBF
          clear hgs hgs4 hvn
          go_wp2_with fail
          go_roundw
          case rel => exact ⟨n, i, by omega, by go_num, hiq, ⟨hi, (bpV_at hi).symm, by omega⟩, HBB.out, ⟨_, HPV.out, by rw [bpV_at hi]; exact HST.out⟩, HS4.out, HBF.out⟩
          case measure => (simp [intOf] <;> omega)
        · rw [hsome]
          have hps : ptrO (some (F[j]'hj).b) = .pointer (some ⟨(F[j]'hj).b, 0, none⟩) := rfl
          rw [hps]
          have hnd := HSR.out.nds.at_ _ (List.getElem_mem hj)
          have hlj := hnd.lb
          obtain ⟨_, ltj, _, z0, z1, z2, z3, z4, z5, _, _⟩ := hnd
          have hcl := fun W => pless_any (F[j]'hj).x x W
          by_cases hjq : j ≤ q
          · rw [HLI.out j hj (by omega) hjq] at hcl
            have HC := hide hcl
            have HLJ := hide (fun W (hW : Below wr.heap.size wr W) => lev_load (HSR.out.below hW) hj hnj)
            have HZ5 : Hid (∀ W, Below wr.heap.size wr W → NdAt W (F[j]'hj)) := hide (fun W hW => (HSR.out.below hW).nds.at_ _ (List.getElem_mem hj))
            have hnjI : ((n : Int)) < (((F[j]'hj).h : Nat) : Int) := by omega
            have HJ2 : Hid (∃ hj' : j < F.length, n < (F[j]'hj').h ∧ Value.pointer (some ⟨(F[j]'hj).b, 0, none⟩) = Value.pointer (some ⟨(F[j]'hj').b, 0, none⟩)) := hide ⟨hj, hnj, rfl⟩
            clear hsome hbet hps hcl
            generalize (F[j]'hj) = nj at *
            go_wp2_with fail
            refine wp_region_near (by kernel_rfl) (by kernel_rfl) ?_
            repeat (go_big_quiet_step ((first | (go_at_call 52; exact near_of (HC.out _)))))
            refine wpQuiet_nil ?_
            intro _ hw'
            obtain ⟨s1, rfl⟩ := hw'
            obtain ⟨_, lts, _, r0, r1, r2, r3, r4, r5, _, _⟩ := HZ5.out _ s1.is
            go_wp2_with fail
            refine (Calls.mono (HLJ.out _ s1.is) ?_); rintro e w5 ⟨rfl, rfl⟩
            go_wp2_with fail
            go_roundg (F.length - j)
            case measure => omega
            case rel => exact ⟨j, hjq, rfl, HJ2.out, rfl, below_step HBR.out s1.is⟩
          · rw [HLO.out j hj (by omega) (by omega)] at hcl
            have HC := hide hcl
            have hprv : IsPrv F n q i := ⟨hiq, ⟨hi, hni⟩, fun j' hj' h1 h2 => hbet j' hj' h1 (by omega)⟩
            have HPV := hide (out_next HOV.out (by omega) hprv)
            clear hprv
            clear hsome hbet hps hcl
            generalize (F[j]'hj) = nj at *
            go_wp2_with fail
            refine wp_region_near (by kernel_rfl) (by kernel_rfl) ?_
            repeat (go_big_quiet_step ((first | (go_at_call 52; exact near_of (HC.out _)))))
            refine wpQuiet_nil ?_
            intro _ hw'
            obtain ⟨s1, rfl⟩ := hw'
            have hgs : s1.at_.heap[go]? = some (.cells vs.toArray 80 (0, 0)) := (s1.is.block go (by have := HBR.out.size; omega)).trans ((HBR.out.block go hgoz).trans HGO.out)
            have hgs4 : s1.at_.heap[g4]? = some (.cells #[.pointer none, .pointer none, .pointer none, .pointer none, .pointer none, .pointer none] 80 (0, 0)) := (s1.is.block g4 (by have := HBR.out.size; omega)).trans ((HBR.out.block g4 hg4z).trans HG4.out)
            have hvn : vs[n]? = some (.pointer none) := HOV.out.2.2 n (by omega) (by omega)
            have hcn : s1.at_.cell? ⟨go, n, none⟩ = some (.pointer none) := (cell_of_row _ go n _ _ _ hgs).trans (by rw [List.getElem?_toArray]; exact hvn)
            have hfz := free_at hgs
            have HST := hide (heap_set (o := n) (u := bpV F i) hgs)
            have HS4 := hide ((Below.heap_setCell s1.at_ ⟨go, n, none⟩ (bpV F i) g4 (fun e => hne1 (by simpa using e))).trans hgs4)
            have HBB : Hid (BxAt (s1.at_.setCell ⟨go, n, none⟩ (bpV F i)) gx x) := hide (BxAt.kept (BxAt.kept (BxAt.kept HBX.out HBR.out.size (HBR.out.block gx hgxz)) s1.is.size (s1.is.block gx (by have := HBR.out.size; omega))) (by simp) (Below.heap_setCell _ _ _ _ (fun e => hne2 (by simpa using e))))
            have HBF : Hid (Below w.heap.size w (s1.at_.setCell ⟨go, n, none⟩ (bpV F i))) := hide ((below_step (below_step HB.out HBR.out) s1.is).setCell (by rw [HGX.out]; exact hgA) _)
            rw [bpV_at hi] at HST HS4 HBB HBF
            clear hgs hgs4 hvn
            go_wp2_with fail
            go_roundw
            case rel => exact ⟨n, i, by omega, by go_num, hiq, ⟨hi, (bpV_at hi).symm, by omega⟩, HBB.out, ⟨_, HPV.out, by rw [bpV_at hi]; exact HST.out⟩, HS4.out, HBF.out⟩
            case measure => (simp [intOf] <;> omega)
end Go.Proofs.Ytoejhekmfgkklaa
