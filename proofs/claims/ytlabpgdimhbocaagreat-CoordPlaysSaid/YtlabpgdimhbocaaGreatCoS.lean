/- coord.Call: Item, send, Sends: contracts. Conditions: the call as it lies. -/
import Derived.Test.YtlabpgdimhbocaaGreatCo
namespace Go.Proofs.YtlabpgdimhbocaaGreat
set_option linter.unusedVariables false
set_option linter.unusedSimpArgs false
open Go.ChangeShapes Go.WideShapes Go.ChangeAt Go.RowKit

/-- What a put or a delete writes. -/
def itC (k s t x v : Int) : It := if k = 2 then ⟨s, 1, 0, v, 0⟩ else ⟨s, 2, t, v, x⟩
set_option maxHeartbeats 1600000 in
theorem citem_any (k s t x v : Int) (w : World) : Calls Tryz.prog 32 #[client4 k s t x, .int .u64 v] w fun e w' => e = .returned (itC k s t x v).val ∧ Below w.heap.size w w' := by
  by_cases hk : k = 2
  · have hx : Hid (itC k s t x v = ⟨s, 1, 0, v, 0⟩) := hide (if_pos hk)
    have bk : (k == 2) = true := by simp [hk]
    clear hk
    go_enter Tryz.func32, Tryz.ntmps32
    go_wp2_with fail
    refine bodyPost_ret (v := It.val ⟨s, 1, 0, v, 0⟩) (by simp [results, Tryz.results32, go_sem, It.val]) rfl ?_
    exact ⟨by rw [hx.out], below_alloc (below_alloc (Below.refl _ _) _) _⟩
  · have hx : Hid (itC k s t x v = ⟨s, 2, t, v, x⟩) := hide (if_neg hk)
    have bk : (k == 2) = false := by simp [hk]
    go_enter Tryz.func32, Tryz.ntmps32
    go_wp2_with fail
    refine bodyPost_ret (v := It.val ⟨s, 2, t, v, x⟩) (by simp [results, Tryz.results32, go_sem, It.val]) rfl ?_
    exact ⟨by rw [hx.out], below_alloc (below_alloc (Below.refl _ _) _) _⟩

/-- What a call sends to one node. -/
def toC (R : Co) (j : Int) : Mg := if R.ck = 3 then ⟨4, R.at_, j, R.id, R.cs, none, 0, []⟩ else ⟨1, R.at_, j, R.id, 0, none, 0, [itC R.ck R.cs R.ct R.cv R.ver]⟩
/-- What it sends to those of the first k that have not counted. -/
def csendTo (R : Co) (k : Nat) : List Mg := ((List.range k).filter fun j => !R.C j).map fun (j : Nat) => toC R (j : Int)
theorem csendTo_yes {R : Co} {k : Nat} (h : R.C k = false) : csendTo R (k + 1) = csendTo R k ++ [toC R (k : Int)] := by
  unfold csendTo
  rw [List.range_succ, List.filter_append, List.map_append, List.filter_cons, h]
  rfl
theorem csendTo_no {R : Co} {k : Nat} (h : R.C k = true) : csendTo R (k + 1) = csendTo R k := by
  unfold csendTo
  rw [List.range_succ, List.filter_append, List.map_append, List.filter_cons, h]
  simp
theorem csendTo_len (R : Co) (k : Nat) : (csendTo R k).length ≤ k := by
  unfold csendTo
  rw [List.length_map]
  exact Nat.le_trans (List.length_filter_le _ _) (by simp)
theorem MsO.nil_ (base : Nat) (w : World) : MsO base w (.slice none 0 0) [] := ⟨OwnL.nil_ _ _ _ _ _, fun x hx => (by cases hx), fun x hx => (by cases hx)⟩
set_option maxRecDepth 100000 in
set_option maxHeartbeats 3200000 in
theorem csend_get {w0 w : World} {b : Nat} {X : Nat → Prop} {R : Co} (h : CoO w0 w b X R) (hn : 1 ≤ R.n ∧ R.n ≤ 7) (hs : 0 ≤ R.cs ∧ R.cs ≤ 255) (hk3 : R.ck = 3) :
    Calls Tryz.prog 22 #[.pointer (some ⟨b, 0, none⟩)] w fun e w' => ∃ v N, e = .returned v ∧ MsO w.heap.size w' v N ∧ N.map Mg.bare = csendTo R R.n.toNat ∧ Below w.heap.size w w' := by
  obtain ⟨n, hn1⟩ : ∃ n : Nat, R.n = (n : Int) := ⟨R.n.toNat, by omega⟩
  have hn7 : n ≤ 7 := by omega
  have HNT : Hid (R.n.toNat = n) := hide (by omega)
  obtain ⟨vg, va, hb, _⟩ := h.row
  have c0 : w.cell? ⟨b, 0, none⟩ = some (.int .i64 (n : Int)) := by rw [← hn1]; exact (cell_of_list (o := 0) hb).trans rfl
  have HC : Hid (∀ (W : World) (k : Nat), k < 7 → Below w.heap.size w W → b < W.heap.size ∧ W.cell? ⟨b, 0, none⟩ = some (.int .i64 (n : Int)) ∧ W.cell? ⟨b, 1, none⟩ = some (.int .i64 R.at_) ∧ W.cell? ⟨b, 2, none⟩ = some (.int .u64 R.id) ∧ W.cell? ⟨b, 3, none⟩ = some (.int .i64 3) ∧ W.cell? ⟨b, 4, none⟩ = some (.int .i64 R.cs) ∧ W.cell? ⟨b, 8 + k, none⟩ = some (.bool (R.C k))) := hide (fun W k hk hW => by
    have hbk := (hW.block b h.lt).trans hb
    exact ⟨Nat.lt_of_lt_of_le h.lt hW.size, by rw [← hn1]; exact (cell_of_list (o := 0) hbk).trans rfl, (cell_of_list (o := 1) hbk).trans rfl, (cell_of_list (o := 2) hbk).trans rfl, by rw [← hk3]; exact (cell_of_list (o := 3) hbk).trans rfl, (cell_of_list (o := 4) hbk).trans rfl, (cell_of_list hbk).trans (coL_C R 0 vg va hk)⟩)
  have HTO : Hid (∀ k : Nat, toC R (k : Int) = ⟨4, R.at_, k, R.id, R.cs, none, 0, []⟩) := hide (fun k => by unfold toC; rw [if_pos hk3])
  have hcw : IntKind.u64.wrap R.cs = R.cs := by rw [IntKind.wrap_u64]; omega
  obtain ⟨hs0, hs1⟩ := hs
  clear h hb hn1 hn hk3
  go_enter Tryz.func22, Tryz.ntmps22
  go_wp2_with fail
  go_loopw [3, 10] (fun v i wr => ∃ (k : Nat) (N : List Mg), k ≤ n ∧ i = .int .i64 k ∧ MsO w.heap.size wr v N ∧ N.map Mg.bare = csendTo R k ∧ Below w.heap.size w wr) (fun _ i _ => n - (intOf i).toNat)
  case atStart => exact ⟨0, [], by omega, rfl, MsO.nil_ _ _, rfl, Below.refl _ _⟩
  case round =>
    obtain ⟨k, N, hk, rfl, hO, hN, hb⟩ := hrel
    have HO := hide hO
    have HN := hide hN
    have HB := hide hb
    clear hO hb
    by_cases hlt : k < n
    · have hkI : (k : Int) < (n : Int) := by omega
      have hk7 : (k : Int) < 7 := by omega
      have hk0 : (0 : Int) ≤ (k : Int) := by omega
      obtain ⟨hltr, d0, d1, d2, d3, d4, d5⟩ := HC.out wr k (by omega) HB.out
      have hNl : N.length ≤ 7 := by
        have h1 := congrArg List.length hN
        rw [List.length_map] at h1
        have := csendTo_len R k
        omega
      clear hN c0
      go_upto_region 5 with fail
      go_region
      have HBm : Hid (Below wr.heap.size wr (wr.alloc (.cells #[.int .i64 1, .int .i64 R.at_, .int .i64 (k : Int), .int .u64 R.id, .int .u64 0, .slice none 0 0] 39)).drew) := hide (below_alloc (Below.refl _ _) _).drew
      have HZm : Hid ((wr.alloc (.cells #[.int .i64 1, .int .i64 R.at_, .int .i64 (k : Int), .int .u64 R.id, .int .u64 0, .slice none 0 0] 39)).drew.heap[wr.heap.size]? = some (.cells #[.int .i64 1, .int .i64 R.at_, .int .i64 (k : Int), .int .u64 R.id, .int .u64 0, .slice none 0 0] 39 (0, 0))) := hide (heap_alloc_new wr _)
      obtain ⟨wm, hwm⟩ : ∃ wm, (wr.alloc (.cells #[.int .i64 1, .int .i64 R.at_, .int .i64 (k : Int), .int .u64 R.id, .int .u64 0, .slice none 0 0] 39)).drew = wm := ⟨_, rfl⟩
      rw [hwm] at HBm HZm
      try rw [hwm]
      clear hwm d0 d1 d2 d3 d4 d5
      obtain ⟨g, hg⟩ : ∃ g, wr.heap.size = g := ⟨_, rfl⟩
      have HG := hide hg
      rw [hg] at HZm
      try rw [hg]
      clear hg
      obtain ⟨hltm, e0, e1, e2, e3, e4, e5⟩ := HC.out wm k (by omega) (below_step HB.out HBm.out)
      obtain ⟨t0, t1, t2, t3, t4, t5⟩ := six_cells HZm.out
      have lg := (Array.getElem?_eq_some_iff.1 HZm.out).1
      have tf : ∀ o, wm.frozen? ⟨g, o, none⟩ = false := fun o => by simp [World.frozen?, HZm.out]
      have hne : ¬ g = b := by have h1 := (HC.out wr 0 (by omega) HB.out).1; have := HG.out; omega
      have hne2 : ¬ b = g := fun e => hne e.symm
      clear hltr
      go_upto_region 7 with fail
      go_region
      have HB5 := hide ((Sets.below HBm.out (((Sets.refl (S := fun c => c = g) wm).set (g := g) (fun _ => rfl) 0 (.int .i64 4)).set (g := g) (fun _ => rfl) 4 (.int .u64 R.cs)) (fun c e => by rw [e, ← HG.out]; exact Nat.le_refl _) HBm.out.size).drew)
      have HZ5 : Hid ((((wm.setCell ⟨g, 0, none⟩ (.int .i64 4)).setCell ⟨g, 4, none⟩ (.int .u64 R.cs)).drew).heap[g]? = some (.cells #[.int .i64 4, .int .i64 R.at_, .int .i64 (k : Int), .int .u64 R.id, .int .u64 R.cs, .slice none 0 0] 39 (0, 0))) := hide (set_of_list (o := 4) (set_of_list (o := 0) HZm.out (.int .i64 4)) (.int .u64 R.cs))
      obtain ⟨w5, hw5⟩ : ∃ w5, ((wm.setCell ⟨g, 0, none⟩ (.int .i64 4)).setCell ⟨g, 4, none⟩ (.int .u64 R.cs)).drew = w5 := ⟨_, rfl⟩
      rw [hw5] at HB5 HZ5
      try rw [hw5]
      clear hw5 e0 e1 e2 e3 e4 e5 t0 t1 t2 t3 t4 t5 tf lg
      obtain ⟨hlt5, e0, e1, e2, e3, e4, e5⟩ := HC.out w5 k (by omega) (below_step HB.out HB5.out)
      obtain ⟨t0, t1, t2, t3, t4, t5⟩ := six_cells HZ5.out
      have lg := (Array.getElem?_eq_some_iff.1 HZ5.out).1
      clear hltm
      cases hc : R.C k with
      | true =>
        rw [hc] at e5
        have HS : Hid (N.map Mg.bare = csendTo R (k + 1)) := hide (by rw [csendTo_no hc]; exact HN.out)
        clear hc
        go_wp2_with fail
        go_roundw
        case rel => exact ⟨k + 1, N, by omega, by go_num, HO.out.below HB5.out, HS.out, below_step HB.out HB5.out⟩
        case measure => simp only [intOf]; omega
      | false =>
        rw [hc] at e5
        have HSY := hide (csendTo_yes (R := R) (k := k) hc)
        clear hc
        obtain ⟨x, hx⟩ : ∃ x : Mg, (⟨4, R.at_, (k : Int), R.id, R.cs, none, 0, []⟩ : Mg) = x := ⟨_, rfl⟩
        have HXB : Hid (x.bare = ⟨4, R.at_, (k : Int), R.id, R.cs, none, 0, []⟩) := hide (by rw [← hx]; rfl)
        have HXR5 : Hid (x.rd w5) := hide (by rw [← hx]; exact mg0_rd _ _ rfl rfl rfl)
        have HXF : Hid (∀ a, x.A = some a → x.L ≠ [] → wr.heap.size ≤ a.block) := hide (fun a ha => by rw [← hx] at ha; cases ha)
        rw [show (Value.int .i64 4) = .int .i64 x.k by rw [← hx]] at t0
        rw [show (Value.int .i64 R.at_) = .int .i64 x.f by rw [← hx]] at t1
        rw [show (Value.int .i64 (k : Int)) = .int .i64 x.t by rw [← hx]] at t2
        rw [show (Value.int .u64 R.id) = .int .u64 x.id by rw [← hx]] at t3
        rw [show (Value.int .u64 R.cs) = .int .u64 x.n by rw [← hx]] at t4
        rw [show (Value.slice none 0 0) = .slice x.A x.L.length x.c by rw [← hx]; rfl] at t5
        clear hx
        have hal := below_alloc (Below.refl w5.heap.size w5) (.cells #[.int .i64 x.k, .int .i64 x.f, .int .i64 x.t, .int .u64 x.id, .int .u64 x.n, .slice x.A x.L.length x.c] 39)
        have HXX : Hid (RowAt Mg.cells 6 (w5.alloc (.cells #[.int .i64 x.k, .int .i64 x.f, .int .i64 x.t, .int .u64 x.id, .int .u64 x.n, .slice x.A x.L.length x.c] 39)) (some ⟨w5.heap.size, 0, none⟩) [x]) := hide (RowAt.new_one (cells := Mg.cells) (sz := 6) (y := x) (heap_alloc_new w5 (.cells #[.int .i64 x.k, .int .i64 x.f, .int .i64 x.t, .int .u64 x.id, .int .u64 x.n, .slice x.A x.L.length x.c] 39)))
        have HXR := hide (HXR5.out.below hal)
        have HBU := hide (below_step HB5.out hal)
        have HOU := hide (HO.out.below HBU.out)
        have HBW := hide (below_step HB.out HBU.out)
        clear hal HXR5 HB5
        go_wp2_with (at_builtin; refine wpList_app_msg rfl (.tmp 55) (.tmp 57) rfl rfl w.heap.size _ N rfl HOU.out.own (some ⟨w5.heap.size, 0, none⟩) 1 1 [x] rfl rfl HXX.out (by omega) HBW.out.size ?_; intro v6 w6 ho6 hg6 hm6; have HO6 := hide (HO.out.snoc HBU.out HXR.out HXF.out ho6 hg6 hm6); have HB6 := hide (HBW.out.grown hg6 HBW.out.size (fun q hq => (OwnL.lt HOU.out.own q hq).1)); clear ho6 hg6 hm6)
        have HS6 : Hid ((N ++ [x]).map Mg.bare = csendTo R (k + 1)) := hide (by rw [HSY.out, List.map_append, HN.out, List.map_cons, HXB.out, HTO.out]; rfl)
        go_wp2_with fail
        go_roundw
        case rel => exact ⟨k + 1, N ++ [x], by omega, by go_num, HO6.out, HS6.out, HB6.out⟩
        case measure => simp only [intOf]; omega
    · obtain rfl : k = n := by omega
      have hkI : ¬ (k : Int) < (k : Int) := by omega
      clear hN
      go_wp2_with fail
      go_ret
      exact ⟨_, rfl, N, HO.out, by rw [HNT.out]; exact HN.out, HB.out⟩
set_option maxRecDepth 100000 in
set_option maxHeartbeats 3200000 in
theorem csend_put {w0 w : World} {b : Nat} {X : Nat → Prop} {R : Co} (h : CoO w0 w b X R) (hn : 1 ≤ R.n ∧ R.n ≤ 7) (hk3 : R.ck ≠ 3) :
    Calls Tryz.prog 22 #[.pointer (some ⟨b, 0, none⟩)] w fun e w' => ∃ v N, e = .returned v ∧ MsO w.heap.size w' v N ∧ N.map Mg.bare = csendTo R R.n.toNat ∧ Below w.heap.size w w' := by
  obtain ⟨n, hn1⟩ : ∃ n : Nat, R.n = (n : Int) := ⟨R.n.toNat, by omega⟩
  have hn7 : n ≤ 7 := by omega
  have HNT : Hid (R.n.toNat = n) := hide (by omega)
  obtain ⟨vg, va, hb, _⟩ := h.row
  have c0 : w.cell? ⟨b, 0, none⟩ = some (.int .i64 (n : Int)) := by rw [← hn1]; exact (cell_of_list (o := 0) hb).trans rfl
  have HC : Hid (∀ (W : World) (k : Nat), k < 7 → Below w.heap.size w W → b < W.heap.size ∧ W.cell? ⟨b, 0, none⟩ = some (.int .i64 (n : Int)) ∧ W.cell? ⟨b, 1, none⟩ = some (.int .i64 R.at_) ∧ W.cell? ⟨b, 2, none⟩ = some (.int .u64 R.id) ∧ W.cell? ⟨b, 3, none⟩ = some (.int .i64 R.ck) ∧ W.cell? ⟨b, 4, none⟩ = some (.int .i64 R.cs) ∧ W.cell? ⟨b, 5, none⟩ = some (.int .u64 R.ct) ∧ W.cell? ⟨b, 6, none⟩ = some (.int .i64 R.cv) ∧ W.cell? ⟨b, 7, none⟩ = some (.int .u64 R.ver) ∧ W.cell? ⟨b, 8 + k, none⟩ = some (.bool (R.C k))) := hide (fun W k hk hW => by
    have hbk := (hW.block b h.lt).trans hb
    exact ⟨Nat.lt_of_lt_of_le h.lt hW.size, by rw [← hn1]; exact (cell_of_list (o := 0) hbk).trans rfl, (cell_of_list (o := 1) hbk).trans rfl, (cell_of_list (o := 2) hbk).trans rfl, (cell_of_list (o := 3) hbk).trans rfl, (cell_of_list (o := 4) hbk).trans rfl, (cell_of_list (o := 5) hbk).trans rfl, (cell_of_list (o := 6) hbk).trans rfl, (cell_of_list (o := 7) hbk).trans rfl, (cell_of_list hbk).trans (coL_C R 0 vg va hk)⟩)
  obtain ⟨y, hy⟩ : ∃ y, itC R.ck R.cs R.ct R.cv R.ver = y := ⟨_, rfl⟩
  have HTO : Hid (∀ k : Nat, toC R (k : Int) = ⟨1, R.at_, k, R.id, 0, none, 0, [y]⟩) := hide (fun k => by unfold toC; rw [if_neg hk3, hy])
  have HIT := hide (fun (W : World) => citem_any R.ck R.cs R.ct R.cv R.ver W)
  have hk3I : (R.ck == 3) = false := beq_eq_false_iff_ne.2 hk3
  rw [hy] at HIT
  clear h hb hn1 hn hk3 hy
  go_enter Tryz.func22, Tryz.ntmps22
  go_wp2_with fail
  go_loopw [3, 10] (fun v i wr => ∃ (k : Nat) (N : List Mg), k ≤ n ∧ i = .int .i64 k ∧ MsO w.heap.size wr v N ∧ N.map Mg.bare = csendTo R k ∧ Below w.heap.size w wr) (fun _ i _ => n - (intOf i).toNat)
  case atStart => exact ⟨0, [], by omega, rfl, MsO.nil_ _ _, rfl, Below.refl _ _⟩
  case round =>
    obtain ⟨k, N, hk, rfl, hO, hN, hb⟩ := hrel
    have HO := hide hO
    have HN := hide hN
    have HB := hide hb
    clear hO hb
    by_cases hlt : k < n
    · have hkI : (k : Int) < (n : Int) := by omega
      have hk7 : (k : Int) < 7 := by omega
      have hk0 : (0 : Int) ≤ (k : Int) := by omega
      obtain ⟨hltr, d0, d1, d2, d3, d4, d41, d42, d43, d5⟩ := HC.out wr k (by omega) HB.out
      have hNl : N.length ≤ 7 := by
        have h1 := congrArg List.length hN
        rw [List.length_map] at h1
        have := csendTo_len R k
        omega
      clear hN c0
      go_upto_region 5 with fail
      go_region
      have HBm : Hid (Below wr.heap.size wr (wr.alloc (.cells #[.int .i64 1, .int .i64 R.at_, .int .i64 (k : Int), .int .u64 R.id, .int .u64 0, .slice none 0 0] 39)).drew) := hide (below_alloc (Below.refl _ _) _).drew
      have HZm : Hid ((wr.alloc (.cells #[.int .i64 1, .int .i64 R.at_, .int .i64 (k : Int), .int .u64 R.id, .int .u64 0, .slice none 0 0] 39)).drew.heap[wr.heap.size]? = some (.cells #[.int .i64 1, .int .i64 R.at_, .int .i64 (k : Int), .int .u64 R.id, .int .u64 0, .slice none 0 0] 39 (0, 0))) := hide (heap_alloc_new wr _)
      obtain ⟨wm, hwm⟩ : ∃ wm, (wr.alloc (.cells #[.int .i64 1, .int .i64 R.at_, .int .i64 (k : Int), .int .u64 R.id, .int .u64 0, .slice none 0 0] 39)).drew = wm := ⟨_, rfl⟩
      rw [hwm] at HBm HZm
      try rw [hwm]
      clear hwm d0 d1 d2 d3 d4 d41 d42 d43 d5
      obtain ⟨g, hg⟩ : ∃ g, wr.heap.size = g := ⟨_, rfl⟩
      have HG := hide hg
      rw [hg] at HZm
      try rw [hg]
      clear hg
      obtain ⟨hltm, e0, e1, e2, e3, e4, e41, e42, e43, e5⟩ := HC.out wm k (by omega) (below_step HB.out HBm.out)
      obtain ⟨t0, t1, t2, t3, t4, t5⟩ := six_cells HZm.out
      have lg := (Array.getElem?_eq_some_iff.1 HZm.out).1
      have tf : ∀ o, wm.frozen? ⟨g, o, none⟩ = false := fun o => by simp [World.frozen?, HZm.out]
      have hne : ¬ g = b := by have h1 := (HC.out wr 0 (by omega) HB.out).1; have := HG.out; omega
      have hne2 : ¬ b = g := fun e => hne e.symm
      clear hltr
      go_upto_region 8 with fail
      clear hltm e0 e1 e2 e3 e4 e41 e42 e43 e5 t0 t1 t2 t3 t4 t5 tf lg
      obtain ⟨ud, hud⟩ : ∃ ud, wm.drew = ud := ⟨_, rfl⟩
      have HUD : Hid (Below wm.heap.size wm ud) := hide (by rw [← hud]; exact (Below.refl _ _).drew)
      have HCU := hide (fun (W : World) (hW : Below ud.heap.size ud W) => HC.out W k (by omega) (below_step HB.out (below_step HBm.out (below_step HUD.out hW))))
      refine j_startD [11] hud (by kernel_rfl) ?_
      clear hud
      refine' j_take (i := 0) (v := _) [1, 2, 3, 8, 9, 10, 11] ?hi0 (by kernel_rfl) (by kernel_rfl) (by kernel_rfl) (by kernel_rfl) (by kernel_rfl) (Or.inl ⟨?hw0, ?hy0⟩) ?rest0
      case hi0 => (simp only [List.getElem?_toArray, List.getElem?_cons_succ, List.getElem?_cons_zero]; rfl)
      case hw0 => rfl
      case hy0 => (intro w' hw'; go_simp; try with_reducible rfl)
      try simp only [Act.put, List.setIfInBounds_toArray, List.set_cons_zero, List.set_cons_succ]
      refine' j_take (i := 1) (v := _) [2, 3, 8, 9, 10, 11] ?hi1 (by kernel_rfl) (by kernel_rfl) (by kernel_rfl) (by kernel_rfl) (by kernel_rfl) (Or.inl ⟨?hw1, ?hy1⟩) ?rest1
      case hi1 => (simp only [List.getElem?_toArray, List.getElem?_cons_succ, List.getElem?_cons_zero]; rfl)
      case hw1 => rfl
      case hy1 => (intro w' hw'; go_simp; try with_reducible rfl)
      try simp only [Act.put, List.setIfInBounds_toArray, List.set_cons_zero, List.set_cons_succ]
      refine' j_take (i := 2) (v := _) [3, 8, 9, 10, 11] ?hi2 (by kernel_rfl) (by kernel_rfl) (by kernel_rfl) (by kernel_rfl) (by kernel_rfl) (Or.inl ⟨?hw2, ?hy2⟩) ?rest2
      case hi2 => (simp only [List.getElem?_toArray, List.getElem?_cons_succ, List.getElem?_cons_zero]; rfl)
      case hw2 => rfl
      case hy2 => (intro w' hw'; go_simp; try with_reducible rfl)
      try simp only [Act.put, List.setIfInBounds_toArray, List.set_cons_zero, List.set_cons_succ]
      refine' j_take (i := 3) (v := _) [8, 9, 10, 11] ?hi3 (by kernel_rfl) (by kernel_rfl) (by kernel_rfl) (by kernel_rfl) (by kernel_rfl) (Or.inl ⟨?hw3, ?hy3⟩) ?rest3
      case hi3 => (simp only [List.getElem?_toArray, List.getElem?_cons_succ, List.getElem?_cons_zero]; rfl)
      case hw3 => rfl
      case hy3 => (intro w' hw'; obtain ⟨hltm, e0, e1, e2, e3, e4, e41, e42, e43, e5⟩ := HCU.out _ hw'; go_simp; try with_reducible rfl)
      try simp only [Act.put, List.setIfInBounds_toArray, List.set_cons_zero, List.set_cons_succ]
      refine' j_take (i := 4) (v := _) [5, 6, 7, 8, 9, 10, 11] ?hi4 (by kernel_rfl) (by kernel_rfl) (by kernel_rfl) (by kernel_rfl) (by kernel_rfl) (Or.inl ⟨?hw4, ?hy4⟩) ?rest4
      case hi4 => (simp only [List.getElem?_toArray, List.getElem?_cons_succ, List.getElem?_cons_zero]; rfl)
      case hw4 => rfl
      case hy4 => (intro w' hw'; go_simp; try with_reducible rfl)
      try simp only [Act.put, List.setIfInBounds_toArray, List.set_cons_zero, List.set_cons_succ]
      refine' j_take (i := 5) (v := _) [6, 7, 8, 9, 10, 11] ?hi5 (by kernel_rfl) (by kernel_rfl) (by kernel_rfl) (by kernel_rfl) (by kernel_rfl) (Or.inl ⟨?hw5, ?hy5⟩) ?rest5
      case hi5 => (simp only [List.getElem?_toArray, List.getElem?_cons_succ, List.getElem?_cons_zero]; rfl)
      case hw5 => rfl
      case hy5 => (intro w' hw'; go_simp; try with_reducible rfl)
      try simp only [Act.put, List.setIfInBounds_toArray, List.set_cons_zero, List.set_cons_succ]
      refine' j_take (i := 6) (v := _) [7, 8, 9, 10, 11] ?hi6 (by kernel_rfl) (by kernel_rfl) (by kernel_rfl) (by kernel_rfl) (by kernel_rfl) (Or.inl ⟨?hw6, ?hy6⟩) ?rest6
      case hi6 => (simp only [List.getElem?_toArray, List.getElem?_cons_succ, List.getElem?_cons_zero]; rfl)
      case hw6 => rfl
      case hy6 => (intro w' hw'; go_simp; try with_reducible rfl)
      try simp only [Act.put, List.setIfInBounds_toArray, List.set_cons_zero, List.set_cons_succ]
      refine' j_take (i := 7) (v := _) [8, 9, 10, 11] ?hi7 (by kernel_rfl) (by kernel_rfl) (by kernel_rfl) (by kernel_rfl) (by kernel_rfl) (Or.inl ⟨?hw7, ?hy7⟩) ?rest7
      case hi7 => (simp only [List.getElem?_toArray, List.getElem?_cons_succ, List.getElem?_cons_zero]; rfl)
      case hw7 => rfl
      case hy7 => (intro w' hw'; obtain ⟨hltm, e0, e1, e2, e3, e4, e41, e42, e43, e5⟩ := HCU.out _ hw'; go_simp; try with_reducible rfl)
      try simp only [Act.put, List.setIfInBounds_toArray, List.set_cons_zero, List.set_cons_succ]
      refine' wpAnyJ_step (i := 8) (o := _) (by kernel_rfl) ?ho8 (fun K hK => ?step8)
      case ho8 => (simp only [List.getElem?_toArray, List.getElem?_cons_succ, List.getElem?_cons_zero]; rfl)
      go_simp
      refine (Calls.mono (HIT.out _) ?_); rintro e u1 ⟨rfl, gg⟩
      have HG1 := hide gg
      refine hK.out _ _ gg (j_switch gg ?_)
      clear hK K gg
      try simp only [Act.put, List.setIfInBounds_toArray, List.set_cons_zero, List.set_cons_succ]
      refine' wpAnyJ_step (i := 9) (o := _) (by kernel_rfl) ?ho9 (fun K hK => ?step9)
      case ho9 => (simp only [List.getElem?_toArray, List.getElem?_cons_succ, List.getElem?_cons_zero]; rfl)
      go_simp
      have ha := below_alloc (Below.refl u1.heap.size u1) (.cells #[.int .i64 y.s, .int .i64 y.k, .int .u64 y.t, .int .u64 y.v, .int .i64 y.x] 78)
      have hz := heap_alloc_new u1 (.cells #[.int .i64 y.s, .int .i64 y.k, .int .u64 y.t, .int .u64 y.v, .int .i64 y.x] 78)
      obtain ⟨u2, hu2⟩ : ∃ u2, u1.alloc (.cells #[.int .i64 y.s, .int .i64 y.k, .int .u64 y.t, .int .u64 y.v, .int .i64 y.x] 78) = u2 := ⟨_, rfl⟩
      obtain ⟨g8, hg8⟩ : ∃ g8, u1.heap.size = g8 := ⟨_, rfl⟩
      refine hK.out _ _ ha (j_switch ha ?_)
      clear hK K
      rw [hu2] at ha hz
      rw [hg8] at hz
      try rw [hu2]
      try rw [hg8]
      have HU2 := hide ha
      have HZ2 := hide hz
      have HG8 := hide hg8
      clear ha hz hu2 hg8
      try simp only [Act.put, List.setIfInBounds_toArray, List.set_cons_zero, List.set_cons_succ]
      refine' j_take (i := 10) (v := _) [11] ?hi10 (by kernel_rfl) (by kernel_rfl) (by kernel_rfl) (by kernel_rfl) (by kernel_rfl) (Or.inl ⟨?hw10, ?hy10⟩) ?rest10
      case hi10 => (simp only [List.getElem?_toArray, List.getElem?_cons_succ, List.getElem?_cons_zero]; rfl)
      case hw10 => rfl
      case hy10 => (intro w' hw'; go_simp; try with_reducible rfl)
      try simp only [Act.put, List.setIfInBounds_toArray, List.set_cons_zero, List.set_cons_succ]
      refine' wpAnyJ_last (i := 11) (o := _) (by kernel_rfl) ?ho11 (by kernel_rfl) (fun K hK => ?step11)
      case ho11 => (simp only [List.getElem?_toArray, List.getElem?_cons_succ, List.getElem?_cons_zero]; rfl)
      have hz5 := ((below_step (below_step HUD.out HG1.out) HU2.out).block g (Array.getElem?_eq_some_iff.1 HZm.out).1).trans HZm.out
      obtain ⟨s0, s1, s2, s3, s4, s5⟩ := six_cells hz5
      have sf : ∀ o, u2.frozen? ⟨g, o, none⟩ = false := (fun o => by simp [World.frozen?, hz5])
      have HZ5 := hide hz5
      clear hz5
      go_simp
      refine hK.out _ _ ?_
      clear hK K s0 s1 s2 s3 s4 s5 sf
      try simp only [Act.put, List.setIfInBounds_toArray, List.set_cons_zero, List.set_cons_succ]
      refine wpAnyJ_done (by kernel_rfl) ?_ _
      refine NoPanic.normal ?_
      have hbu := below_step (below_step (below_step HBm.out HUD.out) HG1.out) HU2.out
      have HB5 := hide (Sets.below hbu ((Sets.refl (S := fun c => c = g) u2).set (g := g) (fun _ => rfl) 5 (.slice (some ⟨g8, 0, none⟩) 1 1)) (fun c e => by rw [e, ← HG.out]; exact Nat.le_refl _) hbu.size)
      have HT5 := hide (set_of_list (o := 5) HZ5.out (.slice (some ⟨g8, 0, none⟩) 1 1))
      have hg8g : g8 ≠ g := fun e => by
        have h1 := HG8.out
        have h2 := (Array.getElem?_eq_some_iff.1 HZm.out).1
        have h3 := (below_step HUD.out HG1.out).size
        omega
      have HI8 : Hid ((u2.setCell ⟨g, 5, none⟩ (.slice (some ⟨g8, 0, none⟩) 1 1)).heap[g8]? = some (.cells (flat [y]).toArray 78 (0, 0))) := hide ((Below.heap_setCell u2 ⟨g, 5, none⟩ _ g8 (fun e => hg8g (by simpa using e))).trans HZ2.out)
      have HGW : Hid (wr.heap.size ≤ g8) := hide (by
        have h1 := HG8.out
        have h3 := (below_step (below_step HBm.out HUD.out) HG1.out).size
        omega)
      obtain ⟨w5, hw5⟩ : ∃ w5, (u2.setCell ⟨g, 5, none⟩ (.slice (some ⟨g8, 0, none⟩) 1 1)) = w5 := ⟨_, rfl⟩
      rw [hw5] at HB5 HT5 HI8
      try rw [hw5]
      clear hw5 hbu hg8g HZ5 HZ2 HU2 HG1 HG8
      obtain ⟨hlt5, e0, e1, e2, e3, e4, e41, e42, e43, e5⟩ := HC.out w5 k (by omega) (below_step HB.out HB5.out)
      obtain ⟨t0, t1, t2, t3, t4, t5⟩ := six_cells HT5.out
      have lg := (Array.getElem?_eq_some_iff.1 HT5.out).1
      cases hc : R.C k with
      | true =>
        rw [hc] at e5
        have HS : Hid (N.map Mg.bare = csendTo R (k + 1)) := hide (by rw [csendTo_no hc]; exact HN.out)
        clear hc
        go_wp2_with fail
        go_roundw
        case rel => exact ⟨k + 1, N, by omega, by go_num, HO.out.below HB5.out, HS.out, below_step HB.out HB5.out⟩
        case measure => simp only [intOf]; omega
      | false =>
        rw [hc] at e5
        have HSY := hide (csendTo_yes (R := R) (k := k) hc)
        clear hc
        obtain ⟨x, hx⟩ : ∃ x : Mg, (⟨1, R.at_, (k : Int), R.id, 0, some ⟨g8, 0, none⟩, 1, [y]⟩ : Mg) = x := ⟨_, rfl⟩
        have HXB : Hid (x.bare = ⟨1, R.at_, (k : Int), R.id, 0, none, 0, [y]⟩) := hide (by rw [← hx]; rfl)
        have HXR5 : Hid (x.rd w5) := hide (by rw [← hx]; exact ⟨new_row (g := g8) (L := [y]) HI8.out rfl, Nat.le_refl _, by simp [maxLen]⟩)
        have HXF : Hid (∀ a, x.A = some a → x.L ≠ [] → wr.heap.size ≤ a.block) := hide (fun a ha _ => by rw [← hx] at ha; cases ha; exact HGW.out)
        rw [show (Value.int .i64 1) = .int .i64 x.k by rw [← hx]] at t0
        rw [show (Value.int .i64 R.at_) = .int .i64 x.f by rw [← hx]] at t1
        rw [show (Value.int .i64 (k : Int)) = .int .i64 x.t by rw [← hx]] at t2
        rw [show (Value.int .u64 R.id) = .int .u64 x.id by rw [← hx]] at t3
        rw [show (Value.int .u64 0) = .int .u64 x.n by rw [← hx]] at t4
        rw [show (Value.slice (some ⟨g8, 0, none⟩) 1 1) = .slice x.A x.L.length x.c by rw [← hx]; rfl] at t5
        clear hx
        have hal := below_alloc (Below.refl w5.heap.size w5) (.cells #[.int .i64 x.k, .int .i64 x.f, .int .i64 x.t, .int .u64 x.id, .int .u64 x.n, .slice x.A x.L.length x.c] 39)
        have HXX : Hid (RowAt Mg.cells 6 (w5.alloc (.cells #[.int .i64 x.k, .int .i64 x.f, .int .i64 x.t, .int .u64 x.id, .int .u64 x.n, .slice x.A x.L.length x.c] 39)) (some ⟨w5.heap.size, 0, none⟩) [x]) := hide (RowAt.new_one (cells := Mg.cells) (sz := 6) (y := x) (heap_alloc_new w5 (.cells #[.int .i64 x.k, .int .i64 x.f, .int .i64 x.t, .int .u64 x.id, .int .u64 x.n, .slice x.A x.L.length x.c] 39)))
        have HXR := hide (HXR5.out.below hal)
        have HBU := hide (below_step HB5.out hal)
        have HOU := hide (HO.out.below HBU.out)
        have HBW := hide (below_step HB.out HBU.out)
        clear hal HXR5 HB5
        go_wp2_with (at_builtin; refine wpList_app_msg rfl (.tmp 55) (.tmp 57) rfl rfl w.heap.size _ N rfl HOU.out.own (some ⟨w5.heap.size, 0, none⟩) 1 1 [x] rfl rfl HXX.out (by omega) HBW.out.size ?_; intro v6 w6 ho6 hg6 hm6; have HO6 := hide (HO.out.snoc HBU.out HXR.out HXF.out ho6 hg6 hm6); have HB6 := hide (HBW.out.grown hg6 HBW.out.size (fun q hq => (OwnL.lt HOU.out.own q hq).1)); clear ho6 hg6 hm6)
        have HS6 : Hid ((N ++ [x]).map Mg.bare = csendTo R (k + 1)) := hide (by rw [HSY.out, List.map_append, HN.out, List.map_cons, HXB.out, HTO.out]; rfl)
        go_wp2_with fail
        go_roundw
        case rel => exact ⟨k + 1, N ++ [x], by omega, by go_num, HO6.out, HS6.out, HB6.out⟩
        case measure => simp only [intOf]; omega
    · obtain rfl : k = n := by omega
      have hkI : ¬ (k : Int) < (k : Int) := by omega
      clear hN
      go_wp2_with fail
      go_ret
      exact ⟨_, rfl, N, HO.out, by rw [HNT.out]; exact HN.out, HB.out⟩
theorem csend_any {w0 w : World} {b : Nat} {X : Nat → Prop} {R : Co} (h : CoO w0 w b X R) (hn : 1 ≤ R.n ∧ R.n ≤ 7) (hs : 0 ≤ R.cs ∧ R.cs ≤ 255) :
    Calls Tryz.prog 22 #[.pointer (some ⟨b, 0, none⟩)] w fun e w' => ∃ v N, e = .returned v ∧ MsO w.heap.size w' v N ∧ N.map Mg.bare = csendTo R R.n.toNat ∧ Below w.heap.size w w' := by
  by_cases hk : R.ck = 3
  · exact csend_get h hn hs hk
  · exact csend_put h hn hk
/-- A call's like that nobody answered. -/
def allR (R : Co) : Co := co0 R.n R.at_ R.id R.ck R.cs R.ct R.cv R.ver
set_option maxRecDepth 100000 in
set_option maxHeartbeats 1600000 in
theorem csends_any {w0 w : World} {b : Nat} {X : Nat → Prop} {R : Co} (h : CoO w0 w b X R) (hn : 1 ≤ R.n ∧ R.n ≤ 7) (hs : 0 ≤ R.cs ∧ R.cs ≤ 255) :
    Calls Tryz.prog 11 #[.pointer (some ⟨b, 0, none⟩)] w fun e w' => ∃ v N, e = .returned v ∧ MsO w.heap.size w' v N ∧ N.map Mg.bare = csendTo (allR R) R.n.toNat ∧ Below w.heap.size w w' := by
  obtain ⟨vg, va, hb, _⟩ := h.row
  have c0 : w.cell? ⟨b, 0, none⟩ = some (.int .i64 R.n) := (cell_of_list (o := 0) hb).trans rfl
  have c1 : w.cell? ⟨b, 1, none⟩ = some (.int .i64 R.at_) := (cell_of_list (o := 1) hb).trans rfl
  have c2 : w.cell? ⟨b, 2, none⟩ = some (.int .u64 R.id) := (cell_of_list (o := 2) hb).trans rfl
  have c3 : w.cell? ⟨b, 3, none⟩ = some (.int .i64 R.ck) := (cell_of_list (o := 3) hb).trans rfl
  have c4 : w.cell? ⟨b, 4, none⟩ = some (.int .i64 R.cs) := (cell_of_list (o := 4) hb).trans rfl
  have c5 : w.cell? ⟨b, 5, none⟩ = some (.int .u64 R.ct) := (cell_of_list (o := 5) hb).trans rfl
  have c6 : w.cell? ⟨b, 6, none⟩ = some (.int .i64 R.cv) := (cell_of_list (o := 6) hb).trans rfl
  have c7 : w.cell? ⟨b, 7, none⟩ = some (.int .u64 R.ver) := (cell_of_list (o := 7) hb).trans rfl
  have lb := h.lt
  have ha := below_alloc (Below.refl w.heap.size w) (.cells (coL (allR R) 0 (.slice none 0 0) (.slice none 0 0)).toArray 68)
  have hz := heap_alloc_new w (.cells (coL (allR R) 0 (.slice none 0 0) (.slice none 0 0)).toArray 68)
  have HSN : Hid (∀ u : World, u = (w.alloc (.cells (coL (allR R) 0 (.slice none 0 0) (.slice none 0 0)).toArray 68)).drew → Calls Tryz.prog 22 #[.pointer (some ⟨w.heap.size, 0, none⟩)] u fun e w' => ∃ v N, e = .returned v ∧ MsO w.heap.size w' v N ∧ N.map Mg.bare = csendTo (allR R) R.n.toNat ∧ Below w.heap.size w w') := hide (by
    rintro u rfl
    refine Calls.mono (csend_any (w0 := w) (X := fun g => g = w.heap.size) (R := allR R) ⟨⟨_, _, hz, CoG.nil_ _ _ _, CoA.nil_ _ _ _ _⟩, ha.drew, rfl, fun g e => by subst e; exact ⟨Nat.le_refl _, (Array.getElem?_eq_some_iff.1 hz).1⟩⟩ hn hs) ?_
    rintro e w' ⟨v, N, rfl, h1, h2, h3⟩
    exact ⟨v, N, rfl, ⟨OwnL.base_ h1.own ha.drew.size, h1.rd, h1.far⟩, h2, below_step ha.drew h3⟩)
  clear h hb ha hz hn hs
  go_enter Tryz.func11, Tryz.ntmps11
  go_upto_region 1 with fail
  go_region
  go_upto_region 2 with fail
  go_wp2_with fail
  refine (Calls.mono (HSN.out _ rfl) ?_); rintro e w1 ⟨v, N, rfl, h1, h2, h3⟩
  obtain ⟨A, c, rfl, _, _⟩ := OwnL.row Mg.cells_len h1.own
  have H1 := hide h1
  have H2 := hide h2
  have H3 := hide h3
  clear h1 h2 h3 HSN
  go_wp2_with fail
  go_ret
  exact ⟨_, N, rfl, H1.out, H2.out, H3.out⟩
end Go.Proofs.YtlabpgdimhbocaaGreat
