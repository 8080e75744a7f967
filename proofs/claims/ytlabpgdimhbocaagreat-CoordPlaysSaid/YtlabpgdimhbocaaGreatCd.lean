/- clepsydraref26.Call of a client's call: how it lies; NewCall, all, Need, SameAnswer: contracts. Conditions typed. -/
import Derived.Test.YtlabpgdimhbocaaGreatCoI
import Derived.Test.YtlabpgdimhbocaaGreatRAl
namespace Go.Proofs.YtlabpgdimhbocaaGreat
set_option linter.unusedVariables false
set_option linter.unusedSimpArgs false
open Go.ChangeShapes Go.WideShapes Go.ChangeAt Go.RowKit
/-- A call of the document's, as numbers. -/
structure Cs where
  id : Int
  n : Nat
  at_ : Int
  rd : Bool
  ck : Int
  cs : Int
  ct : Int
  cv : Int
  ver : Int
  ph : Int
  C : Nat → Bool
  L : List It
  G : List Mg
  tk : Int
  dn : Bool
  aid : Int
  ack : Int
  acs : Int
  act : Int
  acv : Int
  ae : Int
  av : Int
  AL : List It
/-- Its block. -/
def csL (K : Cs) (cb : Nat) (vi vg va : Value) : List Value := [.int .u64 K.id, .int .i64 K.n, .int .i64 K.at_, .bool K.rd, .int .i64 K.ck, .int .i64 K.cs, .int .u64 K.ct, .int .i64 K.cv, .int .u64 K.ver, .int .i64 K.ph, .slice (some ⟨cb, 0, none⟩) K.n K.n, vi, vg, .int .i64 K.tk, .bool K.dn, .int .u64 K.aid, .int .i64 K.ack, .int .i64 K.acs, .int .u64 K.act, .int .i64 K.acv, .int .i64 K.ae, .int .u64 K.av, va]
def cntL (n : Nat) (C : Nat → Bool) : List Value := (List.range n).map fun j => .bool (C j)
/-- A value whose block is among D, and neither of the two. -/
def FarD (D : Nat → Prop) (p cb : Nat) (v : Value) : Prop := ∀ g, v.ownBlock = some g → D g ∧ g ≠ p ∧ g ≠ cb
theorem FarD.up {D E : Nat → Prop} {p cb : Nat} {v : Value} (h : FarD D p cb v) (hX : ∀ g, D g → E g) : FarD E p cb v := fun g hg => ⟨hX g (h g hg).1, (h g hg).2⟩
/-- Messages that were kept. -/
def GotD (w0 w : World) (D : Nat → Prop) (p cb : Nat) (v : Value) (G : List Mg) : Prop := ∃ A c, v = .slice A G.length c ∧ RowAt Mg.cells 6 w A G ∧ G.length ≤ c ∧ c ≤ maxLen ∧ (∀ x ∈ G, x.rd w0) ∧ FarD D p cb v
/-- A call of the document's behind w0, its blocks D. -/
structure CallD (w0 w : World) (D : Nat → Prop) (p cb : Nat) (K : Cs) : Prop where
  row : ∃ vi vg va, w.heap[p]? = some (.cells (csL K cb vi vg va).toArray 49 (0, 0)) ∧ (Sl w vi K.L ∧ FarD D p cb vi) ∧ GotD w0 w D p cb vg K.G ∧ (Sl w va K.AL ∧ FarD D p cb va)
  cnt : w.heap[cb]? = some (.cells (cntL K.n K.C).toArray 4 (0, 0))
  low : Below w0.heap.size w0 w
  dp : D p
  dc : D cb
  ne : p ≠ cb
  ds : ∀ g, D g → w0.heap.size ≤ g ∧ g < w.heap.size
theorem infoBool : (Tryz.prog.info? 4).map (fun i => (i.zero, i.size, i.bytes)) = some (some (.bool false), 1, 1) := by kernel_rfl
theorem run_make_bools (n : Nat) (hn : n ≤ 1000) (w : World) : (Instr.makeSlice 47 (.int .i64 n) (.int .i64 n)).run Tryz.prog w = .ok (.slice (some ⟨w.heap.size, 0, none⟩) n n) (w.alloc (.cells (cntL n (fun _ => false)).toArray 4)) := by
  obtain ⟨i0, hi, hz0, hz1, hz2⟩ := info_parts infoBool
  rw [run_make (P := Tryz.prog) w 47 4 i0 _ Tryz.underlying47 hi hz0 .i64 .i64 n n (by omega) (by omega) (by rw [hz2]; omega) (by omega), hz1]
  have h := toList_madeCells_one (.bool false) n
  have e : madeCells (Value.bool false).cells ((n : Int).toNat * 1) = (cntL n (fun _ => false)).toArray := by
    apply Array.toList_inj.1
    simp only [Int.toNat_natCast, Nat.mul_one]
    refine h.trans ?_
    unfold cntL
    simp [List.map_const']
  rw [e]
  simp
theorem al3c (w : World) (o1 o2 o3 : Obj) : (((w.alloc o1).alloc o2).alloc o3).drew.heap[w.heap.size + 1]? = some o2 ∧ (((w.alloc o1).alloc o2).alloc o3).drew.heap[w.heap.size + 1 + 1]? = some o3 ∧ Below w.heap.size w (((w.alloc o1).alloc o2).alloc o3) :=
  ⟨(Below.heap_alloc _ _ _ (by simp)).trans (heap_at (by simp)), heap_at (by simp), below_alloc (below_alloc (below_alloc (Below.refl _ _) _) _) _⟩
section
variable {w0 w w' : World} {D E S : Nat → Prop} {p cb : Nat} {K : Cs}
theorem CallD.lt (h : CallD w0 w D p cb K) : p < w.heap.size ∧ cb < w.heap.size := ⟨(h.ds p h.dp).2, (h.ds cb h.dc).2⟩
theorem got_setsD {v : Value} {G : List Mg} (h : GotD w0 w D p cb v G) (k : Sets S w w') (hS : ∀ g, v.ownBlock = some g → ¬ S g) : GotD w0 w' D p cb v G := by
  obtain ⟨A, c, rfl, hr, h1, h2, h3, h4⟩ := h
  refine ⟨A, c, rfl, fun hne => ?_, h1, h2, h3, h4⟩
  obtain ⟨b, off, rfl, hlt, hc⟩ := hr hne
  exact ⟨b, off, rfl, Nat.lt_of_lt_of_le hlt k.size, fun j hj i u hu => (World.cell?_of_block (k.block b hlt (hS b rfl))).trans (hc j hj i u hu)⟩
theorem GotD.far {v : Value} {G : List Mg} (h : GotD w0 w D p cb v G) : FarD D p cb v := by
  obtain ⟨_, _, _, _, _, _, _, h4⟩ := h
  exact h4
theorem GotD.up {v : Value} {G : List Mg} (h : GotD w0 w D p cb v G) (hX : ∀ g, D g → E g) : GotD w0 w E p cb v G := by
  obtain ⟨A, c, e, hr, h1, h2, h3, h4⟩ := h
  exact ⟨A, c, e, hr, h1, h2, h3, h4.up hX⟩
/-- What writes to none of a call's blocks leaves it. -/
theorem CallD.sets (h : CallD w0 w D p cb K) (k : Sets S w w') (hS : ∀ g, D g → ¬ S g) (hl : Below w0.heap.size w0 w') : CallD w0 w' D p cb K := by
  obtain ⟨vi, vg, va, hb, ⟨h1, h2⟩, h3, h4, h5⟩ := h.row
  exact ⟨⟨vi, vg, va, (k.block p h.lt.1 (hS p h.dp)).trans hb, ⟨sl_sets_ h1 k (fun g hg => hS g (h2 g hg).1), h2⟩, got_setsD h3 k (fun g hg => hS g (h3.far g hg).1), ⟨sl_sets_ h4 k (fun g hg => hS g (h5 g hg).1), h5⟩⟩, (k.block cb h.lt.2 (hS cb h.dc)).trans h.cnt, hl, h.dp, h.dc, h.ne, fun g hg => ⟨(h.ds g hg).1, Nat.lt_of_lt_of_le (h.ds g hg).2 k.size⟩⟩
theorem CallD.below (h : CallD w0 w D p cb K) (hb : Below w.heap.size w w') : CallD w0 w' D p cb K := h.sets (Sets.of (S := fun _ => False) hb) (fun _ _ h => h) (below_step h.low hb)
theorem CallD.more (h : CallD w0 w D p cb K) (hX : ∀ g, D g → E g) (hE : ∀ g, E g → w0.heap.size ≤ g ∧ g < w.heap.size) : CallD w0 w E p cb K := by
  obtain ⟨vi, vg, va, hb, ⟨h1, h2⟩, h3, h4, h5⟩ := h.row
  exact ⟨⟨vi, vg, va, hb, ⟨h1, h2.up hX⟩, h3.up hX, ⟨h4, h5.up hX⟩⟩, h.cnt, h.low, hX p h.dp, hX cb h.dc, h.ne, hE⟩
theorem CallD.wide (h : CallD w0 w D p cb K) (hb : Below w.heap.size w w') : CallD w0 w' (Xn D w w') p cb K :=
  (h.below hb).more (fun _ hg => .inl hg) (fun g hg => by
    rcases hg with hg | hg
    · exact (h.below hb).ds g hg
    · exact ⟨Nat.le_trans h.low.size hg.1, hg.2⟩)
/-- A store into the block of its own. -/
theorem CallD.putp (h : CallD w0 w D p cb K) (K' : Cs) (o : Nat) (v : Value) (hset : ∀ vi vg va, (csL K cb vi vg va).set o v = csL K' cb vi vg va) (hL : K'.L = K.L) (hG : K'.G = K.G) (hA : K'.AL = K.AL) (hC : K'.C = K.C) (hn : K'.n = K.n) : CallD w0 (w.setCell ⟨p, o, none⟩ v) D p cb K' := by
  obtain ⟨vi, vg, va, hb, ⟨h1, h2⟩, h3, h4, h5⟩ := h.row
  have k : Sets (fun g => g = p) w (w.setCell ⟨p, o, none⟩ v) := (Sets.refl (S := fun g => g = p) w).set (g := p) (fun _ => rfl) o v
  refine ⟨⟨vi, vg, va, by rw [← hset]; exact set_of_list hb v, ⟨by rw [hL]; exact sl_sets_ h1 k (fun g hg e => (h2 g hg).2.1 e), h2⟩, by rw [hG]; exact got_setsD h3 k (fun g hg e => (h3.far g hg).2.1 e), ⟨by rw [hA]; exact sl_sets_ h4 k (fun g hg e => (h5 g hg).2.1 e), h5⟩⟩, by rw [hC, hn]; exact (k.block cb h.lt.2 (fun e => h.ne e.symm)).trans h.cnt, Sets.below h.low k (fun g e => by rw [e]; exact (h.ds p h.dp).1) h.low.size, h.dp, h.dc, h.ne, fun g hg => ⟨(h.ds g hg).1, Nat.lt_of_lt_of_le (h.ds g hg).2 k.size⟩⟩
end
/-- A new call. -/
def cs0 (n : Nat) (a id ck cs ct cv ver : Int) (rd : Bool) : Cs := ⟨id, n, a, rd, ck, cs, ct, cv, ver, 1, fun _ => false, [], [], 0, false, 0, 0, 0, 0, 0, 0, 0, []⟩
set_option maxRecDepth 100000 in
set_option maxHeartbeats 1600000 in
theorem newcall_any (n : Nat) (a id ck cs ct cv ver : Int) (rd : Bool) (w0 w : World) (hb : Below w0.heap.size w0 w) (hn : n ≤ 7) :
    Calls Tryz.prog 9 #[.int .i64 n, .int .i64 a, .int .u64 id, .agg #[.int .i64 ck, .int .i64 cs, .int .u64 ct, .int .i64 cv], .int .u64 ver, .bool rd] w fun e w' => ∃ p cb, e = .returned (.pointer (some ⟨p, 0, none⟩)) ∧ CallD w0 w' (fun g => w.heap.size ≤ g ∧ g < w'.heap.size) p cb (cs0 n a id ck cs ct cv ver rd) ∧ Below w.heap.size w w' := by
  have HB := hide hb
  have hm := fun W => run_make_bools n (by omega) W
  clear hb
  go_enter Tryz.func9, Tryz.ntmps9
  go_upto_region 1 with fail
  go_region
  go_wp2_with fail
  go_ret
  obtain ⟨g2, g3, g4⟩ := al3c w (.cells #[.int .i64 ck, .int .i64 cs, .int .u64 ct, .int .i64 cv] 24) (.cells (cntL n (fun _ => false)).toArray 4) (.cells (csL (cs0 n a id ck cs ct cv ver rd) (w.heap.size + 1) (.slice none 0 0) (.slice none 0 0) (.slice none 0 0)).toArray 49)
  have hs1 : (w.alloc (.cells #[.int .i64 ck, .int .i64 cs, .int .u64 ct, .int .i64 cv] 24)).heap.size = w.heap.size + 1 := by simp
  have hp := (Array.getElem?_eq_some_iff.1 g3).1
  have hnil : ∀ (D : Nat → Prop) p cb, FarD D p cb (.slice none 0 0) := fun D p cb g hg => by cases hg
  exact ⟨w.heap.size + 1 + 1, w.heap.size + 1, rfl, ⟨⟨_, _, _, g3, ⟨Sl.nil_ _, hnil _ _ _⟩, ⟨none, 0, rfl, RowAt.nil_, Nat.le_refl _, Nat.zero_le _, (fun x hx => by cases hx), hnil _ _ _⟩, ⟨Sl.nil_ _, hnil _ _ _⟩⟩, g2, below_step HB.out g4.drew, ⟨by omega, hp⟩, ⟨by omega, Nat.lt_trans (Nat.lt_succ_self _) hp⟩, by omega, fun g hg => ⟨Nat.le_trans HB.out.size hg.1, hg.2⟩⟩, g4.drew⟩
/-- What a call's block reads as, from a world on. -/
structure CallC (W : World) (p cb : Nat) (K : Cs) (Ai : Option Addr) (ci : Nat) : Prop where
  c0 : W.cell? ⟨p, 0, none⟩ = some (.int .u64 K.id)
  c1 : W.cell? ⟨p, 1, none⟩ = some (.int .i64 K.n)
  c2 : W.cell? ⟨p, 2, none⟩ = some (.int .i64 K.at_)
  c3 : W.cell? ⟨p, 3, none⟩ = some (.bool K.rd)
  c4 : W.cell? ⟨p, 4, none⟩ = some (.int .i64 K.ck)
  c5 : W.cell? ⟨p, 5, none⟩ = some (.int .i64 K.cs)
  c6 : W.cell? ⟨p, 6, none⟩ = some (.int .u64 K.ct)
  c7 : W.cell? ⟨p, 7, none⟩ = some (.int .i64 K.cv)
  c8 : W.cell? ⟨p, 8, none⟩ = some (.int .u64 K.ver)
  c9 : W.cell? ⟨p, 9, none⟩ = some (.int .i64 K.ph)
  c10 : W.cell? ⟨p, 10, none⟩ = some (.slice (some ⟨cb, 0, none⟩) K.n K.n)
  c11 : W.cell? ⟨p, 11, none⟩ = some (.slice Ai K.L.length ci)
  c13 : W.cell? ⟨p, 13, none⟩ = some (.int .i64 K.tk)
  c14 : W.cell? ⟨p, 14, none⟩ = some (.bool K.dn)
  cc : ∀ j, j < K.n → W.cell? ⟨cb, j, none⟩ = some (.bool (K.C j))
theorem CallD.cells {w0 w : World} {D : Nat → Prop} {p cb : Nat} {K : Cs} (h : CallD w0 w D p cb K) : ∃ Ai ci, (ItemsAt w Ai K.L ∧ K.L.length ≤ ci ∧ ci ≤ maxLen) ∧ ∀ W, Below w.heap.size w W → CallC W p cb K Ai ci := by
  obtain ⟨vi, vg, va, hb, ⟨⟨Ai, ci, rfl, h1, h2, h3⟩, _⟩, _⟩ := h.row
  refine ⟨Ai, ci, ⟨h1, h2, h3⟩, fun W hW => ?_⟩
  have hk := (hW.block p h.lt.1).trans hb
  have hc := (hW.block cb h.lt.2).trans h.cnt
  refine ⟨(cell_of_list (o := 0) hk).trans rfl, (cell_of_list (o := 1) hk).trans rfl, (cell_of_list (o := 2) hk).trans rfl, (cell_of_list (o := 3) hk).trans rfl, (cell_of_list (o := 4) hk).trans rfl, (cell_of_list (o := 5) hk).trans rfl, (cell_of_list (o := 6) hk).trans rfl, (cell_of_list (o := 7) hk).trans rfl, (cell_of_list (o := 8) hk).trans rfl, (cell_of_list (o := 9) hk).trans rfl, (cell_of_list (o := 10) hk).trans rfl, (cell_of_list (o := 11) hk).trans rfl, (cell_of_list (o := 13) hk).trans rfl, (cell_of_list (o := 14) hk).trans rfl, fun j hj => ?_⟩
  rw [cell_of_list (o := j) hc]
  unfold cntL
  simp [hj]
set_option maxRecDepth 100000 in
set_option maxHeartbeats 1600000 in
theorem rcall_any {w0 w : World} {D : Nat → Prop} {p cb : Nat} {K : Cs} (h : CallD w0 w D p cb K) (hn : K.n ≤ 7) :
    Calls Tryz.prog 27 #[.pointer (some ⟨p, 0, none⟩)] w fun e w' => e = .returned (.int .i64 (cntC K.C K.n : Nat)) ∧ w' = w := by
  obtain ⟨Ai, ci, _, hcl⟩ := h.cells
  obtain ⟨n, hnn⟩ : ∃ n, K.n = n := ⟨_, rfl⟩
  obtain ⟨c0, c1, c2, c3, c4, c5, c6, c7, c8, c9, c10, c11, c13, c14, cc⟩ := hcl w (Below.refl _ _)
  have HCC := hide cc
  have HNN := hide hnn
  rw [hnn] at c1 c10 hn ⊢
  clear hcl h c0 c2 c3 c4 c5 c6 c7 c8 c9 c11 c13 c14 cc hnn
  go_enter Tryz.func27, Tryz.ntmps27
  go_wp2_with fail
  go_loopw [3, 4] (fun v i wr => ∃ k : Nat, i = .int .i64 k ∧ k ≤ n ∧ v = .int .i64 (cntC K.C k : Nat) ∧ w = wr) (fun _ i _ => 8 - (intOf i).toNat)
  case atStart => exact ⟨0, rfl, by omega, rfl, rfl⟩
  case round =>
    obtain ⟨k, rfl, hk, rfl, rfl⟩ := hrel
    have hle := cntC_le K.C k
    by_cases hkn : k < n
    · have hkI : (k : Int) < (n : Int) := by omega
      have hk0 : (0 : Int) ≤ (k : Int) := by omega
      have hck := HCC.out k (by rw [HNN.out]; exact hkn)
      have HS : Hid (cntC K.C (k + 1) = cntC K.C k + (if K.C k = true then 1 else 0)) := hide rfl
      generalize cntC K.C k = q at *
      cases hb : K.C k with
      | true =>
        rw [hb] at hck HS
        clear hb
        go_wp2_with fail
        go_roundw
        case rel => exact ⟨k + 1, by go_num, by omega, by rw [HS.out]; go_num, trivial⟩
        case measure => (simp [intOf] <;> omega)
      | false =>
        rw [hb] at hck HS
        clear hb
        go_wp2_with fail
        go_roundw
        case rel => exact ⟨k + 1, by go_num, by omega, by rw [HS.out]; rfl, trivial⟩
        case measure => (simp [intOf] <;> omega)
    · obtain rfl : n = k := by omega
      have hkI : ¬ (n : Int) < (n : Int) := by omega
      go_wp2_with fail
      go_ret
      exact ⟨rfl, rfl⟩
theorem rneed_any (n : Int) (w : World) (h0 : 0 ≤ n) (h1 : n ≤ 1000) : Calls Tryz.prog 7 #[.int .i64 n] w fun e w' => e = .returned (.int .i64 (n / 2 + 1)) ∧ Below w.heap.size w w' := by
  go_enter Tryz.func7, Tryz.ntmps7
  go_wp2
  go_ret
  exact ⟨rfl, Below.refl _ _⟩
theorem cntL_setC {n f : Nat} (C : Nat → Bool) (hf : f < n) : (cntL n C).set f (.bool true) = cntL n (setC C f) := by
  unfold cntL
  apply List.ext_getElem?
  intro j
  rw [List.getElem?_set]
  by_cases e : f = j
  · subst e
    rw [if_pos rfl]
    simp [hf, setC]
  · rw [if_neg e]
    by_cases hj : j < n
    · have hc : setC C f j = C j := by unfold setC; rw [if_neg (fun h => e h.symm)]
      simp [hj, hc]
    · simp [hj]
end Go.Proofs.YtlabpgdimhbocaaGreat
