/- clepsydraref26.Call: how it lies; NewCall: a contract. Conditions typed. -/
import Derived.Test.YtikecafblampeaaRndC
import Derived.Test.YtikecafblampeaaRAl
namespace Go.Proofs.Ytikecafblampeaa
set_option linter.unusedVariables false
set_option linter.unusedSimpArgs false
open Go.ChangeShapes Go.WideShapes Go.ChangeAt Go.RowKit
/-- A call of the document's, as numbers. -/
structure Cs where
  id : Int
  n : Nat
  at_ : Int
  rd : Bool
  ck : Int
  cs : Int
  ct : Int
  cv : Int
  ver : Int
  ph : Int
  C : Nat → Bool
  L : List It
  G : List Mg
  tk : Int
  dn : Bool
  aid : Int
  ack : Int
  acs : Int
  act : Int
  acv : Int
  ae : Int
  av : Int
  AL : List It
/-- Its block. -/
def csL (K : Cs) (cb : Nat) (vi vg va : Value) : List Value := [.int .u64 K.id, .int .i64 K.n, .int .i64 K.at_, .bool K.rd, .int .i64 K.ck, .int .i64 K.cs, .int .u64 K.ct, .int .i64 K.cv, .int .u64 K.ver, .int .i64 K.ph, .slice (some ⟨cb, 0, none⟩) K.n K.n, vi, vg, .int .i64 K.tk, .bool K.dn, .int .u64 K.aid, .int .i64 K.ack, .int .i64 K.acs, .int .u64 K.act, .int .i64 K.acv, .int .i64 K.ae, .int .u64 K.av, va]
def cntL (n : Nat) (C : Nat → Bool) : List Value := (List.range n).map fun j => .bool (C j)
/-- A value whose block is neither of the two, nor below. -/
def FarV (w : World) (base p cb : Nat) (v : Value) : Prop := ∀ g, v.ownBlock = some g → base ≤ g ∧ g < w.heap.size ∧ g ≠ p ∧ g ≠ cb
theorem FarV.up {w w' : World} {base p cb : Nat} {v : Value} (h : FarV w base p cb v) (hs : w.heap.size ≤ w'.heap.size) : FarV w' base p cb v := fun g hg => ⟨(h g hg).1, Nat.lt_of_lt_of_le (h g hg).2.1 hs, (h g hg).2.2⟩
/-- Messages that were kept. -/
def GotAt (w0 w : World) (base p cb : Nat) (v : Value) (G : List Mg) : Prop := ∃ A c, v = .slice A G.length c ∧ RowAt Mg.cells 6 w A G ∧ G.length ≤ c ∧ c ≤ maxLen ∧ (∀ x ∈ G, x.rd w0) ∧ FarV w base p cb v
/-- A call of the document's behind w0. -/
structure CallO (w0 w : World) (base p cb : Nat) (K : Cs) : Prop where
  row : ∃ vi vg va, w.heap[p]? = some (.cells (csL K cb vi vg va).toArray 60 (0, 0)) ∧ (Sl w vi K.L ∧ FarV w base p cb vi) ∧ GotAt w0 w base p cb vg K.G ∧ (Sl w va K.AL ∧ FarV w base p cb va)
  cnt : w.heap[cb]? = some (.cells (cntL K.n K.C).toArray 4 (0, 0))
  low : Below w0.heap.size w0 w
  old : w0.heap.size ≤ base
  op : base ≤ p
  oc : base ≤ cb
  ne : p ≠ cb
theorem infoBool : (Try.prog.info? 4).map (fun i => (i.zero, i.size, i.bytes)) = some (some (.bool false), 1, 1) := by kernel_rfl
theorem run_make_bools (n : Nat) (hn : n ≤ 1000) (w : World) : (Instr.makeSlice 58 (.int .i64 n) (.int .i64 n)).run Try.prog w = .ok (.slice (some ⟨w.heap.size, 0, none⟩) n n) (w.alloc (.cells (cntL n (fun _ => false)).toArray 4)) := by
  obtain ⟨i0, hi, hz0, hz1, hz2⟩ := info_parts infoBool
  rw [run_make (P := Try.prog) w 58 4 i0 _ Try.underlying58 hi hz0 .i64 .i64 n n (by omega) (by omega) (by rw [hz2]; omega) (by omega), hz1]
  have h := toList_madeCells_one (.bool false) n
  have e : madeCells (Value.bool false).cells ((n : Int).toNat * 1) = (cntL n (fun _ => false)).toArray := by
    apply Array.toList_inj.1
    simp only [Int.toNat_natCast, Nat.mul_one]
    refine h.trans ?_
    unfold cntL
    simp [List.map_const']
  rw [e]
  simp
theorem al3c (w : World) (o1 o2 o3 : Obj) : (((w.alloc o1).alloc o2).alloc o3).drew.heap[w.heap.size + 1]? = some o2 ∧ (((w.alloc o1).alloc o2).alloc o3).drew.heap[w.heap.size + 1 + 1]? = some o3 ∧ Below w.heap.size w (((w.alloc o1).alloc o2).alloc o3) :=
  ⟨(Below.heap_alloc _ _ _ (by simp)).trans (heap_at (by simp)), heap_at (by simp), below_alloc (below_alloc (below_alloc (Below.refl _ _) _) _) _⟩
section
variable {w0 w w' : World} {base p cb : Nat} {K : Cs}
theorem CallO.lt (h : CallO w0 w base p cb K) : p < w.heap.size ∧ cb < w.heap.size := by
  obtain ⟨_, _, _, hb, _⟩ := h.row
  exact ⟨(Array.getElem?_eq_some_iff.1 hb).1, (Array.getElem?_eq_some_iff.1 h.cnt).1⟩
theorem sl_sets {S : Nat → Prop} {v : Value} {L : List It} (h : Sl w v L) (k : Sets S w w') (hS : ∀ g, v.ownBlock = some g → ¬ S g) : Sl w' v L := by
  obtain ⟨A, c, rfl, hr, h1, h2⟩ := h
  refine ⟨A, c, rfl, fun hne => ?_, h1, h2⟩
  obtain ⟨b, off, rfl, hlt, hc⟩ := hr hne
  exact ⟨b, off, rfl, Nat.lt_of_lt_of_le hlt k.size, fun j hj i u hu => (World.cell?_of_block (k.block b hlt (hS b rfl))).trans (hc j hj i u hu)⟩
theorem got_sets {S : Nat → Prop} {v : Value} {G : List Mg} (h : GotAt w0 w base p cb v G) (k : Sets S w w') (hS : ∀ g, v.ownBlock = some g → ¬ S g) : GotAt w0 w' base p cb v G := by
  obtain ⟨A, c, rfl, hr, h1, h2, h3, h4⟩ := h
  refine ⟨A, c, rfl, fun hne => ?_, h1, h2, h3, h4.up k.size⟩
  obtain ⟨b, off, rfl, hlt, hc⟩ := hr hne
  exact ⟨b, off, rfl, Nat.lt_of_lt_of_le hlt k.size, fun j hj i u hu => (World.cell?_of_block (k.block b hlt (hS b rfl))).trans (hc j hj i u hu)⟩
/-- What writes below a call's blocks leaves it. -/
theorem CallO.sets {S : Nat → Prop} (h : CallO w0 w base p cb K) (k : Sets S w w') (hS : ∀ g, S g → g < base) (hl : Below w0.heap.size w0 w') : CallO w0 w' base p cb K := by
  obtain ⟨vi, vg, va, hb, ⟨h1, h2⟩, h3, h4, h5⟩ := h.row
  have h3f : FarV w base p cb vg := by obtain ⟨_, _, _, _, _, _, _, hf⟩ := h3; exact hf
  have far : ∀ v, FarV w base p cb v → ∀ g, v.ownBlock = some g → ¬ S g := fun v hv g hg hs => by
    have := (hv g hg).1
    have := hS g hs
    omega
  exact ⟨⟨vi, vg, va, (k.block p h.lt.1 (fun hs => by have := hS p hs; have := h.op; omega)).trans hb, ⟨sl_sets h1 k (far vi h2), h2.up k.size⟩, got_sets h3 k (far vg h3f), ⟨sl_sets h4 k (far va h5), h5.up k.size⟩⟩, (k.block cb h.lt.2 (fun hs => by have := hS cb hs; have := h.oc; omega)).trans h.cnt, hl, h.old, h.op, h.oc, h.ne⟩
theorem CallO.below (h : CallO w0 w base p cb K) (hb : Below w.heap.size w w') : CallO w0 w' base p cb K := h.sets (Sets.of (S := fun _ => False) hb) (fun _ h => h.elim) (below_step h.low hb)
end
/-- A new call. -/
def cs0 (n : Nat) (a id ck cs ct cv ver : Int) (rd : Bool) : Cs := ⟨id, n, a, rd, ck, cs, ct, cv, ver, 1, fun _ => false, [], [], 0, false, 0, 0, 0, 0, 0, 0, 0, []⟩
set_option maxRecDepth 100000 in
set_option maxHeartbeats 1600000 in
theorem newcall_any (n : Nat) (a id ck cs ct cv ver : Int) (rd : Bool) (w0 w : World) (hb : Below w0.heap.size w0 w) (hn : n ≤ 7) :
    Calls Try.prog 21 #[.int .i64 n, .int .i64 a, .int .u64 id, .agg #[.int .i64 ck, .int .i64 cs, .int .u64 ct, .int .i64 cv], .int .u64 ver, .bool rd] w fun e w' => ∃ p cb, e = .returned (.pointer (some ⟨p, 0, none⟩)) ∧ CallO w0 w' w.heap.size p cb (cs0 n a id ck cs ct cv ver rd) ∧ Below w.heap.size w w' := by
  have HB := hide hb
  have hm := fun W => run_make_bools n (by omega) W
  clear hb
  go_enter Try.func21, Try.ntmps21
  go_upto_region 1 with fail
  go_region
  go_wp2_with fail
  go_ret
  obtain ⟨g2, g3, g4⟩ := al3c w (.cells #[.int .i64 ck, .int .i64 cs, .int .u64 ct, .int .i64 cv] 45) (.cells (cntL n (fun _ => false)).toArray 4) (.cells (csL (cs0 n a id ck cs ct cv ver rd) (w.heap.size + 1) (.slice none 0 0) (.slice none 0 0) (.slice none 0 0)).toArray 60)
  have hnil : ∀ W p cb, FarV W w.heap.size p cb (.slice none 0 0) := fun W p cb g hg => by cases hg
  exact ⟨w.heap.size + 1 + 1, w.heap.size + 1, rfl, ⟨⟨_, _, _, g3, ⟨Sl.nil_ _, hnil _ _ _⟩, ⟨none, 0, rfl, RowAt.nil_, Nat.le_refl _, Nat.zero_le _, (fun x hx => by cases hx), hnil _ _ _⟩, ⟨Sl.nil_ _, hnil _ _ _⟩⟩, g2, below_step HB.out g4.drew, HB.out.size, by omega, by omega, by omega⟩, g4.drew⟩
end Go.Proofs.Ytikecafblampeaa
