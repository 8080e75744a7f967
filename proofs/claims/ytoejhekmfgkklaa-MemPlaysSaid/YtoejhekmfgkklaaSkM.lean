/- A skip list in memory; skip.tower, New: contracts. Conditions: typed at each. -/
import Derived.Test.YtoejhekmfgkklaaSk
namespace Go.Proofs.Ytoejhekmfgkklaa
set_option linter.unusedVariables false
set_option linter.unusedSimpArgs false
open Go.ChangeShapes Go.WideShapes Go.ChangeAt Go.RowKit

/-- A node in memory. -/
structure NdAt (w : World) (n : Nd) : Prop where
  lb : n.b < w.heap.size
  lt : n.t < w.heap.size
  sh : w.shape? n.b = some (88, 6)
  c0 : w.cell? ⟨n.b, 0, none⟩ = some (.int .i64 n.x.s)
  c1 : w.cell? ⟨n.b, 1, none⟩ = some (.int .i64 n.x.k)
  c2 : w.cell? ⟨n.b, 2, none⟩ = some (.int .u64 n.x.t)
  c3 : w.cell? ⟨n.b, 3, none⟩ = some (.int .u64 n.x.v)
  c4 : w.cell? ⟨n.b, 4, none⟩ = some (.int .i64 n.x.x)
  c5 : w.cell? ⟨n.b, 5, none⟩ = some (.slice (some ⟨n.t, 0, none⟩) n.h n.h)
  fb : ∀ o, w.frozen? ⟨n.b, o, none⟩ = false
  ft : ∀ o, w.frozen? ⟨n.t, o, none⟩ = false
theorem shape_of {w w' : World} {b : Nat} (h : w'.heap[b]? = w.heap[b]?) : w'.shape? b = w.shape? b := by unfold World.shape?; rw [h]
/-- Where its two blocks stay, a node stays. -/
theorem NdAt.kept {w w' : World} {n : Nd} (h : NdAt w n) (hz : w.heap.size ≤ w'.heap.size) (hb : w'.heap[n.b]? = w.heap[n.b]?) (ht : w'.heap[n.t]? = w.heap[n.t]?) : NdAt w' n :=
  ⟨Nat.lt_of_lt_of_le h.lb hz, Nat.lt_of_lt_of_le h.lt hz, (shape_of hb).trans h.sh, (World.cell?_of_block hb).trans h.c0, (World.cell?_of_block hb).trans h.c1, (World.cell?_of_block hb).trans h.c2, (World.cell?_of_block hb).trans h.c3, (World.cell?_of_block hb).trans h.c4, (World.cell?_of_block hb).trans h.c5,
   fun o => (World.frozen?_of_block hb).trans (h.fb o), fun o => (World.frozen?_of_block ht).trans (h.ft o)⟩
theorem NdAt.below {w w' : World} {n : Nd} (h : NdAt w n) (hb : Below w.heap.size w w') : NdAt w' n := h.kept hb.size (hb.block _ h.lb) (hb.block _ h.lt)
theorem NdAt.ptr {w : World} {n : Nd} (h : NdAt w n) : PtrOk w (some ⟨n.b, 0, none⟩) := ⟨n.b, rfl, h.sh, _, h.c0⟩
/-- The nodes of a list (its head ahead of all) as they read: items, towers, and each level's next ones. -/
structure Nodes (w : World) (F : List Nd) : Prop where
  at_ : ∀ n ∈ F, NdAt w n
  lev : ∀ (i : Nat) (hi : i < F.length) (k : Nat), k < F[i].h → w.cell? ⟨F[i].t, k, none⟩ = some (ptrO (nxtP k (F.drop (i + 1))))
theorem Nodes.below {w w' : World} {F : List Nd} (h : Nodes w F) (hb : Below w.heap.size w w') : Nodes w' F :=
  ⟨fun n hn => (h.at_ n hn).below hb, fun i hi k hk => (hb.cell (p := ⟨F[i].t, _, none⟩) (h.at_ _ (List.getElem_mem hi)).lt).trans (h.lev i hi k hk)⟩
/-- A list: its struct's block p, its nodes. -/
structure SkAt (w : World) (p : Nat) (F : List Nd) : Prop where
  lp : p < w.heap.size
  pos : ∃ h : 0 < F.length, (F[0]'h).h = 6 ∧ w.cell? ⟨p, 0, none⟩ = some (.pointer (some ⟨(F[0]'h).b, 0, none⟩))
  cnt : w.cell? ⟨p, 1, none⟩ = some (.int .i64 ((F.length : Int) - 1))
  fp : ∀ o, w.frozen? ⟨p, o, none⟩ = false
  nds : Nodes w F
  dis : (p :: F.flatMap fun n => [n.b, n.t]).Nodup
theorem SkAt.below {w w' : World} {p : Nat} {F : List Nd} (h : SkAt w p F) (hb : Below w.heap.size w w') : SkAt w' p F :=
  ⟨Nat.lt_of_lt_of_le h.lp hb.size, by obtain ⟨a, b, c⟩ := h.pos; exact ⟨a, b, (hb.cell (p := ⟨p, _, none⟩) h.lp).trans c⟩, (hb.cell (p := ⟨p, _, none⟩) h.lp).trans h.cnt, fun o => (World.frozen?_of_block (hb.block p h.lp)).trans (h.fp o), h.nds.below hb, h.dis⟩

theorem infoAp : (Try.prog.info? 85).map (fun i => (i.zero, i.size, i.bytes)) = some (some (.agg #[.pointer none]), 1, 8) := by kernel_rfl
theorem run_make_ap (S : Nat) (hS : S ≤ 1000) (w : World) : (Instr.makeSlice 86 (.int .i64 S) (.int .i64 S)).run Try.prog w = .ok (.slice (some ⟨w.heap.size, 0, none⟩) S S) (w.alloc (.cells (List.replicate S (Value.pointer none)).toArray 85)) := by
  obtain ⟨i0, hi, hz0, hz1, hz2⟩ := info_parts infoAp
  rw [run_make (P := Try.prog) w 86 85 i0 _ Try.underlying86 hi hz0 .i64 .i64 S S (by omega) (by omega) (by rw [hz2]; omega) (by omega), hz1]
  have h := toList_madeCells_one (.pointer none) S
  have e : madeCells (Value.agg #[.pointer none]).cells ((S : Int).toNat * 1) = (List.replicate S (Value.pointer none)).toArray := by
    apply Array.toList_inj.1
    simp only [Int.toNat_natCast, Nat.mul_one]
    exact h
  rw [e]
  simp
theorem al3s (w : World) (o1 o2 o3 : Obj) : (((w.alloc o1).alloc o2).alloc o3).heap[w.heap.size + 1]? = some o2 ∧ (((w.alloc o1).alloc o2).alloc o3).heap[w.heap.size + 1 + 1]? = some o3 ∧ Below w.heap.size w (((w.alloc o1).alloc o2).alloc o3) :=
  ⟨(Below.heap_alloc _ _ _ (by simp)).trans (heap_at (by simp)), heap_at (by simp), below_alloc (below_alloc (below_alloc (Below.refl _ _) _) _) _⟩
theorem tower_in {W : World} {b t h : Nat} {x : It} (hb : W.heap[b]? = some (.cells #[.int .i64 x.s, .int .i64 x.k, .int .u64 x.t, .int .u64 x.v, .int .i64 x.x, .slice (some ⟨t, 0, none⟩) h h] 88 (0, 0))) (ht : W.heap[t]? = some (.cells (List.replicate h (Value.pointer none)).toArray 85 (0, 0))) :
    NdAt W ⟨b, t, h, x⟩ ∧ ∀ k, k < h → W.cell? ⟨t, k, none⟩ = some (.pointer none) :=
  ⟨⟨(Array.getElem?_eq_some_iff.1 hb).1, (Array.getElem?_eq_some_iff.1 ht).1, by unfold World.shape?; rw [hb]; rfl, (cell_of_row W b 0 _ _ _ hb).trans rfl, (cell_of_row W b 1 _ _ _ hb).trans rfl, (cell_of_row W b 2 _ _ _ hb).trans rfl, (cell_of_row W b 3 _ _ _ hb).trans rfl, (cell_of_row W b 4 _ _ _ hb).trans rfl, (cell_of_row W b 5 _ _ _ hb).trans rfl,
    fun o => by simp [World.frozen?, hb], fun o => by simp [World.frozen?, ht]⟩, fun k hk => by rw [cell_of_row W t k _ _ _ ht]; simp [hk]⟩
set_option maxHeartbeats 1000000 in
theorem tower_any (x : It) (h : Nat) (w : World) (hh : h ≤ 6) : Calls Try.prog 40 #[x.val, .int .i64 h] w fun e w' => ∃ b t, e = .returned (.pointer (some ⟨b, 0, none⟩)) ∧ w.heap.size ≤ b ∧ w.heap.size ≤ t ∧ b ≠ t ∧ NdAt w' ⟨b, t, h, x⟩ ∧ (∀ k, k < h → w'.cell? ⟨t, k, none⟩ = some (.pointer none)) ∧ Below w.heap.size w w' := by
  have hm := fun W => run_make_ap h (by omega) W
  go_enter Try.func40, Try.ntmps40
  go_upto_region 1 with fail
  go_region
  go_wp2_with fail
  go_ret
  obtain ⟨g2, g3, g4⟩ := al3s w (.cells x.cells.toArray 24) (.cells (List.replicate h (Value.pointer none)).toArray 85) (.cells #[.int .i64 x.s, .int .i64 x.k, .int .u64 x.t, .int .u64 x.v, .int .i64 x.x, .slice (some ⟨w.heap.size + 1, 0, none⟩) h h] 88)
  obtain ⟨h1, h2⟩ := tower_in g3 g2
  exact ⟨_, _, rfl, by omega, by omega, by omega, h1.below (Below.refl _ _).drew, h2, g4.drew⟩

theorem free_at {w : World} {g : Nat} {l : Array Value} {t : TypeId} (h : w.heap[g]? = some (.cells l t (0, 0))) : ∀ o, w.frozen? ⟨g, o, none⟩ = false := fun o => by simp [World.frozen?, h]
/-- A block of a list's. -/
def SBlk (p : Nat) (F : List Nd) (b : Nat) : Prop := b = p ∨ ∃ n ∈ F, b = n.b ∨ b = n.t
abbrev It.zero : It := ⟨0, 0, 0, 0, 0⟩
set_option maxHeartbeats 1000000 in
theorem new_any (w : World) : Calls Try.prog 24 #[] w fun e w' => ∃ p H, e = .returned (.pointer (some ⟨p, 0, none⟩)) ∧ SkAt w' p [H] ∧ (∀ b, SBlk p [H] b → w.heap.size ≤ b) ∧ Below w.heap.size w w' := by
  have HT := hide (fun W => tower_any It.zero 6 W (by omega))
  go_enter Try.func24, Try.ntmps24
  go_wp2_with fail
  refine (Calls.mono (HT.out _) ?_); rintro e w1 ⟨b, t, rfl, hb, ht, hbt, hnd, hcl, hg1⟩
  have HN := hide hnd
  have HC := hide hcl
  have HB := hide hg1
  have hlb := hnd.lb
  have hlt := hnd.lt
  clear hnd hcl hg1
  go_wp2_with fail
  go_ret
  have hba := below_alloc (Below.refl w1.heap.size w1) (.cells #[.pointer (some ⟨b, 0, none⟩), .int .i64 0] 78)
  have hp := heap_alloc_new w1 (.cells #[.pointer (some ⟨b, 0, none⟩), .int .i64 0] 78)
  have hz := HB.out.size
  refine ⟨w1.heap.size, ⟨b, t, 6, It.zero⟩, rfl, ⟨(Array.getElem?_eq_some_iff.1 hp).1, ⟨by simp, rfl, (cell_of_row _ _ 0 _ _ _ hp).trans rfl⟩, (cell_of_row _ _ 1 _ _ _ hp).trans rfl, free_at hp, ⟨?_, ?_⟩, ?_⟩, ?_, below_step HB.out hba⟩
  · intro n hn
    simp at hn
    subst hn
    exact HN.out.below hba
  · intro i hi k hk
    have hi0 : i = 0 := by simpa using hi
    subst hi0
    exact (hba.cell (p := ⟨t, _, none⟩) hlt).trans (HC.out k hk)
  · simp
    exact ⟨⟨by omega, by omega⟩, hbt⟩
  · rintro c (rfl | ⟨n, hn, h⟩)
    · exact hz
    · simp at hn
      subst hn
      rcases h with rfl | rfl
      · exact hb
      · exact ht
end Go.Proofs.Ytoejhekmfgkklaa
