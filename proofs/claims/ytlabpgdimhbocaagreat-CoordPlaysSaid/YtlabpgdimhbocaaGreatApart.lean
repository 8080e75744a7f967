/- Two rows of a call's own, side by side: one grows, the other stays. No program's function occurs here. -/
import Derived.Test.YtlabpgdimhbocaaGreatOne
namespace Go.Proofs.YtlabpgdimhbocaaGreat
set_option linter.unusedVariables false
set_option linter.unusedSimpArgs false
open Go.ChangeShapes Go.WideShapes Go.ChangeAt Go.RowKit

def ApartV (v u : Value) : Prop := ∀ g, v.ownBlock = some g → u.ownBlock ≠ some g
theorem ApartV.symm {v u : Value} (h : ApartV v u) : ApartV u v := fun g hg e => h g e hg
def Moved (w : World) (v v' : Value) : Prop := v'.ownBlock = v.ownBlock ∨ ∃ g, w.heap.size ≤ g ∧ v'.ownBlock = some g
theorem ApartV.moved {w : World} {v v' u : Value} (h : ApartV v u) (hu : ∀ g, u.ownBlock = some g → g < w.heap.size) (hm : Moved w v v') : ApartV v' u := fun g hg e => by
  rcases hm with hm | ⟨g', hg', hm⟩
  · rw [hm] at hg; exact h g hg e
  · rw [hm] at hg
    injection hg with hg
    have := hu g e
    omega
theorem ApartV.keep {α : Type} {cells : α → List Value} {sz : Nat} {e : TypeId} {base : Nat} {w w' : World} {v u : Value} {M : List α} (h : ApartV v u) (hown : OwnL cells sz e base w u M) (hg : w.grownBy w' v.ownBlock) : OwnL cells sz e base w' u M :=
  hown.kept hg (by
    cases hu : u.ownBlock with
    | none => exact .inl rfl
    | some g => exact .inr fun e' => h g e'.symm hu)
theorem apart_nil (v : Value) : ApartV (.slice none 0 0) v := fun g hg => by simp [Value.ownBlock] at hg
theorem wpList_append_el {P : Program} {α : Type} {cells : α → List Value} {ops : Array Oper} {rest : List Oper} {o : Oper} {a : Act} {Q : Exit → Act → World → Prop} (hgd : o.guard = none) (s x : Operand) (t e : TypeId) (z : Value) (size bytes : Nat)
    (ho : o.op = .call { callee := .builtin .append, args := #[s, x], argTypes := #[t, t] })
    (ht : P.underlying t = some (.slice e)) (hinf : (P.info? e).map (fun i => (i.zero, i.size, i.bytes)) = some (some z, size, bytes)) (hzs : z.cells.size = size) (hs0 : 0 < size) (hc : ∀ a, (cells a).length = size) (h1 : ∀ a, ∀ u ∈ cells a, u.oneCell' = true) (hby : bytes ≤ 128)
    (B base : Nat) (w0 w W : World) (v : Value) (L : List α) (y : α) (hs : a.eval s = v) (g : Nat) (hg : g = w.heap.size) (hx : a.eval x = .slice (some ⟨g, 0, none⟩) 1 1) (hW : W = w.alloc (.cells (cells y).toArray e))
    (hown : OwnL cells size e base w v L) (hb : Below B w0 w) (hB : B ≤ base) (hbase : base ≤ w.heap.size) (hn : L.length ≤ 274877906944)
    (h : ∀ v' w', OwnL cells size e base w' v' (L ++ [y]) → Below B w0 w' → w.grownBy w' v.ownBlock → Moved w v v' → wpList P ops Q rest (a.put o.dst v') w') : wpList P ops Q (o :: rest) a W := by
  subst hW hg
  obtain ⟨i0, hi, hz0, hz1, hz2⟩ := info_parts hinf
  have hbb : (L.length + 1) * bytes ≤ 140737488355328 := by
    have : (L.length + 1) * bytes ≤ (L.length + 1) * 128 := Nat.mul_le_mul_left _ hby
    omega
  refine wpList_append_row (w.alloc _) hgd s x t ho base e i0 _ size bytes ht hi hz0 hz1 hz2 hzs hs0 hc v L hs (OwnL.alloc hown _) (some ⟨w.heap.size, 0, none⟩) 1 [y] hx (RowAt.new_one (t := e) (fr := (0, 0)) (heap_alloc_new w _)) (by simp) (fun m _ u hu => h1 m u hu) (by simp only [List.length_singleton, maxLen]; omega) (by simpa using hbb) (by simp; omega) ?_
  intro v1 w1 h1 hg hmv
  refine h v1 w1 h1 ?_ ?_ ?_
  · exact (hb.alloc (Nat.le_trans hB hbase) _).grown hg (by simp; omega) (fun k hk => Nat.le_trans hB (OwnL.lt hown k hk).1)
  · exact ⟨hg.os, hg.tape, hg.output, Nat.le_trans (by simp) hg.size, fun k hk hne => (hg.block k (by simp; omega) hne).trans (Below.heap_alloc w _ k hk)⟩
  · rcases hmv with e | e
    · exact .inl e
    · exact .inr ⟨_, by simp, e⟩
end Go.Proofs.YtlabpgdimhbocaaGreat
