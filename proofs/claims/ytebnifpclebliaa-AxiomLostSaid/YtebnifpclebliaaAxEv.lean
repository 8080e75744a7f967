/- A state without one of its items is even with it, or not: plain words; steps of a drawn region that appends rows. -/
import Derived.Test.YtebnifpclebliaaAxPl
import Derived.Test.YtebnifpclebliaaApart
import Derived.Test.YtebnifpclebliaaApp
namespace Go.Proofs.Ytebnifpclebliaa
set_option linter.unusedVariables false
set_option linter.unusedSimpArgs false
open Go.ChangeShapes Go.WideShapes Go.ChangeAt Go.RowKit

def lessL (L : List It) (k : Nat) : List It := L.take k ++ L.drop (k + 1)
theorem less_mem {L : List It} {k : Nat} (hk : k < L.length) (y : It) : y ∈ L ↔ y = L[k] ∨ y ∈ lessL L k := by
  unfold lessL
  have e : L = L.take k ++ L[k] :: L.drop (k + 1) := by rw [← List.drop_eq_getElem_cons hk, List.take_append_drop]
  constructor
  · intro h
    rw [e] at h
    rcases List.mem_append.1 h with h | h
    · exact .inr (List.mem_append.2 (.inl h))
    · rcases List.mem_cons.1 h with h | h
      · exact .inl h
      · exact .inr (List.mem_append.2 (.inr h))
  · rintro (h | h)
    · rw [h]; exact List.getElem_mem hk
    · rcases List.mem_append.1 h with h | h
      · exact List.mem_of_mem_take h
      · exact List.mem_of_mem_drop h
theorem less_not_same {L : List It} (h : Rising L) {k : Nat} (hk : k < L.length) : ∀ y ∈ lessL L k, ¬ It.same L[k] y := by
  intro y hy hs
  unfold lessL at hy
  have e : L = L.take k ++ L[k] :: L.drop (k + 1) := by rw [← List.drop_eq_getElem_cons hk, List.take_append_drop]
  generalize L[k] = x at *
  unfold Rising at h
  rw [e, List.pairwise_append, List.pairwise_cons] at h
  obtain ⟨_, ⟨h2, _⟩, h3⟩ := h
  unfold It.same at hs
  rcases List.mem_append.1 hy with h | h
  · have := h3 y h x (by simp)
    unfold It.lt at this
    omega
  · have := h2 y h
    unfold It.lt at this
    omega
theorem bad_in {L M : List It} (h : IsState L) (hM : ∀ y ∈ M, y ∈ L) (f : Int) {x : It} (hx : x ∈ M) : badB M f x = false := by
  have e1 : anyI (inB x) M = true := anyI_true.2 ⟨x, hx, by unfold inB; rw [isB_iff.2 ⟨⟨rfl, rfl, rfl⟩, Int.le_refl _⟩]; rfl⟩
  have e2 : anyI (hidesB x) M = false := anyI_false.2 fun z hz => Bool.eq_false_iff.2 fun e => h.2.2 x (hM x hx) z (hM z hz) (hidesB_iff.1 e)
  unfold badB
  rw [e1, e2]; simp
theorem even_less {L : List It} (h : IsState L) {k : Nat} (hk : k < L.length) (f : Int) : evenB (lessL L k) L f = true := by
  unfold evenB
  rw [anyI_false.2 fun x hx => bad_in h (fun y hy => hy) f ((less_mem hk x).2 (.inr hx))]; rfl
theorem even_full {L : List It} (h : IsState L) {k : Nat} (hk : k < L.length) (f : Int) : evenB L (lessL L k) f = (decide (L[k].k = 1) || decide (f < L[k].v)) := by
  have hx := List.getElem_mem hk
  have hg := h.1 _ hx
  have hb : badB (lessL L k) f L[k] = (decide (L[k].v ≤ f) && decide (L[k].k = 2)) := by
    have e1 : anyI (inB L[k]) (lessL L k) = false := anyI_false.2 fun y hy => by
      unfold inB
      have a1 : isB L[k] y = false := Bool.eq_false_iff.2 fun e => less_not_same h.2.1 hk y hy (isB_iff.1 e).1
      have a2 : hidesB y L[k] = false := Bool.eq_false_iff.2 fun e => h.2.2 y ((less_mem hk y).2 (.inr hy)) _ hx (hidesB_iff.1 e)
      rw [a1, a2]; rfl
    have e2 : anyI (hidesB L[k]) (lessL L k) = false := anyI_false.2 fun z hz => Bool.eq_false_iff.2 fun e => h.2.2 _ hx z ((less_mem hk z).2 (.inr hz)) (hidesB_iff.1 e)
    unfold badB
    rw [e1, e2]; simp
  have hk12 : L[k].k = 1 ∨ L[k].k = 2 := by have := hg.2.2; omega
  unfold evenB
  cases hc : badB (lessL L k) f L[k]
  · have : anyI (badB (lessL L k) f) L = false := anyI_false.2 fun y hy => by
      rcases (less_mem hk y).1 hy with e | e
      · rw [e]; exact hc
      · exact bad_in h (fun z hz => (less_mem hk z).2 (.inr hz)) f e
    rw [this]
    rw [hb] at hc
    by_cases h1 : L[k].k = 1
    · rw [decide_eq_true h1]; rfl
    · by_cases h2 : f < L[k].v
      · rw [decide_eq_true h2]; simp
      · rw [decide_eq_true (by omega), decide_eq_true (by omega)] at hc
        cases hc
  · have : anyI (badB (lessL L k) f) L = true := anyI_true.2 ⟨_, hx, hc⟩
    rw [this]
    rw [hb] at hc
    rw [Bool.and_eq_true, decide_eq_true_eq, decide_eq_true_eq] at hc
    rw [decide_eq_false (by omega), decide_eq_false (by omega)]; rfl
theorem even_nil (b : List It) (f : Int) : evenB [] b f = true := rfl
theorem less_len {L : List It} {k : Nat} (hk : k < L.length) : (lessL L k).length + 1 = L.length := by unfold lessL; simp; omega
theorem items_drop {w : World} {b off : Nat} {L : List It} (h : ItemsAt w (some ⟨b, off, none⟩) L) (k : Nat) : ItemsAt w (some ⟨b, off + k * 5, none⟩) (L.drop k) := by
  intro hne
  have hL : L ≠ [] := fun e => by subst e; simp at hne
  obtain ⟨b', off', e, hlt, hc⟩ := h hL
  injection e with e
  injection e with e1 e2 _
  subst e1 e2
  refine ⟨b, off + k * 5, rfl, hlt, fun j hj i u hu => ?_⟩
  have hj2 : k + j < L.length := by rw [List.length_drop] at hj; omega
  have := hc (k + j) hj2 i u (by simpa using hu)
  have e3 : off + (k + j) * 5 + i = off + k * 5 + j * 5 + i := by omega
  rw [← e3]
  exact this
/-- At a step of a region that draws its order. -/
theorem step_append_items {ops : Array Oper} {o : Oper} {a : Act} {w : World} {K : Act → World → Prop} {Q : Exit → Act → World → Prop} {E : Prop} (hgd : o.guard = none) (s x : Operand)
    (ho : o.op = .call { callee := .builtin .append, args := #[s, x], argTypes := #[24, 24] })
    (base : Nat) (v : Value) (L : List It) (hs : a.eval s = v) (hown : Ow base w v L) (A : Option Addr) (n c : Nat) (M : List It) (hx : a.eval x = .slice A n c) (hM : M.length = n) (hr : ItemsAt w A M) (hbase : base ≤ w.heap.size) (hn : L.length + n ≤ 2199023255553)
    (h : ∀ v' w', Ow base w' v' (L ++ M) → w.grownBy w' v.ownBlock → K (a.put o.dst v') w') : if Region.wanted o (yielded ops a.tmps) = true then Oper.wp Try.prog o a w K Q else E := by
  subst hM
  have hw : Region.wanted o (yielded ops a.tmps) = true := by simp [Region.wanted, hgd]
  rw [if_pos hw]
  obtain ⟨i0, hi, hz0, hz1, hz2⟩ := info_parts Try.infoItem
  obtain ⟨v', w', hrun, h2, h3, _⟩ := run_append_row (P := Try.prog) w base 24 o.type 32 i0 _ 5 40 Try.underlying24 hi hz0 hz1 hz2 rfl (by omega) It.cells_len v L hown A c M hr (items_none hr) (fun m _ => It.cells_one m) (by simp only [maxLen]; omega) (by omega) hbase
  unfold Oper.wp execOp
  simp only [ho, resolve, invoke, builtin, Sem.run_bind, Sem.run_pure, Result.andThen_ok, List.map_toArray, List.map_cons, List.map_nil, hs, hx, hrun]
  exact h v' w' h2 h3
end Go.Proofs.Ytebnifpclebliaa
