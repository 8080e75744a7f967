/- clepsydraref26.Call: what stores make of it. Conditions: the call as it lies. -/
import Derived.Test.YtikecafblampeaaRcE
namespace Go.Proofs.Ytikecafblampeaa
set_option linter.unusedVariables false
set_option linter.unusedSimpArgs false
open Go.ChangeShapes Go.WideShapes Go.ChangeAt Go.RowKit
theorem cntL_set {n f : Nat} (C : Nat → Bool) (hf : f < n) : (cntL n C).set f (.bool true) = cntL n (setC C f) := by
  unfold cntL setC
  apply List.ext_getElem
  · simp
  · intro i h1 h2
    have hi : i < n := by simpa using h2
    rw [List.getElem_set]
    by_cases e : f = i
    · subst e
      simp
    · rw [if_neg e]
      simp [show ¬ i = f from fun x => e x.symm]
section
variable {w0 u : World} {base p cb : Nat} {K : Cs}
theorem CallO.far (h : CallO w0 u base p cb K) : ∃ vi vg va, u.heap[p]? = some (.cells (csL K cb vi vg va).toArray 60 (0, 0)) ∧ (Sl u vi K.L ∧ FarV u base p cb vi) ∧ (GotAt w0 u base p cb vg K.G ∧ FarV u base p cb vg) ∧ (Sl u va K.AL ∧ FarV u base p cb va) := by
  obtain ⟨vi, vg, va, hb, h1, h2, h3⟩ := h.row
  have h2f : FarV u base p cb vg := by obtain ⟨_, _, _, _, _, _, _, hf⟩ := h2; exact hf
  exact ⟨vi, vg, va, hb, h1, ⟨h2, h2f⟩, h3⟩
theorem CallO.frozen (h : CallO w0 u base p cb K) : (∀ o, u.frozen? ⟨p, o, none⟩ = false) ∧ ∀ o, u.frozen? ⟨cb, o, none⟩ = false := by
  obtain ⟨_, _, _, hb, _⟩ := h.row
  exact ⟨fun o => by simp [World.frozen?, hb], fun o => by simp [World.frozen?, h.cnt]⟩
theorem CallO.mark (h : CallO w0 u base p cb K) {f : Nat} (hf : f < K.n) : CallO w0 (u.setCell ⟨cb, f, none⟩ (.bool true)) base p cb { K with C := setC K.C f } := by
  obtain ⟨vi, vg, va, hb, h1, h2, h3⟩ := h.far
  have k : Sets (fun g => g = cb) u (u.setCell ⟨cb, f, none⟩ (.bool true)) := (Sets.refl (S := fun g => g = cb) u).set (g := cb) (fun _ => rfl) f _
  have ff : ∀ v, FarV u base p cb v → ∀ g, v.ownBlock = some g → ¬ g = cb := fun v hv g hg => (hv g hg).2.2.2
  refine ⟨⟨vi, vg, va, (k.block p h.lt.1 h.ne).trans hb, ⟨sl_sets h1.1 k (ff vi h1.2), h1.2.up k.size⟩, got_sets h2.1 k (ff vg h2.2), ⟨sl_sets h3.1 k (ff va h3.2), h3.2.up k.size⟩⟩, ?_, Sets.below h.low k (fun c e => by rw [e]; exact Nat.le_trans h.old h.oc) h.low.size, h.old, h.op, h.oc, h.ne⟩
  have := set_of_list (o := f) h.cnt (.bool true)
  rw [cntL_set K.C hf] at this
  exact this
theorem CallO.putp (h : CallO w0 u base p cb K) (K' : Cs) (o : Nat) (v : Value) (hset : ∀ vi vg va, (csL K cb vi vg va).set o v = csL K' cb vi vg va) (hL : K'.L = K.L) (hG : K'.G = K.G) (hA : K'.AL = K.AL) (hC : K'.C = K.C) (hn : K'.n = K.n) : CallO w0 (u.setCell ⟨p, o, none⟩ v) base p cb K' := by
  obtain ⟨vi, vg, va, hb, h1, h2, h3⟩ := h.far
  have k : Sets (fun g => g = p) u (u.setCell ⟨p, o, none⟩ v) := (Sets.refl (S := fun g => g = p) u).set (g := p) (fun _ => rfl) o _
  have ff : ∀ v, FarV u base p cb v → ∀ g, v.ownBlock = some g → ¬ g = p := fun v hv g hg => (hv g hg).2.2.1
  have hr := set_of_list (o := o) hb v
  rw [hset] at hr
  refine ⟨⟨vi, vg, va, hr, ⟨by rw [hL]; exact sl_sets h1.1 k (ff vi h1.2), h1.2.up k.size⟩, by rw [hG]; exact got_sets h2.1 k (ff vg h2.2), ⟨by rw [hA]; exact sl_sets h3.1 k (ff va h3.2), h3.2.up k.size⟩⟩, ?_, Sets.below h.low k (fun c e => by rw [e]; exact Nat.le_trans h.old h.op) h.low.size, h.old, h.op, h.oc, h.ne⟩
  rw [hC, hn]
  exact (k.block cb h.lt.2 (fun e => h.ne e.symm)).trans h.cnt
theorem CallO.puti (h : CallO w0 u base p cb K) {v' : Value} {L' : List It} (hs : Sl u v' L') (hf : FarV u base p cb v') : CallO w0 (u.setCell ⟨p, 11, none⟩ v') base p cb { K with L := L' } := by
  obtain ⟨vi, vg, va, hb, h1, h2, h3⟩ := h.far
  have k : Sets (fun g => g = p) u (u.setCell ⟨p, 11, none⟩ v') := (Sets.refl (S := fun g => g = p) u).set (g := p) (fun _ => rfl) 11 _
  have ff : ∀ v, FarV u base p cb v → ∀ g, v.ownBlock = some g → ¬ g = p := fun v hv g hg => (hv g hg).2.2.1
  have hr := set_of_list (o := 11) hb v'
  exact ⟨⟨v', vg, va, hr, ⟨sl_sets hs k (ff v' hf), hf.up k.size⟩, got_sets h2.1 k (ff vg h2.2), ⟨sl_sets h3.1 k (ff va h3.2), h3.2.up k.size⟩⟩, (k.block cb h.lt.2 (fun e => h.ne e.symm)).trans h.cnt, Sets.below h.low k (fun c e => by rw [e]; exact Nat.le_trans h.old h.op) h.low.size, h.old, h.op, h.oc, h.ne⟩
theorem CallO.putc {u0 : World} (h0 : CallO w0 u0 base p cb K) (hbl : Below u0.heap.size u0 u) {cb' : Nat} (hge : u0.heap.size ≤ cb') (hc : u.heap[cb']? = some (.cells (cntL K.n (fun _ => false)).toArray 4 (0, 0))) : CallO w0 (u.setCell ⟨p, 10, none⟩ (.slice (some ⟨cb', 0, none⟩) K.n K.n)) base p cb' { K with C := fun _ => false } := by
  obtain ⟨vi, vg, va, hb, h1, h2, h3⟩ := h0.far
  have hpc : p ≠ cb' := by have := h0.lt.1; omega
  have k : Sets (fun g => g = p) u0 (u.setCell ⟨p, 10, none⟩ (.slice (some ⟨cb', 0, none⟩) K.n K.n)) := (Sets.of (S := fun g => g = p) hbl).set (g := p) (fun _ => rfl) 10 _
  have ff : ∀ v, FarV u0 base p cb v → ∀ g, v.ownBlock = some g → ¬ g = p := fun v hv g hg => (hv g hg).2.2.1
  have fc : ∀ v, FarV u0 base p cb v → FarV (u.setCell ⟨p, 10, none⟩ (.slice (some ⟨cb', 0, none⟩) K.n K.n)) base p cb' v := fun v hv g hg => ⟨(hv g hg).1, Nat.lt_of_lt_of_le (hv g hg).2.1 k.size, (hv g hg).2.2.1, by have := (hv g hg).2.1; omega⟩
  have hr := set_of_list (o := 10) ((hbl.block p h0.lt.1).trans hb) (.slice (some ⟨cb', 0, none⟩) K.n K.n)
  refine ⟨⟨vi, vg, va, hr, ⟨sl_sets h1.1 k (ff vi h1.2), fc vi h1.2⟩, ?_, ⟨sl_sets h3.1 k (ff va h3.2), fc va h3.2⟩⟩, ?_, Sets.below h0.low k (fun c e => by rw [e]; exact Nat.le_trans h0.old h0.op) h0.low.size, h0.old, h0.op, Nat.le_trans (Nat.le_trans h0.op (Nat.le_of_lt h0.lt.1)) hge, hpc⟩
  · obtain ⟨A, c, e, g1, g2, g3, g4, _⟩ := got_sets h2.1 k (ff vg h2.2)
    exact ⟨A, c, e, g1, g2, g3, g4, fc vg h2.2⟩
  · have hs : Sets (fun g => g = p) u (u.setCell ⟨p, 10, none⟩ (.slice (some ⟨cb', 0, none⟩) K.n K.n)) := (Sets.refl (S := fun g => g = p) u).set (g := p) (fun _ => rfl) 10 _
    exact (hs.block cb' (Array.getElem?_eq_some_iff.1 hc).1 (fun e => hpc e.symm)).trans hc
/-- What a message makes of a round's call, and what it tells. -/
def wantK (K : Cs) : Int := if K.ph = 2 then 9 else 7
noncomputable def takeK (K : Cs) (m : Mg) : Cs := { K with C := setC K.C m.f.toNat, L := if K.ph = 1 then joinL K.L m.L else K.L }
def fillK (K : Cs) : Cs := { K with ph := 2, C := fun _ => false }
def doneK (K : Cs) : Cs := endK { K with ph := 3 } 0 K.ver
def evenK (K : Cs) : List Mg := (List.range K.n).map fun (j : Nat) => ⟨10, K.at_, (j : Int), K.id, K.ver, none, 0, []⟩
end
end Go.Proofs.Ytikecafblampeaa
