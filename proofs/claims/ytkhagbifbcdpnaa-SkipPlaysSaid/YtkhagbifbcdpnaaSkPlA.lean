/- Plain words for the walk of SkipPlays. No condition. -/
import Derived.Test.YtkhagbifbcdpnaaSkA
import Derived.Test.YtkhagbifbcdpnaaSkL
import Derived.Test.YtkhagbifbcdpnaaSkS
import Derived.Test.YtkhagbifbcdpnaaREq
import Derived.Deep.RegionHeld3
namespace Go.Proofs.Ytkhagbifbcdpnaa.skipPlays
set_option linter.unusedVariables false
set_option linter.unusedSimpArgs false
open Go.ChangeShapes Go.WideShapes Go.ChangeAt Go.RowKit

/-- The list, and the two slices that are kept in step with it. -/
structure St (w0 w : World) (p : Nat) (F : List Nd) (v u : Value) (W : List It) (H : List Nat) : Prop where
  sk : SkAt w p F
  ok : SkOk F
  ow : Og w0.heap.size w v W
  oh : OwnL (one1 natv) 1 3 w0.heap.size w u H
  bs : ∀ b, SBlk p F b → w0.heap.size ≤ b
  aw : ∀ g, v.ownBlock = some g → ¬ SBlk p F g
  ah : ∀ g, u.ownBlock = some g → ¬ SBlk p F g
  ne : ∀ g, v.ownBlock = some g → u.ownBlock ≠ some g
  low : Below w0.heap.size w0 w
theorem St.below {w0 w w' : World} {p : Nat} {F : List Nd} {v u : Value} {W : List It} {H : List Nat} (h : St w0 w p F v u W H) (hb : Below w.heap.size w w') : St w0 w' p F v u W H :=
  ⟨h.sk.below hb, h.ok, h.ow.below hb, OwnL.below h.oh hb, h.bs, h.aw, h.ah, h.ne, below_step h.low hb⟩
theorem own_sets {w0 w w' : World} {u : Value} {H : List Nat} {S : Nat → Prop} (h : OwnL (one1 natv) 1 3 w0.heap.size w u H) (k : Sets S w w') (hS : ∀ g, u.ownBlock = some g → ¬ S g) : OwnL (one1 natv) 1 3 w0.heap.size w' u H := by
  refine ⟨h.1, h.2.imp id ?_⟩
  rintro ⟨g, cap, cur, rfl, hb, hh, hr⟩
  exact ⟨g, cap, cur, rfl, hb, (k.block g (Array.getElem?_eq_some_iff.1 hh).1 (hS g rfl)).trans hh, hr⟩
theorem St.put {w0 w w' : World} {p : Nat} {F F' : List Nd} {v u : Value} {W : List It} {H : List Nat} {x : It} {m : Int} (h : St w0 w p F v u W H) (k : PutTo w w' p F x m F') : St w0 w' p F' v u W H :=
  ⟨k.at_, k.ok, h.ow.kept (fun g hg hlt => k.sets.block g hlt (h.aw g hg)), own_sets h.oh k.sets h.ah, k.base h.bs h.low.size, fun g hg hb => by
    rcases k.own g hb with e | e
    · exact h.aw g hg e
    · have := (h.ow.lt g hg).2; omega, fun g hg hb => by
    rcases k.own g hb with e | e
    · exact h.ah g hg e
    · have := (OwnL.lt h.oh g hg).2; omega, h.ne, k.below h.low h.bs (Nat.le_refl _)⟩
theorem St.set {w0 w : World} {p g cap q : Nat} {F : List Nd} {u : Value} {W : List It} {H : List Nat} {R : List Value} (h : St w0 w p F (.slice (some ⟨g, 0, none⟩) W.length cap) u W H) (hg : w.heap[g]? = some (.cells (flat W ++ R).toArray 30 (0, 0))) (hcap : W.length ≤ cap) (hcm : cap ≤ maxLen) (hR : cap * 5 ≤ W.length * 5 + R.length) (hq : q < W.length) (x : It) :
    St w0 (put5 w g (q * 5) x) p F (.slice (some ⟨g, 0, none⟩) W.length cap) u (W.set q x) H := by
  have hz : w.heap.size ≤ (put5 w g (q * 5) x).heap.size := by simp [put5]
  have hst : Sets (fun c => c = g) w (put5 w g (q * 5) x) := by
    unfold put5
    exact (((((Sets.refl (S := fun c => c = g) w).set (g := g) (fun _ => rfl) _ _).set (g := g) (fun _ => rfl) _ _).set (g := g) (fun _ => rfl) _ _).set (g := g) (fun _ => rfl) _ _).set (g := g) (fun _ => rfl) _ _
  have hbg := (h.ow.lt g rfl).1
  refine ⟨h.sk.sets hst (fun b hb e => h.aw g rfl (e ▸ hb)), h.ok, .inr ⟨g, cap, R, by rw [List.length_set], hbg, put5_row hg hq, by rw [List.length_set]; exact hcap, hcm, by rw [List.length_set]; exact hR⟩, own_sets h.oh hst (fun b hb e => h.ne g rfl (e ▸ hb)), h.bs, h.aw, h.ah, h.ne, ?_⟩
  exact ((((h.low.setCell hbg _).setCell hbg _).setCell hbg _).setCell hbg _).setCell hbg _
theorem ItemsAt.take {w : World} {g : Nat} {L : List It} (h : ItemsAt w (some ⟨g, 0, none⟩) L) (q : Nat) : ItemsAt w (some ⟨g, 0, none⟩) (L.take q) := by
  intro hne
  have h0 : L ≠ [] := fun e => hne (by rw [e]; simp)
  obtain ⟨b, off, e, hlt, hc⟩ := h h0
  refine ⟨b, off, e, hlt, fun k hk j u hu => ?_⟩
  have hk2 : k < L.length := by simp at hk; omega
  rw [List.getElem_take] at hu
  exact hc k hk2 j u hu
theorem ItemsAt.drop {w : World} {g : Nat} {L : List It} (h : ItemsAt w (some ⟨g, 0, none⟩) L) (q : Nat) : ItemsAt w (some ⟨g, q * 5, none⟩) (L.drop q) := by
  intro hne
  have h0 : L ≠ [] := fun e => hne (by rw [e]; simp)
  obtain ⟨b, off, e, hlt, hc⟩ := h h0
  injection e with e
  injection e with e1 e2 _
  subst e1 e2
  refine ⟨_, q * 5, rfl, hlt, fun k hk j u hu => ?_⟩
  have hk2 : q + k < L.length := by simp at hk; omega
  rw [List.getElem_drop] at hu
  have := hc (q + k) hk2 j u hu
  rw [← this]
  congr 2
  omega
theorem ItemsAt.dropc {w : World} {g c : Nat} {L : List It} (h : ItemsAt w (some ⟨g, 0, none⟩) L) (q : Nat) (hc : L.length ≤ c) : ItemsAt w (if c = q then some ⟨g, 0, none⟩ else some ⟨g, q * 5, none⟩) (L.drop q) := by
  by_cases e : c = q
  · rw [if_pos e, List.drop_of_length_le (by omega)]
    exact RowAt.nil_
  · rw [if_neg e]
    exact ItemsAt.drop h q
theorem vals_take {w : World} {g : Nat} {L : List Nat} (h : ValsAt natv w (some ⟨g, 0, none⟩) L) (q : Nat) : ValsAt natv w (some ⟨g, 0, none⟩) (L.take q) := by
  intro hne
  have h0 : L ≠ [] := fun e => hne (by rw [e]; simp)
  obtain ⟨b, off, e, hlt, hc⟩ := h h0
  refine ⟨b, off, e, hlt, fun k hk j u hu => ?_⟩
  have hk2 : k < L.length := by simp at hk; omega
  rw [List.getElem_take] at hu
  exact hc k hk2 j u hu
theorem vals_dropc {w : World} {g c : Nat} {L : List Nat} (h : ValsAt natv w (some ⟨g, 0, none⟩) L) (q : Nat) (hc : L.length ≤ c) : ValsAt natv w (if c = q then some ⟨g, 0, none⟩ else some ⟨g, q, none⟩) (L.drop q) := by
  by_cases e : c = q
  · rw [if_pos e, List.drop_of_length_le (by omega)]
    exact RowAt.nil_
  · rw [if_neg e]
    intro hne
    have h0 : L ≠ [] := fun e => hne (by rw [e]; simp)
    obtain ⟨b, off, e, hlt, hc⟩ := h h0
    injection e with e
    injection e with e1 e2 _
    subst e1 e2
    refine ⟨_, q, rfl, hlt, fun k hk j u hu => ?_⟩
    have hk2 : q + k < L.length := by simp at hk; omega
    rw [List.getElem_drop] at hu
    have := hc (q + k) hk2 j u hu
    rw [← this]
    congr 2
    omega
theorem own_vals {w : World} {g : Nat} {L : List Nat} {cur : Array Value} (h : w.heap[g]? = some (.cells cur 3 (0, 0))) (ht : cur.toList.take (L.length * 1) = L.flatMap (one1 natv)) : ValsAt natv w (some ⟨g, 0, none⟩) L := by
  intro _
  refine ⟨g, 0, rfl, (Array.getElem?_eq_some_iff.1 h).1, fun k hk j u hu => ?_⟩
  have hj : j < 1 := (List.getElem?_eq_some_iff.1 hu).1
  have h2 := (flat_get (cells := one1 natv) (fun _ => rfl) L k hk j hj).trans hu
  rw [← ht, List.getElem?_take] at h2
  split at h2
  · rw [cell_of_row w g _ _ _ _ h, Nat.zero_add]
    simpa using h2
  · cases h2
theorem St.more {w0 w wc w' : World} {p : Nat} {F : List Nd} {v u v' u' : Value} {W W' : List It} {H H' : List Nat} (h5 : St w0 wc p F v u W H) (h3 : St w0 w p F v u W H) (ho : Ow w.heap.size wc v' W') (hb : Below w.heap.size w wc) (hu : OwnL (one1 natv) 1 3 wc.heap.size w' u' H') (hb2 : Below wc.heap.size wc w') : St w0 w' p F v' u' W' H' :=
  ⟨h5.sk.below hb2, h5.ok, ((Ow.og ho).below hb2).base_ h3.low.size, OwnL.base_ hu h5.low.size, h5.bs, fun g hg hs => by
    have h1 := (OwnL.lt ho g hg).1
    have h2 := h3.sk.lt g hs
    omega, fun g hg hs => by
    have h1 := (OwnL.lt hu g hg).1
    have h2 := h5.sk.lt g hs
    omega, fun g hg hh => by
    have h1 := (OwnL.lt hu g hh).1
    have h2 := (OwnL.lt ho g hg).2
    omega, below_step h5.low hb2⟩
theorem lv_all8 {F : List Nd} (h : SkOk F) : lvL F 0 = itsF F := by
  unfold lvL itsF
  congr 1
  rw [List.filter_eq_self]
  intro n hn
  have := (h.hts n (List.mem_of_mem_drop hn)).1
  simp
  omega
/-- Of the first j those that are so high. -/
def pick (F : List Nd) (m j : Nat) : List It := (((F.drop 1).take j).filter fun d => decide (m ≤ d.h)).map (·.x)
theorem pick_zero (F : List Nd) (m : Nat) : pick F m 0 = [] := rfl
theorem pick_len (F : List Nd) (m j : Nat) : (pick F m j).length ≤ F.length := by
  unfold pick
  rw [List.length_map]
  refine Nat.le_trans (List.length_filter_le _ _) ?_
  simp
  omega
theorem pick_succ {F : List Nd} {m j : Nat} {W : List It} {H : List Nat} (hw : itsF F = W) (hh : htsF F = H) (hj : j < W.length) (hj2 : j < H.length) : pick F m (j + 1) = pick F m j ++ if m ≤ H[j] then [W[j]] else [] := by
  subst hw hh
  have hN : j < (F.drop 1).length := by unfold itsF at hj; simpa using hj
  have e1 : (itsF F)[j]'hj = ((F.drop 1)[j]'hN).x := by unfold itsF; simp
  have e2 : (htsF F)[j]'hj2 = ((F.drop 1)[j]'hN).h := by unfold htsF; simp
  rw [e1, e2]
  unfold pick
  rw [List.take_succ_eq_append_getElem hN, List.filter_append, List.map_append]
  congr 1
  by_cases h : m ≤ ((F.drop 1)[j]'hN).h
  · rw [if_pos h]
    simp only [List.filter_cons, List.filter_nil]
    rw [if_pos (by simpa using h)]
    rfl
  · rw [if_neg h]
    simp only [List.filter_cons, List.filter_nil]
    rw [if_neg (by simpa using h)]
    rfl
theorem pick_all {F : List Nd} {m : Nat} {W : List It} (hw : itsF F = W) (h1 : 1 ≤ m) : pick F m W.length = lvL F (m - 1) := by
  subst hw
  unfold pick lvL
  rw [List.take_of_length_le (by unfold itsF; simp)]
  congr 2
  funext d
  congr 1
  simp only [eq_iff_iff]
  omega
theorem pick_none {F : List Nd} {m j : Nat} (hF : SkOk F) (h6 : 6 < m) : pick F m j = [] := by
  unfold pick
  rw [List.map_eq_nil_iff, List.filter_eq_nil_iff]
  intro d hd
  have := (hF.hts d (List.mem_of_mem_drop (List.mem_of_mem_take hd))).2
  simp
  omega
theorem grown_row {U w' : World} {G : Nat} {row : Option Nat} {o : Obj} (hg : U.grownBy w' row) (h : U.heap[G]? = some o) (hne : some G ≠ row) : w'.heap[G]? = some o := (hg.block G (Array.getElem?_eq_some_iff.1 h).1 hne).trans h
theorem sl_row {w : World} {A : Option Addr} {n c : Nat} {L : List It} (h : Sl w (.slice A n c) L) : ItemsAt w A L := by
  obtain ⟨A', c', e, hr, _⟩ := h
  injection e with e1
  subst e1
  exact hr
end Go.Proofs.Ytkhagbifbcdpnaa.skipPlays
