/- A region that draws its order, whose calls come in one order: walked in the order of the text, what is known of the world growing with each call. No program's function occurs here. -/
import Derived.Test.YtlabpgdimhbocaaGreatLib
import Derived.Deep.RegionHeld3
namespace Go.Proofs.YtlabpgdimhbocaaGreat
set_option linter.unusedVariables false
set_option linter.unusedSimpArgs false
open Go.ChangeShapes Go.WideShapes Go.ChangeAt Go.RowKit

section
variable {P : Program} {ops : Array Oper} {Q : Exit → Act → World → Prop} {md : Region.Mode}
theorem wpAnyH_mono {S S' : World → Prop} (h : ∀ w, S' w → S w) : ∀ (fuel : Nat) (listed : Array Bool) (a : Act) (w : World), wpAnyH P md ops Q S' fuel listed a w → wpAnyH P md ops Q S fuel listed a w
  | 0, _, _, _, h0 => h0
  | fuel + 1, _, _, _, h0 => ⟨h0.1, fun i hi => wpOp_mono (fun a' w' h' => ⟨h _ h'.1, wpAnyH_mono h fuel _ a' w' h'.2⟩) (h0.2 i hi)⟩
/-- The worlds that are, below the heap of u, as u. -/
def Bel (u : World) : World → Prop := fun w' => Below u.heap.size u w'
theorem bel_switch {u u' : World} (hb : Below u.heap.size u u') {fuel : Nat} {listed : Array Bool} {a : Act} (h : wpAnyH P md ops Q (Bel u') fuel listed a u') : wpAnyH P md ops Q (Bel u) fuel listed a u' :=
  wpAnyH_mono (fun _ hw => below_step hb hw) fuel listed a u' h
theorem bel_start {id : Nat} {a : Act} {w : World} (hm : P.follows .mixedOrders = true) (h : wpAnyH P .any ops (NoPanic Q) (Bel w.drew) ops.size (Array.replicate ops.size false) a w.drew) : (Code.region id ops true).wp P Q a w :=
  wp_region_noPanic (wp_region_held_drew hm (Below.refl _ _) (fun _ => h))
/-- One operation that only reads: what it yields it yields in every world from here on. -/
theorem bel_take {i : Nat} {oi : Oper} {v : Value} {fuel : Nat} {listed : Array Bool} {a : Act} {u : World} (hi : ops[i]? = some oi)
    (hs : Region.noSelect ops = true) (hf : Region.free md ops listed i = true) (hr : (Region.ready md ops listed).contains i = true)
    (hy : YieldsIf P ops (Bel u) oi v a)
    (h : wpAnyH P md ops (NoPanic Q) (Bel u) fuel (listed.setIfInBounds i true) (a.put oi.dst v) u) : wpAnyH P md ops (NoPanic Q) (Bel u) (fuel + 1) listed a u :=
  wpAnyH_take hi hs hf hr (fun _ _ _ h => h) hy (Below.refl _ _) h
end
end Go.Proofs.YtlabpgdimhbocaaGreat
