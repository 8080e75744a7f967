/- net.Net: Take, Drop: contracts. Conditions: the net as it lies. -/
import Derived.Test.YtikecafblampeaaPet
namespace Go.Proofs.Ytikecafblampeaa
set_option linter.unusedVariables false
set_option linter.unusedSimpArgs false
open Go.ChangeShapes Go.WideShapes Go.ChangeAt Go.RowKit
variable {Fr : Nat → Prop}

theorem Sets.set6 {S : Nat → Prop} {w w' : World} (h : Sets S w w') {g : Nat} (hg : g < w.heap.size → S g) (v0 v1 v2 v3 v4 v5 : Value) : Sets S w ((((((w'.setCell ⟨g, 0, none⟩ v0).setCell ⟨g, 1, none⟩ v1).setCell ⟨g, 2, none⟩ v2).setCell ⟨g, 3, none⟩ v3).setCell ⟨g, 4, none⟩ v4).setCell ⟨g, 5, none⟩ v5) :=
  (((((h.set hg 0 v0).set hg 1 v1).set hg 2 v2).set hg 3 v3).set hg 4 v4).set hg 5 v5
theorem Sets.grown {w w' : World} {row : Option Nat} (h : w.grownBy w' row) : Sets (fun c => row = some c) w w' := ⟨h.os, h.tape, h.output, h.size, fun i hi hs => h.block i hi (fun e => hs e.symm)⟩
theorem Mg.rd.sets {S : Nat → Prop} {w w' : World} {x : Mg} (h : x.rd w) (k : Sets S w w') (hS : ∀ a, x.A = some a → x.L ≠ [] → ¬ S a.block) : x.rd w' := ⟨h.1.sets k hS, h.2⟩
theorem Mg.rd.lt {w : World} {x : Mg} (h : x.rd w) : ∀ a, x.A = some a → x.L ≠ [] → a.block < w.heap.size := fun a ha hn => by
  obtain ⟨b', off, e, hlt, _⟩ := h.1 hn
  rw [ha] at e
  obtain rfl := Option.some.inj e
  exact hlt
theorem map_erase (f : Mg → Mg) : ∀ (M : List Mg) (i : Nat), (M.map f).eraseIdx i = (M.eraseIdx i).map f
  | [], _ => rfl
  | _ :: _, 0 => rfl
  | a :: M, i + 1 => by simp only [List.map_cons, List.eraseIdx_cons_succ, map_erase f M i]
abbrev zMg : Mg := ⟨0, 0, 0, 0, 0, none, 0, []⟩
end Go.Proofs.Ytikecafblampeaa
