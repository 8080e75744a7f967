/- clepsydralaw8.awake returns true: a contract. No condition. -/
import Derived.Test.YtoejhekmfgkklaaSkQ
namespace Go.Proofs.Ytoejhekmfgkklaa
set_option linter.unusedVariables false
set_option linter.unusedSimpArgs false
open Go.ChangeShapes Go.WideShapes Go.ChangeAt Go.RowKit

theorem SkAt.lt {w : World} {p : Nat} {F : List Nd} (h : SkAt w p F) : ∀ b, SBlk p F b → b < w.heap.size := by
  rintro b (rfl | ⟨n, hn, rfl | rfl⟩)
  · exact h.lp
  · exact (h.nds.at_ n hn).lb
  · exact (h.nds.at_ n hn).lt
theorem PutTo.below {w0 w w' : World} {p : Nat} {F F' : List Nd} {x : It} {h : Int} {B : Nat} (k : PutTo w w' p F x h F') (hb : Below B w0 w) (hB : ∀ b, SBlk p F b → B ≤ b) (hz : B ≤ w0.heap.size) : Below B w0 w' :=
  ⟨k.sets.os.trans hb.os, k.sets.tape.trans hb.tape, k.sets.output.trans hb.output, Nat.le_trans hb.size k.sets.size, fun b hlt => (k.sets.block b (by have := hb.size; omega) (fun e => by have := hB b e; omega)).trans (hb.block b hlt)⟩
theorem PutTo.base {w w' : World} {p : Nat} {F F' : List Nd} {x : It} {h : Int} {B : Nat} (k : PutTo w w' p F x h F') (hB : ∀ b, SBlk p F b → B ≤ b) (hz : B ≤ w.heap.size) : ∀ b, SBlk p F' b → B ≤ b := fun b hb => by
  rcases k.own b hb with e | e
  · exact hB b e
  · omega
end Go.Proofs.Ytoejhekmfgkklaa
