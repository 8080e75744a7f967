/- The contracts of the layer of states, told of slice values that read as lists. Conditions: the lengths' bounds. -/
import Derived.Test.YtebnifpclebliaaS6Awake
import Derived.Test.YtebnifpclebliaaPFil2
import Derived.Test.YtebnifpclebliaaRFil
import Derived.Test.YtebnifpclebliaaPGet
import Derived.Test.YtebnifpclebliaaREq
import Derived.Test.YtebnifpclebliaaPEq
import Derived.Test.YtebnifpclebliaaRSt2
import Derived.Test.YtebnifpclebliaaStLaw
namespace Go.Proofs.Ytebnifpclebliaa
set_option linter.unusedVariables false
set_option linter.unusedSimpArgs false
open Go.ChangeShapes Go.WideShapes Go.ChangeAt Go.RowKit

theorem requal_sl {v u : Value} {L M : List It} {w : World} (h : Sl w v L) (k : Sl w u M) (hn : L.length ≤ 4611686018427387904) (hm : M.length ≤ 4611686018427387904) : Calls Try.prog 14 #[v, u] w fun e w' => e = .returned (.bool (eqL L M)) ∧ Below w.heap.size w w' := by
  obtain ⟨A, c, rfl, hL, h1, h2⟩ := h
  obtain ⟨B, d, rfl, hM, h3, h4⟩ := k
  exact requal_any A B c d L M w hL hM hn hm
theorem rseries_sl {u : Value} {L : List It} {w : World} (h : Sl w u L) (s : Int) (hn : L.length ≤ 1099511627776) : Calls Try.prog 22 #[u, .int .i64 s] w (RetOw (L.filter (serP s)) w) := by
  obtain ⟨A, c, rfl, hL, h1, h2⟩ := h
  exact rseries_any A c L s w hL hn
theorem rpurge_sl {u : Value} {L : List It} {w : World} (h : Sl w u L) (v : Int) (hn : L.length ≤ 1099511627776) : Calls Try.prog 23 #[u, .int .u64 v] w (RetOw (L.filter (purP v)) w) := by
  obtain ⟨A, c, rfl, hL, h1, h2⟩ := h
  exact rpurge_any A c L v w hL hn
end Go.Proofs.Ytebnifpclebliaa
