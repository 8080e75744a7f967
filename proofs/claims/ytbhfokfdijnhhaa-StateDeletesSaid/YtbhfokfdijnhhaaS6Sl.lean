/- The contracts of the layer of states, told of slice values that read as lists. Conditions: the lengths' bounds. -/
import Derived.Test.YtbhfokfdijnhhaaS6Awake
import Derived.Test.YtbhfokfdijnhhaaPFil2
import Derived.Test.YtbhfokfdijnhhaaRFil
import Derived.Test.YtbhfokfdijnhhaaPGet
import Derived.Test.YtbhfokfdijnhhaaREq
import Derived.Test.YtbhfokfdijnhhaaPEq
import Derived.Test.YtbhfokfdijnhhaaRSt2
import Derived.Test.YtbhfokfdijnhhaaStLaw
namespace Go.Proofs.Ytbhfokfdijnhhaa
set_option linter.unusedVariables false
set_option linter.unusedSimpArgs false
open Go.ChangeShapes Go.WideShapes Go.ChangeAt Go.RowKit

theorem requal_sl {v u : Value} {L M : List It} {w : World} (h : Sl w v L) (k : Sl w u M) (hn : L.length ≤ 4611686018427387904) (hm : M.length ≤ 4611686018427387904) : Calls Try.prog 15 #[v, u] w fun e w' => e = .returned (.bool (eqL L M)) ∧ Below w.heap.size w w' := by
  obtain ⟨A, c, rfl, hL, h1, h2⟩ := h
  obtain ⟨B, d, rfl, hM, h3, h4⟩ := k
  exact requal_any A B c d L M w hL hM hn hm
theorem psame_sl {v u : Value} {L M : List It} {w : World} (h : Sl w v L) (k : Sl w u M) (hn : L.length ≤ 4611686018427387904) (hm : M.length ≤ 4611686018427387904) : Calls Try.prog 26 #[v, u] w fun e w' => e = .returned (.bool (eqL L M)) ∧ Below w.heap.size w w' := by
  obtain ⟨A, c, rfl, hL, h1, h2⟩ := h
  obtain ⟨B, d, rfl, hM, h3, h4⟩ := k
  exact psame_any_ A B c d L M w hL hM hn hm
theorem pseries_sl {u : Value} {L : List It} {w : World} (h : Sl w u L) (s : Int) (hn : L.length ≤ 1099511627776) : Calls Try.prog 20 #[u, .int .i64 s] w (RetOf (L.filter (serP s)) w) := by
  obtain ⟨A, c, rfl, hL, h1, h2⟩ := h
  exact pseries_any A c L s w hL hn
theorem rseries_sl {u : Value} {L : List It} {w : World} (h : Sl w u L) (s : Int) (hn : L.length ≤ 1099511627776) : Calls Try.prog 31 #[u, .int .i64 s] w (RetOw (L.filter (serP s)) w) := by
  obtain ⟨A, c, rfl, hL, h1, h2⟩ := h
  exact rseries_any A c L s w hL hn
theorem prange_sl {u : Value} {L : List It} {w : World} (h : Sl w u L) (s lo hi : Int) (hn : L.length ≤ 1099511627776) : Calls Try.prog 32 #[u, .int .i64 s, .int .u64 lo, .int .u64 hi] w (RetOf (L.filter (ranP s lo hi)) w) := by
  obtain ⟨A, c, rfl, hL, h1, h2⟩ := h
  exact prange_any A c L s lo hi w hL hn
theorem rrange_sl {u : Value} {L : List It} {w : World} (h : Sl w u L) (s lo hi : Int) (hn : L.length ≤ 1099511627776) : Calls Try.prog 33 #[u, .int .i64 s, .int .u64 lo, .int .u64 hi] w (RetOw (L.filter (ranP s lo hi)) w) := by
  obtain ⟨A, c, rfl, hL, h1, h2⟩ := h
  exact rrange_any A c L s lo hi w hL hn
theorem pupto_sl {u : Value} {L : List It} {w : World} (h : Sl w u L) (v : Int) (hn : L.length ≤ 1099511627776) : Calls Try.prog 27 #[u, .int .u64 v] w (RetOf (L.filter (uptP v)) w) := by
  obtain ⟨A, c, rfl, hL, h1, h2⟩ := h
  exact pupto_any A c L v w hL hn
theorem rupto_sl {u : Value} {L : List It} {w : World} (h : Sl w u L) (v : Int) (hn : L.length ≤ 1099511627776) : Calls Try.prog 34 #[u, .int .u64 v] w (RetOw (L.filter (uptP v)) w) := by
  obtain ⟨A, c, rfl, hL, h1, h2⟩ := h
  exact rupto_any A c L v w hL hn
theorem ppurge_sl {u : Value} {L : List It} {w : World} (h : Sl w u L) (v : Int) (hn : L.length ≤ 1099511627776) : Calls Try.prog 28 #[u, .int .u64 v] w (RetOf (L.filter (purP v)) w) := by
  obtain ⟨A, c, rfl, hL, h1, h2⟩ := h
  exact ppurge_any A c L v w hL hn
theorem rpurge_sl {u : Value} {L : List It} {w : World} (h : Sl w u L) (v : Int) (hn : L.length ≤ 1099511627776) : Calls Try.prog 35 #[u, .int .u64 v] w (RetOw (L.filter (purP v)) w) := by
  obtain ⟨A, c, rfl, hL, h1, h2⟩ := h
  exact rpurge_any A c L v w hL hn
theorem get_sl {u : Value} {L : List It} {w : World} (h : Sl w u L) (s t : Int) (hn : L.length ≤ 4611686018427387904) : Calls Try.prog 18 #[u, .int .i64 s, .int .u64 t] w fun e w' => e = .returned (.tuple #[(getL s t L).val, .bool (hasL s t L)]) ∧ Below w.heap.size w w' := by
  obtain ⟨A, c, rfl, hL, h1, h2⟩ := h
  exact get_any A c L s t w hL hn
theorem ptomb_sl {u : Value} {L : List It} {w : World} (h : Sl w u L) (s : Int) (hn : L.length ≤ 4611686018427387904) : Calls Try.prog 29 #[u, .int .i64 s] w fun e w' => e = .returned (.int .u64 (tombV s L)) ∧ Below w.heap.size w w' := by
  obtain ⟨A, c, rfl, hL, h1, h2⟩ := h
  exact ptomb_any A c L s w hL hn
theorem rtomb_sl {u : Value} {L : List It} {w : World} (h : Sl w u L) (s : Int) (hn : L.length ≤ 4611686018427387904) : Calls Try.prog 37 #[u, .int .i64 s] w fun e w' => e = .returned (.int .u64 (tombV s L)) ∧ Below w.heap.size w w' := by
  obtain ⟨A, c, rfl, hL, h1, h2⟩ := h
  exact rtomb_any A c L s w hL hn
theorem rtop_sl {u : Value} {L : List It} {w : World} (h : Sl w u L) (hn : L.length ≤ 4611686018427387904) : Calls Try.prog 36 #[u] w fun e w' => e = .returned (.int .u64 (topL L)) ∧ Below w.heap.size w w' := by
  obtain ⟨A, c, rfl, hL, h1, h2⟩ := h
  exact rtop_any A c L w hL hn
end Go.Proofs.Ytbhfokfdijnhhaa
