/- RoundTurns in plain words: what each node has. -/
import Derived.Test.YtikecafblampeaaRndR
import Derived.Test.YtikecafblampeaaEqSl
import Derived.Test.YtikecafblampeaaRSt2
import Derived.Test.YtikecafblampeaaNest
import Derived.Test.YtikecafblampeaaBits
namespace Go.Proofs.Ytikecafblampeaa.roundTurns
set_option linter.unusedVariables false
set_option linter.unusedSimpArgs false
open Go.ChangeShapes Go.WideShapes Go.ChangeAt Go.RowKit
/-- What a list counts for. -/
def effL (L : List It) : List It := if L.length ≤ 30 ∧ L.all goodB = true then L else []
def effE (L0 : List (Sv It)) (j : Nat) : List It := if h : j < L0.length then effL (L0[j]).L else []
theorem effL_len (L : List It) : (effL L).length ≤ 30 := by
  unfold effL
  split
  · rename_i h; exact h.1
  · simp
theorem effE_len (L0 : List (Sv It)) (j : Nat) : (effE L0 j).length ≤ 1000 := by
  unfold effE
  split
  · have := effL_len (L0[j]).L
    omega
  · simp
theorem effL_good (L : List It) : (effL L).all goodB = true := by
  unfold effL
  split
  · rename_i h; exact h.2
  · rfl
theorem effE_good (L0 : List (Sv It)) (j : Nat) : (effE L0 j).all goodB = true := by
  unfold effE
  split
  · exact effL_good _
  · rfl
abbrev mE (i : Nat) (A : Option Addr) (c : Nat) (L : List It) : Mg := ⟨7, (i : Int), 1, 9, 140737488355328, A, c, L⟩
theorem mE_ok {i : Nat} (h : i < 7) {A : Option Addr} {c : Nat} {L : List It} (hl : L.length ≤ 1000) (hg : L.all goodB = true) : mokB (mE i A c L) = true := by
  have h1 : (i : Int) < 7 := by omega
  have h2 : L.length ≤ 1500 := by omega
  unfold mokB nodeB withB
  simp [h1, h2, hg]
end Go.Proofs.Ytikecafblampeaa.roundTurns
