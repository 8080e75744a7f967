/-
  DERIVED. GIVEN WITH THE SEED: THE CARDS: each row of YtgmkckjedngkdaaGreatDoorRows.lean that lists a variable, with what it lists TIED to the program's text (the seventh form; the later family's looks); each row that meets fmt, with fmt's text TOLD by the authors' own Lean function (tested against real Go, not proved from fmt's source: count such statements apart). THE CARD IS WHAT COUNTS. Prove the row's statement (the work); the ties are given (YtgmkckjedngkdaaGreatDoorTie.lean); close each card by the builder's one call (the guide's Derived/Test/ToyasCard.lean, 'card_holds'). Laid BY PROGRAM, IN A SANDBOX (cutbox-door.mjs). By AI agents, Wed Nov 11 2026. No macro, syntax, notation, axiom, sorry.
-/
import Derived.Test.YtgmkckjedngkdaaGreatDoorRows
import GoSem.ClaimSeven
namespace Go.Proofs.YtgmkckjedngkdaaGreatDoor
namespace Rows

/-- THE TIED CARD OF 'clepsydratop.TopQuota'. -/
def topQuotaCard : Claim7 := { stood := { row := topQuotaRow, standIns := [], harness := (true, "c4175566edc1cf96a06628df133620289a2f4641f92d7021bf22accf7e185494"), looks := true }, kinds := [], alts := [], laidByText := true, laidKinds := [.data, .data, .data, .sentinel, .sentinel], laidTests := true, laidLooks := .later }
def TopQuotaCardSaid : Prop := Claim7.holds Tryz.pinned (.plain (OpenSpec.ofChange topQuotaSpec)) topQuotaCard

/-- THE TIED CARD OF 'clepsydratop.TopMajority'. -/
def topMajorityCard : Claim7 := { stood := { row := topMajorityRow, standIns := [], harness := (true, "c4175566edc1cf96a06628df133620289a2f4641f92d7021bf22accf7e185494"), looks := true }, kinds := [], alts := [], laidByText := true, laidKinds := [.data, .data, .data, .sentinel, .sentinel], laidTests := true, laidLooks := .later }
def TopMajorityCardSaid : Prop := Claim7.holds Tryz.pinned (.plain (OpenSpec.ofChange topMajoritySpec)) topMajorityCard

/-- THE SECOND FORM's CARD OF 'clepsydratop.TopQuota'. -/
def topQuotaUptoCard : Claim7 := { stood := { row := topQuotaUptoRow, standIns := [], harness := (true, "c4175566edc1cf96a06628df133620289a2f4641f92d7021bf22accf7e185494"), looks := true }, kinds := [], alts := [], laidByText := true, laidKinds := [.data, .data, .data, .sentinel, .sentinel], laidTests := true, laidLooks := .later }
def TopQuotaUptoCardSaid : Prop := Claim7.holds Tryz.pinned (.plain (OpenSpec.upto topQuotaSpec)) topQuotaUptoCard

/-- THE SECOND FORM's CARD OF 'clepsydratop.TopMajority'. -/
def topMajorityUptoCard : Claim7 := { stood := { row := topMajorityUptoRow, standIns := [], harness := (true, "c4175566edc1cf96a06628df133620289a2f4641f92d7021bf22accf7e185494"), looks := true }, kinds := [], alts := [], laidByText := true, laidKinds := [.data, .data, .data, .sentinel, .sentinel], laidTests := true, laidLooks := .later }
def TopMajorityUptoCardSaid : Prop := Claim7.holds Tryz.pinned (.plain (OpenSpec.upto topMajoritySpec)) topMajorityUptoCard
end Rows
end Go.Proofs.YtgmkckjedngkdaaGreatDoor
