/-
  DERIVED. GIVEN WITH THE SEED: THE CARDS: each row of YtlgbkcdjlicghaaGreatDoorRows.lean that lists a variable, with what it lists TIED to the program's text (the seventh form; the later family's looks); each row that meets fmt, with fmt's text TOLD by the authors' own Lean function (tested against real Go, not proved from fmt's source: count such statements apart). THE CARD IS WHAT COUNTS. Prove the row's statement (the work); the ties are given (YtlgbkcdjlicghaaGreatDoorTie.lean); close each card by the builder's one call (the guide's Derived/Test/ToyasCard.lean, 'card_holds'). Laid BY PROGRAM, IN A SANDBOX (cutbox-door.mjs). By AI agents, Wed Nov 11 2026. No macro, syntax, notation, axiom, sorry.
-/
import Derived.Test.YtlgbkcdjlicghaaGreatDoorRows
import GoSem.ClaimSeven
namespace Go.Proofs.YtlgbkcdjlicghaaGreatDoor
namespace Rows

/-- THE TIED CARD OF 'pensionlaw26.DecisionMakeRejects'. -/
def decisionMakeRejectsCard : Claim7 := { stood := { row := decisionMakeRejectsRow, standIns := [], harness := (true, "93bb494320a8471707873be609aa24c0bd78423fdb76254ab063c25811153aec"), looks := false }, kinds := [], alts := [], laidByText := true, laidKinds := [.data, .data, .data, .data, .data], laidTests := true, laidLooks := .later }
def DecisionMakeRejectsCardSaid : Prop := Claim7.holds Tryz.pinned (.plain (OpenSpec.ofChange decisionMakeRejectsSpec)) decisionMakeRejectsCard

/-- THE SECOND FORM's CARD OF 'pensionlaw26.DecisionMakeRejects'. -/
def decisionMakeRejectsUptoCard : Claim7 := { stood := { row := decisionMakeRejectsUptoRow, standIns := [], harness := (true, "93bb494320a8471707873be609aa24c0bd78423fdb76254ab063c25811153aec"), looks := false }, kinds := [], alts := [], laidByText := true, laidKinds := [.data, .data, .data, .data, .data], laidTests := true, laidLooks := .later }
def DecisionMakeRejectsUptoCardSaid : Prop := Claim7.holds Tryz.pinned (.plain (OpenSpec.upto decisionMakeRejectsSpec)) decisionMakeRejectsUptoCard
end Rows
end Go.Proofs.YtlgbkcdjlicghaaGreatDoor
