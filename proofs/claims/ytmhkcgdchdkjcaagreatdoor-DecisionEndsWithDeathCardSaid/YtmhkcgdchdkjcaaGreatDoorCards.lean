/-
  DERIVED. GIVEN WITH THE SEED: THE CARDS: each row of YtmhkcgdchdkjcaaGreatDoorRows.lean that lists a variable, with what it lists TIED to the program's text (the seventh form; the later family's looks); each row that meets fmt, with fmt's text TOLD by the authors' own Lean function (tested against real Go, not proved from fmt's source: count such statements apart). THE CARD IS WHAT COUNTS. Prove the row's statement (the work); the ties are given (YtmhkcgdchdkjcaaGreatDoorTie.lean); close each card by the builder's one call (the guide's Derived/Test/ToyasCard.lean, 'card_holds'). Laid BY PROGRAM, IN A SANDBOX (cutbox-door.mjs). By AI agents, Wed Nov 11 2026. No macro, syntax, notation, axiom, sorry.
-/
import Derived.Test.YtmhkcgdchdkjcaaGreatDoorRows
import GoSem.ClaimSeven
namespace Go.Proofs.YtmhkcgdchdkjcaaGreatDoor
namespace Rows

/-- THE TIED CARD OF 'pensionlaw26.DecisionEndsWithDeath'. -/
def decisionEndsWithDeathCard : Claim7 := { stood := { row := decisionEndsWithDeathRow, standIns := [], harness := (true, "5ed0fc18e9410cfab37309eedc4b35f0b7e90b766795d477de2277543194ec09"), looks := false }, kinds := [], alts := [], laidByText := true, laidKinds := [.data, .data, .data, .data, .data], laidTests := true, laidLooks := .later }
def DecisionEndsWithDeathCardSaid : Prop := Claim7.holds Tryz.pinned (.plain (OpenSpec.ofChange decisionEndsWithDeathSpec)) decisionEndsWithDeathCard

/-- THE SECOND FORM's CARD OF 'pensionlaw26.DecisionEndsWithDeath'. -/
def decisionEndsWithDeathUptoCard : Claim7 := { stood := { row := decisionEndsWithDeathUptoRow, standIns := [], harness := (true, "5ed0fc18e9410cfab37309eedc4b35f0b7e90b766795d477de2277543194ec09"), looks := false }, kinds := [], alts := [], laidByText := true, laidKinds := [.data, .data, .data, .data, .data], laidTests := true, laidLooks := .later }
def DecisionEndsWithDeathUptoCardSaid : Prop := Claim7.holds Tryz.pinned (.plain (OpenSpec.upto decisionEndsWithDeathSpec)) decisionEndsWithDeathUptoCard
end Rows
end Go.Proofs.YtmhkcgdchdkjcaaGreatDoor
