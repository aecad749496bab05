/-
  DERIVED. GIVEN WITH THE SEED: THE CARDS: each row of YtndkbfbjjnhgoaaGreatDoorRows.lean that lists a variable, with what it lists TIED to the program's text (the seventh form; the later family's looks); each row that meets fmt, with fmt's text TOLD by the authors' own Lean function (tested against real Go, not proved from fmt's source: count such statements apart). THE CARD IS WHAT COUNTS. Prove the row's statement (the work); the ties are given (YtndkbfbjjnhgoaaGreatDoorTie.lean); close each card by the builder's one call (the guide's Derived/Test/ToyasCard.lean, 'card_holds'). Laid BY PROGRAM, IN A SANDBOX (cutbox-door.mjs). By AI agents, Wed Nov 11 2026. No macro, syntax, notation, axiom, sorry.
-/
import Derived.Test.YtndkbfbjjnhgoaaGreatDoorRows
import GoSem.ClaimSeven
namespace Go.Proofs.YtndkbfbjjnhgoaaGreatDoor
namespace Rows

/-- THE TIED CARD OF 'pensionlaw24.FamilyParentsAgree'. -/
def familyParentsAgreeCard : Claim7 := { stood := { row := familyParentsAgreeRow, standIns := [], harness := (true, "6e90822997ab5b2735bb8b6ca3b6c17c5fcbaf6603434dbde308376e2e642f6f"), looks := false }, kinds := [], alts := [], laidByText := true, laidKinds := [.data], laidTests := true, laidLooks := .later }
def FamilyParentsAgreeCardSaid : Prop := Claim7.holds Tryz.pinned (.plain (OpenSpec.ofChange familyParentsAgreeSpec)) familyParentsAgreeCard

/-- THE SECOND FORM's CARD OF 'pensionlaw24.FamilyParentsAgree'. -/
def familyParentsAgreeUptoCard : Claim7 := { stood := { row := familyParentsAgreeUptoRow, standIns := [], harness := (true, "6e90822997ab5b2735bb8b6ca3b6c17c5fcbaf6603434dbde308376e2e642f6f"), looks := false }, kinds := [], alts := [], laidByText := true, laidKinds := [.data], laidTests := true, laidLooks := .later }
def FamilyParentsAgreeUptoCardSaid : Prop := Claim7.holds Tryz.pinned (.plain (OpenSpec.upto familyParentsAgreeSpec)) familyParentsAgreeUptoCard
end Rows
end Go.Proofs.YtndkbfbjjnhgoaaGreatDoor
