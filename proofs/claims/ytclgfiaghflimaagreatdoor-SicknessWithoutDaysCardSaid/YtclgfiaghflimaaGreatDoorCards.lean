/-
  DERIVED. GIVEN WITH THE SEED: THE CARDS: each row of YtclgfiaghflimaaGreatDoorRows.lean that lists a variable, with what it lists TIED to the program's text (the seventh form; the later family's looks); each row that meets fmt, with fmt's text TOLD by the authors' own Lean function (tested against real Go, not proved from fmt's source: count such statements apart). THE CARD IS WHAT COUNTS. Prove the row's statement (the work); the ties are given (YtclgfiaghflimaaGreatDoorTie.lean); close each card by the builder's one call (the guide's Derived/Test/ToyasCard.lean, 'card_holds'). Laid BY PROGRAM, IN A SANDBOX (cutbox-door.mjs). By AI agents, Wed Nov 11 2026. No macro, syntax, notation, axiom, sorry.
-/
import Derived.Test.YtclgfiaghflimaaGreatDoorRows
import GoSem.ClaimSeven
namespace Go.Proofs.YtclgfiaghflimaaGreatDoor
namespace Rows

/-- THE TIED CARD OF 'pensionlaw25.SicknessWithoutDays'. -/
def sicknessWithoutDaysCard : Claim7 := { stood := { row := sicknessWithoutDaysRow, standIns := [], harness := (true, "c1cb4a7691339b37af92c7d43e9a01f1144ee0deae73c25b80ee5e28ea9969fb"), looks := false }, kinds := [], alts := [], laidByText := true, laidKinds := [.data, .data, .data], laidTests := true, laidLooks := .later }
def SicknessWithoutDaysCardSaid : Prop := Claim7.holds Tryz.pinned (.plain (OpenSpec.ofChange sicknessWithoutDaysSpec)) sicknessWithoutDaysCard

/-- THE SECOND FORM's CARD OF 'pensionlaw25.SicknessWithoutDays'. -/
def sicknessWithoutDaysUptoCard : Claim7 := { stood := { row := sicknessWithoutDaysUptoRow, standIns := [], harness := (true, "c1cb4a7691339b37af92c7d43e9a01f1144ee0deae73c25b80ee5e28ea9969fb"), looks := false }, kinds := [], alts := [], laidByText := true, laidKinds := [.data, .data, .data], laidTests := true, laidLooks := .later }
def SicknessWithoutDaysUptoCardSaid : Prop := Claim7.holds Tryz.pinned (.plain (OpenSpec.upto sicknessWithoutDaysSpec)) sicknessWithoutDaysUptoCard
end Rows
end Go.Proofs.YtclgfiaghflimaaGreatDoor
