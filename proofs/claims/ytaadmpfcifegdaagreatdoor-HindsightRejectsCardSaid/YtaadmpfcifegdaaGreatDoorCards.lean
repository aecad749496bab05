/-
  DERIVED. GIVEN WITH THE SEED: THE CARDS: each row of YtaadmpfcifegdaaGreatDoorRows.lean that lists a variable, with what it lists TIED to the program's text (the seventh form; the later family's looks); each row that meets fmt, with fmt's text TOLD by the authors' own Lean function (tested against real Go, not proved from fmt's source: count such statements apart). THE CARD IS WHAT COUNTS. Prove the row's statement (the work); the ties are given (YtaadmpfcifegdaaGreatDoorTie.lean); close each card by the builder's one call (the guide's Derived/Test/ToyasCard.lean, 'card_holds'). Laid BY PROGRAM, IN A SANDBOX (cutbox-door.mjs). By AI agents, Wed Nov 11 2026. No macro, syntax, notation, axiom, sorry.
-/
import Derived.Test.YtaadmpfcifegdaaGreatDoorRows
import GoSem.ClaimSeven
namespace Go.Proofs.YtaadmpfcifegdaaGreatDoor
namespace Rows

/-- THE TIED CARD OF 'pensionlaw37.HindsightRejects'. -/
def hindsightRejectsCard : Claim7 := { stood := { row := hindsightRejectsRow, standIns := [], harness := (true, "43b39c56647413d6ac2d03215f8ff8e508617d3b735ba8c6bac39af3f5b315f7"), looks := false }, kinds := [], alts := [], laidByText := true, laidKinds := [.data, .data, .data, .data, .data], laidTests := true, laidLooks := .later }
def HindsightRejectsCardSaid : Prop := Claim7.holds Tryz.pinned (.plain (OpenSpec.ofChange hindsightRejectsSpec)) hindsightRejectsCard

/-- THE SECOND FORM's CARD OF 'pensionlaw37.HindsightRejects'. -/
def hindsightRejectsUptoCard : Claim7 := { stood := { row := hindsightRejectsUptoRow, standIns := [], harness := (true, "43b39c56647413d6ac2d03215f8ff8e508617d3b735ba8c6bac39af3f5b315f7"), looks := false }, kinds := [], alts := [], laidByText := true, laidKinds := [.data, .data, .data, .data, .data], laidTests := true, laidLooks := .later }
def HindsightRejectsUptoCardSaid : Prop := Claim7.holds Tryz.pinned (.plain (OpenSpec.upto hindsightRejectsSpec)) hindsightRejectsUptoCard
end Rows
end Go.Proofs.YtaadmpfcifegdaaGreatDoor
