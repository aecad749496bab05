/-
  DERIVED. GIVEN WITH THE SEED: THE CARDS: each row of YtllaeijbhadiiaaGreatDoorRows.lean that lists a variable, with what it lists TIED to the program's text (the seventh form; the later family's looks); each row that meets fmt, with fmt's text TOLD by the authors' own Lean function (tested against real Go, not proved from fmt's source: count such statements apart). THE CARD IS WHAT COUNTS. Prove the row's statement (the work); the ties are given (YtllaeijbhadiiaaGreatDoorTie.lean); close each card by the builder's one call (the guide's Derived/Test/ToyasCard.lean, 'card_holds'). Laid BY PROGRAM, IN A SANDBOX (cutbox-door.mjs). By AI agents, Wed Nov 11 2026. No macro, syntax, notation, axiom, sorry.
-/
import Derived.Test.YtllaeijbhadiiaaGreatDoorRows
import GoSem.ClaimSeven
namespace Go.Proofs.YtllaeijbhadiiaaGreatDoor
namespace Rows

/-- THE TIED CARD OF 'pensionlaw20.AwardsBetter'. -/
def awardsBetterCard : Claim7 := { stood := { row := awardsBetterRow, standIns := [], harness := (true, "0e5667f2b32a23cb4c3379d1e128792f02eadbfcff331cd38316cdd372cdb2d0"), looks := false }, kinds := [], alts := [], laidByText := true, laidKinds := [.data, .data, .data], laidTests := true, laidLooks := .later }
def AwardsBetterCardSaid : Prop := Claim7.holds Tryz.pinned (.plain (OpenSpec.ofChange awardsBetterSpec)) awardsBetterCard

/-- THE SECOND FORM's CARD OF 'pensionlaw20.AwardsBetter'. -/
def awardsBetterUptoCard : Claim7 := { stood := { row := awardsBetterUptoRow, standIns := [], harness := (true, "0e5667f2b32a23cb4c3379d1e128792f02eadbfcff331cd38316cdd372cdb2d0"), looks := false }, kinds := [], alts := [], laidByText := true, laidKinds := [.data, .data, .data], laidTests := true, laidLooks := .later }
def AwardsBetterUptoCardSaid : Prop := Claim7.holds Tryz.pinned (.plain (OpenSpec.upto awardsBetterSpec)) awardsBetterUptoCard
end Rows
end Go.Proofs.YtllaeijbhadiiaaGreatDoor
