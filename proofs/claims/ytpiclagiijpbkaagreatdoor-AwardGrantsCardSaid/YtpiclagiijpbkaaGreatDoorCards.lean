/-
  DERIVED. GIVEN WITH THE SEED: THE CARDS: each row of YtpiclagiijpbkaaGreatDoorRows.lean that lists a variable, with what it lists TIED to the program's text (the seventh form; the later family's looks); each row that meets fmt, with fmt's text TOLD by the authors' own Lean function (tested against real Go, not proved from fmt's source: count such statements apart). THE CARD IS WHAT COUNTS. Prove the row's statement (the work); the ties are given (YtpiclagiijpbkaaGreatDoorTie.lean); close each card by the builder's one call (the guide's Derived/Test/ToyasCard.lean, 'card_holds'). Laid BY PROGRAM, IN A SANDBOX (cutbox-door.mjs). By AI agents, Wed Nov 11 2026. No macro, syntax, notation, axiom, sorry.
-/
import Derived.Test.YtpiclagiijpbkaaGreatDoorRows
import GoSem.ClaimSeven
namespace Go.Proofs.YtpiclagiijpbkaaGreatDoor
namespace Rows

/-- THE TIED CARD OF 'pensionlaw20.AwardGrants'. -/
def awardGrantsCard : Claim7 := { stood := { row := awardGrantsRow, standIns := [], harness := (true, "9bfbc70fb939c96f9a2871d153902c72493800f7c50be85ee8d14c4277e759ec"), looks := false }, kinds := [], alts := [], laidByText := true, laidKinds := [.data, .data, .data], laidTests := true, laidLooks := .later }
def AwardGrantsCardSaid : Prop := Claim7.holds Tryz.pinned (.plain (OpenSpec.ofChange awardGrantsSpec)) awardGrantsCard

/-- THE SECOND FORM's CARD OF 'pensionlaw20.AwardGrants'. -/
def awardGrantsUptoCard : Claim7 := { stood := { row := awardGrantsUptoRow, standIns := [], harness := (true, "9bfbc70fb939c96f9a2871d153902c72493800f7c50be85ee8d14c4277e759ec"), looks := false }, kinds := [], alts := [], laidByText := true, laidKinds := [.data, .data, .data], laidTests := true, laidLooks := .later }
def AwardGrantsUptoCardSaid : Prop := Claim7.holds Tryz.pinned (.plain (OpenSpec.upto awardGrantsSpec)) awardGrantsUptoCard
end Rows
end Go.Proofs.YtpiclagiijpbkaaGreatDoor
