/-
  DERIVED. GIVEN WITH THE SEED: THE CARDS: each row of YtjdjoncobjojnaaGreatDoorRows.lean that lists a variable, with what it lists TIED to the program's text (the seventh form; the later family's looks); each row that meets fmt, with fmt's text TOLD by the authors' own Lean function (tested against real Go, not proved from fmt's source: count such statements apart). THE CARD IS WHAT COUNTS. Prove the row's statement (the work); the ties are given (YtjdjoncobjojnaaGreatDoorTie.lean); close each card by the builder's one call (the guide's Derived/Test/ToyasCard.lean, 'card_holds'). Laid BY PROGRAM, IN A SANDBOX (cutbox-door.mjs). By AI agents, Wed Nov 11 2026. No macro, syntax, notation, axiom, sorry.
-/
import Derived.Test.YtjdjoncobjojnaaGreatDoorRows
import GoSem.ClaimSeven
namespace Go.Proofs.YtjdjoncobjojnaaGreatDoor
namespace Rows

/-- THE TIED CARD OF 'pensionlaw24.FamilyRightsIgnoreOrder'. -/
def familyRightsIgnoreOrderCard : Claim7 := { stood := { row := familyRightsIgnoreOrderRow, standIns := [], harness := (true, "aeef5010d339c495d5c6efbe503966083511692e1a66122b3ed02fb134ab246d"), looks := false }, kinds := [], alts := [], laidByText := true, laidKinds := [.data, .data, .data, .data], laidTests := true, laidLooks := .later }
def FamilyRightsIgnoreOrderCardSaid : Prop := Claim7.holds Tryz.pinned (.plain (OpenSpec.ofChange familyRightsIgnoreOrderSpec)) familyRightsIgnoreOrderCard

/-- THE TIED CARD OF 'pensionlaw24.FamilyRightsAreValid'. -/
def familyRightsAreValidCard : Claim7 := { stood := { row := familyRightsAreValidRow, standIns := [], harness := (true, "aeef5010d339c495d5c6efbe503966083511692e1a66122b3ed02fb134ab246d"), looks := false }, kinds := [], alts := [], laidByText := true, laidKinds := [.data, .data, .data, .data], laidTests := true, laidLooks := .later }
def FamilyRightsAreValidCardSaid : Prop := Claim7.holds Tryz.pinned (.plain (OpenSpec.ofChange familyRightsAreValidSpec)) familyRightsAreValidCard

/-- THE SECOND FORM's CARD OF 'pensionlaw24.FamilyRightsIgnoreOrder'. -/
def familyRightsIgnoreOrderUptoCard : Claim7 := { stood := { row := familyRightsIgnoreOrderUptoRow, standIns := [], harness := (true, "aeef5010d339c495d5c6efbe503966083511692e1a66122b3ed02fb134ab246d"), looks := false }, kinds := [], alts := [], laidByText := true, laidKinds := [.data, .data, .data, .data], laidTests := true, laidLooks := .later }
def FamilyRightsIgnoreOrderUptoCardSaid : Prop := Claim7.holds Tryz.pinned (.plain (OpenSpec.upto familyRightsIgnoreOrderSpec)) familyRightsIgnoreOrderUptoCard

/-- THE SECOND FORM's CARD OF 'pensionlaw24.FamilyRightsAreValid'. -/
def familyRightsAreValidUptoCard : Claim7 := { stood := { row := familyRightsAreValidUptoRow, standIns := [], harness := (true, "aeef5010d339c495d5c6efbe503966083511692e1a66122b3ed02fb134ab246d"), looks := false }, kinds := [], alts := [], laidByText := true, laidKinds := [.data, .data, .data, .data], laidTests := true, laidLooks := .later }
def FamilyRightsAreValidUptoCardSaid : Prop := Claim7.holds Tryz.pinned (.plain (OpenSpec.upto familyRightsAreValidSpec)) familyRightsAreValidUptoCard
end Rows
end Go.Proofs.YtjdjoncobjojnaaGreatDoor
