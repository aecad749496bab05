/-
  DERIVED. GIVEN WITH THE SEED: THE CARDS: each row of YtkjalpallcedmaaGreatDoorRows.lean that lists a variable, with what it lists TIED to the program's text (the seventh form; the later family's looks); each row that meets fmt, with fmt's text TOLD by the authors' own Lean function (tested against real Go, not proved from fmt's source: count such statements apart). THE CARD IS WHAT COUNTS. Prove the row's statement (the work); the ties are given (YtkjalpallcedmaaGreatDoorTie.lean); close each card by the builder's one call (the guide's Derived/Test/ToyasCard.lean, 'card_holds'). Laid BY PROGRAM, IN A SANDBOX (cutbox-door.mjs). By AI agents, Wed Nov 11 2026. No macro, syntax, notation, axiom, sorry.
-/
import Derived.Test.YtkjalpallcedmaaGreatDoorRows
import GoSem.ClaimSeven
namespace Go.Proofs.YtkjalpallcedmaaGreatDoor
namespace Rows

/-- THE TIED CARD OF 'pensionlaw20.AwardsFuture'. -/
def awardsFutureCard : Claim7 := { stood := { row := awardsFutureRow, standIns := [], harness := (true, "a06b88d91ac5e8fe52b97bb032b69e6509268041daf5bcd9811783dad81c9f09"), looks := false }, kinds := [], alts := [], laidByText := true, laidKinds := [.data, .data, .data], laidTests := true, laidLooks := .later }
def AwardsFutureCardSaid : Prop := Claim7.holds Tryz.pinned (.plain (OpenSpec.ofChange awardsFutureSpec)) awardsFutureCard

/-- THE TIED CARD OF 'pensionlaw20.AwardsParts'. -/
def awardsPartsCard : Claim7 := { stood := { row := awardsPartsRow, standIns := [], harness := (true, "a06b88d91ac5e8fe52b97bb032b69e6509268041daf5bcd9811783dad81c9f09"), looks := false }, kinds := [], alts := [], laidByText := true, laidKinds := [.data, .data, .data], laidTests := true, laidLooks := .later }
def AwardsPartsCardSaid : Prop := Claim7.holds Tryz.pinned (.plain (OpenSpec.ofChange awardsPartsSpec)) awardsPartsCard

/-- THE SECOND FORM's CARD OF 'pensionlaw20.AwardsFuture'. -/
def awardsFutureUptoCard : Claim7 := { stood := { row := awardsFutureUptoRow, standIns := [], harness := (true, "a06b88d91ac5e8fe52b97bb032b69e6509268041daf5bcd9811783dad81c9f09"), looks := false }, kinds := [], alts := [], laidByText := true, laidKinds := [.data, .data, .data], laidTests := true, laidLooks := .later }
def AwardsFutureUptoCardSaid : Prop := Claim7.holds Tryz.pinned (.plain (OpenSpec.upto awardsFutureSpec)) awardsFutureUptoCard

/-- THE SECOND FORM's CARD OF 'pensionlaw20.AwardsParts'. -/
def awardsPartsUptoCard : Claim7 := { stood := { row := awardsPartsUptoRow, standIns := [], harness := (true, "a06b88d91ac5e8fe52b97bb032b69e6509268041daf5bcd9811783dad81c9f09"), looks := false }, kinds := [], alts := [], laidByText := true, laidKinds := [.data, .data, .data], laidTests := true, laidLooks := .later }
def AwardsPartsUptoCardSaid : Prop := Claim7.holds Tryz.pinned (.plain (OpenSpec.upto awardsPartsSpec)) awardsPartsUptoCard
end Rows
end Go.Proofs.YtkjalpallcedmaaGreatDoor
