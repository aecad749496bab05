/-
  DERIVED. GIVEN WITH THE SEED: THE CARDS: each row of YtlnlddeandmbhaaGreatDoorRows.lean that lists a variable, with what it lists TIED to the program's text (the seventh form; the later family's looks); each row that meets fmt, with fmt's text TOLD by the authors' own Lean function (tested against real Go, not proved from fmt's source: count such statements apart). THE CARD IS WHAT COUNTS. Prove the row's statement (the work); the ties are given (YtlnlddeandmbhaaGreatDoorTie.lean); close each card by the builder's one call (the guide's Derived/Test/ToyasCard.lean, 'card_holds'). Laid BY PROGRAM, IN A SANDBOX (cutbox-door.mjs). By AI agents, Wed Nov 11 2026. No macro, syntax, notation, axiom, sorry.
-/
import Derived.Test.YtlnlddeandmbhaaGreatDoorRows
import GoSem.ClaimSeven
namespace Go.Proofs.YtlnlddeandmbhaaGreatDoor
namespace Rows

/-- THE TIED CARD OF 'pensionlaw20.AwardsArrival'. -/
def awardsArrivalCard : Claim7 := { stood := { row := awardsArrivalRow, standIns := [], harness := (true, "52850e7511f40fcf3523ae004adb0239c48659658bca5bd4d50c7144938b3ed2"), looks := false }, kinds := [], alts := [], laidByText := true, laidKinds := [.data, .data, .data], laidTests := true, laidLooks := .later }
def AwardsArrivalCardSaid : Prop := Claim7.holds Tryz.pinned (.plain (OpenSpec.ofChange awardsArrivalSpec)) awardsArrivalCard

/-- THE SECOND FORM's CARD OF 'pensionlaw20.AwardsArrival'. -/
def awardsArrivalUptoCard : Claim7 := { stood := { row := awardsArrivalUptoRow, standIns := [], harness := (true, "52850e7511f40fcf3523ae004adb0239c48659658bca5bd4d50c7144938b3ed2"), looks := false }, kinds := [], alts := [], laidByText := true, laidKinds := [.data, .data, .data], laidTests := true, laidLooks := .later }
def AwardsArrivalUptoCardSaid : Prop := Claim7.holds Tryz.pinned (.plain (OpenSpec.upto awardsArrivalSpec)) awardsArrivalUptoCard
end Rows
end Go.Proofs.YtlnlddeandmbhaaGreatDoor
