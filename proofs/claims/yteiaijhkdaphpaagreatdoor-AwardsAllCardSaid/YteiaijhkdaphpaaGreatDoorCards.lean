/-
  DERIVED. GIVEN WITH THE SEED: THE CARDS: each row of YteiaijhkdaphpaaGreatDoorRows.lean that lists a variable, with what it lists TIED to the program's text (the seventh form; the later family's looks); each row that meets fmt, with fmt's text TOLD by the authors' own Lean function (tested against real Go, not proved from fmt's source: count such statements apart). THE CARD IS WHAT COUNTS. Prove the row's statement (the work); the ties are given (YteiaijhkdaphpaaGreatDoorTie.lean); close each card by the builder's one call (the guide's Derived/Test/ToyasCard.lean, 'card_holds'). Laid BY PROGRAM, IN A SANDBOX (cutbox-door.mjs). By AI agents, Wed Nov 11 2026. No macro, syntax, notation, axiom, sorry.
-/
import Derived.Test.YteiaijhkdaphpaaGreatDoorRows
import GoSem.ClaimSeven
namespace Go.Proofs.YteiaijhkdaphpaaGreatDoor
namespace Rows

/-- THE TIED CARD OF 'pensionlaw20.AwardsAll'. -/
def awardsAllCard : Claim7 := { stood := { row := awardsAllRow, standIns := [], harness := (true, "c79f4bf69cc0ff63e390c9e79b03d0266779ea2be37237466be3fd13e27a00c1"), looks := false }, kinds := [], alts := [], laidByText := true, laidKinds := [.data, .data, .data], laidTests := true, laidLooks := .later }
def AwardsAllCardSaid : Prop := Claim7.holds Tryz.pinned (.plain (OpenSpec.ofChange awardsAllSpec)) awardsAllCard

/-- THE SECOND FORM's CARD OF 'pensionlaw20.AwardsAll'. -/
def awardsAllUptoCard : Claim7 := { stood := { row := awardsAllUptoRow, standIns := [], harness := (true, "c79f4bf69cc0ff63e390c9e79b03d0266779ea2be37237466be3fd13e27a00c1"), looks := false }, kinds := [], alts := [], laidByText := true, laidKinds := [.data, .data, .data], laidTests := true, laidLooks := .later }
def AwardsAllUptoCardSaid : Prop := Claim7.holds Tryz.pinned (.plain (OpenSpec.upto awardsAllSpec)) awardsAllUptoCard
end Rows
end Go.Proofs.YteiaijhkdaphpaaGreatDoor
