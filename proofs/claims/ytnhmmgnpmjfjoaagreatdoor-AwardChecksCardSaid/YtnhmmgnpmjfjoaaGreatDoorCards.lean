/-
  DERIVED. GIVEN WITH THE SEED: THE CARDS: each row of YtnhmmgnpmjfjoaaGreatDoorRows.lean that lists a variable, with what it lists TIED to the program's text (the seventh form; the later family's looks); each row that meets fmt, with fmt's text TOLD by the authors' own Lean function (tested against real Go, not proved from fmt's source: count such statements apart). THE CARD IS WHAT COUNTS. Prove the row's statement (the work); the ties are given (YtnhmmgnpmjfjoaaGreatDoorTie.lean); close each card by the builder's one call (the guide's Derived/Test/ToyasCard.lean, 'card_holds'). Laid BY PROGRAM, IN A SANDBOX (cutbox-door.mjs). By AI agents, Wed Nov 11 2026. No macro, syntax, notation, axiom, sorry.
-/
import Derived.Test.YtnhmmgnpmjfjoaaGreatDoorRows
import GoSem.ClaimSeven
namespace Go.Proofs.YtnhmmgnpmjfjoaaGreatDoor
namespace Rows

/-- THE TIED CARD OF 'pensionlaw20.AwardChecks'. -/
def awardChecksCard : Claim7 := { stood := { row := awardChecksRow, standIns := [], harness := (true, "5838fafb920244b11d351af844a4a226ed69ebdfb88916b6bef1efaeb804171c"), looks := false }, kinds := [], alts := [], laidByText := true, laidKinds := [.data, .data, .data], laidTests := true, laidLooks := .later }
def AwardChecksCardSaid : Prop := Claim7.holds Tryz.pinned (.plain (OpenSpec.ofChange awardChecksSpec)) awardChecksCard

/-- THE TIED CARD OF 'pensionlaw20.AwardsExact'. -/
def awardsExactCard : Claim7 := { stood := { row := awardsExactRow, standIns := [], harness := (true, "5838fafb920244b11d351af844a4a226ed69ebdfb88916b6bef1efaeb804171c"), looks := false }, kinds := [], alts := [], laidByText := true, laidKinds := [.data, .data, .data], laidTests := true, laidLooks := .later }
def AwardsExactCardSaid : Prop := Claim7.holds Tryz.pinned (.plain (OpenSpec.ofChange awardsExactSpec)) awardsExactCard

/-- THE TIED CARD OF 'pensionlaw20.AwardsAll'. -/
def awardsAllCard : Claim7 := { stood := { row := awardsAllRow, standIns := [], harness := (true, "5838fafb920244b11d351af844a4a226ed69ebdfb88916b6bef1efaeb804171c"), looks := false }, kinds := [], alts := [], laidByText := true, laidKinds := [.data, .data, .data], laidTests := true, laidLooks := .later }
def AwardsAllCardSaid : Prop := Claim7.holds Tryz.pinned (.plain (OpenSpec.ofChange awardsAllSpec)) awardsAllCard

/-- THE TIED CARD OF 'pensionlaw20.AwardsBetter'. -/
def awardsBetterCard : Claim7 := { stood := { row := awardsBetterRow, standIns := [], harness := (true, "5838fafb920244b11d351af844a4a226ed69ebdfb88916b6bef1efaeb804171c"), looks := false }, kinds := [], alts := [], laidByText := true, laidKinds := [.data, .data, .data], laidTests := true, laidLooks := .later }
def AwardsBetterCardSaid : Prop := Claim7.holds Tryz.pinned (.plain (OpenSpec.ofChange awardsBetterSpec)) awardsBetterCard

/-- THE TIED CARD OF 'pensionlaw20.AwardsFuture'. -/
def awardsFutureCard : Claim7 := { stood := { row := awardsFutureRow, standIns := [], harness := (true, "5838fafb920244b11d351af844a4a226ed69ebdfb88916b6bef1efaeb804171c"), looks := false }, kinds := [], alts := [], laidByText := true, laidKinds := [.data, .data, .data], laidTests := true, laidLooks := .later }
def AwardsFutureCardSaid : Prop := Claim7.holds Tryz.pinned (.plain (OpenSpec.ofChange awardsFutureSpec)) awardsFutureCard

/-- THE TIED CARD OF 'pensionlaw20.AwardViews'. -/
def awardViewsCard : Claim7 := { stood := { row := awardViewsRow, standIns := [], harness := (true, "5838fafb920244b11d351af844a4a226ed69ebdfb88916b6bef1efaeb804171c"), looks := false }, kinds := [], alts := [], laidByText := true, laidKinds := [.data, .data, .data], laidTests := true, laidLooks := .later }
def AwardViewsCardSaid : Prop := Claim7.holds Tryz.pinned (.plain (OpenSpec.ofChange awardViewsSpec)) awardViewsCard

/-- THE TIED CARD OF 'pensionlaw20.AwardsParts'. -/
def awardsPartsCard : Claim7 := { stood := { row := awardsPartsRow, standIns := [], harness := (true, "5838fafb920244b11d351af844a4a226ed69ebdfb88916b6bef1efaeb804171c"), looks := false }, kinds := [], alts := [], laidByText := true, laidKinds := [.data, .data, .data], laidTests := true, laidLooks := .later }
def AwardsPartsCardSaid : Prop := Claim7.holds Tryz.pinned (.plain (OpenSpec.ofChange awardsPartsSpec)) awardsPartsCard

/-- THE TIED CARD OF 'pensionlaw20.AwardCounts'. -/
def awardCountsCard : Claim7 := { stood := { row := awardCountsRow, standIns := [], harness := (true, "5838fafb920244b11d351af844a4a226ed69ebdfb88916b6bef1efaeb804171c"), looks := false }, kinds := [], alts := [], laidByText := true, laidKinds := [.data, .data, .data], laidTests := true, laidLooks := .later }
def AwardCountsCardSaid : Prop := Claim7.holds Tryz.pinned (.plain (OpenSpec.ofChange awardCountsSpec)) awardCountsCard

/-- THE TIED CARD OF 'pensionlaw20.AwardGrants'. -/
def awardGrantsCard : Claim7 := { stood := { row := awardGrantsRow, standIns := [], harness := (true, "5838fafb920244b11d351af844a4a226ed69ebdfb88916b6bef1efaeb804171c"), looks := false }, kinds := [], alts := [], laidByText := true, laidKinds := [.data, .data, .data], laidTests := true, laidLooks := .later }
def AwardGrantsCardSaid : Prop := Claim7.holds Tryz.pinned (.plain (OpenSpec.ofChange awardGrantsSpec)) awardGrantsCard

/-- THE TIED CARD OF 'pensionlaw20.AwardsArrival'. -/
def awardsArrivalCard : Claim7 := { stood := { row := awardsArrivalRow, standIns := [], harness := (true, "5838fafb920244b11d351af844a4a226ed69ebdfb88916b6bef1efaeb804171c"), looks := false }, kinds := [], alts := [], laidByText := true, laidKinds := [.data, .data, .data], laidTests := true, laidLooks := .later }
def AwardsArrivalCardSaid : Prop := Claim7.holds Tryz.pinned (.plain (OpenSpec.ofChange awardsArrivalSpec)) awardsArrivalCard

/-- THE SECOND FORM's CARD OF 'pensionlaw20.AwardChecks'. -/
def awardChecksUptoCard : Claim7 := { stood := { row := awardChecksUptoRow, standIns := [], harness := (true, "5838fafb920244b11d351af844a4a226ed69ebdfb88916b6bef1efaeb804171c"), looks := false }, kinds := [], alts := [], laidByText := true, laidKinds := [.data, .data, .data], laidTests := true, laidLooks := .later }
def AwardChecksUptoCardSaid : Prop := Claim7.holds Tryz.pinned (.plain (OpenSpec.upto awardChecksSpec)) awardChecksUptoCard

/-- THE SECOND FORM's CARD OF 'pensionlaw20.AwardsExact'. -/
def awardsExactUptoCard : Claim7 := { stood := { row := awardsExactUptoRow, standIns := [], harness := (true, "5838fafb920244b11d351af844a4a226ed69ebdfb88916b6bef1efaeb804171c"), looks := false }, kinds := [], alts := [], laidByText := true, laidKinds := [.data, .data, .data], laidTests := true, laidLooks := .later }
def AwardsExactUptoCardSaid : Prop := Claim7.holds Tryz.pinned (.plain (OpenSpec.upto awardsExactSpec)) awardsExactUptoCard

/-- THE SECOND FORM's CARD OF 'pensionlaw20.AwardsAll'. -/
def awardsAllUptoCard : Claim7 := { stood := { row := awardsAllUptoRow, standIns := [], harness := (true, "5838fafb920244b11d351af844a4a226ed69ebdfb88916b6bef1efaeb804171c"), looks := false }, kinds := [], alts := [], laidByText := true, laidKinds := [.data, .data, .data], laidTests := true, laidLooks := .later }
def AwardsAllUptoCardSaid : Prop := Claim7.holds Tryz.pinned (.plain (OpenSpec.upto awardsAllSpec)) awardsAllUptoCard

/-- THE SECOND FORM's CARD OF 'pensionlaw20.AwardsBetter'. -/
def awardsBetterUptoCard : Claim7 := { stood := { row := awardsBetterUptoRow, standIns := [], harness := (true, "5838fafb920244b11d351af844a4a226ed69ebdfb88916b6bef1efaeb804171c"), looks := false }, kinds := [], alts := [], laidByText := true, laidKinds := [.data, .data, .data], laidTests := true, laidLooks := .later }
def AwardsBetterUptoCardSaid : Prop := Claim7.holds Tryz.pinned (.plain (OpenSpec.upto awardsBetterSpec)) awardsBetterUptoCard

/-- THE SECOND FORM's CARD OF 'pensionlaw20.AwardsFuture'. -/
def awardsFutureUptoCard : Claim7 := { stood := { row := awardsFutureUptoRow, standIns := [], harness := (true, "5838fafb920244b11d351af844a4a226ed69ebdfb88916b6bef1efaeb804171c"), looks := false }, kinds := [], alts := [], laidByText := true, laidKinds := [.data, .data, .data], laidTests := true, laidLooks := .later }
def AwardsFutureUptoCardSaid : Prop := Claim7.holds Tryz.pinned (.plain (OpenSpec.upto awardsFutureSpec)) awardsFutureUptoCard

/-- THE SECOND FORM's CARD OF 'pensionlaw20.AwardViews'. -/
def awardViewsUptoCard : Claim7 := { stood := { row := awardViewsUptoRow, standIns := [], harness := (true, "5838fafb920244b11d351af844a4a226ed69ebdfb88916b6bef1efaeb804171c"), looks := false }, kinds := [], alts := [], laidByText := true, laidKinds := [.data, .data, .data], laidTests := true, laidLooks := .later }
def AwardViewsUptoCardSaid : Prop := Claim7.holds Tryz.pinned (.plain (OpenSpec.upto awardViewsSpec)) awardViewsUptoCard

/-- THE SECOND FORM's CARD OF 'pensionlaw20.AwardsParts'. -/
def awardsPartsUptoCard : Claim7 := { stood := { row := awardsPartsUptoRow, standIns := [], harness := (true, "5838fafb920244b11d351af844a4a226ed69ebdfb88916b6bef1efaeb804171c"), looks := false }, kinds := [], alts := [], laidByText := true, laidKinds := [.data, .data, .data], laidTests := true, laidLooks := .later }
def AwardsPartsUptoCardSaid : Prop := Claim7.holds Tryz.pinned (.plain (OpenSpec.upto awardsPartsSpec)) awardsPartsUptoCard

/-- THE SECOND FORM's CARD OF 'pensionlaw20.AwardCounts'. -/
def awardCountsUptoCard : Claim7 := { stood := { row := awardCountsUptoRow, standIns := [], harness := (true, "5838fafb920244b11d351af844a4a226ed69ebdfb88916b6bef1efaeb804171c"), looks := false }, kinds := [], alts := [], laidByText := true, laidKinds := [.data, .data, .data], laidTests := true, laidLooks := .later }
def AwardCountsUptoCardSaid : Prop := Claim7.holds Tryz.pinned (.plain (OpenSpec.upto awardCountsSpec)) awardCountsUptoCard

/-- THE SECOND FORM's CARD OF 'pensionlaw20.AwardGrants'. -/
def awardGrantsUptoCard : Claim7 := { stood := { row := awardGrantsUptoRow, standIns := [], harness := (true, "5838fafb920244b11d351af844a4a226ed69ebdfb88916b6bef1efaeb804171c"), looks := false }, kinds := [], alts := [], laidByText := true, laidKinds := [.data, .data, .data], laidTests := true, laidLooks := .later }
def AwardGrantsUptoCardSaid : Prop := Claim7.holds Tryz.pinned (.plain (OpenSpec.upto awardGrantsSpec)) awardGrantsUptoCard

/-- THE SECOND FORM's CARD OF 'pensionlaw20.AwardsArrival'. -/
def awardsArrivalUptoCard : Claim7 := { stood := { row := awardsArrivalUptoRow, standIns := [], harness := (true, "5838fafb920244b11d351af844a4a226ed69ebdfb88916b6bef1efaeb804171c"), looks := false }, kinds := [], alts := [], laidByText := true, laidKinds := [.data, .data, .data], laidTests := true, laidLooks := .later }
def AwardsArrivalUptoCardSaid : Prop := Claim7.holds Tryz.pinned (.plain (OpenSpec.upto awardsArrivalSpec)) awardsArrivalUptoCard
end Rows
end Go.Proofs.YtnhmmgnpmjfjoaaGreatDoor
