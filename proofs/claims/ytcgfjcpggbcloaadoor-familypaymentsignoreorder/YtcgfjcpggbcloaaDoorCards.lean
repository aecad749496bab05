/-
  DERIVED. GIVEN WITH THE SEED: THE CARDS: each row of YtcgfjcpggbcloaaDoorRows.lean that lists a variable, with what it lists TIED to the program's text (the seventh form; the later family's looks); each row that meets fmt, with fmt's text TOLD by the authors' own Lean function (tested against real Go, not proved from fmt's source: count such statements apart). THE CARD IS WHAT COUNTS. Prove the row's statement (the work); the ties are given (YtcgfjcpggbcloaaDoorTie.lean); close each card by the builder's one call (the guide's Derived/Test/ToyasCard.lean, 'card_holds'). Laid BY PROGRAM, IN A SANDBOX (cutbox-door.mjs). By AI agents, Wed Nov 11 2026. No macro, syntax, notation, axiom, sorry.
-/
import Derived.Test.YtcgfjcpggbcloaaDoorRows
import GoSem.ClaimSeven
namespace Go.Proofs.YtcgfjcpggbcloaaDoor
namespace Rows

/-- THE TIED CARD OF 'pensionlaw24.FamilyOrderAgrees'. -/
def familyOrderAgreesCard : Claim7 := { stood := { row := familyOrderAgreesRow, standIns := [], harness := (true, "d8b826b0c5b7e2802fec9768d24205a7214562477fd09e4a7a9af75ecffa4acf"), looks := false }, kinds := [], alts := [], laidByText := true, laidKinds := [.data], laidTests := true, laidLooks := .later }
def FamilyOrderAgreesCardSaid : Prop := Claim7.holds Tryd.pinned (.plain (OpenSpec.ofChange familyOrderAgreesSpec)) familyOrderAgreesCard

/-- THE TIED CARD OF 'pensionlaw24.FamilyRejects'. -/
def familyRejectsCard : Claim7 := { stood := { row := familyRejectsRow, standIns := [], harness := (true, "d8b826b0c5b7e2802fec9768d24205a7214562477fd09e4a7a9af75ecffa4acf"), looks := false }, kinds := [], alts := [], laidByText := true, laidKinds := [.data], laidTests := true, laidLooks := .later }
def FamilyRejectsCardSaid : Prop := Claim7.holds Tryd.pinned (.plain (OpenSpec.ofChange familyRejectsSpec)) familyRejectsCard

/-- THE TIED CARD OF 'pensionlaw24.FamilyRejectsOneRight'. -/
def familyRejectsOneRightCard : Claim7 := { stood := { row := familyRejectsOneRightRow, standIns := [], harness := (true, "d8b826b0c5b7e2802fec9768d24205a7214562477fd09e4a7a9af75ecffa4acf"), looks := false }, kinds := [], alts := [], laidByText := true, laidKinds := [.data], laidTests := true, laidLooks := .later }
def FamilyRejectsOneRightCardSaid : Prop := Claim7.holds Tryd.pinned (.plain (OpenSpec.ofChange familyRejectsOneRightSpec)) familyRejectsOneRightCard

/-- THE TIED CARD OF 'pensionlaw24.FamilyOrderIsAPriority'. -/
def familyOrderIsAPriorityCard : Claim7 := { stood := { row := familyOrderIsAPriorityRow, standIns := [], harness := (true, "d8b826b0c5b7e2802fec9768d24205a7214562477fd09e4a7a9af75ecffa4acf"), looks := false }, kinds := [], alts := [], laidByText := true, laidKinds := [.data], laidTests := true, laidLooks := .later }
def FamilyOrderIsAPriorityCardSaid : Prop := Claim7.holds Tryd.pinned (.plain (OpenSpec.ofChange familyOrderIsAPrioritySpec)) familyOrderIsAPriorityCard

/-- THE TIED CARD OF 'pensionlaw24.FamilyPaymentsAgree'. -/
def familyPaymentsAgreeCard : Claim7 := { stood := { row := familyPaymentsAgreeRow, standIns := [], harness := (true, "d8b826b0c5b7e2802fec9768d24205a7214562477fd09e4a7a9af75ecffa4acf"), looks := false }, kinds := [], alts := [], laidByText := true, laidKinds := [.data], laidTests := true, laidLooks := .later }
def FamilyPaymentsAgreeCardSaid : Prop := Claim7.holds Tryd.pinned (.plain (OpenSpec.ofChange familyPaymentsAgreeSpec)) familyPaymentsAgreeCard

/-- THE TIED CARD OF 'pensionlaw24.FamilyPaysTheGreatest'. -/
def familyPaysTheGreatestCard : Claim7 := { stood := { row := familyPaysTheGreatestRow, standIns := [], harness := (true, "d8b826b0c5b7e2802fec9768d24205a7214562477fd09e4a7a9af75ecffa4acf"), looks := false }, kinds := [], alts := [], laidByText := true, laidKinds := [.data], laidTests := true, laidLooks := .later }
def FamilyPaysTheGreatestCardSaid : Prop := Claim7.holds Tryd.pinned (.plain (OpenSpec.ofChange familyPaysTheGreatestSpec)) familyPaysTheGreatestCard

/-- THE TIED CARD OF 'pensionlaw24.FamilyPrimaryPaysInFull'. -/
def familyPrimaryPaysInFullCard : Claim7 := { stood := { row := familyPrimaryPaysInFullRow, standIns := [], harness := (true, "d8b826b0c5b7e2802fec9768d24205a7214562477fd09e4a7a9af75ecffa4acf"), looks := false }, kinds := [], alts := [], laidByText := true, laidKinds := [.data], laidTests := true, laidLooks := .later }
def FamilyPrimaryPaysInFullCardSaid : Prop := Claim7.holds Tryd.pinned (.plain (OpenSpec.ofChange familyPrimaryPaysInFullSpec)) familyPrimaryPaysInFullCard

/-- THE TIED CARD OF 'pensionlaw24.FamilyPaymentsIgnoreOrder'. -/
def familyPaymentsIgnoreOrderCard : Claim7 := { stood := { row := familyPaymentsIgnoreOrderRow, standIns := [], harness := (true, "d8b826b0c5b7e2802fec9768d24205a7214562477fd09e4a7a9af75ecffa4acf"), looks := false }, kinds := [], alts := [], laidByText := true, laidKinds := [.data], laidTests := true, laidLooks := .later }
def FamilyPaymentsIgnoreOrderCardSaid : Prop := Claim7.holds Tryd.pinned (.plain (OpenSpec.ofChange familyPaymentsIgnoreOrderSpec)) familyPaymentsIgnoreOrderCard

/-- THE SECOND FORM's CARD OF 'pensionlaw24.FamilyOrderAgrees'. -/
def familyOrderAgreesUptoCard : Claim7 := { stood := { row := familyOrderAgreesUptoRow, standIns := [], harness := (true, "d8b826b0c5b7e2802fec9768d24205a7214562477fd09e4a7a9af75ecffa4acf"), looks := false }, kinds := [], alts := [], laidByText := true, laidKinds := [.data], laidTests := true, laidLooks := .later }
def FamilyOrderAgreesUptoCardSaid : Prop := Claim7.holds Tryd.pinned (.plain (OpenSpec.upto familyOrderAgreesSpec)) familyOrderAgreesUptoCard

/-- THE SECOND FORM's CARD OF 'pensionlaw24.FamilyRejects'. -/
def familyRejectsUptoCard : Claim7 := { stood := { row := familyRejectsUptoRow, standIns := [], harness := (true, "d8b826b0c5b7e2802fec9768d24205a7214562477fd09e4a7a9af75ecffa4acf"), looks := false }, kinds := [], alts := [], laidByText := true, laidKinds := [.data], laidTests := true, laidLooks := .later }
def FamilyRejectsUptoCardSaid : Prop := Claim7.holds Tryd.pinned (.plain (OpenSpec.upto familyRejectsSpec)) familyRejectsUptoCard

/-- THE SECOND FORM's CARD OF 'pensionlaw24.FamilyRejectsOneRight'. -/
def familyRejectsOneRightUptoCard : Claim7 := { stood := { row := familyRejectsOneRightUptoRow, standIns := [], harness := (true, "d8b826b0c5b7e2802fec9768d24205a7214562477fd09e4a7a9af75ecffa4acf"), looks := false }, kinds := [], alts := [], laidByText := true, laidKinds := [.data], laidTests := true, laidLooks := .later }
def FamilyRejectsOneRightUptoCardSaid : Prop := Claim7.holds Tryd.pinned (.plain (OpenSpec.upto familyRejectsOneRightSpec)) familyRejectsOneRightUptoCard

/-- THE SECOND FORM's CARD OF 'pensionlaw24.FamilyOrderIsAPriority'. -/
def familyOrderIsAPriorityUptoCard : Claim7 := { stood := { row := familyOrderIsAPriorityUptoRow, standIns := [], harness := (true, "d8b826b0c5b7e2802fec9768d24205a7214562477fd09e4a7a9af75ecffa4acf"), looks := false }, kinds := [], alts := [], laidByText := true, laidKinds := [.data], laidTests := true, laidLooks := .later }
def FamilyOrderIsAPriorityUptoCardSaid : Prop := Claim7.holds Tryd.pinned (.plain (OpenSpec.upto familyOrderIsAPrioritySpec)) familyOrderIsAPriorityUptoCard

/-- THE SECOND FORM's CARD OF 'pensionlaw24.FamilyPaymentsAgree'. -/
def familyPaymentsAgreeUptoCard : Claim7 := { stood := { row := familyPaymentsAgreeUptoRow, standIns := [], harness := (true, "d8b826b0c5b7e2802fec9768d24205a7214562477fd09e4a7a9af75ecffa4acf"), looks := false }, kinds := [], alts := [], laidByText := true, laidKinds := [.data], laidTests := true, laidLooks := .later }
def FamilyPaymentsAgreeUptoCardSaid : Prop := Claim7.holds Tryd.pinned (.plain (OpenSpec.upto familyPaymentsAgreeSpec)) familyPaymentsAgreeUptoCard

/-- THE SECOND FORM's CARD OF 'pensionlaw24.FamilyPaysTheGreatest'. -/
def familyPaysTheGreatestUptoCard : Claim7 := { stood := { row := familyPaysTheGreatestUptoRow, standIns := [], harness := (true, "d8b826b0c5b7e2802fec9768d24205a7214562477fd09e4a7a9af75ecffa4acf"), looks := false }, kinds := [], alts := [], laidByText := true, laidKinds := [.data], laidTests := true, laidLooks := .later }
def FamilyPaysTheGreatestUptoCardSaid : Prop := Claim7.holds Tryd.pinned (.plain (OpenSpec.upto familyPaysTheGreatestSpec)) familyPaysTheGreatestUptoCard

/-- THE SECOND FORM's CARD OF 'pensionlaw24.FamilyPrimaryPaysInFull'. -/
def familyPrimaryPaysInFullUptoCard : Claim7 := { stood := { row := familyPrimaryPaysInFullUptoRow, standIns := [], harness := (true, "d8b826b0c5b7e2802fec9768d24205a7214562477fd09e4a7a9af75ecffa4acf"), looks := false }, kinds := [], alts := [], laidByText := true, laidKinds := [.data], laidTests := true, laidLooks := .later }
def FamilyPrimaryPaysInFullUptoCardSaid : Prop := Claim7.holds Tryd.pinned (.plain (OpenSpec.upto familyPrimaryPaysInFullSpec)) familyPrimaryPaysInFullUptoCard

/-- THE SECOND FORM's CARD OF 'pensionlaw24.FamilyPaymentsIgnoreOrder'. -/
def familyPaymentsIgnoreOrderUptoCard : Claim7 := { stood := { row := familyPaymentsIgnoreOrderUptoRow, standIns := [], harness := (true, "d8b826b0c5b7e2802fec9768d24205a7214562477fd09e4a7a9af75ecffa4acf"), looks := false }, kinds := [], alts := [], laidByText := true, laidKinds := [.data], laidTests := true, laidLooks := .later }
def FamilyPaymentsIgnoreOrderUptoCardSaid : Prop := Claim7.holds Tryd.pinned (.plain (OpenSpec.upto familyPaymentsIgnoreOrderSpec)) familyPaymentsIgnoreOrderUptoCard
end Rows
end Go.Proofs.YtcgfjcpggbcloaaDoor
