/- The statement SicknessWithoutDays holds as a card: its row, for every argument whatever, and its tie. -/
import Derived.Test.YtclgfiaghflimaaGreatDoorP9
set_option linter.unusedVariables false
set_option maxRecDepth 100000
namespace Go.Proofs.YtclgfiaghflimaaGreatDoor.sicknessWithoutDays
open Go
theorem cw : Rows.sicknessWithoutDaysRow.wfByText (OpenSpec.ofChange Rows.sicknessWithoutDaysSpec) = true := by kernel_rfl
theorem card : Rows.SicknessWithoutDaysCardSaid :=
  Claim7.holds_tied_plain_at .later [] _ _ _ _ said (fun _ h => by cases h) cw (fun _ h => by cases h) sicknessWithoutDays_row_tie rfl ⟨rfl, rfl⟩ (by kernel_rfl) rfl plain (goes_by goF _)
end Go.Proofs.YtclgfiaghflimaaGreatDoor.sicknessWithoutDays
