/- Texts of the proof, joined. -/
import Derived.Test.YtmhkcgdchdkjcaaGreatDoorP12
set_option linter.unusedVariables false
set_option linter.unusedSimpArgs false
set_option maxRecDepth 100000
namespace Go.Proofs.YtmhkcgdchdkjcaaGreatDoor.decisionEndsWithDeath
open Go
theorem cw : Rows.decisionEndsWithDeathRow.wfByText (OpenSpec.ofChange Rows.decisionEndsWithDeathSpec) = true := by kernel_rfl
theorem card : Rows.DecisionEndsWithDeathCardSaid :=
  Claim7.holds_tied_plain_at .later [] _ _ _ _ said (fun _ h => by cases h) cw (fun _ h => by cases h) decisionEndsWithDeath_row_tie rfl ⟨rfl, rfl⟩ (by kernel_rfl) rfl plain (f3w goF _)
end Go.Proofs.YtmhkcgdchdkjcaaGreatDoor.decisionEndsWithDeath
