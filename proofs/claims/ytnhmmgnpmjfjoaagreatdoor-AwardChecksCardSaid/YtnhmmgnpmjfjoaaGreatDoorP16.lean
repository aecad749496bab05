/- Texts of the proof, joined. -/
import Derived.Test.YtnhmmgnpmjfjoaaGreatDoorP15
set_option linter.unusedVariables false
set_option linter.unusedSimpArgs false
set_option maxRecDepth 100000
namespace Go.Proofs.YtnhmmgnpmjfjoaaGreatDoor.awardChecks
open Go
theorem cw : Rows.awardChecksRow.wfByText (OpenSpec.ofChange Rows.awardChecksSpec) = true := by kernel_rfl
theorem card : Rows.AwardChecksCardSaid :=
  Claim7.holds_tied_plain_at .later [] _ _ _ _ said (fun _ h => by cases h) cw (fun _ h => by cases h) awardChecks_row_tie rfl ⟨rfl, rfl⟩ (by kernel_rfl) rfl plain (f0e goF _)
end Go.Proofs.YtnhmmgnpmjfjoaaGreatDoor.awardChecks
