/- Texts of the proof, joined. -/
import Derived.Test.YtlgbkcdjlicghaaGreatDoorP13
set_option linter.unusedVariables false
set_option linter.unusedSimpArgs false
set_option maxRecDepth 100000
namespace Go.Proofs.YtlgbkcdjlicghaaGreatDoor.decisionMakeRejects
open Go
theorem cw : Rows.decisionMakeRejectsRow.wfByText (OpenSpec.ofChange Rows.decisionMakeRejectsSpec) = true := by kernel_rfl
theorem card : Rows.DecisionMakeRejectsCardSaid :=
  Claim7.holds_tied_plain_at .later [] _ _ _ _ said (fun _ h => by cases h) cw (fun _ h => by cases h) decisionMakeRejects_row_tie rfl ⟨rfl, rfl⟩ (by kernel_rfl) rfl plain (e8f goF _)
end Go.Proofs.YtlgbkcdjlicghaaGreatDoor.decisionMakeRejects
