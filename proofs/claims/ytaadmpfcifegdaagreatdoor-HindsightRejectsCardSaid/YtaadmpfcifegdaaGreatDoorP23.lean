/- Texts of the proof, joined. -/
import Derived.Test.YtaadmpfcifegdaaGreatDoorP22
set_option linter.unusedVariables false
set_option linter.unusedSimpArgs false
set_option maxRecDepth 100000
namespace Go.Proofs.YtaadmpfcifegdaaGreatDoor.hindsightRejects
open Go
theorem cw : Rows.hindsightRejectsRow.wfByText (OpenSpec.ofChange Rows.hindsightRejectsSpec) = true := by kernel_rfl
theorem card : Rows.HindsightRejectsCardSaid :=
  Claim7.holds_tied_plain_at .later [] _ _ _ _ said (fun _ h => by cases h) cw (fun _ h => by cases h) hindsightRejects_row_tie rfl ⟨rfl, rfl⟩ (by kernel_rfl) rfl plain (f7e goF _)
end Go.Proofs.YtaadmpfcifegdaaGreatDoor.hindsightRejects
