/- Texts of the proof, joined. -/
import Derived.Test.YtaadmpfcifegdaaGreatDoorRows
import Derived.Test.YtaadmpfcifegdaaGreatDoorProg
import Derived.KernelRfl
import Derived.JoinedCond
set_option linter.unusedVariables false
set_option linter.unusedSimpArgs false
set_option maxRecDepth 100000
namespace Go.Proofs.YtaadmpfcifegdaaGreatDoor.hindsightRejects
open Go
theorem j23 : (Rows.hindsightRejectsRow.plainKeys == Tryz.pinned.checked.prog.plainKeys) = true := by kernel_rfl
theorem j25 : (Tryz.pinned.checked.prog.stopsHeard) = true := by kernel_rfl
end Go.Proofs.YtaadmpfcifegdaaGreatDoor.hindsightRejects
