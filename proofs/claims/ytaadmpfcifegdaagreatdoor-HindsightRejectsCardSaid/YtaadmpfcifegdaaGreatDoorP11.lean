/- Texts of the proof, joined. -/
import Derived.Test.YtaadmpfcifegdaaGreatDoorRows
import Derived.Test.YtaadmpfcifegdaaGreatDoorProg
import Derived.KernelRfl
import Derived.JoinedCond
set_option linter.unusedVariables false
set_option linter.unusedSimpArgs false
set_option maxRecDepth 100000
namespace Go.Proofs.YtaadmpfcifegdaaGreatDoor.hindsightRejects
open Go
theorem j2_2 : (List.range' 183 183).all (rowFine Tryz.pinned.checked.prog) = true := by kernel_rfl
end Go.Proofs.YtaadmpfcifegdaaGreatDoor.hindsightRejects
