/- Texts of the proof, joined. -/
import Derived.Test.YtaadmpfcifegdaaGreatDoorRows
import Derived.Test.YtaadmpfcifegdaaGreatDoorProg
import Derived.KernelRfl
import Derived.JoinedCond
import Derived.SevenTiedAt
set_option linter.unusedVariables false
set_option linter.unusedSimpArgs false
set_option maxRecDepth 100000
namespace Go.Proofs.YtaadmpfcifegdaaGreatDoor.hindsightRejects
open Go
theorem pl2 : false = Tryz.pinned.checked.prog.looks [] := by kernel_rfl
end Go.Proofs.YtaadmpfcifegdaaGreatDoor.hindsightRejects
