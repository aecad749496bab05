/- One of the closed facts of the tie: checked by the kernel. -/
import Derived.Test.YtaadmpfcifegdaaGreatDoorRows
import Derived.LaidByTextLater
import Derived.SevenTiedAt
import Derived.KernelRfl
namespace Go.Proofs.YtaadmpfcifegdaaGreatDoor
open Go
set_option maxRecDepth 100000
theorem k1 : Tryz.prog.worded (varsWordLater true) = true := by kernel_rfl
theorem k2 : Tryz.prog.worded (varsWordLater !true) = false := by kernel_rfl
theorem k3 : Tryz.prog.worded rootWordLater = true := by kernel_rfl
end Go.Proofs.YtaadmpfcifegdaaGreatDoor
