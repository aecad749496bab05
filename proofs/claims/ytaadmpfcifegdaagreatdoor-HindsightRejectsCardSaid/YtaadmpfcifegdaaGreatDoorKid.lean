/- One of the closed facts of the tie: checked by the kernel. -/
import Derived.Test.YtaadmpfcifegdaaGreatDoorRows
import Derived.LaidByTextLater
import Derived.SevenTiedAt
import Derived.KernelRfl
namespace Go.Proofs.YtaadmpfcifegdaaGreatDoor
open Go
set_option maxRecDepth 100000
theorem k7 : ∀ os tape, varsDone Tryz.prog 400 (varsId Tryz.prog) os tape = true := fun _ _ => by kernel_rfl
end Go.Proofs.YtaadmpfcifegdaaGreatDoor
