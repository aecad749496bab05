/- Texts of the proof, joined. -/
import Derived.Test.YtaadmpfcifegdaaGreatDoorRows
import Derived.Test.YtaadmpfcifegdaaGreatDoorProg
import Derived.KernelRfl
import Derived.JoinedCond
set_option linter.unusedVariables false
set_option linter.unusedSimpArgs false
set_option maxRecDepth 100000
namespace Go.Proofs.YtaadmpfcifegdaaGreatDoor.hindsightRejects
open Go
theorem j2_g : Tryz.pinned.checked.prog.globals.all (fun g => decide (g.type < Tryz.pinned.checked.prog.types.size)) = true := by kernel_rfl
theorem j2_f : Tryz.pinned.checked.prog.funcs.all (fun f => f.params.all fun t => decide (t < Tryz.pinned.checked.prog.types.size)) = true := by kernel_rfl
theorem j2_n : Tryz.pinned.checked.prog.types.size = 732 := by kernel_rfl
end Go.Proofs.YtaadmpfcifegdaaGreatDoor.hindsightRejects
