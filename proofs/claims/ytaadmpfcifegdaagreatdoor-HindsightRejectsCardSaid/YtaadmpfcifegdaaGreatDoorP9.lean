/- Texts of the proof, joined. -/
import Derived.Test.YtaadmpfcifegdaaGreatDoorP8
import Derived.Test.YtaadmpfcifegdaaGreatDoorRows
import Derived.Test.YtaadmpfcifegdaaGreatDoorProg
import Derived.KernelRfl
import Derived.JoinedCond
set_option linter.unusedVariables false
set_option linter.unusedSimpArgs false
set_option maxRecDepth 100000
namespace Go.Proofs.YtaadmpfcifegdaaGreatDoor.hindsightRejects
open Go
theorem pe : Tryz.pinned.checked.prog = Tryz.prog := rfl
theorem named : Tryz.pinned.checked.prog.funcNamed Rows.hindsightRejectsRow.func = some 3 := by kernel_rfl
theorem j7 : (Tryz.pinned.checked.prog.stops == []) = true := by kernel_rfl
theorem j9 : (Tryz.pinned.checked.prog.stopKnobs == []) = true := by kernel_rfl
theorem j10 : (Rows.hindsightRejectsRow.inPlace == Tryz.pinned.checked.prog.inPlace 3) = true := by rw [pe, Go.PL.inPlace3]; kernel_rfl
theorem j11 : (Rows.hindsightRejectsRow.unfollowed == Tryz.pinned.checked.prog.unfollowed 3) = true := by rw [pe, Go.PL.unfollowed3]; rfl
theorem j12 : (Rows.hindsightRejectsRow.recurses == Tryz.pinned.checked.prog.recurses 3) = true := by rw [pe, Go.PL.recurses3]; rfl
theorem j13 : (Rows.hindsightRejectsRow.named == Tryz.pinned.checked.prog.varsNamed 3) = true := by rw [pe, Go.PL.varsNamed3]; kernel_rfl
end Go.Proofs.YtaadmpfcifegdaaGreatDoor.hindsightRejects
