/- Closed facts of the row of SicknessWithoutDays: checked by the kernel. -/
import Derived.Test.YtclgfiaghflimaaGreatDoorRows
import Derived.Test.YtclgfiaghflimaaGreatDoorProg
import Derived.KernelRfl
import Derived.JoinedCond
set_option linter.unusedVariables false
set_option linter.unusedSimpArgs false
set_option maxRecDepth 100000
namespace Go.Proofs.YtclgfiaghflimaaGreatDoor.sicknessWithoutDays
open Go
theorem j10 : (Rows.sicknessWithoutDaysRow.inPlace == Tryz.pinned.checked.prog.inPlace 3) = true := by kernel_rfl
theorem j11 : (Rows.sicknessWithoutDaysRow.unfollowed == Tryz.pinned.checked.prog.unfollowed 3) = true := by kernel_rfl
end Go.Proofs.YtclgfiaghflimaaGreatDoor.sicknessWithoutDays
