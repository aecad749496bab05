/- Closed facts of the row of SicknessWithoutDays: checked by the kernel. -/
import Derived.Test.YtclgfiaghflimaaGreatDoorRows
import Derived.Test.YtclgfiaghflimaaGreatDoorProg
import Derived.KernelRfl
import Derived.JoinedCond
set_option linter.unusedVariables false
set_option linter.unusedSimpArgs false
set_option maxRecDepth 100000
namespace Go.Proofs.YtclgfiaghflimaaGreatDoor.sicknessWithoutDays
open Go
theorem named : Tryz.pinned.checked.prog.funcNamed Rows.sicknessWithoutDaysRow.func = some 3 := by kernel_rfl
theorem j2 : (laidOutB Tryz.pinned.checked.prog) = true := by kernel_rfl
theorem j3 : (mapsRowed Tryz.pinned.checked.prog) = true := by kernel_rfl
theorem j7 : (Tryz.pinned.checked.prog.stops == []) = true := by kernel_rfl
theorem j9 : (Tryz.pinned.checked.prog.stopKnobs == []) = true := by kernel_rfl
theorem j23 : (Rows.sicknessWithoutDaysRow.plainKeys == Tryz.pinned.checked.prog.plainKeys) = true := by kernel_rfl
theorem j25 : (Tryz.pinned.checked.prog.stopsHeard) = true := by kernel_rfl
end Go.Proofs.YtclgfiaghflimaaGreatDoor.sicknessWithoutDays
