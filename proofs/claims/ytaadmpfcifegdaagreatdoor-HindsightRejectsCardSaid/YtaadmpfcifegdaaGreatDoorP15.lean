/- Texts of the proof, joined. -/
import Derived.Test.YtaadmpfcifegdaaGreatDoorP10
import Derived.Test.YtaadmpfcifegdaaGreatDoorP11
import Derived.Test.YtaadmpfcifegdaaGreatDoorP12
import Derived.Test.YtaadmpfcifegdaaGreatDoorP13
import Derived.Test.YtaadmpfcifegdaaGreatDoorP14
import Derived.Test.YtaadmpfcifegdaaGreatDoorRows
import Derived.Test.YtaadmpfcifegdaaGreatDoorProg
import Derived.KernelRfl
import Derived.JoinedCond
set_option linter.unusedVariables false
set_option linter.unusedSimpArgs false
set_option maxRecDepth 100000
namespace Go.Proofs.YtaadmpfcifegdaaGreatDoor.hindsightRejects
open Go
theorem j2 : (laidOutB Tryz.pinned.checked.prog) = true := by
  unfold laidOutB
  rw [Bool.and_eq_true, Bool.and_eq_true]
  refine ⟨⟨?_, j2_g⟩, j2_f⟩
  rw [j2_n, List.range_eq_range', show List.range' 0 732 = List.range' 0 183 ++ List.range' 183 183 ++ List.range' 366 183 ++ List.range' 549 183 from by kernel_rfl]
  simp only [List.all_append, Bool.and_eq_true]
  exact ⟨⟨⟨j2_1, j2_2⟩, j2_3⟩, j2_4⟩
end Go.Proofs.YtaadmpfcifegdaaGreatDoor.hindsightRejects
