/- The tie of the rows to the text of the program: its closed facts stand in the texts before. -/
import Derived.Test.YtaadmpfcifegdaaGreatDoorKia
import Derived.Test.YtaadmpfcifegdaaGreatDoorKib
import Derived.Test.YtaadmpfcifegdaaGreatDoorKic
import Derived.Test.YtaadmpfcifegdaaGreatDoorKid
import Derived.Test.YtaadmpfcifegdaaGreatDoorKie
import Derived.Test.YtaadmpfcifegdaaGreatDoorKif
import Derived.Test.YtaadmpfcifegdaaGreatDoorKig
import Derived.Test.YtaadmpfcifegdaaGreatDoorRows
import Derived.LaidByTextLater
import Derived.SevenTiedAt
import Derived.KernelRfl
namespace Go.Proofs.YtaadmpfcifegdaaGreatDoor
open Go
set_option maxRecDepth 100000
theorem tie : Tryz.prog.laidByTextLater [("internal/strconv.uint64pow10", Rows.laid_internal_strconv_uint64pow10), ("math/bits.deBruijn32tab", Rows.laid_math_bits_deBruijn32tab), ("math/bits.deBruijn64tab", Rows.laid_math_bits_deBruijn64tab), ("pension/reduction.down", Rows.laid_pension_reduction_down), ("pension/family.down", Rows.laid_pension_family_down)] [.data, .data, .data, .data, .data] true :=
  Program.laidByTextLater_by_run 400 8 k1 k2 k3 k4 k5 k6 k7 k8 k9
theorem hindsightRejects_row_tie : Rows.hindsightRejectsRow.laidByTextAt .later Tryz.pinned [.data, .data, .data, .data, .data] true :=
  OpenClaim.laidByTextAt_later rfl rfl tie noOwnUnsafe
theorem hindsightRejectsUpto_row_tie : Rows.hindsightRejectsUptoRow.laidByTextAt .later Tryz.pinned [.data, .data, .data, .data, .data] true :=
  OpenClaim.laidByTextAt_later rfl rfl tie noOwnUnsafe
end Go.Proofs.YtaadmpfcifegdaaGreatDoor
