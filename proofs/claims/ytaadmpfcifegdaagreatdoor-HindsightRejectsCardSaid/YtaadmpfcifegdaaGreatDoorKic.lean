/- One of the closed facts of the tie: checked by the kernel. -/
import Derived.Test.YtaadmpfcifegdaaGreatDoorRows
import Derived.LaidByTextLater
import Derived.SevenTiedAt
import Derived.KernelRfl
namespace Go.Proofs.YtaadmpfcifegdaaGreatDoor
open Go
set_option maxRecDepth 100000
theorem k6 : varsNamedLaterB Tryz.prog (varsId Tryz.prog) ([("internal/strconv.uint64pow10", Rows.laid_internal_strconv_uint64pow10), ("math/bits.deBruijn32tab", Rows.laid_math_bits_deBruijn32tab), ("math/bits.deBruijn64tab", Rows.laid_math_bits_deBruijn64tab), ("pension/reduction.down", Rows.laid_pension_reduction_down), ("pension/family.down", Rows.laid_pension_family_down)] : List (String × DataW Unit)) = true := by kernel_rfl
end Go.Proofs.YtaadmpfcifegdaaGreatDoor
