/- Texts that the proof stands on: laws of the program logic, the Lean functions of the Go functions, and that the Go functions compute them. -/
import Derived.Test.YtmadnldadkcibaaGreatP7
import Derived.Test.YtmadnldadkcibaaGreatRows
import Derived.Test.YtmadnldadkcibaaGreatProg
import Derived.KernelRfl
import Derived.JoinedCond
set_option linter.unusedVariables false
set_option linter.unusedSimpArgs false
set_option maxRecDepth 100000
namespace Go.Proofs.YtmadnldadkcibaaGreat.decisionEntitledAgrees
open Go
theorem ah3 : Tryz.pinned.checked.prog.funcNamed Rows.decisionEntitledAgreesRow.func = some 3 := by kernel_rfl
theorem afi : joinedFacts Tryz.pinned.checked.prog 3 Tryz.f3 (OpenSpec.ofChange Rows.decisionEntitledAgreesSpec).bare Rows.decisionEntitledAgreesRow = true := by kernel_rfl
theorem inst : Tryz.f3.isInstance Tryz.pinned.checked.prog Rows.decisionEntitledAgreesRow.origin Rows.decisionEntitledAgreesRow.targs := of_decide_eq_true (by kernel_rfl)
theorem wrap : Tryz.f3.isWrapper Tryz.pinned.checked.prog Rows.decisionEntitledAgreesRow.wrapper Rows.decisionEntitledAgreesRow.mainSum := by unfold Func.isWrapper; first | (rw [if_pos (by decide +kernel)]; kernel_rfl) | (rw [if_neg (by decide +kernel)]; exact ⟨rfl, rfl⟩)
end Go.Proofs.YtmadnldadkcibaaGreat.decisionEntitledAgrees
