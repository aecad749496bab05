/- Texts of the proof, joined. -/
import Derived.Test.YtmhkcgdchdkjcaaGreatDoorP9
import Derived.Test.YtmhkcgdchdkjcaaGreatDoorP7
import Derived.Test.YtmhkcgdchdkjcaaGreatDoorRows
import Derived.Test.YtmhkcgdchdkjcaaGreatDoorProg
import Derived.KernelRfl
import Derived.JoinedCond
set_option linter.unusedVariables false
set_option linter.unusedSimpArgs false
set_option maxRecDepth 100000
namespace Go.Proofs.YtmhkcgdchdkjcaaGreatDoor.decisionEndsWithDeath
open Go
theorem g00 : joinedFacts Tryz.pinned.checked.prog 3 Tryz.f3 (OpenSpec.ofChange Rows.decisionEndsWithDeathSpec).bare Rows.decisionEndsWithDeathRow = true := by
  unfold joinedFacts
  simp only [Bool.and_eq_true]
  and_intros
  . kernel_rfl
  . exact j2
  . exact j3
  . kernel_rfl
  . kernel_rfl
  . kernel_rfl
  . exact j7
  . kernel_rfl
  . exact j9
  . exact j10
  . exact j11
  . exact j12
  . exact j13
  . kernel_rfl
  . kernel_rfl
  . kernel_rfl
  . kernel_rfl
  . kernel_rfl
  . kernel_rfl
  . kernel_rfl
  . kernel_rfl
  . kernel_rfl
  . exact j23
  . kernel_rfl
  . exact j25
  . kernel_rfl
  . kernel_rfl
  . kernel_rfl
  . kernel_rfl
  . kernel_rfl
  . kernel_rfl
  . kernel_rfl
theorem inst : Tryz.f3.isInstance Tryz.pinned.checked.prog Rows.decisionEndsWithDeathRow.origin Rows.decisionEndsWithDeathRow.targs := of_decide_eq_true (by kernel_rfl)
theorem wrap : Tryz.f3.isWrapper Tryz.pinned.checked.prog Rows.decisionEndsWithDeathRow.wrapper Rows.decisionEndsWithDeathRow.mainSum := by unfold Func.isWrapper; first | (rw [if_pos (by decide +kernel)]; kernel_rfl) | (rw [if_neg (by decide +kernel)]; exact ⟨rfl, rfl⟩)
end Go.Proofs.YtmhkcgdchdkjcaaGreatDoor.decisionEndsWithDeath
