/- Texts of the proof, joined. -/
import Derived.Test.YtaadmpfcifegdaaGreatDoorP9
import Derived.Test.YtaadmpfcifegdaaGreatDoorP15
import Derived.Test.YtaadmpfcifegdaaGreatDoorP16
import Derived.Test.YtaadmpfcifegdaaGreatDoorP17
import Derived.Test.YtaadmpfcifegdaaGreatDoorRows
import Derived.Test.YtaadmpfcifegdaaGreatDoorProg
import Derived.KernelRfl
import Derived.JoinedCond
set_option linter.unusedVariables false
set_option linter.unusedSimpArgs false
set_option maxRecDepth 100000
namespace Go.Proofs.YtaadmpfcifegdaaGreatDoor.hindsightRejects
open Go
theorem g0l : joinedFacts Tryz.pinned.checked.prog 3 Tryz.f3 (OpenSpec.ofChange Rows.hindsightRejectsSpec).bare Rows.hindsightRejectsRow = true := by
  unfold joinedFacts
  simp only [Bool.and_eq_true]
  and_intros
  . kernel_rfl
  . exact j2
  . exact j3
  . kernel_rfl
  . kernel_rfl
  . kernel_rfl
  . exact j7
  . kernel_rfl
  . exact j9
  . exact j10
  . exact j11
  . exact j12
  . exact j13
  . kernel_rfl
  . kernel_rfl
  . kernel_rfl
  . kernel_rfl
  . kernel_rfl
  . kernel_rfl
  . kernel_rfl
  . kernel_rfl
  . kernel_rfl
  . exact j23
  . kernel_rfl
  . exact j25
  . kernel_rfl
  . kernel_rfl
  . kernel_rfl
  . kernel_rfl
  . kernel_rfl
  . kernel_rfl
  . kernel_rfl
theorem inst : Tryz.f3.isInstance Tryz.pinned.checked.prog Rows.hindsightRejectsRow.origin Rows.hindsightRejectsRow.targs := of_decide_eq_true (by kernel_rfl)
theorem wrap : Tryz.f3.isWrapper Tryz.pinned.checked.prog Rows.hindsightRejectsRow.wrapper Rows.hindsightRejectsRow.mainSum := by unfold Func.isWrapper; first | (rw [if_pos (by decide +kernel)]; kernel_rfl) | (rw [if_neg (by decide +kernel)]; exact ⟨rfl, rfl⟩)
end Go.Proofs.YtaadmpfcifegdaaGreatDoor.hindsightRejects
