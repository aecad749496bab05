/- Texts of the proof, joined. -/
import Derived.Test.YtkjnadkobjakoaaGreatRows
import Derived.Test.YtkjnadkobjakoaaGreatProg
import Derived.KernelRfl
import Derived.JoinedCond
set_option linter.unusedVariables false
set_option linter.unusedSimpArgs false
set_option maxRecDepth 100000
namespace Go.Proofs.YtkjnadkobjakoaaGreat.sicknessEachDayOnce
open Go
theorem named : Tryz.pinned.checked.prog.funcNamed Rows.sicknessEachDayOnceRow.func = some 3 := by kernel_rfl
theorem j2 : (laidOutB Tryz.pinned.checked.prog) = true := by kernel_rfl
theorem j3 : (mapsRowed Tryz.pinned.checked.prog) = true := by kernel_rfl
theorem j7 : (Tryz.pinned.checked.prog.stops == []) = true := by kernel_rfl
theorem j9 : (Tryz.pinned.checked.prog.stopKnobs == []) = true := by kernel_rfl
theorem j10 : (Rows.sicknessEachDayOnceRow.inPlace == Tryz.pinned.checked.prog.inPlace 3) = true := by kernel_rfl
theorem j11 : (Rows.sicknessEachDayOnceRow.unfollowed == Tryz.pinned.checked.prog.unfollowed 3) = true := by kernel_rfl
theorem j12 : (Rows.sicknessEachDayOnceRow.recurses == Tryz.pinned.checked.prog.recurses 3) = true := by kernel_rfl
theorem j13 : (Rows.sicknessEachDayOnceRow.named == Tryz.pinned.checked.prog.varsNamed 3) = true := by kernel_rfl
theorem j23 : (Rows.sicknessEachDayOnceRow.plainKeys == Tryz.pinned.checked.prog.plainKeys) = true := by kernel_rfl
theorem j25 : (Tryz.pinned.checked.prog.stopsHeard) = true := by kernel_rfl
theorem f5f : joinedFacts Tryz.pinned.checked.prog 3 Tryz.f3 (OpenSpec.ofChange Rows.sicknessEachDayOnceSpec).bare Rows.sicknessEachDayOnceRow = true := by
  unfold joinedFacts
  simp only [Bool.and_eq_true]
  and_intros
  . kernel_rfl
  . exact j2
  . exact j3
  . kernel_rfl
  . kernel_rfl
  . kernel_rfl
  . exact j7
  . kernel_rfl
  . exact j9
  . exact j10
  . exact j11
  . exact j12
  . exact j13
  . kernel_rfl
  . kernel_rfl
  . kernel_rfl
  . kernel_rfl
  . kernel_rfl
  . kernel_rfl
  . kernel_rfl
  . kernel_rfl
  . kernel_rfl
  . exact j23
  . kernel_rfl
  . exact j25
  . kernel_rfl
  . kernel_rfl
  . kernel_rfl
  . kernel_rfl
  . kernel_rfl
  . kernel_rfl
  . kernel_rfl
theorem inst : Tryz.f3.isInstance Tryz.pinned.checked.prog Rows.sicknessEachDayOnceRow.origin Rows.sicknessEachDayOnceRow.targs := of_decide_eq_true (by kernel_rfl)
theorem wrap : Tryz.f3.isWrapper Tryz.pinned.checked.prog Rows.sicknessEachDayOnceRow.wrapper Rows.sicknessEachDayOnceRow.mainSum := by unfold Func.isWrapper; first | (rw [if_pos (by decide +kernel)]; kernel_rfl) | (rw [if_neg (by decide +kernel)]; exact ⟨rfl, rfl⟩)
end Go.Proofs.YtkjnadkobjakoaaGreat.sicknessEachDayOnce
