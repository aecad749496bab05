/- Texts of the proof, joined. -/
import Derived.Test.YtnhmmgnpmjfjoaaGreatDoorP9
set_option linter.unusedVariables false
set_option linter.unusedSimpArgs false
set_option maxRecDepth 100000
namespace Go.PL
open Go Go.SX Go.Proofs
noncomputable section
def kT2 : List (Kn Tryz.prog VV) := K135 :: K136 :: kT
theorem g0j : SX.Spec Tryz.prog 14 f4s := e2u (U := VV) uok mixed (c7i uok mixed (d4x inA) kyA (okl (e8a kT2)) 60) kyA (fn := Tryz.f14) (an := .n) (by kernel_rfl) (z1 (fn := Tryz.f14) (by kernel_rfl) (by kernel_rfl) (by kernel_rfl)) (by kernel_rfl) (c := .z8) (x := true) (e := true) rfl (by kernel_rfl)
def K14 : Kn Tryz.prog VV := ⟨14, f4s, knS rfl ⟨g0j, fun _ _ => z1 (fn := Tryz.f14) (by kernel_rfl) (by kernel_rfl) (by kernel_rfl) _ _⟩⟩
def f2x : Sig VV := ⟨[.ls .z9, .v .z9], [.v .z8]⟩
def fe_3 : Fent VV := ⟨f2x, Bool, fun x => a4p x.1 x.2.1, fun b => ((b, ()), ()), none⟩
def un_3 : Ress VV f2x.rs × Outs VV f2x.ps -> Bool := fun p => p.1.1
def an_3 : Ann VV.C := .n
theorem ok_3 : SX.Spec Tryz.prog 3 fe_3 := a6f (fe := fe_3) uok (okl (e8a [K13, K14, K15, K16])) mixed (fn := Tryz.f3) (by kernel_rfl) un_3 an_3 (p6 (s := f2x) (by kernel_rfl)).1 (p6 (s := f2x) (by kernel_rfl)).2 (fun _ => rfl) fun x => by kernel_rfl
end
end Go.PL
