/- Texts of the proof, joined. -/
import Derived.Test.YtnhmmgnpmjfjoaaGreatDoorP7
set_option linter.unusedVariables false
set_option linter.unusedSimpArgs false
set_option maxRecDepth 100000
namespace Go.PL
open Go Go.SX Go.Proofs
deriving instance DecidableEq for Span
deriving instance DecidableEq for api_Fact
deriving instance DecidableEq for Rules
deriving instance DecidableEq for Period
noncomputable section
def e39 : List api_Fact := [⟨0, 1, 1, false, 1, 1, 0, ⟨30000, 30010⟩, 0, 100, 1, 500, 0⟩]
def d9d : List Rules := [⟨0, 0, 0, 0, [0]⟩]
def segV : List Segment := [⟨⟨30000, 30010⟩, 0, 3⟩]
def f9v : List Period := [⟨0, 1, ⟨30000, 30010⟩⟩]
def cntV : List Counted := [⟨⟨30000, 30010⟩, 0, 1⟩]
def f7l (a : List api_Fact) (b : List Rules) : Bool := decide (a = e39) && decide (b = d9d)
theorem f0c {a : List api_Fact} {b : List Rules} (h : f7l a b = true) : a = e39 /\ b = d9d := by
  unfold f7l at h
  rw [Bool.and_eq_true] at h
  exact ⟨of_decide_eq_true h.1, of_decide_eq_true h.2⟩
def K135 : Kn Tryz.prog VV := ⟨135, ⟨⟨[.ls .y8, .ls .zw], [.ow 320 .zy]⟩, List Segment, fun x => if f7l x.1 x.2.1 = true then some segV else none, w1, none⟩,
  knS rfl ⟨c54 (U := VV) (s := ⟨[.ls .y8, .ls .zw], [.ow 320 .zy]⟩) uok mixed (c7i uok mixed (d4x inA) kyA (okl (e8a kT)) 60) kyA u1 (fn := Tryz.f135) (an := .n) (by kernel_rfl) (by kernel_rfl) (e39, d9d, ()) segV (fun x => f7l x.1 x.2.1) (fun ⟨a, b, ()⟩ h => by
    obtain ⟨h1, h2⟩ := f0c h
    subst h1 h2
    rfl) (fun _ => rfl) (by kernel_rfl), z1 (fn := Tryz.f135) (by kernel_rfl) (by kernel_rfl) (by kernel_rfl)⟩⟩
end
end Go.PL
