/- Texts of the proof, joined. -/
import Derived.Test.YtnhmmgnpmjfjoaaGreatDoorP8
set_option linter.unusedVariables false
set_option linter.unusedSimpArgs false
set_option maxRecDepth 100000
namespace Go.PL
open Go Go.SX Go.Proofs
noncomputable section
def f9p (a : List Period) : Bool := decide (a = f9v)
theorem f09 {a : List Period} (h : f9p a = true) : a = f9v := of_decide_eq_true h
def K136 : Kn Tryz.prog VV := ⟨136, ⟨⟨[.ls .zp], [.ow 152 .zg]⟩, List Counted, fun x => if f9p x.1 = true then some cntV else none, w1, none⟩,
  knS rfl ⟨c54 (U := VV) (s := ⟨[.ls .zp], [.ow 152 .zg]⟩) uok mixed (c7i uok mixed (d4x inA) kyA (okl (e8a kT)) 60) kyA u1 (fn := Tryz.f136) (an := (.s .n (.s .n (.s .n (.s .n (.s (.g [6000]) (.s .n (.s .n (.s (.g [6000]) .n))))))))) (by kernel_rfl) (by kernel_rfl) (f9v, ()) cntV (fun x => f9p x.1) (fun ⟨a, ()⟩ h => by
    have h1 := f09 h
    subst h1
    rfl) (fun _ => rfl) (by kernel_rfl), z1 (fn := Tryz.f136) (by kernel_rfl) (by kernel_rfl) (by kernel_rfl)⟩⟩
end
end Go.PL
