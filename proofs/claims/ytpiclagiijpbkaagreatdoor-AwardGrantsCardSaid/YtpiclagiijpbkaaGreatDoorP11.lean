/- Texts of the proof, joined. -/
import Derived.Test.YtpiclagiijpbkaaGreatDoorP10
set_option linter.defProp false
set_option linter.unusedVariables false
set_option linter.unusedSimpArgs false
set_option maxRecDepth 100000
open List
namespace Go.PL
open Go Go.SX Go.Proofs
noncomputable section
def m0j (a:List Period):Bool:=decide (a=m0b)
def l6n {a:List Period}(h:m0j a=true):a=m0b:=of_decide_eq_true h
def K219:Kn Tryz.prog VV:=⟨219,⟨⟨[.ls .zq],[.ow 311 .zh]⟩,List nQ,fun x=>if m0j x.1=true then some cntV else none,w1,none⟩,
 knS rfl ⟨i09 (U:=VV) (s:=⟨[.ls .zq],[.ow 311 .zh]⟩) uok mixed (i0h uok mixed (i1y inA) kyA (okl (f8d kT)) 60) kyA u1 (fn:=Tryz.f219) (an:=(.s .n (.s .n (.s .n (.s .n (.s (.g [6000]) (.s .n (.s .n (.s (.g [6000]) .n))))))))) (by kernel_rfl) (by kernel_rfl) (m0b,()) cntV (fun x=>m0j x.1) (fun ⟨a,()⟩ h=>by
  have h1:=l6n h
  subst h1
  rfl) (fun _=>rfl) (by kernel_rfl),a14 (fn:=Tryz.f219) (by kernel_rfl) (by kernel_rfl) (by kernel_rfl)⟩⟩
end
end Go.PL
