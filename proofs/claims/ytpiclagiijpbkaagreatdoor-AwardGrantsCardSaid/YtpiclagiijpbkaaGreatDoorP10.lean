/- Texts of the proof, joined. -/
import Derived.Test.YtpiclagiijpbkaaGreatDoorP9
set_option linter.defProp false
set_option linter.unusedVariables false
set_option linter.unusedSimpArgs false
set_option maxRecDepth 100000
open List
namespace Go.PL
open Go Go.SX Go.Proofs
deriving instance DecidableEq for Span
deriving instance DecidableEq for aQ
deriving instance DecidableEq for Rules
deriving instance DecidableEq for Period
noncomputable section
def i2w:List aQ:=[⟨0,1,1,false,1,1,0,⟨30000,30010⟩,0,100,1,500,0⟩]
def i2z:List Rules:=[⟨0,0,0,0,[0]⟩]
def segV:List gQ:=[⟨⟨30000,30010⟩,0,3⟩]
def m0b:List Period:=[⟨0,1,⟨30000,30010⟩⟩]
def cntV:List nQ:=[⟨⟨30000,30010⟩,0,1⟩]
def m00 (a:List aQ)(b:List Rules):Bool:=decide (a=i2w)&&decide (b=i2z)
def l75 {a:List aQ}{b:List Rules}(h:m00 a b=true):a=i2w /\ b=i2z:=by
 unfold m00 at h
 rw [qB] at h
 exact ⟨of_decide_eq_true h.1,of_decide_eq_true h.2⟩
def K218:Kn Tryz.prog VV:=⟨218,⟨⟨[.ls .y9,.ls .zx],[.ow 373 .zz]⟩,List gQ,fun x=>if m00 x.1 x.2.1=true then some segV else none,w1,none⟩,
 knS rfl ⟨i09 (U:=VV) (s:=⟨[.ls .y9,.ls .zx],[.ow 373 .zz]⟩) uok mixed (i0h uok mixed (i1y inA) kyA (okl (f8d kT)) 60) kyA u1 (fn:=Tryz.f218) (an:= .n) (by kernel_rfl) (by kernel_rfl) (i2w,i2z,()) segV (fun x=>m00 x.1 x.2.1) (fun ⟨a,b,()⟩ h=>by
  obtain ⟨h1,h2⟩:=l75 h
  subst h1 h2
  rfl) (fun _=>rfl) (by kernel_rfl),a14 (fn:=Tryz.f218) (by kernel_rfl) (by kernel_rfl) (by kernel_rfl)⟩⟩
end
end Go.PL
