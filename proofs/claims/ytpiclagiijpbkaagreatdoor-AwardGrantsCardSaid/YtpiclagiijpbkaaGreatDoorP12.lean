/- Texts of the proof, joined. -/
import Derived.Test.YtpiclagiijpbkaaGreatDoorP11
set_option linter.defProp false
set_option linter.unusedVariables false
set_option linter.unusedSimpArgs false
set_option maxRecDepth 100000
open List
namespace Go.PL
open Go Go.SX Go.Proofs
noncomputable section
def kT2:List (Kn Tryz.prog VV):=K218::K219::kT
theorem m0c:SX.Spec Tryz.prog 12 l7w:=i39 (U:=VV) uok mixed (i0h uok mixed (i1y inA) kyA (okl (f8d kT2)) 60) kyA (fn:=Tryz.f12) (an:= .n) (by kernel_rfl) (a14 (fn:=Tryz.f12) (by kernel_rfl) (by kernel_rfl) (by kernel_rfl)) (by kernel_rfl) (c:= .z8) (x:=true) (e:=true) rfl (by kernel_rfl)
def K12:Kn Tryz.prog VV:=⟨12,l7w,knS rfl ⟨m0c,fun _ _=>a14 (fn:=Tryz.f12) (by kernel_rfl) (by kernel_rfl) (by kernel_rfl) _ _⟩⟩
def g6y:Sig VV:=⟨[.ls .z9,.v .z9,.v .z9,.v .z9,.v .z9,.v .yf],[.v .z8]⟩
def fe_3:Fent VV:=⟨g6y,Bool,fun x=>h6l x.1 x.2.1 x.2.2.1 x.2.2.2.1 x.2.2.2.2.1 x.2.2.2.2.2.1,fun b=>((b,()),()),none⟩
def un_3:Ress VV g6y.rs×Outs VV g6y.ps -> Bool:=fun p=>p.1.1
def an_3:Ann VV.C:= .n
def ok_3:SX.Spec Tryz.prog 3 fe_3:=a2m (fe:=fe_3) uok (okl (f8d [K4,K5,K6,K7,K8,K9,K10,K11,K12,K13])) mixed (fn:=Tryz.f3) (by kernel_rfl) un_3 an_3 (d8 (s:=g6y) (by kernel_rfl)).1 (d8 (s:=g6y) (by kernel_rfl)).2 (fun _=>rfl) fun x=>by kernel_rfl
end
end Go.PL
