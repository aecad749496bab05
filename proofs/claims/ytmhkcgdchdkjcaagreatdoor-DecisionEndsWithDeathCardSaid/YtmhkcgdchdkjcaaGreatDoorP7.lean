/- Texts of the proof, joined. -/
import Derived.Test.YtmhkcgdchdkjcaaGreatDoorP6
import Derived.Test.YtmhkcgdchdkjcaaGreatDoorProg
import Derived.KernelRfl
import Derived.Shelf.Strconv.Itoa3
import Derived.RangeFuncLeaves
import Derived.RangeFuncBox
import Derived.Shelf.Abstract
import Derived.WalkKit
import Derived.OwnWalkIn
import Derived.TacticsInMore
import Derived.LoopNIn
import Derived.LoopIn
set_option linter.unusedVariables false
set_option linter.unusedSimpArgs false
set_option maxRecDepth 100000
namespace Go.PL
open Go Go.SX
inductive TyC where
 | c_u8
 | c_i64
 | c_str
 | c_bool
 | c_sSpan
 | c_sapi_Fact
 | c_spensionhand_Fact
 | c_A3_str
 | c_sToken
 | c_spensionref5_reader
 | c_u64
 | c_spensionref1_wide
 | c_sFraction
 | c_sExpr
 | c_sRounding
 | c_sCredit
 | c_sIndex
 | c_sLet
 | c_sGrant
 | c_sReduce
 | c_sVersion
 | c_sStatute
 | c_sState
 | c_sRules
 | c_sRate
 | c_sLaws
 | c_spensionhand_Claim
 | c_sClaim
 | c_spensionlaw26_Seeds
 | c_A12_i64
 | c_u32
 | c_A6_bool
 | c_A100_bool
 | c_sdecision_file
 | c_psdecision_file
 | c_ssyntax_entry
 | c_A2_i64
 | c_sBinding
 | c_sGross
 | c_sValue
 | c_sStep
 | c_sAward
 | c_sHeir
 | c_sdecision_item
 | c_sDeduction
 | c_li64
 | c_sNet
 | c_sFamilyPay
deriving DecidableEq
@[reducible] def TyC.T:TyC -> Type
  | .c_u8=>Int
  | .c_i64=>Int
  | .c_str=>ByteArray
  | .c_bool=>Bool
  | .c_sSpan=>Span
  | .c_sapi_Fact=>api_Fact
  | .c_spensionhand_Fact=>pensionhand_Fact
  | .c_A3_str=>Ar 3 ByteArray
  | .c_sToken=>Token
  | .c_spensionref5_reader=>pensionref5_reader
  | .c_u64=>Int
  | .c_spensionref1_wide=>pensionref1_wide
  | .c_sFraction=>Fraction
  | .c_sExpr=>Expr
  | .c_sRounding=>Rounding
  | .c_sCredit=>Credit
  | .c_sIndex=>Index
  | .c_sLet=>Let
  | .c_sGrant=>Grant
  | .c_sReduce=>Reduce
  | .c_sVersion=>Version
  | .c_sStatute=>Statute
  | .c_sState=>State
  | .c_sRules=>Rules
  | .c_sRate=>Rate
  | .c_sLaws=>Laws
  | .c_spensionhand_Claim=>pensionhand_Claim
  | .c_sClaim=>Claim
  | .c_spensionlaw26_Seeds=>pensionlaw26_Seeds
  | .c_A12_i64=>Ar 12 Int
  | .c_u32=>Int
  | .c_A6_bool=>Ar 6 Bool
  | .c_A100_bool=>Ar 100 Bool
  | .c_sdecision_file=>decision_file
  | .c_psdecision_file=>decision_file
  | .c_ssyntax_entry=>syntax_entry
  | .c_A2_i64=>Ar 2 Int
  | .c_sBinding=>Binding
  | .c_sGross=>Gross
  | .c_sValue=>Value
  | .c_sStep=>Step
  | .c_sAward=>Award
  | .c_sHeir=>Heir
  | .c_sdecision_item=>decision_item
  | .c_sDeduction=>Deduction
  | .c_li64=>List Int
  | .c_sNet=>Net
  | .c_sFamilyPay=>FamilyPay
abbrev VA:=AV TyC TyC.T
def dT:DecidableEq TyC:=inferInstance
def f7z:Int -> List VA:=fun x=>[.int .u8 x]
def f8g:List VA -> Option Int:=mkS (gI .u8) fun x0=>mkE x0
def e9w:Int -> List VA:=fun x=>[.int .i64 x]
def f1t:List VA -> Option Int:=mkS (gI .i64) fun x0=>mkE x0
def e9r:ByteArray -> List VA:=fun x=>[.str x]
def f1u:List VA -> Option ByteArray:=mkS (gS) fun x0=>mkE x0
def e4l:Bool -> List VA:=fun x=>[.bool x]
def e3r:List VA -> Option Bool:=mkS (gB) fun x0=>mkE x0
def d71:Span -> List VA:=fun x=>[.int .i64 x.From,.int .i64 x.To]
def d6u:List VA -> Option Span:=mkS (gI .i64) fun x0=>mkS (gI .i64) fun x1=>mkE (⟨x0,x1⟩:Span)
def c37:api_Fact -> List VA:=fun x=>[.int .i64 x.Issuer,.int .i64 x.Number,.int .i64 x.Version,.bool x.Withdrawn,.int .i64 x.Person,.int .i64 x.Kind,.int .i64 x.State,.val .c_sSpan x.Span,.int .i64 x.Seat,.int .i64 x.Share,.int .i64 x.Currency,.int .i64 x.Amount,.int .i64 x.Ref]
def c30:List VA -> Option api_Fact:=mkS (gI .i64) fun x0=>mkS (gI .i64) fun x1=>mkS (gI .i64) fun x2=>mkS (gB) fun x3=>mkS (gI .i64) fun x4=>mkS (gI .i64) fun x5=>mkS (gI .i64) fun x6=>mkS (gV dT .c_sSpan) fun x7=>mkS (gI .i64) fun x8=>mkS (gI .i64) fun x9=>mkS (gI .i64) fun x10=>mkS (gI .i64) fun x11=>mkS (gI .i64) fun x12=>mkE (⟨x0,x1,x2,x3,x4,x5,x6,x7,x8,x9,x10,x11,x12⟩:api_Fact)
def b2h:pensionhand_Fact -> List VA:=fun x=>[.int .i64 x.Issuer,.int .i64 x.Number,.int .i64 x.Version,.bool x.Withdrawn,.int .i64 x.Person,.int .i64 x.Kind,.int .i64 x.State,.int .i64 x.Seat,.int .i64 x.From,.int .i64 x.Length,.int .i64 x.Share,.int .i64 x.Amount,.int .i64 x.Ref]
def b2b:List VA -> Option pensionhand_Fact:=mkS (gI .i64) fun x0=>mkS (gI .i64) fun x1=>mkS (gI .i64) fun x2=>mkS (gB) fun x3=>mkS (gI .i64) fun x4=>mkS (gI .i64) fun x5=>mkS (gI .i64) fun x6=>mkS (gI .i64) fun x7=>mkS (gI .i64) fun x8=>mkS (gI .i64) fun x9=>mkS (gI .i64) fun x10=>mkS (gI .i64) fun x11=>mkS (gI .i64) fun x12=>mkE (⟨x0,x1,x2,x3,x4,x5,x6,x7,x8,x9,x10,x11,x12⟩:pensionhand_Fact)
def d0h:Ar 3 ByteArray -> List VA:=fun x=>x.l.map fun y=> .str y
def d1m:List VA -> Option (Ar 3 ByteArray):=mkA (gS) 3
def d26:Token -> List VA:=fun x=>[.int .i64 x.Kind,.str x.Text,.int .i64 x.At]
def d1e:List VA -> Option Token:=mkS (gI .i64) fun x0=>mkS (gS) fun x1=>mkS (gI .i64) fun x2=>mkE (⟨x0,x1,x2⟩:Token)
def b0c:pensionref5_reader -> List VA:=fun x=>[.list .c_sToken x.l,.int .i64 x.at_,.int .i64 x.end_,.bool x.bad]
def b0a:List VA -> Option pensionref5_reader:=mkS (SX.gL dT .c_sToken) fun x0=>mkS (gI .i64) fun x1=>mkS (gI .i64) fun x2=>mkS (gB) fun x3=>mkE (⟨x0,x1,x2,x3⟩:pensionref5_reader)
def f1p:Int -> List VA:=fun x=>[.int .u64 x]
def f0u:List VA -> Option Int:=mkS (gI .u64) fun x0=>mkE x0
def b2k:pensionref1_wide -> List VA:=fun x=>[.int .u64 x.hi,.int .u64 x.lo]
def b2a:List VA -> Option pensionref1_wide:=mkS (gI .u64) fun x0=>mkS (gI .u64) fun x1=>mkE (⟨x0,x1⟩:pensionref1_wide)
def c3j:Fraction -> List VA:=fun x=>[.int .i64 x.Num,.int .i64 x.Den]
def c33:List VA -> Option Fraction:=mkS (gI .i64) fun x0=>mkS (gI .i64) fun x1=>mkE (⟨x0,x1⟩:Fraction)
def d6s:Expr -> List VA:=fun x=>[.int .i64 x.Op,.val .c_sFraction x.Value,.int .i64 x.Dim,.str x.Name,.list .c_sExpr x.Args]
def d7j:List VA -> Option Expr:=mkS (gI .i64) fun x0=>mkS (gV dT .c_sFraction) fun x1=>mkS (gI .i64) fun x2=>mkS (gS) fun x3=>mkS (SX.gL dT .c_sExpr) fun x4=>mkE (⟨x0,x1,x2,x3,x4⟩:Expr)
def c2y:Rounding -> List VA:=fun x=>[.int .i64 x.Mode,.int .i64 x.Unit]
def c32:List VA -> Option Rounding:=mkS (gI .i64) fun x0=>mkS (gI .i64) fun x1=>mkE (⟨x0,x1⟩:Rounding)
def c7d:Credit -> List VA:=fun x=>[.int .i64 x.Kind,.int .i64 x.Limit]
def c6x:List VA -> Option Credit:=mkS (gI .i64) fun x0=>mkS (gI .i64) fun x1=>mkE (⟨x0,x1⟩:Credit)
def d2i:Index -> List VA:=fun x=>[.int .i64 x.Year,.val .c_sFraction x.Factor]
def d17:List VA -> Option Index:=mkS (gI .i64) fun x0=>mkS (gV dT .c_sFraction) fun x1=>mkE (⟨x0,x1⟩:Index)
def e1a:Let -> List VA:=fun x=>[.str x.Name,.val .c_sExpr x.Body]
def e4w:List VA -> Option Let:=mkS (gS) fun x0=>mkS (gV dT .c_sExpr) fun x1=>mkE (⟨x0,x1⟩:Let)
def d0s:Grant -> List VA:=fun x=>[.int .i64 x.Benefit,.val .c_sExpr x.If,.val .c_sExpr x.Pay]
def d3d:List VA -> Option Grant:=mkS (gI .i64) fun x0=>mkS (gV dT .c_sExpr) fun x1=>mkS (gV dT .c_sExpr) fun x2=>mkE (⟨x0,x1,x2⟩:Grant)
def c81:Reduce -> List VA:=fun x=>[.int .i64 x.Benefit,.val .c_sExpr x.By]
def c7v:List VA -> Option Reduce:=mkS (gI .i64) fun x0=>mkS (gV dT .c_sExpr) fun x1=>mkE (⟨x0,x1⟩:Reduce)
def c5j:Version -> List VA:=fun x=>[.int .i64 x.From,.val .c_sRounding x.Rounding,.list .c_sCredit x.Credits,.list .c_sIndex x.Series,.list .c_sLet x.Lets,.list .c_sGrant x.Grants,.list .c_sReduce x.Reduces]
def c4d:List VA -> Option Version:=mkS (gI .i64) fun x0=>mkS (gV dT .c_sRounding) fun x1=>mkS (SX.gL dT .c_sCredit) fun x2=>mkS (SX.gL dT .c_sIndex) fun x3=>mkS (SX.gL dT .c_sLet) fun x4=>mkS (SX.gL dT .c_sGrant) fun x5=>mkS (SX.gL dT .c_sReduce) fun x6=>mkE (⟨x0,x1,x2,x3,x4,x5,x6⟩:Version)
def c57:Statute -> List VA:=fun x=>[.str x.Name,.int .i64 x.Currency,.list .c_sVersion x.Versions]
def c5h:List VA -> Option Statute:=mkS (gS) fun x0=>mkS (gI .i64) fun x1=>mkS (SX.gL dT .c_sVersion) fun x2=>mkE (⟨x0,x1,x2⟩:Statute)
def d1l:State -> List VA:=fun x=>[.int .i64 x.State,.val .c_sStatute x.Statute]
def d0o:List VA -> Option State:=mkS (gI .i64) fun x0=>mkS (gV dT .c_sStatute) fun x1=>mkE (⟨x0,x1⟩:State)
def d3e:Rules -> List VA:=fun x=>[.int .i64 x.From,.int .i64 x.MinDays,.int .i64 x.PostingLimit,.int .i64 x.Substantial,.list .c_i64 x.Members]
def d3n:List VA -> Option Rules:=mkS (gI .i64) fun x0=>mkS (gI .i64) fun x1=>mkS (gI .i64) fun x2=>mkS (gI .i64) fun x3=>mkS (SX.gL dT .c_i64) fun x4=>mkE (⟨x0,x1,x2,x3,x4⟩:Rules)
def d6h:Rate -> List VA:=fun x=>[.int .i64 x.Currency,.int .i64 x.Month,.val .c_sFraction x.Value]
def d7q:List VA -> Option Rate:=mkS (gI .i64) fun x0=>mkS (gI .i64) fun x1=>mkS (gV dT .c_sFraction) fun x2=>mkE (⟨x0,x1,x2⟩:Rate)
def d5u:Laws -> List VA:=fun x=>[.list .c_sState x.States,.list .c_sRules x.Treaty,.list .c_sRate x.Rates]
def d7k:List VA -> Option Laws:=mkS (SX.gL dT .c_sState) fun x0=>mkS (SX.gL dT .c_sRules) fun x1=>mkS (SX.gL dT .c_sRate) fun x2=>mkE (⟨x0,x1,x2⟩:Laws)
def b1x:pensionhand_Claim -> List VA:=fun x=>[.int .i64 x.Issuer,.int .i64 x.Number,.int .i64 x.Person,.int .i64 x.Benefit,.int .i64 x.Ref,.int .i64 x.Day]
def b1w:List VA -> Option pensionhand_Claim:=mkS (gI .i64) fun x0=>mkS (gI .i64) fun x1=>mkS (gI .i64) fun x2=>mkS (gI .i64) fun x3=>mkS (gI .i64) fun x4=>mkS (gI .i64) fun x5=>mkE (⟨x0,x1,x2,x3,x4,x5⟩:pensionhand_Claim)
def d1a:Claim -> List VA:=fun x=>[.int .i64 x.Issuer,.int .i64 x.Number,.int .i64 x.Person,.int .i64 x.Benefit,.int .i64 x.Ref,.int .i64 x.Day]
def d2b:List VA -> Option Claim:=mkS (gI .i64) fun x0=>mkS (gI .i64) fun x1=>mkS (gI .i64) fun x2=>mkS (gI .i64) fun x3=>mkS (gI .i64) fun x4=>mkS (gI .i64) fun x5=>mkE (⟨x0,x1,x2,x3,x4,x5⟩:Claim)
def b0g:pensionlaw26_Seeds -> List VA:=fun x=>[.list .c_i64 x.Laws,.list .c_i64 x.Lives,.list .c_spensionhand_Fact x.Facts,.list .c_spensionhand_Claim x.Claims,.int .i64 x.Day]
def b08:List VA -> Option pensionlaw26_Seeds:=mkS (SX.gL dT .c_i64) fun x0=>mkS (SX.gL dT .c_i64) fun x1=>mkS (SX.gL dT .c_spensionhand_Fact) fun x2=>mkS (SX.gL dT .c_spensionhand_Claim) fun x3=>mkS (gI .i64) fun x4=>mkE (⟨x0,x1,x2,x3,x4⟩:pensionlaw26_Seeds)
def c7a:Ar 12 Int -> List VA:=fun x=>x.l.map fun y=> .int .i64 y
def c7h:List VA -> Option (Ar 12 Int):=mkA (gI .i64) 12
def f01:Int -> List VA:=fun x=>[.int .u32 x]
def e9i:List VA -> Option Int:=mkS (gI .u32) fun x0=>mkE x0
def c73:Ar 6 Bool -> List VA:=fun x=>x.l.map fun y=> .bool y
def c88:List VA -> Option (Ar 6 Bool):=mkA (gB) 6
def c34:Ar 100 Bool -> List VA:=fun x=>x.l.map fun y=> .bool y
def c3k:List VA -> Option (Ar 100 Bool):=mkA (gB) 100
def b5b:decision_file -> List VA:=fun x=>[.val .c_sLaws x.x,.list .c_sapi_Fact x.facts,.list .c_sapi_Fact x.own,.list .c_sClaim x.claims,.int .i64 x.person]
def b5f:List VA -> Option decision_file:=mkS (gV dT .c_sLaws) fun x0=>mkS (SX.gL dT .c_sapi_Fact) fun x1=>mkS (SX.gL dT .c_sapi_Fact) fun x2=>mkS (SX.gL dT .c_sClaim) fun x3=>mkS (gI .i64) fun x4=>mkE (⟨x0,x1,x2,x3,x4⟩:decision_file)
def b4j:decision_file -> List VA:=fun x=>[.rp (.val .c_sdecision_file x)]
def b42:List VA -> Option decision_file:=mkS (gP dT .c_sdecision_file) fun x0=>mkE x0
def b6z:syntax_entry -> List VA:=fun x=>[.str x.name,.int .i64 x.number]
def b6v:List VA -> Option syntax_entry:=mkS (gS) fun x0=>mkS (gI .i64) fun x1=>mkE (⟨x0,x1⟩:syntax_entry)
def d0q:Ar 2 Int -> List VA:=fun x=>x.l.map fun y=> .int .i64 y
def d1b:List VA -> Option (Ar 2 Int):=mkA (gI .i64) 2
def c5a:Binding -> List VA:=fun x=>[.str x.Name,.int .i64 x.Dim]
def c5d:List VA -> Option Binding:=mkS (gS) fun x0=>mkS (gI .i64) fun x1=>mkE (⟨x0,x1⟩:Binding)
def d0u:Gross -> List VA:=fun x=>[.int .i64 x.State,.int .i64 x.Benefit,.int .i64 x.Currency,.int .i64 x.Independent,.int .i64 x.ProRata,.val .c_sFraction x.Cut]
def d1d:List VA -> Option Gross:=mkS (gI .i64) fun x0=>mkS (gI .i64) fun x1=>mkS (gI .i64) fun x2=>mkS (gI .i64) fun x3=>mkS (gI .i64) fun x4=>mkS (gV dT .c_sFraction) fun x5=>mkE (⟨x0,x1,x2,x3,x4,x5⟩:Gross)
def d3l:Value -> List VA:=fun x=>[.int .i64 x.Dim,.bool x.Yes,.val .c_sFraction x.Num]
def d2u:List VA -> Option Value:=mkS (gI .i64) fun x0=>mkS (gB) fun x1=>mkS (gV dT .c_sFraction) fun x2=>mkE (⟨x0,x1,x2⟩:Value)
def d7c:Step -> List VA:=fun x=>[.str x.Name,.val .c_sValue x.Value]
def d6n:List VA -> Option Step:=mkS (gS) fun x0=>mkS (gV dT .c_sValue) fun x1=>mkE (⟨x0,x1⟩:Step)
def d0i:Award -> List VA:=fun x=>[.int .i64 x.State,.int .i64 x.Benefit,.int .i64 x.Day,.int .i64 x.Code,.bool x.Few,.int .i64 x.Independent,.int .i64 x.Theoretical,.int .i64 x.ProRata,.int .i64 x.Num,.int .i64 x.Den,.int .i64 x.Amount,.list .c_sStep x.Steps]
def d0n:List VA -> Option Award:=mkS (gI .i64) fun x0=>mkS (gI .i64) fun x1=>mkS (gI .i64) fun x2=>mkS (gI .i64) fun x3=>mkS (gB) fun x4=>mkS (gI .i64) fun x5=>mkS (gI .i64) fun x6=>mkS (gI .i64) fun x7=>mkS (gI .i64) fun x8=>mkS (gI .i64) fun x9=>mkS (gI .i64) fun x10=>mkS (SX.gL dT .c_sStep) fun x11=>mkE (⟨x0,x1,x2,x3,x4,x5,x6,x7,x8,x9,x10,x11⟩:Award)
def d75:Heir -> List VA:=fun x=>[.int .i64 x.Person,.int .i64 x.Kind,.int .i64 x.Days]
def d64:List VA -> Option Heir:=mkS (gI .i64) fun x0=>mkS (gI .i64) fun x1=>mkS (gI .i64) fun x2=>mkE (⟨x0,x1,x2⟩:Heir)
def b5m:decision_item -> List VA:=fun x=>[.val .c_sGross x.gross,.val .c_sAward x.award,.list .c_sHeir x.heirs,.int .i64 x.at_]
def b5s:List VA -> Option decision_item:=mkS (gV dT .c_sGross) fun x0=>mkS (gV dT .c_sAward) fun x1=>mkS (SX.gL dT .c_sHeir) fun x2=>mkS (gI .i64) fun x3=>mkE (⟨x0,x1,x2,x3⟩:decision_item)
def c18:Deduction -> List VA:=fun x=>[.int .i64 x.By,.int .i64 x.From,.int .i64 x.Amount]
def c0v:List VA -> Option Deduction:=mkS (gI .i64) fun x0=>mkS (gI .i64) fun x1=>mkS (gI .i64) fun x2=>mkE (⟨x0,x1,x2⟩:Deduction)
def e2o:List Int -> List VA:=fun x=>[.list .c_i64 x]
def e2u:List VA -> Option (List Int):=mkS (SX.gL dT .c_i64) fun x0=>mkE x0
def e0i:Net -> List VA:=fun x=>[.int .i64 x.State,.int .i64 x.Benefit,.int .i64 x.Currency,.int .i64 x.Independent,.int .i64 x.ProRata,.int .i64 x.Deducted,.int .i64 x.Amount]
def e37:List VA -> Option Net:=mkS (gI .i64) fun x0=>mkS (gI .i64) fun x1=>mkS (gI .i64) fun x2=>mkS (gI .i64) fun x3=>mkS (gI .i64) fun x4=>mkS (gI .i64) fun x5=>mkS (gI .i64) fun x6=>mkE (⟨x0,x1,x2,x3,x4,x5,x6⟩:Net)
def c1e:FamilyPay -> List VA:=fun x=>[.int .i64 x.State,.int .i64 x.Currency,.int .i64 x.Amount,.bool x.Primary]
def c0n:List VA -> Option FamilyPay:=mkS (gI .i64) fun x0=>mkS (gI .i64) fun x1=>mkS (gI .i64) fun x2=>mkS (gB) fun x3=>mkE (⟨x0,x1,x2,x3⟩:FamilyPay)
def cdT (n:Nat):Option TyC:=bif Nat.blt n 169 then (bif Nat.blt n 81 then (bif Nat.blt n 26 then (bif Nat.blt n 9 then (bif Nat.blt n 4 then (bif Nat.blt n 3 then (bif Nat.beq n 2 then some .c_i64 else none) else (bif Nat.beq n 3 then some .c_i64 else none)) else (bif Nat.blt n 5 then (bif Nat.beq n 4 then some .c_bool else none) else (bif Nat.blt n 6 then (bif Nat.beq n 5 then some .c_u8 else none) else (bif Nat.beq n 6 then some .c_u8 else none)))) else (bif Nat.blt n 12 then (bif Nat.blt n 10 then (bif Nat.beq n 9 then some .c_str else none) else (bif Nat.blt n 11 then (bif Nat.beq n 10 then some .c_str else none) else (bif Nat.beq n 11 then some .c_str else none))) else (bif Nat.blt n 22 then (bif Nat.beq n 12 then some .c_u64 else none) else (bif Nat.blt n 25 then (bif Nat.beq n 22 then some .c_li64 else none) else (bif Nat.beq n 25 then some .c_spensionlaw26_Seeds else none))))) else (bif Nat.blt n 57 then (bif Nat.blt n 54 then (bif Nat.blt n 30 then (bif Nat.beq n 26 then some .c_spensionlaw26_Seeds else none) else (bif Nat.blt n 31 then (bif Nat.beq n 30 then some .c_sLaws else none) else (bif Nat.beq n 31 then some .c_sLaws else none))) else (bif Nat.blt n 55 then (bif Nat.beq n 54 then some .c_sSpan else none) else (bif Nat.blt n 56 then (bif Nat.beq n 55 then some .c_sSpan else none) else (bif Nat.beq n 56 then some .c_sapi_Fact else none)))) else (bif Nat.blt n 78 then (bif Nat.blt n 66 then (bif Nat.beq n 57 then some .c_sapi_Fact else none) else (bif Nat.blt n 71 then (bif Nat.beq n 66 then some .c_sClaim else none) else (bif Nat.beq n 71 then some .c_i64 else none))) else (bif Nat.blt n 79 then (bif Nat.beq n 78 then some .c_spensionhand_Fact else none) else (bif Nat.blt n 80 then (bif Nat.beq n 79 then some .c_spensionhand_Fact else none) else (bif Nat.beq n 80 then some .c_sFraction else none)))))) else (bif Nat.blt n 113 then (bif Nat.blt n 91 then (bif Nat.blt n 85 then (bif Nat.blt n 82 then (bif Nat.beq n 81 then some .c_sFraction else none) else (bif Nat.blt n 83 then (bif Nat.beq n 82 then some .c_sRate else none) else (bif Nat.beq n 83 then some .c_sRate else none))) else (bif Nat.blt n 86 then (bif Nat.beq n 85 then some .c_sStatute else none) else (bif Nat.blt n 90 then (bif Nat.beq n 86 then some .c_sStatute else none) else (bif Nat.beq n 90 then some .c_sState else none)))) else (bif Nat.blt n 94 then (bif Nat.blt n 92 then (bif Nat.beq n 91 then some .c_sState else none) else (bif Nat.blt n 93 then (bif Nat.beq n 92 then some .c_sRules else none) else (bif Nat.beq n 93 then some .c_sRules else none))) else (bif Nat.blt n 103 then (bif Nat.beq n 94 then some .c_spensionhand_Claim else none) else (bif Nat.blt n 104 then (bif Nat.beq n 103 then some .c_sdecision_file else none) else (bif Nat.beq n 104 then some .c_sdecision_file else none))))) else (bif Nat.blt n 136 then (bif Nat.blt n 127 then (bif Nat.blt n 114 then (bif Nat.beq n 113 then some .c_sNet else none) else (bif Nat.blt n 126 then (bif Nat.beq n 114 then some .c_sNet else none) else (bif Nat.beq n 126 then some .c_spensionref5_reader else none))) else (bif Nat.blt n 129 then (bif Nat.beq n 127 then some .c_spensionref5_reader else none) else (bif Nat.blt n 130 then (bif Nat.beq n 129 then some .c_sRounding else none) else (bif Nat.beq n 130 then some .c_sRounding else none)))) else (bif Nat.blt n 149 then (bif Nat.blt n 137 then (bif Nat.beq n 136 then some .c_sVersion else none) else (bif Nat.blt n 141 then (bif Nat.beq n 137 then some .c_sVersion else none) else (bif Nat.beq n 141 then some .c_A3_str else none))) else (bif Nat.blt n 152 then (bif Nat.beq n 149 then some .c_A12_i64 else none) else (bif Nat.blt n 153 then (bif Nat.beq n 152 then some .c_A6_bool else none) else (bif Nat.beq n 153 then some .c_A100_bool else none))))))) else (bif Nat.blt n 254 then (bif Nat.blt n 210 then (bif Nat.blt n 176 then (bif Nat.blt n 171 then (bif Nat.blt n 170 then (bif Nat.beq n 169 then some .c_sGross else none) else (bif Nat.beq n 170 then some .c_sGross else none)) else (bif Nat.blt n 172 then (bif Nat.beq n 171 then some .c_sDeduction else none) else (bif Nat.blt n 175 then (bif Nat.beq n 172 then some .c_sDeduction else none) else (bif Nat.beq n 175 then some .c_sAward else none)))) else (bif Nat.blt n 189 then (bif Nat.blt n 177 then (bif Nat.beq n 176 then some .c_sAward else none) else (bif Nat.blt n 178 then (bif Nat.beq n 177 then some .c_sdecision_item else none) else (bif Nat.beq n 178 then some .c_sdecision_item else none))) else (bif Nat.blt n 190 then (bif Nat.beq n 189 then some .c_sFamilyPay else none) else (bif Nat.blt n 209 then (bif Nat.beq n 190 then some .c_sFamilyPay else none) else (bif Nat.beq n 209 then some .c_sToken else none))))) else (bif Nat.blt n 244 then (bif Nat.blt n 226 then (bif Nat.blt n 222 then (bif Nat.beq n 210 then some .c_sToken else none) else (bif Nat.blt n 225 then (bif Nat.beq n 222 then some .c_u64 else none) else (bif Nat.beq n 225 then some .c_sHeir else none))) else (bif Nat.blt n 240 then (bif Nat.beq n 226 then some .c_sHeir else none) else (bif Nat.blt n 241 then (bif Nat.beq n 240 then some .c_sCredit else none) else (bif Nat.beq n 241 then some .c_sCredit else none)))) else (bif Nat.blt n 248 then (bif Nat.blt n 245 then (bif Nat.beq n 244 then some .c_sIndex else none) else (bif Nat.blt n 247 then (bif Nat.beq n 245 then some .c_sIndex else none) else (bif Nat.beq n 247 then some .c_sExpr else none))) else (bif Nat.blt n 249 then (bif Nat.beq n 248 then some .c_sExpr else none) else (bif Nat.blt n 250 then (bif Nat.beq n 249 then some .c_sGrant else none) else (bif Nat.beq n 250 then some .c_sGrant else none)))))) else (bif Nat.blt n 421 then (bif Nat.blt n 334 then (bif Nat.blt n 319 then (bif Nat.blt n 255 then (bif Nat.beq n 254 then some .c_sReduce else none) else (bif Nat.blt n 258 then (bif Nat.beq n 255 then some .c_sReduce else none) else (bif Nat.beq n 258 then some .c_u64 else none))) else (bif Nat.blt n 320 then (bif Nat.beq n 319 then some .c_sLet else none) else (bif Nat.blt n 327 then (bif Nat.beq n 320 then some .c_sLet else none) else (bif Nat.beq n 327 then some .c_i64 else none)))) else (bif Nat.blt n 408 then (bif Nat.blt n 345 then (bif Nat.beq n 334 then some .c_u32 else none) else (bif Nat.blt n 346 then (bif Nat.beq n 345 then some .c_sBinding else none) else (bif Nat.beq n 346 then some .c_sBinding else none))) else (bif Nat.blt n 409 then (bif Nat.beq n 408 then some .c_sValue else none) else (bif Nat.blt n 420 then (bif Nat.beq n 409 then some .c_sValue else none) else (bif Nat.beq n 420 then some .c_spensionref1_wide else none))))) else (bif Nat.blt n 519 then (bif Nat.blt n 435 then (bif Nat.blt n 426 then (bif Nat.beq n 421 then some .c_spensionref1_wide else none) else (bif Nat.blt n 434 then (bif Nat.beq n 426 then some .c_u64 else none) else (bif Nat.beq n 434 then some .c_ssyntax_entry else none))) else (bif Nat.blt n 485 then (bif Nat.beq n 435 then some .c_ssyntax_entry else none) else (bif Nat.blt n 486 then (bif Nat.beq n 485 then some .c_sStep else none) else (bif Nat.beq n 486 then some .c_sStep else none)))) else (bif Nat.blt n 621 then (bif Nat.blt n 578 then (bif Nat.beq n 519 then some .c_u64 else none) else (bif Nat.blt n 589 then (bif Nat.beq n 578 then some .c_A2_i64 else none) else (bif Nat.beq n 589 then some .c_i64 else none))) else (bif Nat.blt n 661 then (bif Nat.beq n 621 then some .c_u64 else none) else (bif Nat.blt n 662 then (bif Nat.beq n 661 then some .c_u8 else none) else (bif Nat.beq n 662 then some .c_u8 else none)))))))
def VV:Uni where
 C:=TyC
 T:=TyC.T
 dec:=dT
 c0:= .c_u8
 n:=fun c=>match c with
  | .c_u8=>1
  | .c_i64=>1
  | .c_str=>1
  | .c_bool=>1
  | .c_sSpan=>2
  | .c_sapi_Fact=>14
  | .c_spensionhand_Fact=>13
  | .c_A3_str=>3
  | .c_sToken=>3
  | .c_spensionref5_reader=>4
  | .c_u64=>1
  | .c_spensionref1_wide=>2
  | .c_sFraction=>2
  | .c_sExpr=>6
  | .c_sRounding=>2
  | .c_sCredit=>2
  | .c_sIndex=>3
  | .c_sLet=>7
  | .c_sGrant=>13
  | .c_sReduce=>7
  | .c_sVersion=>8
  | .c_sStatute=>3
  | .c_sState=>4
  | .c_sRules=>5
  | .c_sRate=>4
  | .c_sLaws=>3
  | .c_spensionhand_Claim=>6
  | .c_sClaim=>6
  | .c_spensionlaw26_Seeds=>5
  | .c_A12_i64=>12
  | .c_u32=>1
  | .c_A6_bool=>6
  | .c_A100_bool=>100
  | .c_sdecision_file=>7
  | .c_psdecision_file=>1
  | .c_ssyntax_entry=>2
  | .c_A2_i64=>2
  | .c_sBinding=>2
  | .c_sGross=>7
  | .c_sValue=>4
  | .c_sStep=>5
  | .c_sAward=>12
  | .c_sHeir=>3
  | .c_sdecision_item=>21
  | .c_sDeduction=>3
  | .c_li64=>1
  | .c_sNet=>7
  | .c_sFamilyPay=>4
 ag:=fun c=>match c with
  | .c_u8=>false
  | .c_i64=>false
  | .c_str=>false
  | .c_bool=>false
  | .c_sSpan=>true
  | .c_sapi_Fact=>true
  | .c_spensionhand_Fact=>true
  | .c_A3_str=>true
  | .c_sToken=>true
  | .c_spensionref5_reader=>true
  | .c_u64=>false
  | .c_spensionref1_wide=>true
  | .c_sFraction=>true
  | .c_sExpr=>true
  | .c_sRounding=>true
  | .c_sCredit=>true
  | .c_sIndex=>true
  | .c_sLet=>true
  | .c_sGrant=>true
  | .c_sReduce=>true
  | .c_sVersion=>true
  | .c_sStatute=>true
  | .c_sState=>true
  | .c_sRules=>true
  | .c_sRate=>true
  | .c_sLaws=>true
  | .c_spensionhand_Claim=>true
  | .c_sClaim=>true
  | .c_spensionlaw26_Seeds=>true
  | .c_A12_i64=>true
  | .c_u32=>false
  | .c_A6_bool=>true
  | .c_A100_bool=>true
  | .c_sdecision_file=>true
  | .c_psdecision_file=>false
  | .c_ssyntax_entry=>true
  | .c_A2_i64=>true
  | .c_sBinding=>true
  | .c_sGross=>true
  | .c_sValue=>true
  | .c_sStep=>true
  | .c_sAward=>true
  | .c_sHeir=>true
  | .c_sdecision_item=>true
  | .c_sDeduction=>true
  | .c_li64=>false
  | .c_sNet=>true
  | .c_sFamilyPay=>true
 lay:=fun c=>match c with
  | .c_u8=>[none]
  | .c_i64=>[none]
  | .c_str=>[none]
  | .c_bool=>[none]
  | .c_sSpan=>[none,none]
  | .c_sapi_Fact=>[none,none,none,none,none,none,none,some .c_sSpan,none,none,none,none,none]
  | .c_spensionhand_Fact=>[none,none,none,none,none,none,none,none,none,none,none,none,none]
  | .c_A3_str=>List.replicate 3 (none)
  | .c_sToken=>[none,none,none]
  | .c_spensionref5_reader=>[none,none,none,none]
  | .c_u64=>[none]
  | .c_spensionref1_wide=>[none,none]
  | .c_sFraction=>[none,none]
  | .c_sExpr=>[none,some .c_sFraction,none,none,none]
  | .c_sRounding=>[none,none]
  | .c_sCredit=>[none,none]
  | .c_sIndex=>[none,some .c_sFraction]
  | .c_sLet=>[none,some .c_sExpr]
  | .c_sGrant=>[none,some .c_sExpr,some .c_sExpr]
  | .c_sReduce=>[none,some .c_sExpr]
  | .c_sVersion=>[none,some .c_sRounding,none,none,none,none,none]
  | .c_sStatute=>[none,none,none]
  | .c_sState=>[none,some .c_sStatute]
  | .c_sRules=>[none,none,none,none,none]
  | .c_sRate=>[none,none,some .c_sFraction]
  | .c_sLaws=>[none,none,none]
  | .c_spensionhand_Claim=>[none,none,none,none,none,none]
  | .c_sClaim=>[none,none,none,none,none,none]
  | .c_spensionlaw26_Seeds=>[none,none,none,none,none]
  | .c_A12_i64=>List.replicate 12 (none)
  | .c_u32=>[none]
  | .c_A6_bool=>List.replicate 6 (none)
  | .c_A100_bool=>List.replicate 100 (none)
  | .c_sdecision_file=>[some .c_sLaws,none,none,none,none]
  | .c_psdecision_file=>[none]
  | .c_ssyntax_entry=>[none,none]
  | .c_A2_i64=>List.replicate 2 (none)
  | .c_sBinding=>[none,none]
  | .c_sGross=>[none,none,none,none,none,some .c_sFraction]
  | .c_sValue=>[none,none,some .c_sFraction]
  | .c_sStep=>[none,some .c_sValue]
  | .c_sAward=>[none,none,none,none,none,none,none,none,none,none,none,none]
  | .c_sHeir=>[none,none,none]
  | .c_sdecision_item=>[some .c_sGross,some .c_sAward,none,none]
  | .c_sDeduction=>[none,none,none]
  | .c_li64=>[none]
  | .c_sNet=>[none,none,none,none,none,none,none]
  | .c_sFamilyPay=>[none,none,none,none]
 flds:=fun c=>match c with
  | .c_u8=>f7z
  | .c_i64=>e9w
  | .c_str=>e9r
  | .c_bool=>e4l
  | .c_sSpan=>d71
  | .c_sapi_Fact=>c37
  | .c_spensionhand_Fact=>b2h
  | .c_A3_str=>d0h
  | .c_sToken=>d26
  | .c_spensionref5_reader=>b0c
  | .c_u64=>f1p
  | .c_spensionref1_wide=>b2k
  | .c_sFraction=>c3j
  | .c_sExpr=>d6s
  | .c_sRounding=>c2y
  | .c_sCredit=>c7d
  | .c_sIndex=>d2i
  | .c_sLet=>e1a
  | .c_sGrant=>d0s
  | .c_sReduce=>c81
  | .c_sVersion=>c5j
  | .c_sStatute=>c57
  | .c_sState=>d1l
  | .c_sRules=>d3e
  | .c_sRate=>d6h
  | .c_sLaws=>d5u
  | .c_spensionhand_Claim=>b1x
  | .c_sClaim=>d1a
  | .c_spensionlaw26_Seeds=>b0g
  | .c_A12_i64=>c7a
  | .c_u32=>f01
  | .c_A6_bool=>c73
  | .c_A100_bool=>c34
  | .c_sdecision_file=>b5b
  | .c_psdecision_file=>b4j
  | .c_ssyntax_entry=>b6z
  | .c_A2_i64=>d0q
  | .c_sBinding=>c5a
  | .c_sGross=>d0u
  | .c_sValue=>d3l
  | .c_sStep=>d7c
  | .c_sAward=>d0i
  | .c_sHeir=>d75
  | .c_sdecision_item=>b5m
  | .c_sDeduction=>c18
  | .c_li64=>e2o
  | .c_sNet=>e0i
  | .c_sFamilyPay=>c1e
 mkv:=fun c=>match c with
  | .c_u8=>f8g
  | .c_i64=>f1t
  | .c_str=>f1u
  | .c_bool=>e3r
  | .c_sSpan=>d6u
  | .c_sapi_Fact=>c30
  | .c_spensionhand_Fact=>b2b
  | .c_A3_str=>d1m
  | .c_sToken=>d1e
  | .c_spensionref5_reader=>b0a
  | .c_u64=>f0u
  | .c_spensionref1_wide=>b2a
  | .c_sFraction=>c33
  | .c_sExpr=>d7j
  | .c_sRounding=>c32
  | .c_sCredit=>c6x
  | .c_sIndex=>d17
  | .c_sLet=>e4w
  | .c_sGrant=>d3d
  | .c_sReduce=>c7v
  | .c_sVersion=>c4d
  | .c_sStatute=>c5h
  | .c_sState=>d0o
  | .c_sRules=>d3n
  | .c_sRate=>d7q
  | .c_sLaws=>d7k
  | .c_spensionhand_Claim=>b1w
  | .c_sClaim=>d2b
  | .c_spensionlaw26_Seeds=>b08
  | .c_A12_i64=>c7h
  | .c_u32=>e9i
  | .c_A6_bool=>c88
  | .c_A100_bool=>c3k
  | .c_sdecision_file=>b5f
  | .c_psdecision_file=>b42
  | .c_ssyntax_entry=>b6v
  | .c_A2_i64=>d1b
  | .c_sBinding=>c5d
  | .c_sGross=>d1d
  | .c_sValue=>d2u
  | .c_sStep=>d6n
  | .c_sAward=>d0n
  | .c_sHeir=>d64
  | .c_sdecision_item=>b5s
  | .c_sDeduction=>c0v
  | .c_li64=>e2u
  | .c_sNet=>e37
  | .c_sFamilyPay=>c0n
 cd:=cdT
 flat:=fun c=>match c with
  | .c_u8=>true
  | .c_i64=>true
  | .c_str=>true
  | .c_bool=>true
  | .c_sSpan=>true
  | .c_sapi_Fact=>true
  | .c_spensionhand_Fact=>true
  | .c_A3_str=>true
  | .c_sToken=>true
  | .c_spensionref5_reader=>false
  | .c_u64=>true
  | .c_spensionref1_wide=>true
  | .c_sFraction=>true
  | .c_sExpr=>false
  | .c_sRounding=>true
  | .c_sCredit=>true
  | .c_sIndex=>true
  | .c_sLet=>false
  | .c_sGrant=>false
  | .c_sReduce=>false
  | .c_sVersion=>false
  | .c_sStatute=>false
  | .c_sState=>false
  | .c_sRules=>false
  | .c_sRate=>true
  | .c_sLaws=>false
  | .c_spensionhand_Claim=>true
  | .c_sClaim=>true
  | .c_spensionlaw26_Seeds=>false
  | .c_A12_i64=>true
  | .c_u32=>true
  | .c_A6_bool=>true
  | .c_A100_bool=>true
  | .c_sdecision_file=>false
  | .c_psdecision_file=>false
  | .c_ssyntax_entry=>true
  | .c_A2_i64=>true
  | .c_sBinding=>true
  | .c_sGross=>true
  | .c_sValue=>true
  | .c_sStep=>true
  | .c_sAward=>false
  | .c_sHeir=>true
  | .c_sdecision_item=>false
  | .c_sDeduction=>true
  | .c_li64=>false
  | .c_sNet=>true
  | .c_sFamilyPay=>true
 isA:=fun c=>match c with
  | .c_u8=>false
  | .c_i64=>false
  | .c_str=>false
  | .c_bool=>false
  | .c_sSpan=>false
  | .c_sapi_Fact=>false
  | .c_spensionhand_Fact=>false
  | .c_A3_str=>true
  | .c_sToken=>false
  | .c_spensionref5_reader=>false
  | .c_u64=>false
  | .c_spensionref1_wide=>false
  | .c_sFraction=>false
  | .c_sExpr=>false
  | .c_sRounding=>false
  | .c_sCredit=>false
  | .c_sIndex=>false
  | .c_sLet=>false
  | .c_sGrant=>false
  | .c_sReduce=>false
  | .c_sVersion=>false
  | .c_sStatute=>false
  | .c_sState=>false
  | .c_sRules=>false
  | .c_sRate=>false
  | .c_sLaws=>false
  | .c_spensionhand_Claim=>false
  | .c_sClaim=>false
  | .c_spensionlaw26_Seeds=>false
  | .c_A12_i64=>true
  | .c_u32=>false
  | .c_A6_bool=>true
  | .c_A100_bool=>true
  | .c_sdecision_file=>false
  | .c_psdecision_file=>false
  | .c_ssyntax_entry=>false
  | .c_A2_i64=>true
  | .c_sBinding=>false
  | .c_sGross=>false
  | .c_sValue=>false
  | .c_sStep=>false
  | .c_sAward=>false
  | .c_sHeir=>false
  | .c_sdecision_item=>false
  | .c_sDeduction=>false
  | .c_li64=>false
  | .c_sNet=>false
  | .c_sFamilyPay=>false
 ae:=fun c=>match c with
  | .c_u8=> .c_u8
  | .c_i64=> .c_i64
  | .c_str=> .c_str
  | .c_bool=> .c_bool
  | .c_sSpan=> .c_sSpan
  | .c_sapi_Fact=> .c_sapi_Fact
  | .c_spensionhand_Fact=> .c_spensionhand_Fact
  | .c_A3_str=> .c_str
  | .c_sToken=> .c_sToken
  | .c_spensionref5_reader=> .c_spensionref5_reader
  | .c_u64=> .c_u64
  | .c_spensionref1_wide=> .c_spensionref1_wide
  | .c_sFraction=> .c_sFraction
  | .c_sExpr=> .c_sExpr
  | .c_sRounding=> .c_sRounding
  | .c_sCredit=> .c_sCredit
  | .c_sIndex=> .c_sIndex
  | .c_sLet=> .c_sLet
  | .c_sGrant=> .c_sGrant
  | .c_sReduce=> .c_sReduce
  | .c_sVersion=> .c_sVersion
  | .c_sStatute=> .c_sStatute
  | .c_sState=> .c_sState
  | .c_sRules=> .c_sRules
  | .c_sRate=> .c_sRate
  | .c_sLaws=> .c_sLaws
  | .c_spensionhand_Claim=> .c_spensionhand_Claim
  | .c_sClaim=> .c_sClaim
  | .c_spensionlaw26_Seeds=> .c_spensionlaw26_Seeds
  | .c_A12_i64=> .c_i64
  | .c_u32=> .c_u32
  | .c_A6_bool=> .c_bool
  | .c_A100_bool=> .c_bool
  | .c_sdecision_file=> .c_sdecision_file
  | .c_psdecision_file=> .c_psdecision_file
  | .c_ssyntax_entry=> .c_ssyntax_entry
  | .c_A2_i64=> .c_i64
  | .c_sBinding=> .c_sBinding
  | .c_sGross=> .c_sGross
  | .c_sValue=> .c_sValue
  | .c_sStep=> .c_sStep
  | .c_sAward=> .c_sAward
  | .c_sHeir=> .c_sHeir
  | .c_sdecision_item=> .c_sdecision_item
  | .c_sDeduction=> .c_sDeduction
  | .c_li64=> .c_li64
  | .c_sNet=> .c_sNet
  | .c_sFamilyPay=> .c_sFamilyPay
 an:=fun c=>match c with
  | .c_u8=>0
  | .c_i64=>0
  | .c_str=>0
  | .c_bool=>0
  | .c_sSpan=>0
  | .c_sapi_Fact=>0
  | .c_spensionhand_Fact=>0
  | .c_A3_str=>3
  | .c_sToken=>0
  | .c_spensionref5_reader=>0
  | .c_u64=>0
  | .c_spensionref1_wide=>0
  | .c_sFraction=>0
  | .c_sExpr=>0
  | .c_sRounding=>0
  | .c_sCredit=>0
  | .c_sIndex=>0
  | .c_sLet=>0
  | .c_sGrant=>0
  | .c_sReduce=>0
  | .c_sVersion=>0
  | .c_sStatute=>0
  | .c_sState=>0
  | .c_sRules=>0
  | .c_sRate=>0
  | .c_sLaws=>0
  | .c_spensionhand_Claim=>0
  | .c_sClaim=>0
  | .c_spensionlaw26_Seeds=>0
  | .c_A12_i64=>12
  | .c_u32=>0
  | .c_A6_bool=>6
  | .c_A100_bool=>100
  | .c_sdecision_file=>0
  | .c_psdecision_file=>0
  | .c_ssyntax_entry=>0
  | .c_A2_i64=>2
  | .c_sBinding=>0
  | .c_sGross=>0
  | .c_sValue=>0
  | .c_sStep=>0
  | .c_sAward=>0
  | .c_sHeir=>0
  | .c_sdecision_item=>0
  | .c_sDeduction=>0
  | .c_li64=>0
  | .c_sNet=>0
  | .c_sFamilyPay=>0
 al:=fun c=>match c with
  | .c_u8=>fun _=>[]
  | .c_i64=>fun _=>[]
  | .c_str=>fun _=>[]
  | .c_bool=>fun _=>[]
  | .c_sSpan=>fun _=>[]
  | .c_sapi_Fact=>fun _=>[]
  | .c_spensionhand_Fact=>fun _=>[]
  | .c_A3_str=>fun x=>x.l
  | .c_sToken=>fun _=>[]
  | .c_spensionref5_reader=>fun _=>[]
  | .c_u64=>fun _=>[]
  | .c_spensionref1_wide=>fun _=>[]
  | .c_sFraction=>fun _=>[]
  | .c_sExpr=>fun _=>[]
  | .c_sRounding=>fun _=>[]
  | .c_sCredit=>fun _=>[]
  | .c_sIndex=>fun _=>[]
  | .c_sLet=>fun _=>[]
  | .c_sGrant=>fun _=>[]
  | .c_sReduce=>fun _=>[]
  | .c_sVersion=>fun _=>[]
  | .c_sStatute=>fun _=>[]
  | .c_sState=>fun _=>[]
  | .c_sRules=>fun _=>[]
  | .c_sRate=>fun _=>[]
  | .c_sLaws=>fun _=>[]
  | .c_spensionhand_Claim=>fun _=>[]
  | .c_sClaim=>fun _=>[]
  | .c_spensionlaw26_Seeds=>fun _=>[]
  | .c_A12_i64=>fun x=>x.l
  | .c_u32=>fun _=>[]
  | .c_A6_bool=>fun x=>x.l
  | .c_A100_bool=>fun x=>x.l
  | .c_sdecision_file=>fun _=>[]
  | .c_psdecision_file=>fun _=>[]
  | .c_ssyntax_entry=>fun _=>[]
  | .c_A2_i64=>fun x=>x.l
  | .c_sBinding=>fun _=>[]
  | .c_sGross=>fun _=>[]
  | .c_sValue=>fun _=>[]
  | .c_sStep=>fun _=>[]
  | .c_sAward=>fun _=>[]
  | .c_sHeir=>fun _=>[]
  | .c_sdecision_item=>fun _=>[]
  | .c_sDeduction=>fun _=>[]
  | .c_li64=>fun _=>[]
  | .c_sNet=>fun _=>[]
  | .c_sFamilyPay=>fun _=>[]
 «as» :=fun c=>match c with
  | .c_u8=>fun x _ _=>x
  | .c_i64=>fun x _ _=>x
  | .c_str=>fun x _ _=>x
  | .c_bool=>fun x _ _=>x
  | .c_sSpan=>fun x _ _=>x
  | .c_sapi_Fact=>fun x _ _=>x
  | .c_spensionhand_Fact=>fun x _ _=>x
  | .c_A3_str=>fun x i y=>x.set i y
  | .c_sToken=>fun x _ _=>x
  | .c_spensionref5_reader=>fun x _ _=>x
  | .c_u64=>fun x _ _=>x
  | .c_spensionref1_wide=>fun x _ _=>x
  | .c_sFraction=>fun x _ _=>x
  | .c_sExpr=>fun x _ _=>x
  | .c_sRounding=>fun x _ _=>x
  | .c_sCredit=>fun x _ _=>x
  | .c_sIndex=>fun x _ _=>x
  | .c_sLet=>fun x _ _=>x
  | .c_sGrant=>fun x _ _=>x
  | .c_sReduce=>fun x _ _=>x
  | .c_sVersion=>fun x _ _=>x
  | .c_sStatute=>fun x _ _=>x
  | .c_sState=>fun x _ _=>x
  | .c_sRules=>fun x _ _=>x
  | .c_sRate=>fun x _ _=>x
  | .c_sLaws=>fun x _ _=>x
  | .c_spensionhand_Claim=>fun x _ _=>x
  | .c_sClaim=>fun x _ _=>x
  | .c_spensionlaw26_Seeds=>fun x _ _=>x
  | .c_A12_i64=>fun x i y=>x.set i y
  | .c_u32=>fun x _ _=>x
  | .c_A6_bool=>fun x i y=>x.set i y
  | .c_A100_bool=>fun x i y=>x.set i y
  | .c_sdecision_file=>fun x _ _=>x
  | .c_psdecision_file=>fun x _ _=>x
  | .c_ssyntax_entry=>fun x _ _=>x
  | .c_A2_i64=>fun x i y=>x.set i y
  | .c_sBinding=>fun x _ _=>x
  | .c_sGross=>fun x _ _=>x
  | .c_sValue=>fun x _ _=>x
  | .c_sStep=>fun x _ _=>x
  | .c_sAward=>fun x _ _=>x
  | .c_sHeir=>fun x _ _=>x
  | .c_sdecision_item=>fun x _ _=>x
  | .c_sDeduction=>fun x _ _=>x
  | .c_li64=>fun x _ _=>x
  | .c_sNet=>fun x _ _=>x
  | .c_sFamilyPay=>fun x _ _=>x
 gt:=fun c=>match c with
  | .c_u8=>fun x _=>x
  | .c_i64=>fun x _=>x
  | .c_str=>fun x _=>x
  | .c_bool=>fun x _=>x
  | .c_sSpan=>fun x _=>x
  | .c_sapi_Fact=>fun x _=>x
  | .c_spensionhand_Fact=>fun x _=>x
  | .c_A3_str=>fun x i=>Ar.gt ByteArray.empty x i
  | .c_sToken=>fun x _=>x
  | .c_spensionref5_reader=>fun x _=>x
  | .c_u64=>fun x _=>x
  | .c_spensionref1_wide=>fun x _=>x
  | .c_sFraction=>fun x _=>x
  | .c_sExpr=>fun x _=>x
  | .c_sRounding=>fun x _=>x
  | .c_sCredit=>fun x _=>x
  | .c_sIndex=>fun x _=>x
  | .c_sLet=>fun x _=>x
  | .c_sGrant=>fun x _=>x
  | .c_sReduce=>fun x _=>x
  | .c_sVersion=>fun x _=>x
  | .c_sStatute=>fun x _=>x
  | .c_sState=>fun x _=>x
  | .c_sRules=>fun x _=>x
  | .c_sRate=>fun x _=>x
  | .c_sLaws=>fun x _=>x
  | .c_spensionhand_Claim=>fun x _=>x
  | .c_sClaim=>fun x _=>x
  | .c_spensionlaw26_Seeds=>fun x _=>x
  | .c_A12_i64=>fun x i=>Ar.gt 0 x i
  | .c_u32=>fun x _=>x
  | .c_A6_bool=>fun x i=>Ar.gt false x i
  | .c_A100_bool=>fun x i=>Ar.gt false x i
  | .c_sdecision_file=>fun x _=>x
  | .c_psdecision_file=>fun x _=>x
  | .c_ssyntax_entry=>fun x _=>x
  | .c_A2_i64=>fun x i=>Ar.gt 0 x i
  | .c_sBinding=>fun x _=>x
  | .c_sGross=>fun x _=>x
  | .c_sValue=>fun x _=>x
  | .c_sStep=>fun x _=>x
  | .c_sAward=>fun x _=>x
  | .c_sHeir=>fun x _=>x
  | .c_sdecision_item=>fun x _=>x
  | .c_sDeduction=>fun x _=>x
  | .c_li64=>fun x _=>x
  | .c_sNet=>fun x _=>x
  | .c_sFamilyPay=>fun x _=>x
 b8:=fun c=>match c with
  | .c_u8=>true
  | .c_i64=>false
  | .c_str=>false
  | .c_bool=>false
  | .c_sSpan=>false
  | .c_sapi_Fact=>false
  | .c_spensionhand_Fact=>false
  | .c_A3_str=>false
  | .c_sToken=>false
  | .c_spensionref5_reader=>false
  | .c_u64=>false
  | .c_spensionref1_wide=>false
  | .c_sFraction=>false
  | .c_sExpr=>false
  | .c_sRounding=>false
  | .c_sCredit=>false
  | .c_sIndex=>false
  | .c_sLet=>false
  | .c_sGrant=>false
  | .c_sReduce=>false
  | .c_sVersion=>false
  | .c_sStatute=>false
  | .c_sState=>false
  | .c_sRules=>false
  | .c_sRate=>false
  | .c_sLaws=>false
  | .c_spensionhand_Claim=>false
  | .c_sClaim=>false
  | .c_spensionlaw26_Seeds=>false
  | .c_A12_i64=>false
  | .c_u32=>false
  | .c_A6_bool=>false
  | .c_A100_bool=>false
  | .c_sdecision_file=>false
  | .c_psdecision_file=>false
  | .c_ssyntax_entry=>false
  | .c_A2_i64=>false
  | .c_sBinding=>false
  | .c_sGross=>false
  | .c_sValue=>false
  | .c_sStep=>false
  | .c_sAward=>false
  | .c_sHeir=>false
  | .c_sdecision_item=>false
  | .c_sDeduction=>false
  | .c_li64=>false
  | .c_sNet=>false
  | .c_sFamilyPay=>false
 t8:=fun c=>match c with
  | .c_u8=>fun x=>x
  | .c_i64=>fun _=>0
  | .c_str=>fun _=>0
  | .c_bool=>fun _=>0
  | .c_sSpan=>fun _=>0
  | .c_sapi_Fact=>fun _=>0
  | .c_spensionhand_Fact=>fun _=>0
  | .c_A3_str=>fun _=>0
  | .c_sToken=>fun _=>0
  | .c_spensionref5_reader=>fun _=>0
  | .c_u64=>fun _=>0
  | .c_spensionref1_wide=>fun _=>0
  | .c_sFraction=>fun _=>0
  | .c_sExpr=>fun _=>0
  | .c_sRounding=>fun _=>0
  | .c_sCredit=>fun _=>0
  | .c_sIndex=>fun _=>0
  | .c_sLet=>fun _=>0
  | .c_sGrant=>fun _=>0
  | .c_sReduce=>fun _=>0
  | .c_sVersion=>fun _=>0
  | .c_sStatute=>fun _=>0
  | .c_sState=>fun _=>0
  | .c_sRules=>fun _=>0
  | .c_sRate=>fun _=>0
  | .c_sLaws=>fun _=>0
  | .c_spensionhand_Claim=>fun _=>0
  | .c_sClaim=>fun _=>0
  | .c_spensionlaw26_Seeds=>fun _=>0
  | .c_A12_i64=>fun _=>0
  | .c_u32=>fun _=>0
  | .c_A6_bool=>fun _=>0
  | .c_A100_bool=>fun _=>0
  | .c_sdecision_file=>fun _=>0
  | .c_psdecision_file=>fun _=>0
  | .c_ssyntax_entry=>fun _=>0
  | .c_A2_i64=>fun _=>0
  | .c_sBinding=>fun _=>0
  | .c_sGross=>fun _=>0
  | .c_sValue=>fun _=>0
  | .c_sStep=>fun _=>0
  | .c_sAward=>fun _=>0
  | .c_sHeir=>fun _=>0
  | .c_sdecision_item=>fun _=>0
  | .c_sDeduction=>fun _=>0
  | .c_li64=>fun _=>0
  | .c_sNet=>fun _=>0
  | .c_sFamilyPay=>fun _=>0
 tab:=fun w=>Lib.TabIs Go.Proofs.Tryz.prog w "internal/strconv.uint64pow10" .u64 Lib.pow10Tab
 tb:=fun b=>b=5
theorem f7x: ∀(zs:List VV.AV) (y:Int),f8g zs=some y -> u4 (AEq (U:=VV)) zs (f7z y):=by
 intro zs y h
 obtain ⟨a0,zs,x0,rfl,h0,h⟩:=c9 h;obtain ⟨rfl,rfl⟩:=a1n h;exact ⟨s9 (U:=VV) h0,trivial⟩
theorem f4r: ∀(zs:List VV.AV) (y:Int),f1t zs=some y -> u4 (AEq (U:=VV)) zs (e9w y):=by
 intro zs y h
 obtain ⟨a0,zs,x0,rfl,h0,h⟩:=c9 h;obtain ⟨rfl,rfl⟩:=a1n h;exact ⟨s9 (U:=VV) h0,trivial⟩
theorem f4d: ∀(zs:List VV.AV) (y:ByteArray),f1u zs=some y -> u4 (AEq (U:=VV)) zs (e9r y):=by
 intro zs y h
 obtain ⟨a0,zs,x0,rfl,h0,h⟩:=c9 h;obtain ⟨rfl,rfl⟩:=a1n h;exact ⟨c9n (U:=VV) h0,trivial⟩
theorem e6b: ∀(zs:List VV.AV) (y:Bool),e3r zs=some y -> u4 (AEq (U:=VV)) zs (e4l y):=by
 intro zs y h
 obtain ⟨a0,zs,x0,rfl,h0,h⟩:=c9 h;obtain ⟨rfl,rfl⟩:=a1n h;exact ⟨c9g (U:=VV) h0,trivial⟩
theorem e2e: ∀(zs:List VV.AV) (y:Span),d6u zs=some y -> u4 (AEq (U:=VV)) zs (d71 y):=by
 intro zs y h
 obtain ⟨a0,zs,x0,rfl,h0,h⟩:=c9 h;obtain ⟨a1,zs,x1,rfl,h1,h⟩:=c9 h;obtain ⟨rfl,rfl⟩:=a1n h;exact ⟨s9 (U:=VV) h0,s9 (U:=VV) h1,trivial⟩
theorem c99: ∀(zs:List VV.AV) (y:api_Fact),c30 zs=some y -> u4 (AEq (U:=VV)) zs (c37 y):=by
 intro zs y h
 obtain ⟨a0,zs,x0,rfl,h0,h⟩:=c9 h;obtain ⟨a1,zs,x1,rfl,h1,h⟩:=c9 h;obtain ⟨a2,zs,x2,rfl,h2,h⟩:=c9 h;obtain ⟨a3,zs,x3,rfl,h3,h⟩:=c9 h;obtain ⟨a4,zs,x4,rfl,h4,h⟩:=c9 h;obtain ⟨a5,zs,x5,rfl,h5,h⟩:=c9 h;obtain ⟨a6,zs,x6,rfl,h6,h⟩:=c9 h;obtain ⟨a7,zs,x7,rfl,h7,h⟩:=c9 h;obtain ⟨a8,zs,x8,rfl,h8,h⟩:=c9 h;obtain ⟨a9,zs,x9,rfl,h9,h⟩:=c9 h;obtain ⟨a10,zs,x10,rfl,h10,h⟩:=c9 h;obtain ⟨a11,zs,x11,rfl,h11,h⟩:=c9 h;obtain ⟨a12,zs,x12,rfl,h12,h⟩:=c9 h;obtain ⟨rfl,rfl⟩:=a1n h;exact ⟨s9 (U:=VV) h0,s9 (U:=VV) h1,s9 (U:=VV) h2,c9g (U:=VV) h3,s9 (U:=VV) h4,s9 (U:=VV) h5,s9 (U:=VV) h6,b8t (U:=VV) h7,s9 (U:=VV) h8,s9 (U:=VV) h9,s9 (U:=VV) h10,s9 (U:=VV) h11,s9 (U:=VV) h12,trivial⟩
theorem b83: ∀(zs:List VV.AV) (y:pensionhand_Fact),b2b zs=some y -> u4 (AEq (U:=VV)) zs (b2h y):=by
 intro zs y h
 obtain ⟨a0,zs,x0,rfl,h0,h⟩:=c9 h;obtain ⟨a1,zs,x1,rfl,h1,h⟩:=c9 h;obtain ⟨a2,zs,x2,rfl,h2,h⟩:=c9 h;obtain ⟨a3,zs,x3,rfl,h3,h⟩:=c9 h;obtain ⟨a4,zs,x4,rfl,h4,h⟩:=c9 h;obtain ⟨a5,zs,x5,rfl,h5,h⟩:=c9 h;obtain ⟨a6,zs,x6,rfl,h6,h⟩:=c9 h;obtain ⟨a7,zs,x7,rfl,h7,h⟩:=c9 h;obtain ⟨a8,zs,x8,rfl,h8,h⟩:=c9 h;obtain ⟨a9,zs,x9,rfl,h9,h⟩:=c9 h;obtain ⟨a10,zs,x10,rfl,h10,h⟩:=c9 h;obtain ⟨a11,zs,x11,rfl,h11,h⟩:=c9 h;obtain ⟨a12,zs,x12,rfl,h12,h⟩:=c9 h;obtain ⟨rfl,rfl⟩:=a1n h;exact ⟨s9 (U:=VV) h0,s9 (U:=VV) h1,s9 (U:=VV) h2,c9g (U:=VV) h3,s9 (U:=VV) h4,s9 (U:=VV) h5,s9 (U:=VV) h6,s9 (U:=VV) h7,s9 (U:=VV) h8,s9 (U:=VV) h9,s9 (U:=VV) h10,s9 (U:=VV) h11,s9 (U:=VV) h12,trivial⟩
theorem d8p: ∀(zs:List VV.AV) (y:Ar 3 ByteArray),d1m zs=some y -> u4 (AEq (U:=VV)) zs (d0h y):=fun zs y h=>d1w (fun _ _ h=>c9n (U:=VV) h) h
theorem d9g: ∀(zs:List VV.AV) (y:Token),d1e zs=some y -> u4 (AEq (U:=VV)) zs (d26 y):=by
 intro zs y h
 obtain ⟨a0,zs,x0,rfl,h0,h⟩:=c9 h;obtain ⟨a1,zs,x1,rfl,h1,h⟩:=c9 h;obtain ⟨a2,zs,x2,rfl,h2,h⟩:=c9 h;obtain ⟨rfl,rfl⟩:=a1n h;exact ⟨s9 (U:=VV) h0,c9n (U:=VV) h1,s9 (U:=VV) h2,trivial⟩
theorem b6j: ∀(zs:List VV.AV) (y:pensionref5_reader),b0a zs=some y -> u4 (AEq (U:=VV)) zs (b0c y):=by
 intro zs y h
 obtain ⟨a0,zs,x0,rfl,h0,h⟩:=c9 h;obtain ⟨a1,zs,x1,rfl,h1,h⟩:=c9 h;obtain ⟨a2,zs,x2,rfl,h2,h⟩:=c9 h;obtain ⟨a3,zs,x3,rfl,h3,h⟩:=c9 h;obtain ⟨rfl,rfl⟩:=a1n h;exact ⟨b3w (U:=VV) h0,s9 (U:=VV) h1,s9 (U:=VV) h2,c9g (U:=VV) h3,trivial⟩
theorem f4q: ∀(zs:List VV.AV) (y:Int),f0u zs=some y -> u4 (AEq (U:=VV)) zs (f1p y):=by
 intro zs y h
 obtain ⟨a0,zs,x0,rfl,h0,h⟩:=c9 h;obtain ⟨rfl,rfl⟩:=a1n h;exact ⟨s9 (U:=VV) h0,trivial⟩
theorem b7j: ∀(zs:List VV.AV) (y:pensionref1_wide),b2a zs=some y -> u4 (AEq (U:=VV)) zs (b2k y):=by
 intro zs y h
 obtain ⟨a0,zs,x0,rfl,h0,h⟩:=c9 h;obtain ⟨a1,zs,x1,rfl,h1,h⟩:=c9 h;obtain ⟨rfl,rfl⟩:=a1n h;exact ⟨s9 (U:=VV) h0,s9 (U:=VV) h1,trivial⟩
theorem c8n: ∀(zs:List VV.AV) (y:Fraction),c33 zs=some y -> u4 (AEq (U:=VV)) zs (c3j y):=by
 intro zs y h
 obtain ⟨a0,zs,x0,rfl,h0,h⟩:=c9 h;obtain ⟨a1,zs,x1,rfl,h1,h⟩:=c9 h;obtain ⟨rfl,rfl⟩:=a1n h;exact ⟨s9 (U:=VV) h0,s9 (U:=VV) h1,trivial⟩
theorem e5c: ∀(zs:List VV.AV) (y:Expr),d7j zs=some y -> u4 (AEq (U:=VV)) zs (d6s y):=by
 intro zs y h
 obtain ⟨a0,zs,x0,rfl,h0,h⟩:=c9 h;obtain ⟨a1,zs,x1,rfl,h1,h⟩:=c9 h;obtain ⟨a2,zs,x2,rfl,h2,h⟩:=c9 h;obtain ⟨a3,zs,x3,rfl,h3,h⟩:=c9 h;obtain ⟨a4,zs,x4,rfl,h4,h⟩:=c9 h;obtain ⟨rfl,rfl⟩:=a1n h;exact ⟨s9 (U:=VV) h0,b8t (U:=VV) h1,s9 (U:=VV) h2,c9n (U:=VV) h3,b3w (U:=VV) h4,trivial⟩
theorem c9q: ∀(zs:List VV.AV) (y:Rounding),c32 zs=some y -> u4 (AEq (U:=VV)) zs (c2y y):=by
 intro zs y h
 obtain ⟨a0,zs,x0,rfl,h0,h⟩:=c9 h;obtain ⟨a1,zs,x1,rfl,h1,h⟩:=c9 h;obtain ⟨rfl,rfl⟩:=a1n h;exact ⟨s9 (U:=VV) h0,s9 (U:=VV) h1,trivial⟩
theorem d3x: ∀(zs:List VV.AV) (y:Credit),c6x zs=some y -> u4 (AEq (U:=VV)) zs (c7d y):=by
 intro zs y h
 obtain ⟨a0,zs,x0,rfl,h0,h⟩:=c9 h;obtain ⟨a1,zs,x1,rfl,h1,h⟩:=c9 h;obtain ⟨rfl,rfl⟩:=a1n h;exact ⟨s9 (U:=VV) h0,s9 (U:=VV) h1,trivial⟩
theorem d9j: ∀(zs:List VV.AV) (y:Index),d17 zs=some y -> u4 (AEq (U:=VV)) zs (d2i y):=by
 intro zs y h
 obtain ⟨a0,zs,x0,rfl,h0,h⟩:=c9 h;obtain ⟨a1,zs,x1,rfl,h1,h⟩:=c9 h;obtain ⟨rfl,rfl⟩:=a1n h;exact ⟨s9 (U:=VV) h0,b8t (U:=VV) h1,trivial⟩
theorem e68: ∀(zs:List VV.AV) (y:Let),e4w zs=some y -> u4 (AEq (U:=VV)) zs (e1a y):=by
 intro zs y h
 obtain ⟨a0,zs,x0,rfl,h0,h⟩:=c9 h;obtain ⟨a1,zs,x1,rfl,h1,h⟩:=c9 h;obtain ⟨rfl,rfl⟩:=a1n h;exact ⟨c9n (U:=VV) h0,b8t (U:=VV) h1,trivial⟩
theorem d9a: ∀(zs:List VV.AV) (y:Grant),d3d zs=some y -> u4 (AEq (U:=VV)) zs (d0s y):=by
 intro zs y h
 obtain ⟨a0,zs,x0,rfl,h0,h⟩:=c9 h;obtain ⟨a1,zs,x1,rfl,h1,h⟩:=c9 h;obtain ⟨a2,zs,x2,rfl,h2,h⟩:=c9 h;obtain ⟨rfl,rfl⟩:=a1n h;exact ⟨s9 (U:=VV) h0,b8t (U:=VV) h1,b8t (U:=VV) h2,trivial⟩
theorem d4s: ∀(zs:List VV.AV) (y:Reduce),c7v zs=some y -> u4 (AEq (U:=VV)) zs (c81 y):=by
 intro zs y h
 obtain ⟨a0,zs,x0,rfl,h0,h⟩:=c9 h;obtain ⟨a1,zs,x1,rfl,h1,h⟩:=c9 h;obtain ⟨rfl,rfl⟩:=a1n h;exact ⟨s9 (U:=VV) h0,b8t (U:=VV) h1,trivial⟩
theorem d2o: ∀(zs:List VV.AV) (y:Version),c4d zs=some y -> u4 (AEq (U:=VV)) zs (c5j y):=by
 intro zs y h
 obtain ⟨a0,zs,x0,rfl,h0,h⟩:=c9 h;obtain ⟨a1,zs,x1,rfl,h1,h⟩:=c9 h;obtain ⟨a2,zs,x2,rfl,h2,h⟩:=c9 h;obtain ⟨a3,zs,x3,rfl,h3,h⟩:=c9 h;obtain ⟨a4,zs,x4,rfl,h4,h⟩:=c9 h;obtain ⟨a5,zs,x5,rfl,h5,h⟩:=c9 h;obtain ⟨a6,zs,x6,rfl,h6,h⟩:=c9 h;obtain ⟨rfl,rfl⟩:=a1n h;exact ⟨s9 (U:=VV) h0,b8t (U:=VV) h1,b3w (U:=VV) h2,b3w (U:=VV) h3,b3w (U:=VV) h4,b3w (U:=VV) h5,b3w (U:=VV) h6,trivial⟩
theorem d0r: ∀(zs:List VV.AV) (y:Statute),c5h zs=some y -> u4 (AEq (U:=VV)) zs (c57 y):=by
 intro zs y h
 obtain ⟨a0,zs,x0,rfl,h0,h⟩:=c9 h;obtain ⟨a1,zs,x1,rfl,h1,h⟩:=c9 h;obtain ⟨a2,zs,x2,rfl,h2,h⟩:=c9 h;obtain ⟨rfl,rfl⟩:=a1n h;exact ⟨c9n (U:=VV) h0,s9 (U:=VV) h1,b3w (U:=VV) h2,trivial⟩
theorem d9s: ∀(zs:List VV.AV) (y:State),d0o zs=some y -> u4 (AEq (U:=VV)) zs (d1l y):=by
 intro zs y h
 obtain ⟨a0,zs,x0,rfl,h0,h⟩:=c9 h;obtain ⟨a1,zs,x1,rfl,h1,h⟩:=c9 h;obtain ⟨rfl,rfl⟩:=a1n h;exact ⟨s9 (U:=VV) h0,b8t (U:=VV) h1,trivial⟩
theorem e01: ∀(zs:List VV.AV) (y:Rules),d3n zs=some y -> u4 (AEq (U:=VV)) zs (d3e y):=by
 intro zs y h
 obtain ⟨a0,zs,x0,rfl,h0,h⟩:=c9 h;obtain ⟨a1,zs,x1,rfl,h1,h⟩:=c9 h;obtain ⟨a2,zs,x2,rfl,h2,h⟩:=c9 h;obtain ⟨a3,zs,x3,rfl,h3,h⟩:=c9 h;obtain ⟨a4,zs,x4,rfl,h4,h⟩:=c9 h;obtain ⟨rfl,rfl⟩:=a1n h;exact ⟨s9 (U:=VV) h0,s9 (U:=VV) h1,s9 (U:=VV) h2,s9 (U:=VV) h3,b3w (U:=VV) h4,trivial⟩
theorem e4y: ∀(zs:List VV.AV) (y:Rate),d7q zs=some y -> u4 (AEq (U:=VV)) zs (d6h y):=by
 intro zs y h
 obtain ⟨a0,zs,x0,rfl,h0,h⟩:=c9 h;obtain ⟨a1,zs,x1,rfl,h1,h⟩:=c9 h;obtain ⟨a2,zs,x2,rfl,h2,h⟩:=c9 h;obtain ⟨rfl,rfl⟩:=a1n h;exact ⟨s9 (U:=VV) h0,s9 (U:=VV) h1,b8t (U:=VV) h2,trivial⟩
theorem e55: ∀(zs:List VV.AV) (y:Laws),d7k zs=some y -> u4 (AEq (U:=VV)) zs (d5u y):=by
 intro zs y h
 obtain ⟨a0,zs,x0,rfl,h0,h⟩:=c9 h;obtain ⟨a1,zs,x1,rfl,h1,h⟩:=c9 h;obtain ⟨a2,zs,x2,rfl,h2,h⟩:=c9 h;obtain ⟨rfl,rfl⟩:=a1n h;exact ⟨b3w (U:=VV) h0,b3w (U:=VV) h1,b3w (U:=VV) h2,trivial⟩
theorem b73: ∀(zs:List VV.AV) (y:pensionhand_Claim),b1w zs=some y -> u4 (AEq (U:=VV)) zs (b1x y):=by
 intro zs y h
 obtain ⟨a0,zs,x0,rfl,h0,h⟩:=c9 h;obtain ⟨a1,zs,x1,rfl,h1,h⟩:=c9 h;obtain ⟨a2,zs,x2,rfl,h2,h⟩:=c9 h;obtain ⟨a3,zs,x3,rfl,h3,h⟩:=c9 h;obtain ⟨a4,zs,x4,rfl,h4,h⟩:=c9 h;obtain ⟨a5,zs,x5,rfl,h5,h⟩:=c9 h;obtain ⟨rfl,rfl⟩:=a1n h;exact ⟨s9 (U:=VV) h0,s9 (U:=VV) h1,s9 (U:=VV) h2,s9 (U:=VV) h3,s9 (U:=VV) h4,s9 (U:=VV) h5,trivial⟩
theorem d9c: ∀(zs:List VV.AV) (y:Claim),d2b zs=some y -> u4 (AEq (U:=VV)) zs (d1a y):=by
 intro zs y h
 obtain ⟨a0,zs,x0,rfl,h0,h⟩:=c9 h;obtain ⟨a1,zs,x1,rfl,h1,h⟩:=c9 h;obtain ⟨a2,zs,x2,rfl,h2,h⟩:=c9 h;obtain ⟨a3,zs,x3,rfl,h3,h⟩:=c9 h;obtain ⟨a4,zs,x4,rfl,h4,h⟩:=c9 h;obtain ⟨a5,zs,x5,rfl,h5,h⟩:=c9 h;obtain ⟨rfl,rfl⟩:=a1n h;exact ⟨s9 (U:=VV) h0,s9 (U:=VV) h1,s9 (U:=VV) h2,s9 (U:=VV) h3,s9 (U:=VV) h4,s9 (U:=VV) h5,trivial⟩
theorem b6m: ∀(zs:List VV.AV) (y:pensionlaw26_Seeds),b08 zs=some y -> u4 (AEq (U:=VV)) zs (b0g y):=by
 intro zs y h
 obtain ⟨a0,zs,x0,rfl,h0,h⟩:=c9 h;obtain ⟨a1,zs,x1,rfl,h1,h⟩:=c9 h;obtain ⟨a2,zs,x2,rfl,h2,h⟩:=c9 h;obtain ⟨a3,zs,x3,rfl,h3,h⟩:=c9 h;obtain ⟨a4,zs,x4,rfl,h4,h⟩:=c9 h;obtain ⟨rfl,rfl⟩:=a1n h;exact ⟨b3w (U:=VV) h0,b3w (U:=VV) h1,b3w (U:=VV) h2,b3w (U:=VV) h3,s9 (U:=VV) h4,trivial⟩
theorem d4d: ∀(zs:List VV.AV) (y:Ar 12 Int),c7h zs=some y -> u4 (AEq (U:=VV)) zs (c7a y):=fun zs y h=>d1w (fun _ _ h=>s9 (U:=VV) h) h
theorem f3b: ∀(zs:List VV.AV) (y:Int),e9i zs=some y -> u4 (AEq (U:=VV)) zs (f01 y):=by
 intro zs y h
 obtain ⟨a0,zs,x0,rfl,h0,h⟩:=c9 h;obtain ⟨rfl,rfl⟩:=a1n h;exact ⟨s9 (U:=VV) h0,trivial⟩
theorem d4r: ∀(zs:List VV.AV) (y:Ar 6 Bool),c88 zs=some y -> u4 (AEq (U:=VV)) zs (c73 y):=fun zs y h=>d1w (fun _ _ h=>c9g (U:=VV) h) h
theorem c9w: ∀(zs:List VV.AV) (y:Ar 100 Bool),c3k zs=some y -> u4 (AEq (U:=VV)) zs (c34 y):=fun zs y h=>d1w (fun _ _ h=>c9g (U:=VV) h) h
theorem c0z: ∀(zs:List VV.AV) (y:decision_file),b5f zs=some y -> u4 (AEq (U:=VV)) zs (b5b y):=by
 intro zs y h
 obtain ⟨a0,zs,x0,rfl,h0,h⟩:=c9 h;obtain ⟨a1,zs,x1,rfl,h1,h⟩:=c9 h;obtain ⟨a2,zs,x2,rfl,h2,h⟩:=c9 h;obtain ⟨a3,zs,x3,rfl,h3,h⟩:=c9 h;obtain ⟨a4,zs,x4,rfl,h4,h⟩:=c9 h;obtain ⟨rfl,rfl⟩:=a1n h;exact ⟨b8t (U:=VV) h0,b3w (U:=VV) h1,b3w (U:=VV) h2,b3w (U:=VV) h3,s9 (U:=VV) h4,trivial⟩
theorem b9h: ∀(zs:List VV.AV) (y:decision_file),b42 zs=some y -> u4 (AEq (U:=VV)) zs (b4j y):=by
 intro zs y h
 obtain ⟨a0,zs,x0,rfl,h0,h⟩:=c9 h;obtain ⟨rfl,rfl⟩:=a1n h;exact ⟨g1v (U:=VV) h0,trivial⟩
theorem c27: ∀(zs:List VV.AV) (y:syntax_entry),b6v zs=some y -> u4 (AEq (U:=VV)) zs (b6z y):=by
 intro zs y h
 obtain ⟨a0,zs,x0,rfl,h0,h⟩:=c9 h;obtain ⟨a1,zs,x1,rfl,h1,h⟩:=c9 h;obtain ⟨rfl,rfl⟩:=a1n h;exact ⟨c9n (U:=VV) h0,s9 (U:=VV) h1,trivial⟩
theorem d7w: ∀(zs:List VV.AV) (y:Ar 2 Int),d1b zs=some y -> u4 (AEq (U:=VV)) zs (d0q y):=fun zs y h=>d1w (fun _ _ h=>s9 (U:=VV) h) h
theorem d11: ∀(zs:List VV.AV) (y:Binding),c5d zs=some y -> u4 (AEq (U:=VV)) zs (c5a y):=by
 intro zs y h
 obtain ⟨a0,zs,x0,rfl,h0,h⟩:=c9 h;obtain ⟨a1,zs,x1,rfl,h1,h⟩:=c9 h;obtain ⟨rfl,rfl⟩:=a1n h;exact ⟨c9n (U:=VV) h0,s9 (U:=VV) h1,trivial⟩
theorem d8v: ∀(zs:List VV.AV) (y:Gross),d1d zs=some y -> u4 (AEq (U:=VV)) zs (d0u y):=by
 intro zs y h
 obtain ⟨a0,zs,x0,rfl,h0,h⟩:=c9 h;obtain ⟨a1,zs,x1,rfl,h1,h⟩:=c9 h;obtain ⟨a2,zs,x2,rfl,h2,h⟩:=c9 h;obtain ⟨a3,zs,x3,rfl,h3,h⟩:=c9 h;obtain ⟨a4,zs,x4,rfl,h4,h⟩:=c9 h;obtain ⟨a5,zs,x5,rfl,h5,h⟩:=c9 h;obtain ⟨rfl,rfl⟩:=a1n h;exact ⟨s9 (U:=VV) h0,s9 (U:=VV) h1,s9 (U:=VV) h2,s9 (U:=VV) h3,s9 (U:=VV) h4,b8t (U:=VV) h5,trivial⟩
theorem d9k: ∀(zs:List VV.AV) (y:Value),d2u zs=some y -> u4 (AEq (U:=VV)) zs (d3l y):=by
 intro zs y h
 obtain ⟨a0,zs,x0,rfl,h0,h⟩:=c9 h;obtain ⟨a1,zs,x1,rfl,h1,h⟩:=c9 h;obtain ⟨a2,zs,x2,rfl,h2,h⟩:=c9 h;obtain ⟨rfl,rfl⟩:=a1n h;exact ⟨s9 (U:=VV) h0,c9g (U:=VV) h1,b8t (U:=VV) h2,trivial⟩
theorem e51: ∀(zs:List VV.AV) (y:Step),d6n zs=some y -> u4 (AEq (U:=VV)) zs (d7c y):=by
 intro zs y h
 obtain ⟨a0,zs,x0,rfl,h0,h⟩:=c9 h;obtain ⟨a1,zs,x1,rfl,h1,h⟩:=c9 h;obtain ⟨rfl,rfl⟩:=a1n h;exact ⟨c9n (U:=VV) h0,b8t (U:=VV) h1,trivial⟩
theorem e00: ∀(zs:List VV.AV) (y:Award),d0n zs=some y -> u4 (AEq (U:=VV)) zs (d0i y):=by
 intro zs y h
 obtain ⟨a0,zs,x0,rfl,h0,h⟩:=c9 h;obtain ⟨a1,zs,x1,rfl,h1,h⟩:=c9 h;obtain ⟨a2,zs,x2,rfl,h2,h⟩:=c9 h;obtain ⟨a3,zs,x3,rfl,h3,h⟩:=c9 h;obtain ⟨a4,zs,x4,rfl,h4,h⟩:=c9 h;obtain ⟨a5,zs,x5,rfl,h5,h⟩:=c9 h;obtain ⟨a6,zs,x6,rfl,h6,h⟩:=c9 h;obtain ⟨a7,zs,x7,rfl,h7,h⟩:=c9 h;obtain ⟨a8,zs,x8,rfl,h8,h⟩:=c9 h;obtain ⟨a9,zs,x9,rfl,h9,h⟩:=c9 h;obtain ⟨a10,zs,x10,rfl,h10,h⟩:=c9 h;obtain ⟨a11,zs,x11,rfl,h11,h⟩:=c9 h;obtain ⟨rfl,rfl⟩:=a1n h;exact ⟨s9 (U:=VV) h0,s9 (U:=VV) h1,s9 (U:=VV) h2,s9 (U:=VV) h3,c9g (U:=VV) h4,s9 (U:=VV) h5,s9 (U:=VV) h6,s9 (U:=VV) h7,s9 (U:=VV) h8,s9 (U:=VV) h9,s9 (U:=VV) h10,b3w (U:=VV) h11,trivial⟩
theorem e1r: ∀(zs:List VV.AV) (y:Heir),d64 zs=some y -> u4 (AEq (U:=VV)) zs (d75 y):=by
 intro zs y h
 obtain ⟨a0,zs,x0,rfl,h0,h⟩:=c9 h;obtain ⟨a1,zs,x1,rfl,h1,h⟩:=c9 h;obtain ⟨a2,zs,x2,rfl,h2,h⟩:=c9 h;obtain ⟨rfl,rfl⟩:=a1n h;exact ⟨s9 (U:=VV) h0,s9 (U:=VV) h1,s9 (U:=VV) h2,trivial⟩
theorem c1o: ∀(zs:List VV.AV) (y:decision_item),b5s zs=some y -> u4 (AEq (U:=VV)) zs (b5m y):=by
 intro zs y h
 obtain ⟨a0,zs,x0,rfl,h0,h⟩:=c9 h;obtain ⟨a1,zs,x1,rfl,h1,h⟩:=c9 h;obtain ⟨a2,zs,x2,rfl,h2,h⟩:=c9 h;obtain ⟨a3,zs,x3,rfl,h3,h⟩:=c9 h;obtain ⟨rfl,rfl⟩:=a1n h;exact ⟨b8t (U:=VV) h0,b8t (U:=VV) h1,b3w (U:=VV) h2,s9 (U:=VV) h3,trivial⟩
theorem c6k: ∀(zs:List VV.AV) (y:Deduction),c0v zs=some y -> u4 (AEq (U:=VV)) zs (c18 y):=by
 intro zs y h
 obtain ⟨a0,zs,x0,rfl,h0,h⟩:=c9 h;obtain ⟨a1,zs,x1,rfl,h1,h⟩:=c9 h;obtain ⟨a2,zs,x2,rfl,h2,h⟩:=c9 h;obtain ⟨rfl,rfl⟩:=a1n h;exact ⟨s9 (U:=VV) h0,s9 (U:=VV) h1,s9 (U:=VV) h2,trivial⟩
theorem e8w: ∀(zs:List VV.AV) (y:List Int),e2u zs=some y -> u4 (AEq (U:=VV)) zs (e2o y):=by
 intro zs y h
 obtain ⟨a0,zs,x0,rfl,h0,h⟩:=c9 h;obtain ⟨rfl,rfl⟩:=a1n h;exact ⟨b3w (U:=VV) h0,trivial⟩
theorem e7t: ∀(zs:List VV.AV) (y:Net),e37 zs=some y -> u4 (AEq (U:=VV)) zs (e0i y):=by
 intro zs y h
 obtain ⟨a0,zs,x0,rfl,h0,h⟩:=c9 h;obtain ⟨a1,zs,x1,rfl,h1,h⟩:=c9 h;obtain ⟨a2,zs,x2,rfl,h2,h⟩:=c9 h;obtain ⟨a3,zs,x3,rfl,h3,h⟩:=c9 h;obtain ⟨a4,zs,x4,rfl,h4,h⟩:=c9 h;obtain ⟨a5,zs,x5,rfl,h5,h⟩:=c9 h;obtain ⟨a6,zs,x6,rfl,h6,h⟩:=c9 h;obtain ⟨rfl,rfl⟩:=a1n h;exact ⟨s9 (U:=VV) h0,s9 (U:=VV) h1,s9 (U:=VV) h2,s9 (U:=VV) h3,s9 (U:=VV) h4,s9 (U:=VV) h5,s9 (U:=VV) h6,trivial⟩
theorem c6n: ∀(zs:List VV.AV) (y:FamilyPay),c0n zs=some y -> u4 (AEq (U:=VV)) zs (c1e y):=by
 intro zs y h
 obtain ⟨a0,zs,x0,rfl,h0,h⟩:=c9 h;obtain ⟨a1,zs,x1,rfl,h1,h⟩:=c9 h;obtain ⟨a2,zs,x2,rfl,h2,h⟩:=c9 h;obtain ⟨a3,zs,x3,rfl,h3,h⟩:=c9 h;obtain ⟨rfl,rfl⟩:=a1n h;exact ⟨s9 (U:=VV) h0,s9 (U:=VV) h1,s9 (U:=VV) h2,c9g (U:=VV) h3,trivial⟩
theorem uok:UOK VV where
 lay:=fun c x=>match c,x with
  | .c_u8,x=>rfl
  | .c_i64,x=>rfl
  | .c_str,x=>rfl
  | .c_bool,x=>rfl
  | .c_sSpan,x=>rfl
  | .c_sapi_Fact,x=>rfl
  | .c_spensionhand_Fact,x=>rfl
  | .c_A3_str,x=>c66 (U:=VV) x fun _=>rfl
  | .c_sToken,x=>rfl
  | .c_spensionref5_reader,x=>rfl
  | .c_u64,x=>rfl
  | .c_spensionref1_wide,x=>rfl
  | .c_sFraction,x=>rfl
  | .c_sExpr,x=>rfl
  | .c_sRounding,x=>rfl
  | .c_sCredit,x=>rfl
  | .c_sIndex,x=>rfl
  | .c_sLet,x=>rfl
  | .c_sGrant,x=>rfl
  | .c_sReduce,x=>rfl
  | .c_sVersion,x=>rfl
  | .c_sStatute,x=>rfl
  | .c_sState,x=>rfl
  | .c_sRules,x=>rfl
  | .c_sRate,x=>rfl
  | .c_sLaws,x=>rfl
  | .c_spensionhand_Claim,x=>rfl
  | .c_sClaim,x=>rfl
  | .c_spensionlaw26_Seeds,x=>rfl
  | .c_A12_i64,x=>c66 (U:=VV) x fun _=>rfl
  | .c_u32,x=>rfl
  | .c_A6_bool,x=>c66 (U:=VV) x fun _=>rfl
  | .c_A100_bool,x=>c66 (U:=VV) x fun _=>rfl
  | .c_sdecision_file,x=>rfl
  | .c_psdecision_file,x=>rfl
  | .c_ssyntax_entry,x=>rfl
  | .c_A2_i64,x=>c66 (U:=VV) x fun _=>rfl
  | .c_sBinding,x=>rfl
  | .c_sGross,x=>rfl
  | .c_sValue,x=>rfl
  | .c_sStep,x=>rfl
  | .c_sAward,x=>rfl
  | .c_sHeir,x=>rfl
  | .c_sdecision_item,x=>rfl
  | .c_sDeduction,x=>rfl
  | .c_li64,x=>rfl
  | .c_sNet,x=>rfl
  | .c_sFamilyPay,x=>rfl
 kind:=fun c x=>match c,x with
  | .c_u8,x=>rfl
  | .c_i64,x=>rfl
  | .c_str,x=>rfl
  | .c_bool,x=>rfl
  | .c_sSpan,x=>rfl
  | .c_sapi_Fact,x=>rfl
  | .c_spensionhand_Fact,x=>rfl
  | .c_A3_str,x=>b55 (U:=VV) x fun _=>rfl
  | .c_sToken,x=>rfl
  | .c_spensionref5_reader,x=>rfl
  | .c_u64,x=>rfl
  | .c_spensionref1_wide,x=>rfl
  | .c_sFraction,x=>rfl
  | .c_sExpr,x=>rfl
  | .c_sRounding,x=>rfl
  | .c_sCredit,x=>rfl
  | .c_sIndex,x=>rfl
  | .c_sLet,x=>rfl
  | .c_sGrant,x=>rfl
  | .c_sReduce,x=>rfl
  | .c_sVersion,x=>rfl
  | .c_sStatute,x=>rfl
  | .c_sState,x=>rfl
  | .c_sRules,x=>rfl
  | .c_sRate,x=>rfl
  | .c_sLaws,x=>rfl
  | .c_spensionhand_Claim,x=>rfl
  | .c_sClaim,x=>rfl
  | .c_spensionlaw26_Seeds,x=>rfl
  | .c_A12_i64,x=>b55 (U:=VV) x fun _=>rfl
  | .c_u32,x=>rfl
  | .c_A6_bool,x=>b55 (U:=VV) x fun _=>rfl
  | .c_A100_bool,x=>b55 (U:=VV) x fun _=>rfl
  | .c_sdecision_file,x=>rfl
  | .c_psdecision_file,x=>rfl
  | .c_ssyntax_entry,x=>rfl
  | .c_A2_i64,x=>b55 (U:=VV) x fun _=>rfl
  | .c_sBinding,x=>rfl
  | .c_sGross,x=>rfl
  | .c_sValue,x=>rfl
  | .c_sStep,x=>rfl
  | .c_sAward,x=>rfl
  | .c_sHeir,x=>rfl
  | .c_sdecision_item,x=>rfl
  | .c_sDeduction,x=>rfl
  | .c_li64,x=>rfl
  | .c_sNet,x=>rfl
  | .c_sFamilyPay,x=>rfl
 sum:=fun c=>by cases c<;>rfl
 sc:=fun c h=>by cases c<;>first | rfl | cases h
 mkl:=fun c zs y h=>match c,y,h with
  | .c_u8,y,h=>f7x zs y h
  | .c_i64,y,h=>f4r zs y h
  | .c_str,y,h=>f4d zs y h
  | .c_bool,y,h=>e6b zs y h
  | .c_sSpan,y,h=>e2e zs y h
  | .c_sapi_Fact,y,h=>c99 zs y h
  | .c_spensionhand_Fact,y,h=>b83 zs y h
  | .c_A3_str,y,h=>d8p zs y h
  | .c_sToken,y,h=>d9g zs y h
  | .c_spensionref5_reader,y,h=>b6j zs y h
  | .c_u64,y,h=>f4q zs y h
  | .c_spensionref1_wide,y,h=>b7j zs y h
  | .c_sFraction,y,h=>c8n zs y h
  | .c_sExpr,y,h=>e5c zs y h
  | .c_sRounding,y,h=>c9q zs y h
  | .c_sCredit,y,h=>d3x zs y h
  | .c_sIndex,y,h=>d9j zs y h
  | .c_sLet,y,h=>e68 zs y h
  | .c_sGrant,y,h=>d9a zs y h
  | .c_sReduce,y,h=>d4s zs y h
  | .c_sVersion,y,h=>d2o zs y h
  | .c_sStatute,y,h=>d0r zs y h
  | .c_sState,y,h=>d9s zs y h
  | .c_sRules,y,h=>e01 zs y h
  | .c_sRate,y,h=>e4y zs y h
  | .c_sLaws,y,h=>e55 zs y h
  | .c_spensionhand_Claim,y,h=>b73 zs y h
  | .c_sClaim,y,h=>d9c zs y h
  | .c_spensionlaw26_Seeds,y,h=>b6m zs y h
  | .c_A12_i64,y,h=>d4d zs y h
  | .c_u32,y,h=>f3b zs y h
  | .c_A6_bool,y,h=>d4r zs y h
  | .c_A100_bool,y,h=>c9w zs y h
  | .c_sdecision_file,y,h=>c0z zs y h
  | .c_psdecision_file,y,h=>b9h zs y h
  | .c_ssyntax_entry,y,h=>c27 zs y h
  | .c_A2_i64,y,h=>d7w zs y h
  | .c_sBinding,y,h=>d11 zs y h
  | .c_sGross,y,h=>d8v zs y h
  | .c_sValue,y,h=>d9k zs y h
  | .c_sStep,y,h=>e51 zs y h
  | .c_sAward,y,h=>e00 zs y h
  | .c_sHeir,y,h=>e1r zs y h
  | .c_sdecision_item,y,h=>c1o zs y h
  | .c_sDeduction,y,h=>c6k zs y h
  | .c_li64,y,h=>e8w zs y h
  | .c_sNet,y,h=>e7t zs y h
  | .c_sFamilyPay,y,h=>c6n zs y h
 flat:=fun c x h=>match c,x,h with
  | .c_u8,x,h=>rfl
  | .c_i64,x,h=>rfl
  | .c_str,x,h=>rfl
  | .c_bool,x,h=>rfl
  | .c_sSpan,x,h=>rfl
  | .c_sapi_Fact,x,h=>rfl
  | .c_spensionhand_Fact,x,h=>rfl
  | .c_A3_str,x,h=>b55 (U:=VV) x fun _=>rfl
  | .c_sToken,x,h=>rfl
  | .c_spensionref5_reader,x,h=>Bool.noConfusion (show false = true from h)
  | .c_u64,x,h=>rfl
  | .c_spensionref1_wide,x,h=>rfl
  | .c_sFraction,x,h=>rfl
  | .c_sExpr,x,h=>Bool.noConfusion (show false = true from h)
  | .c_sRounding,x,h=>rfl
  | .c_sCredit,x,h=>rfl
  | .c_sIndex,x,h=>rfl
  | .c_sLet,x,h=>Bool.noConfusion (show false = true from h)
  | .c_sGrant,x,h=>Bool.noConfusion (show false = true from h)
  | .c_sReduce,x,h=>Bool.noConfusion (show false = true from h)
  | .c_sVersion,x,h=>Bool.noConfusion (show false = true from h)
  | .c_sStatute,x,h=>Bool.noConfusion (show false = true from h)
  | .c_sState,x,h=>Bool.noConfusion (show false = true from h)
  | .c_sRules,x,h=>Bool.noConfusion (show false = true from h)
  | .c_sRate,x,h=>rfl
  | .c_sLaws,x,h=>Bool.noConfusion (show false = true from h)
  | .c_spensionhand_Claim,x,h=>rfl
  | .c_sClaim,x,h=>rfl
  | .c_spensionlaw26_Seeds,x,h=>Bool.noConfusion (show false = true from h)
  | .c_A12_i64,x,h=>b55 (U:=VV) x fun _=>rfl
  | .c_u32,x,h=>rfl
  | .c_A6_bool,x,h=>b55 (U:=VV) x fun _=>rfl
  | .c_A100_bool,x,h=>b55 (U:=VV) x fun _=>rfl
  | .c_sdecision_file,x,h=>Bool.noConfusion (show false = true from h)
  | .c_psdecision_file,x,h=>Bool.noConfusion (show false = true from h)
  | .c_ssyntax_entry,x,h=>rfl
  | .c_A2_i64,x,h=>b55 (U:=VV) x fun _=>rfl
  | .c_sBinding,x,h=>rfl
  | .c_sGross,x,h=>rfl
  | .c_sValue,x,h=>rfl
  | .c_sStep,x,h=>rfl
  | .c_sAward,x,h=>Bool.noConfusion (show false = true from h)
  | .c_sHeir,x,h=>rfl
  | .c_sdecision_item,x,h=>Bool.noConfusion (show false = true from h)
  | .c_sDeduction,x,h=>rfl
  | .c_li64,x,h=>Bool.noConfusion (show false = true from h)
  | .c_sNet,x,h=>rfl
  | .c_sFamilyPay,x,h=>rfl
 arr:=fun c x h=>match c,x,h with
  | .c_u8,x,h=>Bool.noConfusion (show false = true from h)
  | .c_i64,x,h=>Bool.noConfusion (show false = true from h)
  | .c_str,x,h=>Bool.noConfusion (show false = true from h)
  | .c_bool,x,h=>Bool.noConfusion (show false = true from h)
  | .c_sSpan,x,h=>Bool.noConfusion (show false = true from h)
  | .c_sapi_Fact,x,h=>Bool.noConfusion (show false = true from h)
  | .c_spensionhand_Fact,x,h=>Bool.noConfusion (show false = true from h)
  | .c_A3_str,x,h=>⟨rfl,x.h⟩
  | .c_sToken,x,h=>Bool.noConfusion (show false = true from h)
  | .c_spensionref5_reader,x,h=>Bool.noConfusion (show false = true from h)
  | .c_u64,x,h=>Bool.noConfusion (show false = true from h)
  | .c_spensionref1_wide,x,h=>Bool.noConfusion (show false = true from h)
  | .c_sFraction,x,h=>Bool.noConfusion (show false = true from h)
  | .c_sExpr,x,h=>Bool.noConfusion (show false = true from h)
  | .c_sRounding,x,h=>Bool.noConfusion (show false = true from h)
  | .c_sCredit,x,h=>Bool.noConfusion (show false = true from h)
  | .c_sIndex,x,h=>Bool.noConfusion (show false = true from h)
  | .c_sLet,x,h=>Bool.noConfusion (show false = true from h)
  | .c_sGrant,x,h=>Bool.noConfusion (show false = true from h)
  | .c_sReduce,x,h=>Bool.noConfusion (show false = true from h)
  | .c_sVersion,x,h=>Bool.noConfusion (show false = true from h)
  | .c_sStatute,x,h=>Bool.noConfusion (show false = true from h)
  | .c_sState,x,h=>Bool.noConfusion (show false = true from h)
  | .c_sRules,x,h=>Bool.noConfusion (show false = true from h)
  | .c_sRate,x,h=>Bool.noConfusion (show false = true from h)
  | .c_sLaws,x,h=>Bool.noConfusion (show false = true from h)
  | .c_spensionhand_Claim,x,h=>Bool.noConfusion (show false = true from h)
  | .c_sClaim,x,h=>Bool.noConfusion (show false = true from h)
  | .c_spensionlaw26_Seeds,x,h=>Bool.noConfusion (show false = true from h)
  | .c_A12_i64,x,h=>⟨rfl,x.h⟩
  | .c_u32,x,h=>Bool.noConfusion (show false = true from h)
  | .c_A6_bool,x,h=>⟨rfl,x.h⟩
  | .c_A100_bool,x,h=>⟨rfl,x.h⟩
  | .c_sdecision_file,x,h=>Bool.noConfusion (show false = true from h)
  | .c_psdecision_file,x,h=>Bool.noConfusion (show false = true from h)
  | .c_ssyntax_entry,x,h=>Bool.noConfusion (show false = true from h)
  | .c_A2_i64,x,h=>⟨rfl,x.h⟩
  | .c_sBinding,x,h=>Bool.noConfusion (show false = true from h)
  | .c_sGross,x,h=>Bool.noConfusion (show false = true from h)
  | .c_sValue,x,h=>Bool.noConfusion (show false = true from h)
  | .c_sStep,x,h=>Bool.noConfusion (show false = true from h)
  | .c_sAward,x,h=>Bool.noConfusion (show false = true from h)
  | .c_sHeir,x,h=>Bool.noConfusion (show false = true from h)
  | .c_sdecision_item,x,h=>Bool.noConfusion (show false = true from h)
  | .c_sDeduction,x,h=>Bool.noConfusion (show false = true from h)
  | .c_li64,x,h=>Bool.noConfusion (show false = true from h)
  | .c_sNet,x,h=>Bool.noConfusion (show false = true from h)
  | .c_sFamilyPay,x,h=>Bool.noConfusion (show false = true from h)
 ars:=fun c x i y h=>match c,x,y,h with
  | .c_u8,x,y,h=>Bool.noConfusion (show false = true from h)
  | .c_i64,x,y,h=>Bool.noConfusion (show false = true from h)
  | .c_str,x,y,h=>Bool.noConfusion (show false = true from h)
  | .c_bool,x,y,h=>Bool.noConfusion (show false = true from h)
  | .c_sSpan,x,y,h=>Bool.noConfusion (show false = true from h)
  | .c_sapi_Fact,x,y,h=>Bool.noConfusion (show false = true from h)
  | .c_spensionhand_Fact,x,y,h=>Bool.noConfusion (show false = true from h)
  | .c_A3_str,x,y,h=>rfl
  | .c_sToken,x,y,h=>Bool.noConfusion (show false = true from h)
  | .c_spensionref5_reader,x,y,h=>Bool.noConfusion (show false = true from h)
  | .c_u64,x,y,h=>Bool.noConfusion (show false = true from h)
  | .c_spensionref1_wide,x,y,h=>Bool.noConfusion (show false = true from h)
  | .c_sFraction,x,y,h=>Bool.noConfusion (show false = true from h)
  | .c_sExpr,x,y,h=>Bool.noConfusion (show false = true from h)
  | .c_sRounding,x,y,h=>Bool.noConfusion (show false = true from h)
  | .c_sCredit,x,y,h=>Bool.noConfusion (show false = true from h)
  | .c_sIndex,x,y,h=>Bool.noConfusion (show false = true from h)
  | .c_sLet,x,y,h=>Bool.noConfusion (show false = true from h)
  | .c_sGrant,x,y,h=>Bool.noConfusion (show false = true from h)
  | .c_sReduce,x,y,h=>Bool.noConfusion (show false = true from h)
  | .c_sVersion,x,y,h=>Bool.noConfusion (show false = true from h)
  | .c_sStatute,x,y,h=>Bool.noConfusion (show false = true from h)
  | .c_sState,x,y,h=>Bool.noConfusion (show false = true from h)
  | .c_sRules,x,y,h=>Bool.noConfusion (show false = true from h)
  | .c_sRate,x,y,h=>Bool.noConfusion (show false = true from h)
  | .c_sLaws,x,y,h=>Bool.noConfusion (show false = true from h)
  | .c_spensionhand_Claim,x,y,h=>Bool.noConfusion (show false = true from h)
  | .c_sClaim,x,y,h=>Bool.noConfusion (show false = true from h)
  | .c_spensionlaw26_Seeds,x,y,h=>Bool.noConfusion (show false = true from h)
  | .c_A12_i64,x,y,h=>rfl
  | .c_u32,x,y,h=>Bool.noConfusion (show false = true from h)
  | .c_A6_bool,x,y,h=>rfl
  | .c_A100_bool,x,y,h=>rfl
  | .c_sdecision_file,x,y,h=>Bool.noConfusion (show false = true from h)
  | .c_psdecision_file,x,y,h=>Bool.noConfusion (show false = true from h)
  | .c_ssyntax_entry,x,y,h=>Bool.noConfusion (show false = true from h)
  | .c_A2_i64,x,y,h=>rfl
  | .c_sBinding,x,y,h=>Bool.noConfusion (show false = true from h)
  | .c_sGross,x,y,h=>Bool.noConfusion (show false = true from h)
  | .c_sValue,x,y,h=>Bool.noConfusion (show false = true from h)
  | .c_sStep,x,y,h=>Bool.noConfusion (show false = true from h)
  | .c_sAward,x,y,h=>Bool.noConfusion (show false = true from h)
  | .c_sHeir,x,y,h=>Bool.noConfusion (show false = true from h)
  | .c_sdecision_item,x,y,h=>Bool.noConfusion (show false = true from h)
  | .c_sDeduction,x,y,h=>Bool.noConfusion (show false = true from h)
  | .c_li64,x,y,h=>Bool.noConfusion (show false = true from h)
  | .c_sNet,x,y,h=>Bool.noConfusion (show false = true from h)
  | .c_sFamilyPay,x,y,h=>Bool.noConfusion (show false = true from h)
 gt:=fun c x i y h=>match c,x,y,h with
  | .c_u8,x,y,h=>Bool.noConfusion (show false = true from h)
  | .c_i64,x,y,h=>Bool.noConfusion (show false = true from h)
  | .c_str,x,y,h=>Bool.noConfusion (show false = true from h)
  | .c_bool,x,y,h=>Bool.noConfusion (show false = true from h)
  | .c_sSpan,x,y,h=>Bool.noConfusion (show false = true from h)
  | .c_sapi_Fact,x,y,h=>Bool.noConfusion (show false = true from h)
  | .c_spensionhand_Fact,x,y,h=>Bool.noConfusion (show false = true from h)
  | .c_A3_str,x,y,h=>fun hg=>Ar.gt_ok hg
  | .c_sToken,x,y,h=>Bool.noConfusion (show false = true from h)
  | .c_spensionref5_reader,x,y,h=>Bool.noConfusion (show false = true from h)
  | .c_u64,x,y,h=>Bool.noConfusion (show false = true from h)
  | .c_spensionref1_wide,x,y,h=>Bool.noConfusion (show false = true from h)
  | .c_sFraction,x,y,h=>Bool.noConfusion (show false = true from h)
  | .c_sExpr,x,y,h=>Bool.noConfusion (show false = true from h)
  | .c_sRounding,x,y,h=>Bool.noConfusion (show false = true from h)
  | .c_sCredit,x,y,h=>Bool.noConfusion (show false = true from h)
  | .c_sIndex,x,y,h=>Bool.noConfusion (show false = true from h)
  | .c_sLet,x,y,h=>Bool.noConfusion (show false = true from h)
  | .c_sGrant,x,y,h=>Bool.noConfusion (show false = true from h)
  | .c_sReduce,x,y,h=>Bool.noConfusion (show false = true from h)
  | .c_sVersion,x,y,h=>Bool.noConfusion (show false = true from h)
  | .c_sStatute,x,y,h=>Bool.noConfusion (show false = true from h)
  | .c_sState,x,y,h=>Bool.noConfusion (show false = true from h)
  | .c_sRules,x,y,h=>Bool.noConfusion (show false = true from h)
  | .c_sRate,x,y,h=>Bool.noConfusion (show false = true from h)
  | .c_sLaws,x,y,h=>Bool.noConfusion (show false = true from h)
  | .c_spensionhand_Claim,x,y,h=>Bool.noConfusion (show false = true from h)
  | .c_sClaim,x,y,h=>Bool.noConfusion (show false = true from h)
  | .c_spensionlaw26_Seeds,x,y,h=>Bool.noConfusion (show false = true from h)
  | .c_A12_i64,x,y,h=>fun hg=>Ar.gt_ok hg
  | .c_u32,x,y,h=>Bool.noConfusion (show false = true from h)
  | .c_A6_bool,x,y,h=>fun hg=>Ar.gt_ok hg
  | .c_A100_bool,x,y,h=>fun hg=>Ar.gt_ok hg
  | .c_sdecision_file,x,y,h=>Bool.noConfusion (show false = true from h)
  | .c_psdecision_file,x,y,h=>Bool.noConfusion (show false = true from h)
  | .c_ssyntax_entry,x,y,h=>Bool.noConfusion (show false = true from h)
  | .c_A2_i64,x,y,h=>fun hg=>Ar.gt_ok hg
  | .c_sBinding,x,y,h=>Bool.noConfusion (show false = true from h)
  | .c_sGross,x,y,h=>Bool.noConfusion (show false = true from h)
  | .c_sValue,x,y,h=>Bool.noConfusion (show false = true from h)
  | .c_sStep,x,y,h=>Bool.noConfusion (show false = true from h)
  | .c_sAward,x,y,h=>Bool.noConfusion (show false = true from h)
  | .c_sHeir,x,y,h=>Bool.noConfusion (show false = true from h)
  | .c_sdecision_item,x,y,h=>Bool.noConfusion (show false = true from h)
  | .c_sDeduction,x,y,h=>Bool.noConfusion (show false = true from h)
  | .c_li64,x,y,h=>Bool.noConfusion (show false = true from h)
  | .c_sNet,x,y,h=>Bool.noConfusion (show false = true from h)
  | .c_sFamilyPay,x,y,h=>Bool.noConfusion (show false = true from h)
 by8:=fun c x h=>match c,x,h with
  | .c_u8,x,h=>rfl
  | .c_i64,x,h=>Bool.noConfusion (show false = true from h)
  | .c_str,x,h=>Bool.noConfusion (show false = true from h)
  | .c_bool,x,h=>Bool.noConfusion (show false = true from h)
  | .c_sSpan,x,h=>Bool.noConfusion (show false = true from h)
  | .c_sapi_Fact,x,h=>Bool.noConfusion (show false = true from h)
  | .c_spensionhand_Fact,x,h=>Bool.noConfusion (show false = true from h)
  | .c_A3_str,x,h=>Bool.noConfusion (show false = true from h)
  | .c_sToken,x,h=>Bool.noConfusion (show false = true from h)
  | .c_spensionref5_reader,x,h=>Bool.noConfusion (show false = true from h)
  | .c_u64,x,h=>Bool.noConfusion (show false = true from h)
  | .c_spensionref1_wide,x,h=>Bool.noConfusion (show false = true from h)
  | .c_sFraction,x,h=>Bool.noConfusion (show false = true from h)
  | .c_sExpr,x,h=>Bool.noConfusion (show false = true from h)
  | .c_sRounding,x,h=>Bool.noConfusion (show false = true from h)
  | .c_sCredit,x,h=>Bool.noConfusion (show false = true from h)
  | .c_sIndex,x,h=>Bool.noConfusion (show false = true from h)
  | .c_sLet,x,h=>Bool.noConfusion (show false = true from h)
  | .c_sGrant,x,h=>Bool.noConfusion (show false = true from h)
  | .c_sReduce,x,h=>Bool.noConfusion (show false = true from h)
  | .c_sVersion,x,h=>Bool.noConfusion (show false = true from h)
  | .c_sStatute,x,h=>Bool.noConfusion (show false = true from h)
  | .c_sState,x,h=>Bool.noConfusion (show false = true from h)
  | .c_sRules,x,h=>Bool.noConfusion (show false = true from h)
  | .c_sRate,x,h=>Bool.noConfusion (show false = true from h)
  | .c_sLaws,x,h=>Bool.noConfusion (show false = true from h)
  | .c_spensionhand_Claim,x,h=>Bool.noConfusion (show false = true from h)
  | .c_sClaim,x,h=>Bool.noConfusion (show false = true from h)
  | .c_spensionlaw26_Seeds,x,h=>Bool.noConfusion (show false = true from h)
  | .c_A12_i64,x,h=>Bool.noConfusion (show false = true from h)
  | .c_u32,x,h=>Bool.noConfusion (show false = true from h)
  | .c_A6_bool,x,h=>Bool.noConfusion (show false = true from h)
  | .c_A100_bool,x,h=>Bool.noConfusion (show false = true from h)
  | .c_sdecision_file,x,h=>Bool.noConfusion (show false = true from h)
  | .c_psdecision_file,x,h=>Bool.noConfusion (show false = true from h)
  | .c_ssyntax_entry,x,h=>Bool.noConfusion (show false = true from h)
  | .c_A2_i64,x,h=>Bool.noConfusion (show false = true from h)
  | .c_sBinding,x,h=>Bool.noConfusion (show false = true from h)
  | .c_sGross,x,h=>Bool.noConfusion (show false = true from h)
  | .c_sValue,x,h=>Bool.noConfusion (show false = true from h)
  | .c_sStep,x,h=>Bool.noConfusion (show false = true from h)
  | .c_sAward,x,h=>Bool.noConfusion (show false = true from h)
  | .c_sHeir,x,h=>Bool.noConfusion (show false = true from h)
  | .c_sdecision_item,x,h=>Bool.noConfusion (show false = true from h)
  | .c_sDeduction,x,h=>Bool.noConfusion (show false = true from h)
  | .c_li64,x,h=>Bool.noConfusion (show false = true from h)
  | .c_sNet,x,h=>Bool.noConfusion (show false = true from h)
  | .c_sFamilyPay,x,h=>Bool.noConfusion (show false = true from h)
 tabK:=fun w w2 h hb=>e7z (g:=5) (show Go.Proofs.Tryz.prog.globalNamed "internal/strconv.uint64pow10" =some 5 by kernel_rfl) h (hb 5 rfl)
end Go.PL
namespace Go.Proofs
open Go.Shelf
def Tryz.laysItoa_ren:Go.Shelf.Ren:=⟨fun | 171=>411 | 243=>472 | 246=>528 | 283=>561 | 284=>562 | 285=>563 | 286=>564 | 129=>234 | 317=>573 | 318=>574 | 319=>575 | 320=>576 | 337=>578 | 338=>579 | n=>n,fun | 3=>3 | 9=>9 | 2=>2 | 4=>4 | 171=>639 | 0=>0 | 53=>258 | 37=>147 | 5=>5 | 173=>641 | 212=>650 | 51=>334 | 20=>20 | 213=>651 | 46=>222 | 232=>653 | 233=>654 | n=>n,fun | 17=>5 | 18=>6 | 19=>7 | n=>n⟩
theorem Tryz.laysItoa:Go.Proofs.LaysM.n171 Tryz.prog Tryz.laysItoa_ren:={
 mixed:=by kernel_rfl
 f129:=Tryz.func234.trans (congrArg some (by kernel_rfl))
 f171:=Tryz.func411.trans (congrArg some (by kernel_rfl))
 f243:=Tryz.func472.trans (congrArg some (by kernel_rfl))
 f246:=Tryz.func528.trans (congrArg some (by kernel_rfl))
 f283:=Tryz.func561.trans (congrArg some (by kernel_rfl))
 f284:=Tryz.func562.trans (congrArg some (by kernel_rfl))
 f285:=Tryz.func563.trans (congrArg some (by kernel_rfl))
 f286:=Tryz.func564.trans (congrArg some (by kernel_rfl))
 f317:=Tryz.func573.trans (congrArg some (by kernel_rfl))
 f318:=Tryz.func574.trans (congrArg some (by kernel_rfl))
 f319:=Tryz.func575.trans (congrArg some (by kernel_rfl))
 f320:=Tryz.func576.trans (congrArg some (by kernel_rfl))
 f337:=Tryz.func578.trans (congrArg some (by kernel_rfl))
 f338:=Tryz.func579.trans (congrArg some (by kernel_rfl))
 t0:=Tryz.underlying0
 a0:=Tryz.isAgg0
 z0:=Tryz.sizeOf0
 v0:=Tryz.zeroValue0
 t2:=Tryz.underlying2
 a2:=Tryz.isAgg2
 z2:=Tryz.sizeOf2
 v2:=Tryz.zeroValue2
 t3:=Tryz.underlying3
 a3:=Tryz.isAgg3
 z3:=Tryz.sizeOf3
 v3:=Tryz.zeroValue3
 t4:=Tryz.underlying4
 a4:=Tryz.isAgg4
 z4:=Tryz.sizeOf4
 v4:=Tryz.zeroValue4
 t5:=Tryz.underlying5
 a5:=Tryz.isAgg5
 z5:=Tryz.sizeOf5
 v5:=Tryz.zeroValue5
 t9:=Tryz.underlying9
 a9:=Tryz.isAgg9
 z9:=Tryz.sizeOf9
 v9:=Tryz.zeroValue9
 t20:=Tryz.underlying20
 a20:=Tryz.isAgg20
 z20:=Tryz.sizeOf20
 v20:=Tryz.zeroValue20
 t37:=Tryz.underlying147
 a37:=Tryz.isAgg147
 z37:=Tryz.sizeOf147
 v37:=Tryz.zeroValue147
 t46:=Tryz.underlying222
 a46:=Tryz.isAgg222
 z46:=Tryz.sizeOf222
 v46:=Tryz.zeroValue222
 t51:=Tryz.underlying334
 a51:=Tryz.isAgg334
 z51:=Tryz.sizeOf334
 v51:=Tryz.zeroValue334
 t53:=Tryz.underlying258
 a53:=Tryz.isAgg258
 z53:=Tryz.sizeOf258
 v53:=Tryz.zeroValue258
 t171:=Tryz.underlying639
 a171:=Tryz.isAgg639
 z171:=Tryz.sizeOf639
 v171:=Tryz.zeroValue639
 t173:=Tryz.underlying641
 a173:=Tryz.isAgg641
 z173:=Tryz.sizeOf641
 v173:=Tryz.zeroValue641
 t212:=Tryz.underlying650
 a212:=Tryz.isAgg650
 z212:=Tryz.sizeOf650
 v212:=Tryz.zeroValue650
 t213:=Tryz.underlying651
 a213:=Tryz.isAgg651
 z213:=Tryz.sizeOf651
 t232:=Tryz.underlying653
 a232:=Tryz.isAgg653
 z232:=Tryz.sizeOf653
 v232:=Tryz.zeroValue653
 t233:=Tryz.underlying654
 a233:=Tryz.isAgg654
 z233:=Tryz.sizeOf654
 v233:=Tryz.zeroValue654
 g17:=by kernel_rfl
 g18:=by kernel_rfl
 g19:=by kernel_rfl
 i0:=by kernel_rfl
 i2:=by kernel_rfl
 i3:=by kernel_rfl
 i4:=by kernel_rfl
 i5:=by kernel_rfl
 i9:=by kernel_rfl
 i20:=by kernel_rfl
 i37:=by kernel_rfl
 i46:=by kernel_rfl
 i51:=by kernel_rfl
 i53:=by kernel_rfl
 i171:=by kernel_rfl
 i173:=by kernel_rfl
 i212:=by kernel_rfl
 i232:=by kernel_rfl
 i233:=by kernel_rfl
 m17:=by kernel_rfl
 m18:=by kernel_rfl
 m19:=by kernel_rfl}
end Go.Proofs
namespace Go.Proofs
open Go.RowKit Go.Shelf Go.PL Go.SX
attribute [local go_sem] Oper.semAt_some
def g0o (len:Nat) (f:Nat -> ByteArray×Int) (k:Nat):Array Value:= #[.int .i64 ((len-1-k:Nat):Int),.agg #[.string (f (len-1-k)).1,.int .i64 (f (len-1-k)).2]]
set_option maxRecDepth 100000 in
set_option maxHeartbeats 2000000 in
theorem f9w (F:Fence) (n:Nat) (h7:F.fn 530) (hro:F.round=none) (hn:1 <= n) (l Bs n₀ b off len cap:Nat) (f:Nat -> ByteArray×Int) (hlen:len <= 9223372036854775807) (hb:b<n₀) (J Jx:Nat -> World -> Prop)
  (hY: ∀k W1,J k W1 -> k<len -> YieldAt F (n-1) Tryz.prog l (g0o len f k) W1 fun e W'=>(e= .returned (.bool true) /\ J (k+1) W' /\ Below n₀ W1 W') \/ (e= .returned (.bool false) /\ Jx (k+1) W'))
  (W:World) (hBs:W.cell? ⟨Bs,0,none⟩=some (.slice (some ⟨b,off,none⟩) len cap)) (hBn:Bs<n₀)
  (hc: ∀j,j<len -> W.cell? ⟨b,off+j*2,none⟩=some (.string (f j).1) /\ W.cell? ⟨b,off+j*2+1,none⟩=some (.int .i64 (f j).2)) (h0:J 0 W):
  CallsIn F n Tryz.prog 530 #[.func (.yield l) #[] #[],.pointer (some ⟨Bs,0,none⟩)] W fun e W'=>(∃v,e= .returned v) /\ (J len W' \/ ∃k,k <= len /\ Jx k W'):=by
 refine callsIn_of_wp Tryz.func530 rfl h7 ?_ hro
 simp only [Tryz.ntmps530,List.size_toArray,List.length_cons,List.length_nil,Nat.reduceAdd,Nat.reduceSub,Array.replicate_succ,Array.replicate_zero,List.push_toArray,List.append_toArray,List.nil_append,List.cons_append]
 gi_wp2
 gi_loopw [3] (fun i wr=> ∃k r:Nat,k+r=len /\ i= .int .i64 ((r:Int)-1) /\ J k wr /\ Below n₀ W wr) (fun i _=>(intOf i+1).toNat)
 case atStart=>exact ⟨0,len,by omega,rfl,h0,Below.refl _ _⟩
 case round=>
  obtain ⟨k,r,hk,rfl,hJs,hnx⟩:=hrel
  have hBs':wr.cell? ⟨Bs,0,none⟩=some (.slice (some ⟨b,off,none⟩) len cap):=(hnx.cell (p:=⟨Bs,0,none⟩) hBn).trans hBs
  cases r with
  | succ m=>
    have hc1:wr.cell? ⟨b,off+m*2,none⟩=some (.string (f m).1):=(hnx.cell (p:=⟨b,off+m*2,none⟩) hb).trans (hc m (by omega)).1
    have hc2:wr.cell? ⟨b,off+m*2+1,none⟩=some (.int .i64 (f m).2):=(hnx.cell (p:=⟨b,off+m*2+1,none⟩) hb).trans (hc m (by omega)).2
    have hm:len-1-k=m:=by omega
    obtain ⟨fn,tmps,assign,body,hy,hR⟩:=hY k wr hJs (by omega)
    unfold g0o at hy
    rw [hm] at hy
    have e1:((m+1:Nat):Int)-1=(m:Int):=by omega
    rw [e1]
    gi_wp2
    refine hR.mono ?_
    rintro e W3 (⟨rfl,hJ3,hk3⟩ | ⟨rfl,hJx3⟩)
    ·gi_wp2
     go_roundw
     case rel=>exact ⟨k+1,m,by omega,rfl,hJ3,hnx.trans hk3⟩
     case measure=>simp [intOf]
    ·gi_wp2
     refine bodyPost_ret (results_none rfl _ _ _) rfl ?_
     exact ⟨⟨_,rfl⟩,.inr ⟨k+1,by omega,hJx3⟩⟩
  | zero=>
    obtain rfl:k=len:=by omega
    gi_wp2
    go_end0
    exact ⟨⟨_,rfl⟩,.inl hJs⟩
set_option maxRecDepth 100000 in
set_option maxHeartbeats 1000000 in
theorem d9t (F:Fence) (n:Nat) (h7:F.fn 530) (hro:F.round=none) (l Bs:Nat) (a:Option Addr) (cap:Nat) (J:Nat -> World -> Prop) (W:World) (hBs:W.cell? ⟨Bs,0,none⟩=some (.slice a 0 cap)) (h0:J 0 W):
  CallsIn F n Tryz.prog 530 #[.func (.yield l) #[] #[],.pointer (some ⟨Bs,0,none⟩)] W fun e W'=>(∃v,e= .returned v) /\ J 0 W':=by
 refine callsIn_of_wp Tryz.func530 rfl h7 ?_ hro
 simp only [Tryz.ntmps530,List.size_toArray,List.length_cons,List.length_nil,Nat.reduceAdd,Nat.reduceSub,Array.replicate_succ,Array.replicate_zero,List.push_toArray,List.append_toArray,List.nil_append,List.cons_append]
 gi_wp2
 gi_loopw [3] (fun i wr=>i= .int .i64 (-1) /\ J 0 wr) (fun _ _=>0)
 case atStart=>exact ⟨rfl,h0⟩
 case round=>
  obtain ⟨rfl,hJs⟩:=hrel
  gi_wp2
  go_end0
  exact ⟨⟨_,rfl⟩,hJs⟩
set_option maxHeartbeats 1000000 in
theorem g3p (F:Fence) (n:Nat) (h5:F.fn 477) (hro:F.round=none) (a:Option Addr) (len cap:Nat) (w:World):
  CallsIn F n Tryz.prog 477 #[.slice a len cap] w fun e w'=>e= .returned (.func (.func 530) #[] #[.pointer (some ⟨w.heap.size,0,none⟩)]) /\ w'=w.alloc (.cells #[.slice a len cap] 237):=by
 refine callsIn_of_wp Tryz.func477 rfl h5 ?_ hro
 simp only [Tryz.ntmps477,List.size_toArray,List.length_cons,List.length_nil,Nat.reduceAdd,Nat.reduceSub,Array.replicate_succ,Array.replicate_zero,List.push_toArray,List.append_toArray,List.nil_append,List.cons_append]
 gi_wp2
 go_ret
 exact ⟨rfl,rfl⟩
def f2u (n₀:Nat) (W:World) (sv:Value) (len:Nat) (f:Nat -> ByteArray×Int):Prop:=
 (∃a cap,sv= .slice a 0 cap /\ len=0) \/ ∃b off cap,sv= .slice (some ⟨b,off,none⟩) len cap /\ b<n₀ /\ ∀j,j<len -> W.cell? ⟨b,off+j*2,none⟩=some (.string (f j).1) /\ W.cell? ⟨b,off+j*2+1,none⟩=some (.int .i64 (f j).2)
theorem f2u.below {n₀ n:Nat} (hn:n₀ <= n) {A B:World} {sv:Value} {len:Nat} {f:Nat -> ByteArray×Int} (h:Below n A B):f2u n₀ A sv len f -> f2u n B sv len f
 | .inl e=> .inl e
 | .inr ⟨b,off,cap,e,hb,hc⟩=> .inr ⟨b,off,cap,e,by omega,fun j hj=>⟨(h.cell (p:=⟨b,off+j*2,none⟩) (by show b<n;omega)).trans (hc j hj).1,(h.cell (p:=⟨b,off+j*2+1,none⟩) (by show b<n;omega)).trans (hc j hj).2⟩⟩
theorem f9m (F:Fence) (n:Nat) (h7:F.fn 530) (hro:F.round=none) (hn:1 <= n) (n₀ Bs len:Nat) (f:Nat -> ByteArray×Int) (hlen:len <= 9223372036854775807) (sv:Value) (w:World) (hb:Bs<n₀) (hBs:w.cell? ⟨Bs,0,none⟩=some sv) (hI:f2u n₀ w sv len f)
  (l:Nat) (J Jx:Nat -> World -> Prop) (W:World) (hW:Below n₀ w W)
  (hY: ∀k W1,J k W1 -> k<len -> YieldAt F (n-1) Tryz.prog l (g0o len f k) W1 fun e W'=>(e= .returned (.bool true) /\ J (k+1) W' /\ Below n₀ W1 W') \/ (e= .returned (.bool false) /\ Jx (k+1) W'))
  (h0:J 0 W):CallsIn F n Tryz.prog 530 (#[.func (.yield l) #[] #[]]++ #[.pointer (some ⟨Bs,0,none⟩)]) W fun e W'=>(∃v,e= .returned v) /\ (J len W' \/ ∃k,k <= len /\ Jx k W'):=by
 have hc':=(hW.cell (p:=⟨Bs,0,none⟩) hb).trans hBs
 rcases hI.below (Nat.le_refl _) hW with ⟨a,cap,rfl,rfl⟩ | ⟨b,off,cap,rfl,hbb,hcs⟩
 ·exact (d9t F n h7 hro l Bs a cap J W hc' h0).mono fun e W' ⟨he,hj⟩=>⟨he,.inl hj⟩
 ·exact f9w F n h7 hro hn l Bs n₀ b off len cap f hlen hbb J Jx hY W hc' hb hcs h0
def lkA (nm:ByteArray) (len:Nat) (f:Nat -> ByteArray×Int) (r:Int×Bool):Prop:=
 (r=(0,false) /\ ∀j,j<len -> ((f j).1.toList==nm.toList)=false) \/ ∃k,k<len /\ ((f k).1.toList==nm.toList)=true /\ r=((f k).2,true) /\ ∀j,k<j -> j<len -> ((f j).1.toList==nm.toList)=false
theorem g3a {tmps:Array Value} {A B:Nat} {x:Int} {b:Bool} {W:World} (hA:tmps[4]?.getD undef= .pointer (some ⟨A,0,none⟩)) (hB:tmps[5]?.getD undef= .pointer (some ⟨B,0,none⟩)) (cA:W.cell? ⟨A,0,none⟩=some (.int .i64 x)) (cB:W.cell? ⟨B,0,none⟩=some (.bool b)):
  (results Tryz.f416 tmps).run Tryz.prog W= .ok (.tuple #[.int .i64 x,.bool b]) W:=by
 have e:Tryz.f416.results= #[.cell 4 3,.cell 5 4]:=by kernel_rfl
 have a3:=Tryz.isAgg3
 have a4:=Tryz.isAgg4
 simp only [results,e]
 simp [Sem.run_bind,Result.andThen,hA,hB,asAddr,loadVar,go_sem,cA,cB,a3,a4]
set_option maxRecDepth 100000 in
set_option maxHeartbeats 4000000 in
theorem d1f (nm:ByteArray) (d:Int) (len:Nat) (f:Nat -> ByteArray×Int) (hlen:len <= 9223372036854775807) (sv:Value) (w:World) (ok:Bool)
  (hI: ∀w0,Below w.heap.size w w0 -> Calls Tryz.prog 249 #[.string nm] w0 fun e w'=>e= .returned (.tuple #[.int .i64 d,.bool ok]) /\ Ext noG w0 w') (hB:f2u w.heap.size w sv len f):
  Calls Tryz.prog 416 #[.string nm,sv] w fun e w'=> ∃r:Int×Bool,e= .returned (.tuple #[.int .i64 r.1,.bool r.2]) /\ (ok=true -> r=(d,true)) /\ (ok=false -> lkA nm len f r) /\ Below w.heap.size w w' /\ w.drawn <= w'.drawn:=by
 obtain ⟨a,cap,rfl⟩: ∃a cap,sv= .slice a len cap:=by
  rcases hB with ⟨a,cap,rfl,rfl⟩ | ⟨b,off,cap,rfl,_⟩
  ·exact ⟨_,_,rfl⟩
  ·exact ⟨_,_,rfl⟩
 refine (callsIn_wide (n:=9)).1 ?_
 refine callsIn_of_wp_marks Tryz.func416 rfl trivial ?_ rfl
 simp only [Tryz.ntmps416,List.size_toArray,List.length_cons,List.length_nil,Nat.reduceAdd,Nat.reduceSub,Array.replicate_succ,Array.replicate_zero,List.push_toArray,List.append_toArray,List.nil_append,List.cons_append]
 have bN:=((Boxed.new w 9 (.string nm)).alloc (.cells #[.int .i64 0] 3)).alloc (.cells #[.bool false] 4)
 have bD:=(Boxed.new (w.alloc (.cells #[.string nm] 9)) 3 (.int .i64 0)).alloc (.cells #[.bool false] 4)
 have bO:=Boxed.new ((w.alloc (.cells #[.string nm] 9)).alloc (.cells #[.int .i64 0] 3)) 4 (.bool false)
 simp only [World.size_alloc] at bD bO
 have hB0:Below w.heap.size w (((w.alloc (.cells #[.string nm] 9)).alloc (.cells #[.int .i64 0] 3)).alloc (.cells #[.bool false] 4)):=(((Below.refl _ w).alloc (Nat.le_refl _) _).alloc (by simp) _).alloc (by simp;omega) _
 cases ok with
 | true=>
   gi_wp2_with (refine ⟨trivial,?_⟩;gi_at_call 249;refine (callsIn_wide.2 (hI _ hB0)).mono ?_;rintro e w1 ⟨rfl,hE⟩;have hN1:=Boxed.ex hE bN;have hD1:=Boxed.ex hE bD;have hO1:=Boxed.ex hE bO;have cD:=hD1.cell;have fD:=hD1.frozen;have cO:=hO1.cell;have fO:=hO1.frozen)
   have hD2:=(hD1.set (.int .i64 d)).other (B':=w.heap.size+1+1) (by omega) (.bool true)
   have hO2:=(hO1.other (B':=w.heap.size+1) (by omega) (.int .i64 d)).set (.bool true)
   refine ⟨_,g3a rfl rfl hD2.cell hO2.cell,d,rfl,rfl,?_,?_⟩
   ·exact ((hB0.trans (hE.below.mono (by simp;omega))).setCell (p:=⟨w.heap.size+1,0,none⟩) (by simp) _).setCell (p:=⟨w.heap.size+1+1,0,none⟩) (by simp;omega) _
   ·simpa using hE.drawn
 | false=>
   gi_wp2_with (refine ⟨trivial,?_⟩;first | (gi_at_call 249;refine (callsIn_wide.2 (hI _ hB0)).mono ?_;rintro e w1 ⟨rfl,hE⟩;have hN1:=Boxed.ex hE bN;have hD1:=Boxed.ex hE bD;have hO1:=Boxed.ex hE bO;have cD:=hD1.cell;have fD:=hD1.frozen;have cO:=hO1.cell;have fO:=hO1.frozen;have cN:=hN1.cell) | (gi_at_call 477;refine (g3p Fence.wide _ trivial rfl _ _ _ _).mono ?_;rintro e w2 ⟨rfl,rfl⟩))
   have hW1:w.heap.size+1+1<w1.heap.size:=hO1.lt
   have hbl1:Below w.heap.size w w1:=hB0.trans (hE.below.mono (by simp;omega))
   have hsz:(w1.alloc (.cells #[.slice a len cap] 237)).heap.size=w1.heap.size+1:=by simp
   have hbs:=Boxed.new w1 237 (.slice a len cap)
   have hN2:=hN1.alloc (.cells #[.slice a len cap] 237)
   have hD2:=hD1.alloc (.cells #[.slice a len cap] 237)
   have hO2:=hO1.alloc (.cells #[.slice a len cap] 237)
   have hbl2:Below w.heap.size w (w1.alloc (.cells #[.slice a len cap] 237)):=hbl1.alloc (by omega) _
   have hdr2:w.drawn <= (w1.alloc (.cells #[.slice a len cap] 237)).drawn:=by simpa using hE.drawn
   have hB2:=hB.below (Nat.le_of_lt (Nat.lt_of_lt_of_le (Nat.lt_succ_of_lt (Nat.lt_succ_of_lt (Nat.lt_of_le_of_lt (Nat.le_refl _) (Nat.lt_succ_self _)))) (Nat.le_refl _))) (Below.refl (w.heap.size+1+1+1) w)
   clear hB2
   obtain ⟨W0,hW0⟩: ∃W0,w1.alloc (.cells #[.slice a len cap] 237)=W0:=⟨_,rfl⟩
   rw [hW0] at hsz hbs hN2 hD2 hO2 hbl2 hdr2⊢
   have hB3:f2u W0.heap.size W0 (.slice a len cap) len f:=by
    rcases hB with h | ⟨b,off,c,e,hb,hc⟩
    ·exact .inl h
    ·exact .inr ⟨b,off,c,e,by omega,fun j hj=>⟨(hbl2.cell (p:=⟨b,off+j*2,none⟩) hb).trans (hc j hj).1,(hbl2.cell (p:=⟨b,off+j*2+1,none⟩) hb).trans (hc j hj).2⟩⟩
   clear hW0
   refine f7f (F:=Fence.wide) rfl (by omega) (gf:=530) (lb:= #[.pointer (some ⟨w1.heap.size,0,none⟩)]) rfl trivial (enters_of Tryz.func530 (by kernel_rfl) rfl)
    (g0o len f) len (Below W0.heap.size) (fun l J Jx W hW hY h0=>f9m Fence.wide _ trivial rfl (by omega) W0.heap.size w1.heap.size len f hlen _ W0 (by omega) hbs.cell hB3 l J Jx W hW hY h0)
    (fun _ _ _ h k=>h.trans k) (fun W l o o' hl ho _ _=>⟨rfl,rfl,rfl,by simp,fun k hk=>World.putObj_heap_other (by omega)⟩) (fun _=>rfl)
    (fun k W=>(Boxed W w.heap.size 9 (.string nm) /\ Boxed W (w.heap.size+1) 3 (.int .i64 0) /\ Boxed W (w.heap.size+1+1) 4 (.bool false)) /\ (∀j,len <= j+k -> j<len -> ((f j).1.toList==nm.toList)=false) /\ W0.heap.size <= W.heap.size /\ Below w.heap.size w W /\ w.drawn <= W.drawn)
    (fun k c W=>c= .ret /\ ∃r:Int×Bool,lkA nm len f r /\ (Boxed W (w.heap.size+1) 3 (.int .i64 r.1) /\ Boxed W (w.heap.size+1+1) 4 (.bool r.2)) /\ Below w.heap.size w W /\ w.drawn <= W.drawn)
    (fun k a' W=> ∃Bx,(w.heap.size+1+1<Bx /\ a'={tmps:= #[.string nm,.slice a len cap,.pointer (some ⟨w.heap.size,0,none⟩),undef,.pointer (some ⟨w.heap.size+1,0,none⟩),.pointer (some ⟨w.heap.size+1+1,0,none⟩),.int .i64 d,.bool false,
      undef,.pointer (some ⟨Bx,0,none⟩),.tuple #[.int .i64 d,.bool false],.string nm,.tuple #[.int .i64 d,.bool false],.int .i64 d,.bool false,.bool false,undef,.slice a len cap,
      .func (.func 530) #[] #[.pointer (some ⟨w1.heap.size,0,none⟩)],.int .i64 ((len-1-k:Nat):Int),.agg #[.string (f (len-1-k)).1,.int .i64 (f (len-1-k)).2],undef,undef,undef,undef,undef,undef],defers:=[]}) /\ d4m Bx 0 (.string (f (len-1-k)).1) W /\ d4m Bx 1 (.int .i64 (f (len-1-k)).2) W)
    (fun k=>(a7o.and (a7o.and a7o)).and (c1j.and (d82.and (c7o (Nat.le_refl _) (by omega)))))
    (fun k c=>c1j.and (StillR.ex fun r=>c1j.and ((a7o.and a7o).and (c7o (Nat.le_refl _) (by omega)))))
    (fun k a'=>StillR.ex fun Bx=>c1j.and (c6c.and c6c))
    ⟨⟨hN2,hD2,hO2⟩,fun j h1 h2=>by omega,Nat.le_refl _,hbl2,hdr2⟩ ?assign ?body ?done ?stop
   case assign=>
    rintro l k W K ⟨⟨b1,b2,b3⟩,hno,hsw,hbw,hdw⟩ hK
    simp only [g0o]
    gi_wp2
    exact hK _ _ ((KeepsOthers.alloc _ _).from _) ((Below.refl _ W).alloc hsw _) ⟨⟨b1.alloc _,b2.alloc _,b3.alloc _⟩,hno,(by simp;omega),hbw.alloc (by omega) _,hdw⟩ ⟨W.heap.size,⟨b3.lt,rfl⟩,d35 _ _ _ rfl,d35 _ _ _ rfl⟩
   case body=>
    rintro l k a' W ⟨⟨b1,b2,b3⟩,hno,hsw,hbw,hdw⟩ ⟨Bx,⟨hBx,rfl⟩,c0,c1⟩ hk
    have x0:=c0.1
    have x1:=c1.1
    have n0:=b1.cell
    have d0:=b2.cell
    have d1:=b2.frozen
    have o0:=b3.cell
    have o1:=b3.frozen
    gi_wp2
    ·rename_i hx
     have g2:=(b2.set (.int .i64 (f (len-1-k)).2)).other (B':=w.heap.size+1+1) (by omega) (.bool true)
     have g3:=(b3.other (B':=w.heap.size+1) (by omega) (.int .i64 (f (len-1-k)).2)).set (.bool true)
     refine ⟨((KeepsOthers.setCell _ _ _).trans (KeepsOthers.setCell _ _ _)).from _,rfl,((f (len-1-k)).2,true),.inr ⟨len-1-k,by omega,hx,rfl,fun j h1 h2=>hno j (by omega) h2⟩,⟨g2,g3⟩,?_,hdw⟩
     exact (hbw.setCell (p:=⟨w.heap.size+1,0,none⟩) (by simp) _).setCell (p:=⟨w.heap.size+1+1,0,none⟩) (by simp;omega) _
    ·rename_i hx
     refine ⟨KeepsFrom.refl _ _,Below.refl _ _,⟨b1,b2,b3⟩,fun j h1 h2=> ?_,hsw,hbw,hdw⟩
     by_cases hj:j=len-1-k
     ·subst hj;simpa using hx
     ·exact hno j (by omega) h2
   case done=>
    rintro D W hD ⟨⟨b1,b2,b3⟩,hno,hsw,hbw,hdw⟩ hKD
    have d0:=b2.cell
    have d1:=b2.frozen
    have o0:=b3.cell
    have o1:=b3.frozen
    gi_wp2
    have g2:=(b2.set (.int .i64 0)).other (B':=w.heap.size+1+1) (by omega) (.bool false)
    have g3:=(b3.other (B':=w.heap.size+1) (by omega) (.int .i64 0)).set (.bool false)
    have hK2:=((KeepsOthers.setCell W ⟨w.heap.size+1,0,none⟩ (.int .i64 0)).trans (KeepsOthers.setCell _ ⟨w.heap.size+1+1,0,none⟩ (.bool false))).same _ _ hKD rfl
    have h4:=a7o.pu (B:=w.heap.size) _ D _ (.deferred none) (by omega) hK2 rfl g2
    have h5:=a7o.pu (B:=w.heap.size) _ D _ (.deferred none) (by omega) hK2 rfl g3
    refine ⟨by simp,.inl ⟨_,_,rfl,run_takeDeferred hK2,⟨_,g3a rfl rfl h4.cell h5.cell,0,.inl ⟨rfl,.inl ⟨rfl,fun j hj=>hno j (by omega) hj⟩,?_,hdw⟩⟩⟩⟩
    exact ((hbw.setCell (p:=⟨w.heap.size+1,0,none⟩) (by simp) _).setCell (p:=⟨w.heap.size+1+1,0,none⟩) (by simp;omega) _).trans ⟨rfl,rfl,rfl,by simp,fun k hk=>World.putObj_heap_other (by omega)⟩
   case stop=>
    rintro D k c W hD hk ⟨rfl,r,hr,⟨b2,b3⟩,hbw,hdw⟩ hKD
    gi_wp2
    have h4:=a7o.pu (B:=w.heap.size) _ D _ (.deferred none) (by omega) hKD rfl b2
    have h5:=a7o.pu (B:=w.heap.size) _ D _ (.deferred none) (by omega) hKD rfl b3
    refine ⟨by simp,.inl ⟨_,_,rfl,run_takeDeferred hKD,⟨_,g3a rfl rfl h4.cell h5.cell,?_⟩⟩⟩
    obtain ⟨r1,r2⟩:=r
    have hb':Below w.heap.size w (W.putObj D (.deferred none)):=hbw.trans ⟨rfl,rfl,rfl,by simp,fun k hk=>World.putObj_heap_other (by omega)⟩
    cases r2 with
    | true=>exact ⟨r1,.inr ⟨rfl,hr,hb',hdw⟩⟩
    | false=>exact ⟨r1,.inl ⟨rfl,hr,hb',hdw⟩⟩
theorem f2r {l:List Binding} {nm:ByteArray} {f:Nat -> ByteArray×Int} (hf: ∀j (b:Binding),l[j]? =some b -> f j=(b.Name,b.Dim)) {r:Int×Bool} (h:lkA nm l.length f r):
  r=(match l.reverse.find? fun b=>b.Name.toList==nm.toList with | some b=>(b.Dim,true) | none=>(0,false)):=by
 have none_of: ∀(m:List Binding),(∀b∈m,(b.Name.toList==nm.toList)=false) -> m.find? (fun b=>b.Name.toList==nm.toList)=none:=fun m hm=>List.find?_eq_none.2 fun b hb=>by rw [hm b hb];decide
 rcases h with ⟨rfl,h⟩ | ⟨k,hk,hp,rfl,h⟩
 ·rw [none_of _ fun b hb=>by
   obtain ⟨j,hj⟩:=List.getElem?_of_mem (List.mem_reverse.1 hb)
   have h1:=h j (List.getElem?_eq_some_iff.1 hj).1
   rw [hf j b hj] at h1
   exact h1]
 ·have e:l=l.take k++l[k]::l.drop (k+1):=by rw [<- List.drop_eq_getElem_cons hk,List.take_append_drop]
  have hk':l[k]? =some l[k]:=List.getElem?_eq_getElem hk
  have hfk:=hf k _ hk'
  have e2:l.reverse=(l.drop (k+1)).reverse++(l[k]::(l.take k).reverse):=by
   conv=>lhs;rw [e]
   simp
  rw [e2,List.find?_append,none_of _ fun b hb=>by
   obtain ⟨j,hj⟩:=List.getElem?_of_mem (List.mem_reverse.1 hb)
   rw [List.getElem?_drop] at hj
   have h1:=h (k+1+j) (by omega) (List.getElem?_eq_some_iff.1 hj).1
   rw [hf _ b hj] at h1
   exact h1]
  rw [hfk] at hp⊢
  have hp:(l[k].Name.toList==nm.toList)=true:=hp
  simp [List.find?_cons,hp]
theorem d4u (h:SX.Spec Tryz.prog 249 (⟨⟨[.v .c_str],[.v .c_i64,.v .c_bool]⟩,Int×Bool,fun x=>a76 x.1,w2,none⟩:Fent VV)):
  SX.Spec Tryz.prog 416 (⟨⟨[.v .c_str,.ls .c_sBinding],[.v .c_i64,.v .c_bool]⟩,Int×Bool,fun x=>a61 x.1 x.2.1,fun b=>((b.1,b.2,()),()),none⟩:Fent VV):=by
 intro xs r hr Z G w us hl hR
 match us,hl with
 | [u1,u2],_=>
   have s0:u1= .string xs.1:=hR.slot 0
   have s1:s8 (Rp (U:=VV) .c_sBinding) (cx Z (c77 [u1,u2]) (a0p (U:=VV) 0 [PK.v .c_str,PK.ls .c_sBinding] xs) w).G w u2 xs.2.1:=hR.slot 1
   have hr:a61 xs.1 xs.2.1=some r:=hr
   unfold a61 at hr
   cases hi:a76 xs.1 with
   | none=>rw [hi] at hr;cases hr
   | some v=>
     obtain ⟨d,ok⟩:=v
     rw [hi,Option.bind_some] at hr
     have htb: ∀w0,Below w.heap.size w w0 -> VV.tab w0 /\ ∀b,VV.tb b -> b<w0.heap.size:=fun w0 hb=>⟨uok.tabK _ _ hR.tab.1 fun b h1=>hb.block b (hR.tab.2 b h1).1,fun b h1=>Nat.lt_of_lt_of_le (hR.tab.2 b h1).1 hb.size⟩
     have hI: ∀w0,Below w.heap.size w w0 -> Calls Tryz.prog 249 #[.string xs.1] w0 fun e w'=>e= .returned (.tuple #[.int .i64 d,.bool ok]) /\ Ext noG w0 w':=fun w0 hb=>by
      refine (c7c uok h (xs:=(xs.1,())) (b:=(d,ok)) hi (htb w0 hb) (us:=[.string xs.1]) rfl (by kernel_rfl) [[]] (by simp) (fun Z' hz=>⟨⟨rfl,rfl⟩,trivial⟩)).mono ?_
      rintro e w' ⟨vs,Z',he,hE,hRR⟩
      match vs,hRR with
      | [v1,v2],⟨h1,h2,_⟩=>
        have h1:v1= .int .i64 d:=h1
        have h2:v2= .bool ok:=h2
        exact ⟨by rw [he,h1,h2];rfl,hE⟩
     let f:Nat -> ByteArray×Int:=fun j=>match xs.2.1[j]? with | some b=>(b.Name,b.Dim) | none=>(⟨#[]⟩,0)
     have hf: ∀j (b:Binding),xs.2.1[j]? =some b -> f j=(b.Name,b.Dim):=fun j b hj=>by simp only [f];erw [hj]
     have hlen:xs.2.1.length <= 9223372036854775807:=by
      rcases s1 with ⟨_,e⟩ | ⟨_,cap,_,h1,h2,_⟩
      ·rw [e];decide
      ·have:maxLen=9223372036854775807:=by decide
       omega
     have hB:f2u w.heap.size w u2 xs.2.1.length f:=by
      rcases s1 with ⟨e1,e2⟩ | ⟨a,cap,e1,h1,h2,h3⟩
      ·exact .inl ⟨none,0,e1,by rw [e2];rfl⟩
      ·rcases Nat.eq_zero_or_pos xs.2.1.length with h0 | h0
       ·exact .inl ⟨some a,cap,by rw [e1,h0],h0⟩
       ·have key: ∀j,j<xs.2.1.length -> a.block<w.heap.size /\ w.cell? (a.add (j*2))=some (.string (f j).1) /\ w.cell? (a.add (j*2+1))=some (.int .i64 (f j).2):=by
         intro j hj
         obtain ⟨cs,hrep,hb,_,hca⟩:=h3 j _ (List.getElem?_eq_getElem hj)
         obtain ⟨_,css,rfl,hall⟩:=b5u.1 hrep
         rw [hf j _ (List.getElem?_eq_getElem hj)]
         match css,hall with
         | [c0,c1],⟨g0,g1,_⟩=>
           have g0:c0=[.string xs.2.1[j].Name]:=g0
           have g1:c1=[.int .i64 xs.2.1[j].Dim]:=g1
           subst g0;subst g1
           have x0:=hca 0 _ rfl
           have x1:=hca 1 _ rfl
           rw [Deep.add_add] at x0 x1
           exact ⟨hb,x0,x1⟩
        have hsp:a.spot=none:=by
         have h9:=(key 0 h0).2.1
         cases hs:a.spot with
         | none=>rfl
         | some q=>
           exfalso;revert h9;simp [World.cell?,Addr.add,hs]
           split<;>simp
        obtain ⟨ab,ao,ap⟩:=a
        cases hsp
        exact .inr ⟨ab,ao,cap,e1,(key 0 h0).1,fun j hj=>(by
         have h:=(key j hj).2
         have e: ∀n,(⟨ab,ao,none⟩:Addr).add n=⟨ab,ao+n,none⟩:=fun n=>by
          unfold Addr.add
          split
          ·rename_i h0;rw [show n=0 from by simpa using h0];rfl
          ·rfl
         rw [e,e] at h
         exact h)⟩
     subst s0
     show Calls Tryz.prog 416 #[.string xs.1,u2] w _
     refine (d1f xs.1 d xs.2.1.length f hlen u2 w ok hI hB).mono ?_
     rintro e w' ⟨q,he,hq1,hq2,hbe,hdr⟩
     have hqr:q=r:=by
      cases ok with
      | true=>rw [if_pos rfl] at hr;exact (hq1 rfl).trans (Option.some.inj hr)
      | false=>rw [if_neg (fun h:false=true=>by cases h)] at hr;exact (f2r hf (hq2 rfl)).trans (Option.some.inj hr)
     subst hqr
     exact ⟨_,he,⟨Z,[.int .i64 q.1,.bool q.2],[.string xs.1,u2],rfl,fun _ h=>h,fun _ h=> .inl h,⟨hbe.os,hbe.tape,hbe.output,hbe.size,fun b hb _=>hbe.block b hb,hdr⟩,rfl,fun _ _ _ _=>rfl,⟨rfl,rfl,trivial⟩,trivial,(fun v hv=>by cases hv),(fun i j v v' b _ hv=>by cases hv)⟩⟩
end Go.Proofs
namespace Go.PL
open Go Go.SX Go.Proofs
theorem mixed:Tryz.prog.follows .mixedOrders=true:=by kernel_rfl
noncomputable section
def f0p:Fent VV:=⟨⟨[.ls .c_u8,.ls .c_u8],[.v .c_i64]⟩,Int,fun x=>b3s x.1 x.2.1,fun n=>((n,()),()),none⟩
theorem f8p:d3w Tryz.prog 138 f0p:=e8k (U:=VV) (a:= .c_u8) (c:= .c_i64) uok (fn:=Tryz.f138) (by kernel_rfl) (by kernel_rfl) (by kernel_rfl) (by kernel_rfl) (by kernel_rfl) rfl (fun n=>n) (fun _=>rfl)
def f0q:Fent VV:=⟨⟨[.v .c_str,.v .c_u8],[.v .c_i64]⟩,Int,fun x=>a5y x.1 x.2.1,fun n=>((n,()),()),none⟩
theorem f6z:d3w Tryz.prog 406 f0q:=e72 (U:=VV) (a:= .c_str) (b:= .c_u8) (c:= .c_i64) (fn:=Tryz.f406) (by kernel_rfl) (by kernel_rfl) (by kernel_rfl) (by kernel_rfl) (by kernel_rfl) (fun x=>x) (fun x=>x) (fun n=>n) (fun _=>rfl) (fun _=>rfl) (fun _=>rfl)
def f08:Fent VV:=⟨⟨[.v .c_i64],[.v .c_str]⟩,ByteArray,fun x=>strconv_Itoa x.1,fun b=>((b,()),()),none⟩
theorem f8q:SX.Spec Tryz.prog 411 f08:=e59 (U:=VV) (a:= .c_i64) (c:= .c_str) Tryz.laysItoa (fun _ h=>h) (fun x=>x) (fun _=>rfl) (fun x=>x) (fun _=>rfl)
def K411:Kn Tryz.prog VV:=⟨411,f08,knS rfl ⟨f8q,fun _ _=>by kernel_rfl⟩⟩
def K138:Kn Tryz.prog VV:=⟨138,f0p,knX rfl f8p⟩
def K406:Kn Tryz.prog VV:=⟨406,f0q,knX rfl f6z⟩
abbrev mk:= @kn Tryz.prog VV uok mixed
def K18:Kn Tryz.prog VV:=mk 18 Tryz.f18 ⟨[.v .c_i64,.v .c_i64],[.v .c_i64]⟩ (fun x=>b6 x.1 x.2.1) w1 u1 .n [] (by kernel_rfl) (by kernel_rfl) (fun _=>rfl) fun x=>by kernel_rfl
def K35:Kn Tryz.prog VV:=mk 35 Tryz.f35 ⟨[.ls .c_i64,.v .c_i64],[.v .c_i64]⟩ (fun x=>c8 x.1 x.2.1) w1 u1 .n [K18] (by kernel_rfl) (by kernel_rfl) (fun _=>rfl) fun x=>by kernel_rfl
def K13:Kn Tryz.prog VV:=mk 13 Tryz.f13 ⟨[.ls .c_i64],[.ow 57 .c_sapi_Fact]⟩ (fun x=>a7r x.1) w1 u1 (sk 2 (.s (.s .n (.l [0] [] [.ow 3 1 57 .c_sapi_Fact,.v 4 .c_i64] .n)) .n)) [K18,K35] (by kernel_rfl) (by kernel_rfl) (fun _=>rfl) fun x=>by kernel_rfl
def K63:Kn Tryz.prog VV:=mk 63 Tryz.f63 ⟨[.v .c_i64],[.v .c_i64]⟩ (fun x=>a6z x.1) w1 u1 .n [K18] (by kernel_rfl) (by kernel_rfl) (fun _=>rfl) fun x=>by kernel_rfl
def K64:Kn Tryz.prog VV:=mk 64 Tryz.f64 ⟨[.v .c_i64],[.v .c_str]⟩ (fun x=>a5m x.1) w1 u1 .n [] (by kernel_rfl) (by kernel_rfl) (fun _=>rfl) fun x=>by kernel_rfl
def K36:Kn Tryz.prog VV:=mk 36 Tryz.f36 ⟨[.v .c_spensionhand_Fact],[.v .c_sapi_Fact]⟩ (fun x=>a8l x.1) w1 u1 (sk 5 (.j [] [.bx 1 1 79 .c_spensionhand_Fact,.bx 2 2 57 .c_sapi_Fact,.bx 3 3 57 .c_sapi_Fact,.v 4 .c_i64,.v 5 .c_i64] .n (.s .n (.s (.s .n (.l [4,5,6] [] [.bx 1 1 79 .c_spensionhand_Fact,.bx 2 2 57 .c_sapi_Fact,.bx 3 3 57 .c_sapi_Fact,.v 7 .c_i64] .n)) .n)))) [K18,K63,K64] (by kernel_rfl) (by kernel_rfl) (fun _=>rfl) fun x=>by kernel_rfl
def K14:Kn Tryz.prog VV:=mk 14 Tryz.f14 ⟨[.ls .c_spensionhand_Fact],[.ow 57 .c_sapi_Fact]⟩ (fun x=>a7s x.1) w1 u1 (sk 2 (.s (.s .n (.l [0] [] [.ow 3 1 57 .c_sapi_Fact,.v 4 .c_i64] .n)) .n)) [K36] (by kernel_rfl) (by kernel_rfl) (fun _=>rfl) fun x=>by kernel_rfl
def K73:Kn Tryz.prog VV:=mk 73 Tryz.f73 ⟨[.v .c_i64],[.v .c_str]⟩ (fun x=>k6 x.1) w1 u1 (sk 2 (.s (.l [] [] [.v 0 .c_i64,.v 3 .c_str] .n) .n)) [] (by kernel_rfl) (by kernel_rfl) (fun _=>rfl) fun x=>by kernel_rfl
def K136:Kn Tryz.prog VV:=mk 136 Tryz.f136 ⟨[.v .c_i64],[.v .c_str]⟩ (fun x=>u9 x.1) w1 u1 .n [K73] (by kernel_rfl) (by kernel_rfl) (fun _=>rfl) fun x=>by kernel_rfl
def K74:Kn Tryz.prog VV:=mk 74 Tryz.f74 ⟨[.v .c_str,.ls .c_i64,.v .c_i64],[.v .c_str]⟩ (fun x=>a16 x.1 x.2.1 x.2.2.1) w1 u1 (sk 3 (.j [] [.ls 1 .c_i64,.v 2 .c_i64,.v 7 .c_str,.v 8 .c_str] .n (.s .n (.j [] [.ls 1 .c_i64,.v 2 .c_i64,.v 7 .c_str,.v 8 .c_str] .n (.j [] [.ls 1 .c_i64,.v 2 .c_i64,.v 7 .c_str,.v 8 .c_str] .n (.s .n (.s .n (.s .n (.s .n (.j [] [.ls 1 .c_i64,.v 2 .c_i64,.v 8 .c_str] .n (.s .n (.s .n (.j [] [.ls 1 .c_i64,.v 2 .c_i64,.v 8 .c_str] .n .n))))))))))))) [K18,K35,K73,K136] (by kernel_rfl) (by kernel_rfl) (fun _=>rfl) fun x=>by kernel_rfl
def K38:Kn Tryz.prog VV:=mk 38 Tryz.f38 ⟨[.v .c_i64,.ls .c_i64],[.v .c_str]⟩ (fun x=>a18 x.1 x.2.1) w1 u1 (sk 3 (.j [] [.v 0 .c_i64,.ls 1 .c_i64,.v 6 .c_str] .n .n)) [K18,K35,K73,K74] (by kernel_rfl) (by kernel_rfl) (fun _=>rfl) fun x=>by kernel_rfl
def K308:Kn Tryz.prog VV:=mk 308 Tryz.f308 ⟨[.v .c_str,.v .c_i64],[.v .c_i64]⟩ (fun x=>a65 x.1 x.2.1) w1 u1 (sk 2 (.s (.l [0] [] [.v 1 .c_i64,.v 5 .c_bool] .n) .n)) [] (by kernel_rfl) (by kernel_rfl) (fun _=>rfl) fun x=>by kernel_rfl
def g24:Kn Tryz.prog VV:=mk 309 Tryz.f309 ⟨[.v .c_u8],[.v .c_bool]⟩ (fun x=>a3n x.1) w1 u1 .n [] (by kernel_rfl) (by kernel_rfl) (fun _=>rfl) fun x=>by kernel_rfl
def g1f:Kn Tryz.prog VV:=mk 311 Tryz.f311 ⟨[.v .c_u8],[.v .c_bool]⟩ (fun x=>a31 x.1) w1 u1 .n [] (by kernel_rfl) (by kernel_rfl) (fun _=>rfl) fun x=>by kernel_rfl
def K310:Kn Tryz.prog VV:=mk 310 Tryz.f310 ⟨[.v .c_str,.v .c_i64,.v .c_bool],[.v .c_i64]⟩ (fun x=>a4i x.1 x.2.1 x.2.2.1) w1 u1 (sk 2 (.s (.l [0,1,2] [] [.v 7 .c_i64] .n) .n)) [g24,g1f] (by kernel_rfl) (by kernel_rfl) (fun _=>rfl) fun x=>by kernel_rfl
def K211:Kn Tryz.prog VV:=mk 211 Tryz.f211 ⟨[.v .c_str],[.v .c_str,.v .c_str,.v .c_i64,.v .c_bool]⟩ (fun x=>a0o x.1) (fun b=>((b.1,(b.2.1,(b.2.2.1,(b.2.2.2,())))),())) (fun p=>(p.1.1,p.1.2.1,p.1.2.2.1,p.1.2.2.2.1)) (sk 2 (.j [] [.v 0 .c_str,.v 6 .c_i64] .n (.s .n (.s (.s .n (.l [0,6] [] [.v 8 .c_i64,.v 9 .c_i64] .n)) (.s .n (.j [] [.v 6 .c_i64,.v 10 .c_str,.v 11 .c_str] .n (.s (.s .n (.l [6,10,11] [] [.v 12 .c_i64] .n)) .n))))))) [g1f] (by kernel_rfl) (by kernel_rfl) (fun _=>rfl) fun x=>by kernel_rfl
def K315:Kn Tryz.prog VV:=mk 315 Tryz.f315 ⟨[.v .c_str],[.v .c_i64,.v .c_bool]⟩ (fun x=>a7n x.1) w2 u2 (sk 2 (.s (.s .n (.l [0] [] [.v 4 .c_i64,.v 5 .c_i64] .n)) .n)) [] (by kernel_rfl) (by kernel_rfl) (fun _=>rfl) fun x=>by kernel_rfl
def K471:Kn Tryz.prog VV:=mk 471 Tryz.f471 ⟨[.v .c_i64],[.v .c_bool]⟩ (fun x=>b6w x.1) w1 u1 .n [] (by kernel_rfl) (by kernel_rfl) (fun _=>rfl) fun x=>by kernel_rfl
def K399:Kn Tryz.prog VV:=mk 399 Tryz.f399 ⟨[.v .c_i64,.v .c_i64],[.v .c_i64]⟩ (fun x=>a9z x.1 x.2.1) w1 u1 .n [K471] (by kernel_rfl) (by kernel_rfl) (fun _=>rfl) fun x=>by kernel_rfl
def K400:Kn Tryz.prog VV:=mk 400 Tryz.f400 ⟨[.v .c_i64],[.v .c_i64]⟩ (fun x=>b5w x.1) w1 u1 (sk 2 (.s (.s .n (.l [0] [] [.v 3 .c_i64,.v 4 .c_i64] .n)) .n)) [K399] (by kernel_rfl) (by kernel_rfl) (fun _=>rfl) fun x=>by kernel_rfl
def K316:Kn Tryz.prog VV:=mk 316 Tryz.f316 ⟨[.v .c_i64,.v .c_i64,.v .c_i64],[.v .c_i64,.v .c_bool]⟩ (fun x=>b84 x.1 x.2.1 x.2.2.1) w2 u2 .n [K399,K400] (by kernel_rfl) (by kernel_rfl) (fun _=>rfl) fun x=>by kernel_rfl
def K213:Kn Tryz.prog VV:=mk 213 Tryz.f213 ⟨[.v .c_str],[.v .c_i64,.v .c_bool]⟩ (fun x=>a2f x.1) w2 u2 .n [K315,K316] (by kernel_rfl) (by kernel_rfl) (fun _=>rfl) fun x=>by kernel_rfl
def K312:Kn Tryz.prog VV:=mk 312 Tryz.f312 ⟨[.v .c_str,.v .c_i64],[.v .c_i64]⟩ (fun x=>a3r x.1 x.2.1) w1 u1 (.s .n (.j [] [.v 0 .c_str,.v 1 .c_i64] .n .n)) [] (by kernel_rfl) (by kernel_rfl) (fun _=>rfl) fun x=>by kernel_rfl
def K208:Kn Tryz.prog VV:=mk 208 Tryz.f208 ⟨[.v .c_str,.v .c_i64],[.v .c_sToken,.v .c_i64,.v .c_i64]⟩ (fun x=>a4y x.1 x.2.1) (fun b=>((b.1,(b.2.1,(b.2.2,()))),())) (fun p=>(p.1.1,p.1.2.1,p.1.2.2.1)) (sk 5 (.j [] [.v 0 .c_str,.v 1 .c_i64,.bx 4 2 210 .c_sToken,.v 7 .c_i64,.v 8 .c_i64,.v 9 .c_bool] .n .n)) [K211,K213,K308,g24,K310,g1f,K312] (by kernel_rfl) (by kernel_rfl) (fun _=>rfl) fun x=>by kernel_rfl
def K126:Kn Tryz.prog VV:=mk 126 Tryz.f126 ⟨[.v .c_str],[.ow 210 .c_sToken,.v .c_i64,.v .c_i64]⟩ (fun x=>a73 x.1) (fun b=>((b.1,(b.2.1,(b.2.2,()))),())) (fun p=>(p.1.1,p.1.2.1,p.1.2.2.1)) (sk 4 (.l [0] [] [.ow 5 1 210 .c_sToken,.v 6 .c_i64] .n)) [K208] (by kernel_rfl) (by kernel_rfl) (fun _=>rfl) fun x=>by kernel_rfl
def K65:Kn Tryz.prog VV:=mk 65 Tryz.f65 ⟨[.v .c_str],[.bo 127 .c_spensionref5_reader,.v .c_i64,.v .c_i64]⟩ (fun x=>b0s x.1) (fun b=>((b.1,(b.2.1,(b.2.2,()))),())) (fun p=>(p.1.1,p.1.2.1,p.1.2.2.1)) .n [K126] (by kernel_rfl) (by kernel_rfl) (fun _=>rfl) fun x=>by kernel_rfl
def g1e:Kn Tryz.prog VV:=mk 131 Tryz.f131 ⟨[.rp 127 .c_spensionref5_reader,.v .c_str],[.v .c_bool]⟩ (fun x=>a0e x.1 x.2.1) w1 u1 .n [] (by kernel_rfl) (by kernel_rfl) (fun _=>rfl) fun x=>by kernel_rfl
def K69:Kn Tryz.prog VV:=mk 69 Tryz.f69 ⟨[.io 127 .c_spensionref5_reader,.v .c_str],[.v .c_bool]⟩ (fun x=>g7 x.1 x.2.1) (fun b=>((b.1,()),(b.2,()))) (fun p=>(p.1.1,p.2.1)) .n [g1e] (by kernel_rfl) (by kernel_rfl) (fun _=>rfl) fun x=>by kernel_rfl
def f6d:Kn Tryz.prog VV:=mk 127 Tryz.f127 ⟨[.io 127 .c_spensionref5_reader],[]⟩ (fun x=>s6 x.1) (fun b=>((),(b,()))) (fun p=>p.2.1) .n [] (by kernel_rfl) (by kernel_rfl) (fun _=>rfl) fun x=>by kernel_rfl
def K66:Kn Tryz.prog VV:=mk 66 Tryz.f66 ⟨[.io 127 .c_spensionref5_reader,.v .c_str],[]⟩ (fun x=>c6 x.1 x.2.1) (fun b=>((),(b,()))) (fun p=>p.2.1) .n [K69,f6d] (by kernel_rfl) (by kernel_rfl) (fun _=>rfl) fun x=>by kernel_rfl
def f5y:Kn Tryz.prog VV:=mk 128 Tryz.f128 ⟨[.rp 127 .c_spensionref5_reader,.v .c_i64],[.v .c_bool]⟩ (fun x=>w7 x.1 x.2.1) w1 u1 .n [] (by kernel_rfl) (by kernel_rfl) (fun _=>rfl) fun x=>by kernel_rfl
def K209:Kn Tryz.prog VV:=mk 209 Tryz.f209 ⟨[.v .c_str],[.v .c_bool]⟩ (fun x=>b4a x.1) w1 u1 (.s .n (.s (.s .n (.l [0] [] [.v 3 .c_i64] .n)) .n)) [g24,g1f] (by kernel_rfl) (by kernel_rfl) (fun _=>rfl) fun x=>by kernel_rfl
def K210:Kn Tryz.prog VV:=mk 210 Tryz.f210 ⟨[.v .c_str],[.v .c_bool]⟩ (fun x=>b3k x.1) w1 u1 .n [] (by kernel_rfl) (by kernel_rfl) (fun _=>rfl) fun x=>by kernel_rfl
def f6t:Kn Tryz.prog VV:=mk 129 Tryz.f129 ⟨[.v .c_str],[.v .c_bool]⟩ (fun x=>w9 x.1) w1 u1 .n [K209,K210] (by kernel_rfl) (by kernel_rfl) (fun _=>rfl) fun x=>by kernel_rfl
def K67:Kn Tryz.prog VV:=mk 67 Tryz.f67 ⟨[.io 127 .c_spensionref5_reader],[.v .c_str]⟩ (fun x=>a1c x.1) (fun b=>((b.1,()),(b.2,()))) (fun p=>(p.1.1,p.2.1)) .n [f6d,f5y,f6t] (by kernel_rfl) (by kernel_rfl) (fun _=>rfl) fun x=>by kernel_rfl
def g2z:Kn Tryz.prog VV:=mk 314 Tryz.f314 ⟨[.v .c_i64],[.v .c_u64]⟩ (fun x=>a2l x.1) w1 u1 .n [] (by kernel_rfl) (by kernel_rfl) (fun _=>rfl) fun x=>by kernel_rfl
def K234:Kn Tryz.prog VV:=mk 234 Tryz.f234 ⟨[.v .c_u64],[.v .c_i64]⟩ (fun x=>c2b x.1) w1 u1 (.s .n (.j [] [.v 0 .c_u64,.v 2 .c_i64] .n (.j [] [.v 0 .c_u64,.v 2 .c_i64] .n .n))) [] (by kernel_rfl) (by kernel_rfl) (fun _=>rfl) fun x=>by kernel_rfl
def K388:Kn Tryz.prog VV:=mk 388 Tryz.f388 ⟨[.v .c_u64],[.v .c_i64]⟩ (fun x=>b3m x.1) w1 u1 .n [K234] (by kernel_rfl) (by kernel_rfl) (fun _=>rfl) fun x=>by kernel_rfl
def K304:Kn Tryz.prog VV:=mk 304 Tryz.f304 ⟨[.v .c_u64,.v .c_u64,.v .c_u64],[.v .c_u64,.v .c_u64]⟩ (fun x=>b8k x.1 x.2.1 x.2.2.1) w2 u2 (.s .n (.j [] [.v 0 .c_u64,.v 1 .c_u64,.v 2 .c_u64] .n (.j [] [.v 0 .c_u64,.v 1 .c_u64,.v 2 .c_u64] .n (.s .n (.s .n (.s .n (.s .n (.s .n (.s .n (.s .n (.s .n (.s .n (.s .n (.s .n (.j [] [.v 2 .c_u64,.v 8 .c_u64,.v 9 .c_u64,.v 10 .c_u64,.v 11 .c_u64,.v 13 .c_u64,.v 14 .c_u64,.v 15 .c_u64] (.l [2,8,9,10,11,13,14] [] [.v 15 .c_u64,.v 16 .c_u64] .n) (.s .n (.s .n (.s .n (.j [] [.v 2 .c_u64,.v 8 .c_u64,.v 14 .c_u64,.v 15 .c_u64,.v 17 .c_u64,.v 18 .c_u64] (.l [2,8,9,10,14,15,17] [] [.v 16 .c_u64,.v 18 .c_u64] .n) .n))))))))))))))))))) [K388] (by kernel_rfl) (by kernel_rfl) (fun _=>rfl) fun x=>by kernel_rfl
def K397:Kn Tryz.prog VV:=mk 397 Tryz.f397 ⟨[.v .c_spensionref1_wide,.v .c_u64],[.v .c_spensionref1_wide,.v .c_u64]⟩ (fun x=>a3i x.1 x.2.1) w2 u2 .n [K304] (by kernel_rfl) (by kernel_rfl) (fun _=>rfl) fun x=>by kernel_rfl
def K398:Kn Tryz.prog VV:=mk 398 Tryz.f398 ⟨[.v .c_u64,.v .c_u64],[.v .c_u64]⟩ (fun x=>a26 x.1 x.2.1) w1 u1 (.s .n (.s (.l [] [] [.v 0 .c_u64,.v 1 .c_u64] .n) .n)) [] (by kernel_rfl) (by kernel_rfl) (fun _=>rfl) fun x=>by kernel_rfl
def K313:Kn Tryz.prog VV:=mk 313 Tryz.f313 ⟨[.v .c_bool,.v .c_spensionref1_wide,.v .c_u64],[.v .c_sFraction,.v .c_i64]⟩ (fun x=>a9o x.1 x.2.1 x.2.2.1) w2 u2 .n [K397,K398] (by kernel_rfl) (by kernel_rfl) (fun _=>rfl) fun x=>by kernel_rfl
def K212:Kn Tryz.prog VV:=mk 212 Tryz.f212 ⟨[.v .c_i64,.v .c_i64],[.v .c_sFraction,.v .c_i64]⟩ (fun x=>a3o x.1 x.2.1) w2 u2 .n [K313,g2z] (by kernel_rfl) (by kernel_rfl) (fun _=>rfl) fun x=>by kernel_rfl
def g14:Kn Tryz.prog VV:=mk 130 Tryz.f130 ⟨[.v .c_str],[.v .c_sFraction,.v .c_i64,.v .c_bool]⟩ (fun x=>y2 x.1) (fun b=>((b.1,(b.2.1,(b.2.2,()))),())) (fun p=>(p.1.1,p.1.2.1,p.1.2.2.1)) (sk 4 (.s (.s .n (.l [5,6,7] [] [.bx 2 1 81 .c_sFraction,.v 9 .c_i64,.v 10 .c_i64,.v 11 .c_i64] .n)) .n)) [K211,K212] (by kernel_rfl) (by kernel_rfl) (fun _=>rfl) fun x=>by kernel_rfl
def K68:Kn Tryz.prog VV:=mk 68 Tryz.f68 ⟨[.io 127 .c_spensionref5_reader,.v .c_i64,.v .c_i64],[.v .c_i64]⟩ (fun x=>y4 x.1 x.2.1 x.2.2.1) (fun b=>((b.1,()),(b.2,()))) (fun p=>(p.1.1,p.2.1)) .n [f6d,f5y,g14] (by kernel_rfl) (by kernel_rfl) (fun _=>rfl) fun x=>by kernel_rfl
def K132:Kn Tryz.prog VV:=mk 132 Tryz.f132 ⟨[.v .c_str],[.v .c_i64]⟩ (fun x=>a5h x.1) w1 u1 .n [K213] (by kernel_rfl) (by kernel_rfl) (fun _=>rfl) fun x=>by kernel_rfl
def K214:Kn Tryz.prog VV:=mk 214 Tryz.f214 ⟨[.v .c_str],[.v .c_i64]⟩ (fun x=>a8j x.1) w1 u1 .n [] (by kernel_rfl) (by kernel_rfl) (fun _=>rfl) fun x=>by kernel_rfl
def K215:Kn Tryz.prog VV:=mk 215 Tryz.f215 ⟨[.v .c_str],[.v .c_i64]⟩ (fun x=>a5s x.1) w1 u1 .n [] (by kernel_rfl) (by kernel_rfl) (fun _=>rfl) fun x=>by kernel_rfl
def K216:Kn Tryz.prog VV:=mk 216 Tryz.f216 ⟨[.v .c_str],[.v .c_i64]⟩ (fun x=>a8i x.1) w1 u1 .n [] (by kernel_rfl) (by kernel_rfl) (fun _=>rfl) fun x=>by kernel_rfl
def K133:Kn Tryz.prog VV:=mk 133 Tryz.f133 ⟨[.io 127 .c_spensionref5_reader,.v .c_i64],[.v .c_i64]⟩ (fun x=>a13 x.1 x.2.1) (fun b=>((b.1,()),(b.2,()))) (fun p=>(p.1.1,p.2.1)) .n [f6d,f5y,K214,K215,K216] (by kernel_rfl) (by kernel_rfl) (fun _=>rfl) fun x=>by kernel_rfl
def g1l:Kn Tryz.prog VV:=mk 405 Tryz.f405 ⟨[.v .c_i64],[.v .c_i64]⟩ (fun x=>a19 x.1) w1 u1 .n [] (by kernel_rfl) (by kernel_rfl) (fun _=>rfl) fun x=>by kernel_rfl
def K402:Kn Tryz.prog VV:=mk 402 Tryz.f402 ⟨[.v .c_i64],[.v .c_i64]⟩ (fun x=>b0w x.1) w1 u1 (.s .n (.s (.s .n (.s .n (.s .n (.s .n (.s .n (.s .n (.s .n (.s .n (.s .n (.j [] [.v 3 .c_i64,.v 12 .c_bool] .n (.s .n (.j [] [.v 3 .c_i64,.v 19 .c_bool] .n .n)))))))))))) .n)) [] (by kernel_rfl) (by kernel_rfl) (fun _=>rfl) fun x=>by kernel_rfl
def K403:Kn Tryz.prog VV:=mk 403 Tryz.f403 ⟨[.v .c_i64],[.v .c_str]⟩ (fun x=>a9f x.1) w1 u1 .n [] (by kernel_rfl) (by kernel_rfl) (fun _=>rfl) fun x=>by kernel_rfl
def K318:Kn Tryz.prog VV:=mk 318 Tryz.f318 ⟨[.rp 127 .c_spensionref5_reader,.v .c_i64],[.v .c_i64]⟩ (fun x=>a39 x.1 x.2.1) w1 u1 (.s .n (.s (.s .n (.l [0,1] [] [.v 5 .c_i64] .n)) .n)) [g1e,K402,K403] (by kernel_rfl) (by kernel_rfl) (fun _=>rfl) fun x=>by kernel_rfl
def d1v:Sig VV:=⟨[.io 127 .c_spensionref5_reader,.v .c_i64],[.v .c_sExpr]⟩
def c1l (R:Ring_pensionref5_reader_expr):Fent VV:=⟨d1v,Expr×pensionref5_reader,fun x=>R.f_pensionref5_reader_expr x.1 x.2.1,fun b=>((b.1,()),(b.2,())),none⟩
def f9i:Fent VV:=c1l (d7 FU)
def e98:Ress VV d1v.rs×Outs VV d1v.ps -> Expr×pensionref5_reader:=fun p=>(p.1.1,p.2.1)
def e99:Ann VV.C:=(.s .n (.s .n (.s .n (.s .n (.s (.l [1] [] [.bx 0 0 127 .c_spensionref5_reader,.of 4 4 3 248 .c_sExpr,.bm 4 2 248 .c_sExpr [(4,3)],.bx 8 4 248 .c_sExpr] .n) .n)))))
def d27:Sig VV:=⟨[.io 127 .c_spensionref5_reader],[.v .c_sExpr]⟩
def d61 (R:Ring_pensionref5_reader_expr):Fent VV:=⟨d27,Expr×pensionref5_reader,fun x=>R.f_pensionref5_reader_factor x.1,fun b=>((b.1,()),(b.2,())),none⟩
def e9m:Ress VV d27.rs×Outs VV d27.ps -> Expr×pensionref5_reader:=fun p=>(p.1.1,p.2.1)
def e9n:Ann VV.C:= .n
def d1z:Sig VV:=⟨[.io 127 .c_spensionref5_reader,.v .c_i64],[.v .c_sExpr]⟩
def d7i (R:Ring_pensionref5_reader_expr):Fent VV:=⟨d1z,Expr×pensionref5_reader,fun x=>R.f_pensionref5_reader_call x.1 x.2.1,fun b=>((b.1,()),(b.2,())),none⟩
def f0t:Ress VV d1z.rs×Outs VV d1z.ps -> Expr×pensionref5_reader:=fun p=>(p.1.1,p.2.1)
def e9f:Ann VV.C:= .n
def f1k (R:Ring_pensionref5_reader_expr):Phi VV:=fun f ys=>lkF f ys [K66.e,K69.e,(217,c1l R),(317,d61 R),K318.e]
theorem f2x (R:Ring_pensionref5_reader_expr) (hr217:SX.Spec Tryz.prog 217 (c1l R)) (hr317:SX.Spec Tryz.prog 317 (d61 R)):OKΦ Tryz.prog (f1k R):=okl ⟨K66.ok,K69.ok,knS rfl ⟨hr217,fun _ _=>by kernel_rfl⟩,knS rfl ⟨hr317,fun _ _=>by kernel_rfl⟩,K318.ok,trivial⟩
theorem f8u (R:Ring_pensionref5_reader_expr): ∀x,c8d Tryz.prog (f1k R) d1v e98 Tryz.f217 e99 x=l8 R x.1 x.2.1:=fun x=>by kernel_rfl
theorem f0h:d02 Tryz.f217 d1v=true:=by kernel_rfl
def f0r (R:Ring_pensionref5_reader_expr):Phi VV:=fun f ys=>lkF f ys [K66.e,K67.e,K68.e,K69.e,f5y.e,g14.e,g1e.e,(217,c1l R),(401,d7i R)]
theorem f4l (R:Ring_pensionref5_reader_expr) (hr217:SX.Spec Tryz.prog 217 (c1l R)) (hr401:SX.Spec Tryz.prog 401 (d7i R)):OKΦ Tryz.prog (f0r R):=okl ⟨K66.ok,K67.ok,K68.ok,K69.ok,f5y.ok,g14.ok,g1e.ok,knS rfl ⟨hr217,fun _ _=>by kernel_rfl⟩,knS rfl ⟨hr401,fun _ _=>by kernel_rfl⟩,trivial⟩
theorem g0f (R:Ring_pensionref5_reader_expr): ∀x,c8d Tryz.prog (f0r R) d27 e9m Tryz.f317 e9n x=k7 R x.1:=fun x=>by kernel_rfl
theorem e9j:d02 Tryz.f317 d27=true:=by kernel_rfl
def f1b (R:Ring_pensionref5_reader_expr):Phi VV:=fun f ys=>lkF f ys [K66.e,(217,c1l R),g1l.e]
theorem f2d (R:Ring_pensionref5_reader_expr) (hr217:SX.Spec Tryz.prog 217 (c1l R)):OKΦ Tryz.prog (f1b R):=okl ⟨K66.ok,knS rfl ⟨hr217,fun _ _=>by kernel_rfl⟩,g1l.ok,trivial⟩
theorem g13 (R:Ring_pensionref5_reader_expr): ∀x,c8d Tryz.prog (f1b R) d1z f0t Tryz.f401 e9f x=a38 R x.1 x.2.1:=fun x=>by kernel_rfl
theorem f1r:d02 Tryz.f401 d1z=true:=by kernel_rfl
theorem a5g: ∀n,SX.Spec Tryz.prog 217 (c1l (d7 n)) /\ SX.Spec Tryz.prog 317 (d61 (d7 n)) /\ SX.Spec Tryz.prog 401 (d7i (d7 n))
 | 0=>⟨(fun _ _ h=>(by cases (show none = some _ from h))),(fun _ _ h=>(by cases (show none = some _ from h))),(fun _ _ h=>(by cases (show none = some _ from h)))⟩
 | n+1=>let ⟨h217,h317,h401⟩:=a5g n;⟨a7f (fe:=c1l (d7 (n+1))) uok (f2x (d7 n) h217 h317) mixed (fn:=Tryz.f217) (by kernel_rfl) e98 e99 (u6 f0h).1 (u6 f0h).2 (fun _=>rfl) (f8u (d7 n)),a7f (fe:=d61 (d7 (n+1))) uok (f4l (d7 n) h217 h401) mixed (fn:=Tryz.f317) (by kernel_rfl) e9m e9n (u6 e9j).1 (u6 e9j).2 (fun _=>rfl) (g0f (d7 n)),a7f (fe:=d7i (d7 (n+1))) uok (f2d (d7 n) h217) mixed (fn:=Tryz.f401) (by kernel_rfl) f0t e9f (u6 f1r).1 (u6 f1r).2 (fun _=>rfl) (g13 (d7 n))⟩
def K217:Kn Tryz.prog VV:=⟨217,f9i,knS rfl ⟨(a5g FU).1,fun _ _=>by kernel_rfl⟩⟩
def K134:Kn Tryz.prog VV:=mk 134 Tryz.f134 ⟨[.io 127 .c_spensionref5_reader,.im 137 .c_sVersion [(2,2),(3,3),(4,4),(5,5),(6,6)],.po 1 2 241 .c_sCredit,.po 1 3 245 .c_sIndex,.po 1 4 320 .c_sLet,.po 1 5 250 .c_sGrant,.po 1 6 255 .c_sReduce],[]⟩ (fun x=>a3d x.1 x.2.1 x.2.2.1 x.2.2.2.1 x.2.2.2.2.1 x.2.2.2.2.2.1 x.2.2.2.2.2.2.1) (fun b=>((),(b.1,(b.2.1,(b.2.2.1,(b.2.2.2.1,(b.2.2.2.2.1,(b.2.2.2.2.2.1,(b.2.2.2.2.2.2,()))))))))) (fun p=>(p.2.1,p.2.2.1,p.2.2.2.1,p.2.2.2.2.1,p.2.2.2.2.2.1,p.2.2.2.2.2.2.1,p.2.2.2.2.2.2.2.1)) (.s (.s .n (.s (.s .n (.j [] [.bx 0 0 127 .c_spensionref5_reader,.of 1 2 7 241 .c_sCredit,.of 1 3 8 245 .c_sIndex,.of 1 4 9 320 .c_sLet,.of 1 5 10 250 .c_sGrant,.of 1 6 11 255 .c_sReduce,.bm 1 1 137 .c_sVersion [(2,7),(3,8),(4,9),(5,10),(6,11)],.bx 4 12 241 .c_sCredit] .n .n)) (.s .n (.s (.s .n (.j [] [.bx 0 0 127 .c_spensionref5_reader,.of 1 2 7 241 .c_sCredit,.of 1 3 8 245 .c_sIndex,.of 1 4 9 320 .c_sLet,.of 1 5 10 250 .c_sGrant,.of 1 6 11 255 .c_sReduce,.bm 1 1 137 .c_sVersion [(2,7),(3,8),(4,9),(5,10),(6,11)],.bx 6 12 245 .c_sIndex] .n (.j [] [.bx 0 0 127 .c_spensionref5_reader,.of 1 2 7 241 .c_sCredit,.of 1 3 8 245 .c_sIndex,.of 1 4 9 320 .c_sLet,.of 1 5 10 250 .c_sGrant,.of 1 6 11 255 .c_sReduce,.bm 1 1 137 .c_sVersion [(2,7),(3,8),(4,9),(5,10),(6,11)],.bx 6 12 245 .c_sIndex] .n .n))) .n)))) .n) [K66,K67,K68,K69,f6d,f5y,g14,K133,K217] (by kernel_rfl) (by kernel_rfl) (fun _=>rfl) fun x=>by kernel_rfl
def K70:Kn Tryz.prog VV:=mk 70 Tryz.f70 ⟨[.io 127 .c_spensionref5_reader],[.v .c_sVersion]⟩ (fun x=>a2r x.1) (fun b=>((b.1,()),(b.2,()))) (fun p=>(p.1.1,p.2.1)) (sk 3 (.j [] [.bx 0 0 127 .c_spensionref5_reader,.of 2 2 2 241 .c_sCredit,.of 2 3 3 245 .c_sIndex,.of 2 4 4 320 .c_sLet,.of 2 5 5 250 .c_sGrant,.of 2 6 6 255 .c_sReduce,.bm 2 1 137 .c_sVersion [(2,2),(3,3),(4,4),(5,5),(6,6)],.of 3 2 8 241 .c_sCredit,.of 3 3 9 245 .c_sIndex,.of 3 4 10 320 .c_sLet,.of 3 5 11 250 .c_sGrant,.of 3 6 12 255 .c_sReduce,.bm 3 7 137 .c_sVersion [(2,8),(3,9),(4,10),(5,11),(6,12)]] .n (.s .n (.s .n (.s .n (.s .n (.s .n (.s (.l [] [] [.bx 0 0 127 .c_spensionref5_reader,.of 2 2 2 241 .c_sCredit,.of 2 3 3 245 .c_sIndex,.of 2 4 4 320 .c_sLet,.of 2 5 5 250 .c_sGrant,.of 2 6 6 255 .c_sReduce,.bm 2 1 137 .c_sVersion [(2,2),(3,3),(4,4),(5,5),(6,6)],.of 3 2 8 241 .c_sCredit,.of 3 3 9 245 .c_sIndex,.of 3 4 10 320 .c_sLet,.of 3 5 11 250 .c_sGrant,.of 3 6 12 255 .c_sReduce,.bm 3 7 137 .c_sVersion [(2,8),(3,9),(4,10),(5,11),(6,12)]] (.s (.s (.g [5]) .n) .n)) .n)))))))) [K66,K68,K69,f6d,f5y,K132,K133,K134] (by kernel_rfl) (by kernel_rfl) (fun _=>rfl) fun x=>by kernel_rfl
def K71:Kn Tryz.prog VV:=mk 71 Tryz.f71 ⟨[.rp 127 .c_spensionref5_reader],[.v .c_i64]⟩ (fun x=>a94 x.1) w1 u1 .n [] (by kernel_rfl) (by kernel_rfl) (fun _=>rfl) fun x=>by kernel_rfl
def K218:Kn Tryz.prog VV:=mk 218 Tryz.f218 ⟨[.v .c_i64],[.v .c_bool]⟩ (fun x=>a84 x.1) w1 u1 .n [] (by kernel_rfl) (by kernel_rfl) (fun _=>rfl) fun x=>by kernel_rfl
def K219:Kn Tryz.prog VV:=mk 219 Tryz.f219 ⟨[.v .c_sRounding],[.v .c_bool]⟩ (fun x=>a5b x.1) w1 u1 .n [] (by kernel_rfl) (by kernel_rfl) (fun _=>rfl) fun x=>by kernel_rfl
def K220:Kn Tryz.prog VV:=mk 220 Tryz.f220 ⟨[.v .c_i64,.v .c_i64],[.v .c_str]⟩ (fun x=>a3m x.1 x.2.1) w1 u1 (sk 2 (.s (.s .n (.l [0,1] [] [.ow 5 2 9 .c_str,.v 6 .c_i64] .n)) .n)) [K214,K215,K216] (by kernel_rfl) (by kernel_rfl) (fun _=>rfl) fun x=>by kernel_rfl
def K319:Kn Tryz.prog VV:=mk 319 Tryz.f319 ⟨[.v .c_sFraction],[.v .c_bool]⟩ (fun x=>a03 x.1) w1 u1 .n [g2z,K398] (by kernel_rfl) (by kernel_rfl) (fun _=>rfl) fun x=>by kernel_rfl
def K404:Kn Tryz.prog VV:=mk 404 Tryz.f404 ⟨[.v .c_i64,.v .c_i64],[.v .c_str]⟩ (fun x=>a57 x.1 x.2.1) w1 u1 (sk 2 (.s (.l [1] [] [.v 0 .c_i64,.v 5 .c_str] .n) .n)) [] (by kernel_rfl) (by kernel_rfl) (fun _=>rfl) fun x=>by kernel_rfl
def K320:Kn Tryz.prog VV:=mk 320 Tryz.f320 ⟨[.v .c_sFraction],[.v .c_str]⟩ (fun x=>a2q x.1) w1 u1 (sk 3 (.j [] [.bx 1 1 81 .c_sFraction,.v 3 .c_str] .n .n)) [g2z,K319,K404] (by kernel_rfl) (by kernel_rfl) (fun _=>rfl) fun x=>by kernel_rfl
def g1y:Kn Tryz.prog VV:=mk 221 Tryz.f221 ⟨[.v .c_sFraction,.v .c_i64],[.v .c_str,.v .c_bool]⟩ (fun x=>s7 x.1 x.2.1) w2 u2 (sk 6 (.j [] [.v 1 .c_i64,.v 7 .c_str,.v 8 .c_i64] .n (.s (.s .n (.l [1] [] [.v 7 .c_str,.v 8 .c_i64,.v 9 .c_i64] .n)) .n))) [K319,K320] (by kernel_rfl) (by kernel_rfl) (fun _=>rfl) fun x=>by kernel_rfl
def d3a:Sig VV:=⟨[.v .c_sExpr],[.v .c_i64]⟩
def d0p (R:Ring_pensionref5_Depth):Fent VV:=⟨d3a,Int,fun x=>R.f_pensionref5_Depth x.1,fun b=>((b,()),()),none⟩
def f8z:Fent VV:=d0p (a08 FU)
def f00:Ress VV d3a.rs×Outs VV d3a.ps -> Int:=fun p=>p.1.1
def f1d:Ann VV.C:=(.s .n (.s .n (.s (.s .n (.l [] [] [.bx 1 1 248 .c_sExpr,.v 3 .c_i64,.v 4 .c_i64] .n)) .n)))
def f0m (R:Ring_pensionref5_Depth):Phi VV:=fun f ys=>lkF f ys [(321,d0p R)]
theorem f2e (R:Ring_pensionref5_Depth) (hr321:SX.Spec Tryz.prog 321 (d0p R)):OKΦ Tryz.prog (f0m R):=okl ⟨knS rfl ⟨hr321,fun _ _=>by kernel_rfl⟩,trivial⟩
theorem f9x (R:Ring_pensionref5_Depth): ∀x,c8d Tryz.prog (f0m R) d3a f00 Tryz.f321 f1d x=a5z R x.1:=fun x=>by kernel_rfl
theorem f1g:d02 Tryz.f321 d3a=true:=by kernel_rfl
theorem a8f: ∀n,SX.Spec Tryz.prog 321 (d0p (a08 n))
 | 0=>(fun _ _ h=>(by cases (show none = some _ from h)))
 | n+1=>let h321:=a8f n;a7f (fe:=d0p (a08 (n+1))) uok (f2e (a08 n) h321) mixed (fn:=Tryz.f321) (by kernel_rfl) f00 f1d (u6 f1g).1 (u6 f1g).2 (fun _=>rfl) (f9x (a08 n))
def K321:Kn Tryz.prog VV:=⟨321,f8z,knS rfl ⟨(a8f FU),fun _ _=>by kernel_rfl⟩⟩
def d14:Sig VV:=⟨[.v .c_sExpr],[.v .c_i64]⟩
def d1r (R:Ring_pensionref5_Size):Fent VV:=⟨d14,Int,fun x=>R.f_pensionref5_Size x.1,fun b=>((b,()),()),none⟩
def f9r:Fent VV:=d1r (a0f FU)
def f1w:Ress VV d14.rs×Outs VV d14.ps -> Int:=fun p=>p.1.1
def e9y:Ann VV.C:=(.s .n (.s .n (.s (.s .n (.l [] [] [.bx 1 1 248 .c_sExpr,.v 3 .c_i64,.v 4 .c_i64] .n)) .n)))
def e9e (R:Ring_pensionref5_Size):Phi VV:=fun f ys=>lkF f ys [(322,d1r R)]
theorem f5n (R:Ring_pensionref5_Size) (hr322:SX.Spec Tryz.prog 322 (d1r R)):OKΦ Tryz.prog (e9e R):=okl ⟨knS rfl ⟨hr322,fun _ _=>by kernel_rfl⟩,trivial⟩
theorem f9n (R:Ring_pensionref5_Size): ∀x,c8d Tryz.prog (e9e R) d14 f1w Tryz.f322 e9y x=a6y R x.1:=fun x=>by kernel_rfl
theorem f2c:d02 Tryz.f322 d14=true:=by kernel_rfl
theorem a90: ∀n,SX.Spec Tryz.prog 322 (d1r (a0f n))
 | 0=>(fun _ _ h=>(by cases (show none = some _ from h)))
 | n+1=>let h322:=a90 n;a7f (fe:=d1r (a0f (n+1))) uok (f5n (a0f n) h322) mixed (fn:=Tryz.f322) (by kernel_rfl) f1w e9y (u6 f2c).1 (u6 f2c).2 (fun _=>rfl) (f9n (a0f n))
def K322:Kn Tryz.prog VV:=⟨322,f9r,knS rfl ⟨(a90 FU),fun _ _=>by kernel_rfl⟩⟩
def d2l:Sig VV:=⟨[.v .c_sExpr],[.v .c_bool]⟩
def d0m (R:Ring_pensionref5_formed):Fent VV:=⟨d2l,Bool,fun x=>R.f_pensionref5_formed x.1,fun b=>((b,()),()),none⟩
def f7t:Fent VV:=d0m (i6 FU)
def f0c:Ress VV d2l.rs×Outs VV d2l.ps -> Bool:=fun p=>p.1.1
def f0w:Ann VV.C:=(.s .n (.s .n (.s .n (.s .n (.s (.s .n (.l [3] [] [.bx 1 1 248 .c_sExpr,.v 6 .c_i64] .n)) .n)))))
def f0f (R:Ring_pensionref5_formed):Phi VV:=fun f ys=>lkF f ys [f6t.e,g1y.e,(323,d0m R),g1l.e]
theorem f4x (R:Ring_pensionref5_formed) (hr323:SX.Spec Tryz.prog 323 (d0m R)):OKΦ Tryz.prog (f0f R):=okl ⟨f6t.ok,g1y.ok,knS rfl ⟨hr323,fun _ _=>by kernel_rfl⟩,g1l.ok,trivial⟩
theorem f9o (R:Ring_pensionref5_formed): ∀x,c8d Tryz.prog (f0f R) d2l f0c Tryz.f323 f0w x=p7 R x.1:=fun x=>by kernel_rfl
theorem f1v:d02 Tryz.f323 d2l=true:=by kernel_rfl
theorem a83: ∀n,SX.Spec Tryz.prog 323 (d0m (i6 n))
 | 0=>(fun _ _ h=>(by cases (show none = some _ from h)))
 | n+1=>let h323:=a83 n;a7f (fe:=d0m (i6 (n+1))) uok (f4x (i6 n) h323) mixed (fn:=Tryz.f323) (by kernel_rfl) f0c f0w (u6 f1v).1 (u6 f1v).2 (fun _=>rfl) (f9o (i6 n))
def K323:Kn Tryz.prog VV:=⟨323,f7t,knS rfl ⟨(a83 FU),fun _ _=>by kernel_rfl⟩⟩
def K222:Kn Tryz.prog VV:=mk 222 Tryz.f222 ⟨[.v .c_sExpr],[.v .c_bool]⟩ (fun x=>a02 x.1) w1 u1 .n [K321,K322,K323] (by kernel_rfl) (by kernel_rfl) (fun _=>rfl) fun x=>by kernel_rfl
def K135:Kn Tryz.prog VV:=mk 135 Tryz.f135 ⟨[.v .c_sVersion],[.v .c_bool]⟩ (fun x=>a3l x.1) w1 u1 (sk 2 (.s (.s .n (.l [] [] [.bx 1 1 137 .c_sVersion,.v 3 .c_i64] .n)) (.s (.s .n (.l [] [] [.bx 1 1 137 .c_sVersion,.v 4 .c_i64] .n)) (.s (.s .n (.l [] [] [.bx 1 1 137 .c_sVersion,.v 7 .c_i64] .n)) (.s (.s .n (.l [] [] [.bx 1 1 137 .c_sVersion,.v 8 .c_i64] .n)) (.s (.s .n (.l [] [] [.bx 1 1 137 .c_sVersion,.v 9 .c_i64] .n)) .n)))))) [f6t,K218,K219,K220,g1y,K222] (by kernel_rfl) (by kernel_rfl) (fun _=>rfl) fun x=>by kernel_rfl
def K72:Kn Tryz.prog VV:=mk 72 Tryz.f72 ⟨[.v .c_sStatute],[.v .c_bool]⟩ (fun x=>a4g x.1) w1 u1 (sk 2 (.s (.s .n (.l [] [] [.bx 1 1 86 .c_sStatute,.v 3 .c_i64] .n)) .n)) [f6t,K135] (by kernel_rfl) (by kernel_rfl) (fun _=>rfl) fun x=>by kernel_rfl
def K37:Kn Tryz.prog VV:=mk 37 Tryz.f37 ⟨[.v .c_str],[.v .c_sStatute,.v .c_i64,.v .c_i64]⟩ (fun x=>a2z x.1) (fun b=>((b.1,(b.2.1,(b.2.2,()))),())) (fun p=>(p.1.1,p.1.2.1,p.1.2.2.1)) (sk 8 (.j [] [.of 2 2 2 137 .c_sVersion,.bm 2 1 86 .c_sStatute [(2,2)],.bx 5 3 127 .c_spensionref5_reader,.of 8 2 5 137 .c_sVersion,.bm 8 4 86 .c_sStatute [(2,5)]] (.s .n (.l [] [] [.of 2 2 2 137 .c_sVersion,.bm 2 1 86 .c_sStatute [(2,2)],.bx 5 3 127 .c_spensionref5_reader,.of 8 2 5 137 .c_sVersion,.bm 8 4 86 .c_sStatute [(2,5)],.v 9 .c_bool] (.j [] [.of 2 2 2 137 .c_sVersion,.bm 2 1 86 .c_sStatute [(2,2)],.bx 5 3 127 .c_spensionref5_reader,.of 8 2 5 137 .c_sVersion,.bm 8 4 86 .c_sStatute [(2,5)]] (.s (.g [5,7]) .n) .n))) .n)) [K65,K66,K67,K68,K69,K70,K71,K72] (by kernel_rfl) (by kernel_rfl) (fun _=>rfl) fun x=>by kernel_rfl
def K15:Kn Tryz.prog VV:=mk 15 Tryz.f15 ⟨[.ls .c_i64],[.v .c_sLaws]⟩ (fun x=>a8o x.1) w1 u1 (sk 2 (.s (.s .n (.l [0] [] [.of 2 0 2 91 .c_sState,.of 2 1 3 93 .c_sRules,.of 2 2 4 83 .c_sRate,.bm 2 1 31 .c_sLaws [(0,2),(1,3),(2,4)],.of 3 0 6 91 .c_sState,.of 3 1 7 93 .c_sRules,.bm 3 5 31 .c_sLaws [(0,6),(1,7)],.v 4 .c_i64] .n)) .n)) [K18,K35,K37,K38] (by kernel_rfl) (by kernel_rfl) (fun _=>rfl) fun x=>by kernel_rfl
def K16:Kn Tryz.prog VV:=mk 16 Tryz.f16 ⟨[.ls .c_spensionhand_Claim],[.ow 66 .c_sClaim]⟩ (fun x=>a6s x.1) w1 u1 (sk 2 (.s (.s .n (.l [0] [] [.ow 3 1 66 .c_sClaim,.v 4 .c_i64] .n)) .n)) [K18] (by kernel_rfl) (by kernel_rfl) (fun _=>rfl) fun x=>by kernel_rfl
def K17:Kn Tryz.prog VV:=mk 17 Tryz.f17 ⟨[.v .c_i64],[.ow 66 .c_sClaim]⟩ (fun x=>a5l x.1) w1 u1 .n [K18] (by kernel_rfl) (by kernel_rfl) (fun _=>rfl) fun x=>by kernel_rfl
def K4:Kn Tryz.prog VV:=mk 4 Tryz.f4 ⟨[.v .c_spensionlaw26_Seeds],[.v .c_sLaws,.ow 57 .c_sapi_Fact,.ow 66 .c_sClaim]⟩ (fun x=>a7q x.1) (fun b=>((b.1,(b.2.1,(b.2.2,()))),())) (fun p=>(p.1.1,p.1.2.1,p.1.2.2.1)) .n [K13,K14,K15,K16,K17] (by kernel_rfl) (by kernel_rfl) (fun _=>rfl) fun x=>by kernel_rfl
def K5:Kn Tryz.prog VV:=mk 5 Tryz.f5 ⟨[.v .c_i64],[.v .c_i64]⟩ (fun x=>a63 x.1) w1 u1 .n [K18] (by kernel_rfl) (by kernel_rfl) (fun _=>rfl) fun x=>by kernel_rfl
def K6:Kn Tryz.prog VV:=mk 6 Tryz.f6 ⟨[.v .c_i64],[.v .c_i64]⟩ (fun x=>a6r x.1) w1 u1 .n [K18] (by kernel_rfl) (by kernel_rfl) (fun _=>rfl) fun x=>by kernel_rfl
def K75:Kn Tryz.prog VV:=mk 75 Tryz.f75 ⟨[.v .c_i64],[.v .c_str]⟩ (fun x=>a9t x.1) w1 u1 (.s .n (.s (.s .n (.s .n (.s .n (.j [] [.v 3 .c_i64,.v 6 .c_bool] .n (.s .n (.s .n (.s .n (.j [] [.v 3 .c_i64,.v 11 .c_bool] .n (.s .n (.s .n (.s .n (.s .n (.s .n (.j [] [.v 3 .c_i64,.v 20 .c_bool] .n .n)))))))))))))) .n)) [] (by kernel_rfl) (by kernel_rfl) (fun _=>rfl) fun x=>by kernel_rfl
def K324:Kn Tryz.prog VV:=mk 324 Tryz.f324 ⟨[.v .c_str,.v .c_u8],[.v .c_i64]⟩ (fun x=>a74 x.1 x.2.1) w1 u1 .n [K406] (by kernel_rfl) (by kernel_rfl) (fun _=>rfl) fun x=>by kernel_rfl
def K223:Kn Tryz.prog VV:=mk 223 Tryz.f223 ⟨[.v .c_str,.v .c_str],[.v .c_i64]⟩ (fun x=>a5i x.1 x.2.1) w1 u1 .n [K324] (by kernel_rfl) (by kernel_rfl) (fun _=>rfl) fun x=>by kernel_rfl
def K137:Kn Tryz.prog VV:=mk 137 Tryz.f137 ⟨[.v .c_str,.v .c_str],[.v .c_i64]⟩ (fun x=>c0j x.1 x.2.1) w1 u1 .n [K223] (by kernel_rfl) (by kernel_rfl) (fun _=>rfl) fun x=>by kernel_rfl
def K77:Kn Tryz.prog VV:=mk 77 Tryz.f77 ⟨[.v .c_str,.v .c_str],[.v .c_bool]⟩ (fun x=>b6p x.1 x.2.1) w1 u1 .n [K137] (by kernel_rfl) (by kernel_rfl) (fun _=>rfl) fun x=>by kernel_rfl
def K76:Kn Tryz.prog VV:=mk 76 Tryz.f76 ⟨[.v .c_str,.rp 9 .c_str],[.v .c_bool]⟩ (fun x=>a0x x.1 x.2.1) w1 u1 .n [K77] (by kernel_rfl) (by kernel_rfl) (fun _=>rfl) fun x=>by kernel_rfl
def K78:Kn Tryz.prog VV:=mk 78 Tryz.f78 ⟨[.v .c_i64,.v .c_i64,.v .c_i64],[.v .c_bool]⟩ (fun x=>a79 x.1 x.2.1 x.2.2.1) w1 u1 .n [] (by kernel_rfl) (by kernel_rfl) (fun _=>rfl) fun x=>by kernel_rfl
def K79:Kn Tryz.prog VV:=mk 79 Tryz.f79 ⟨[.v .c_bool,.v .c_i64,.v .c_i64,.v .c_i64],[.v .c_bool]⟩ (fun x=>a7x x.1 x.2.1 x.2.2.1 x.2.2.2.1) w1 u1 .n [K78] (by kernel_rfl) (by kernel_rfl) (fun _=>rfl) fun x=>by kernel_rfl
def K80:Kn Tryz.prog VV:=mk 80 Tryz.f80 ⟨[.v .c_sSpan],[.v .c_bool]⟩ (fun x=>b4u x.1) w1 u1 .n [] (by kernel_rfl) (by kernel_rfl) (fun _=>rfl) fun x=>by kernel_rfl
def K40:Kn Tryz.prog VV:=mk 40 Tryz.f40 ⟨[.v .c_sapi_Fact],[.v .c_bool]⟩ (fun x=>a5o x.1) w1 u1 (sk 4 (.s (.s .n (.s .n (.s .n (.j [] [.bx 1 1 57 .c_sapi_Fact,.v 89 .c_i64,.v 97 .c_bool] .n (.s .n (.j [] [.bx 1 1 57 .c_sapi_Fact,.v 108 .c_bool] .n .n)))))) .n)) [K75,K76,K78,K79,K80] (by kernel_rfl) (by kernel_rfl) (fun _=>rfl) fun x=>by kernel_rfl
def K81:Kn Tryz.prog VV:=mk 81 Tryz.f81 ⟨[.v .c_i64],[.v .c_bool]⟩ (fun x=>a68 x.1) w1 u1 .n [] (by kernel_rfl) (by kernel_rfl) (fun _=>rfl) fun x=>by kernel_rfl
def K42:Kn Tryz.prog VV:=mk 42 Tryz.f42 ⟨[.v .c_i64,.v .c_i64],[.v .c_i64]⟩ (fun x=>m6 x.1 x.2.1) w1 u1 .n [K81] (by kernel_rfl) (by kernel_rfl) (fun _=>rfl) fun x=>by kernel_rfl
def K41:Kn Tryz.prog VV:=mk 41 Tryz.f41 ⟨[.ls .c_i64],[.v .c_i64]⟩ (fun x=>a4a x.1) w1 u1 (sk 2 (.s (.s .n (.l [3,6,7] [] [.v 8 .c_i64] .n)) .n)) [] (by kernel_rfl) (by kernel_rfl) (fun _=>rfl) fun x=>by kernel_rfl
def K24:Kn Tryz.prog VV:=mk 24 Tryz.f24 ⟨[.v .c_sapi_Fact,.v .c_sapi_Fact],[.v .c_i64]⟩ (fun x=>a7t x.1 x.2.1) w1 u1 .n [K41,K42] (by kernel_rfl) (by kernel_rfl) (fun _=>rfl) fun x=>by kernel_rfl
def K139:Kn Tryz.prog VV:=mk 139 Tryz.f139 ⟨[.ow 5 .c_u8,.v .c_i64,.ls .c_i64],[.ow 5 .c_u8]⟩ (fun x=>l9 x.1 x.2.1 x.2.2.1) w1 u1 (.s .n (.s (.s .n (.l [1,10,11] [] [.ow 0 3 5 .c_u8,.v 12 .c_i64] (.s .n (.s .n (.s (.s .n (.s .n (.l [1,8,10,11,12] [] [.ow 0 3 5 .c_u8,.v 9 .c_i64] .n))) .n))))) .n)) [] (by kernel_rfl) (by kernel_rfl) (fun _=>rfl) fun x=>by kernel_rfl
def K83:Kn Tryz.prog VV:=mk 83 Tryz.f83 ⟨[.v .c_sapi_Fact],[.ow 5 .c_u8]⟩ (fun x=>b5t x.1) w1 u1 (sk 3 (.j [] [.bx 1 1 57 .c_sapi_Fact,.v 3 .c_i64] .n (.s .n (.s .n (.s .n (.s (.s .n (.l [] [] [.bx 1 1 57 .c_sapi_Fact,.ow 4 2 5 .c_u8,.it 34 3] .n)) .n)))))) [K40,K75,K139] (by kernel_rfl) (by kernel_rfl) (fun _=>rfl) fun x=>by kernel_rfl
def K82:Kn Tryz.prog VV:=mk 82 Tryz.f82 ⟨[.ls .c_u8,.ls .c_u8],[.v .c_i64]⟩ (fun x=>b6g x.1 x.2.1) w1 u1 .n [K138] (by kernel_rfl) (by kernel_rfl) (fun _=>rfl) fun x=>by kernel_rfl
def K43:Kn Tryz.prog VV:=mk 43 Tryz.f43 ⟨[.v .c_sapi_Fact,.v .c_sapi_Fact],[.v .c_bool]⟩ (fun x=>c10 x.1 x.2.1) w1 u1 .n [K40,K82,K83] (by kernel_rfl) (by kernel_rfl) (fun _=>rfl) fun x=>by kernel_rfl
def K25:Kn Tryz.prog VV:=mk 25 Tryz.f25 ⟨[.v .c_sapi_Fact,.v .c_sapi_Fact],[.v .c_sapi_Fact]⟩ (fun x=>b1c x.1 x.2.1) w1 u1 .n [K43] (by kernel_rfl) (by kernel_rfl) (fun _=>rfl) fun x=>by kernel_rfl
def d3k:Kn Tryz.prog VV:=mk 22 Tryz.f22 ⟨[.ls .c_sapi_Fact,.ls .c_sapi_Fact,.cl 24 [],.cl 25 []],[.ow 57 .c_sapi_Fact]⟩ (fun x=>g9 x.1 x.2.1) w1 u1 (sk 2 (.s (.l [2,3] [] [.ls 0 .c_sapi_Fact,.ls 1 .c_sapi_Fact,.ow 9 4 57 .c_sapi_Fact] .n) .n)) [K24,K25] (by kernel_rfl) (by kernel_rfl) (fun _=>rfl) fun x=>by kernel_rfl
def K23:Kn Tryz.prog VV:=mk 23 Tryz.f23 ⟨[.ls .c_sapi_Fact],[.ow 57 .c_sapi_Fact]⟩ (fun x=>a69 x.1) w1 u1 (sk 2 (.s (.s .n (.l [6,7] [] [.ow 3 1 57 .c_sapi_Fact,.v 8 .c_i64] .n)) .n)) [d3k,K40] (by kernel_rfl) (by kernel_rfl) (fun _=>rfl) fun x=>by kernel_rfl
def K9:Kn Tryz.prog VV:=mk 9 Tryz.f9 ⟨[.ls .c_sapi_Fact,.ls .c_sapi_Fact],[.ow 57 .c_sapi_Fact]⟩ (fun x=>a7h x.1 x.2.1) w1 u1 .n [d3k,K23] (by kernel_rfl) (by kernel_rfl) (fun _=>rfl) fun x=>by kernel_rfl
def K21:Kn Tryz.prog VV:=mk 21 Tryz.f21 ⟨[.v .c_sapi_Fact,.rp 3 .c_i64],[.v .c_bool]⟩ (fun x=>c03 x.1 x.2.1) w1 u1 .n [] (by kernel_rfl) (by kernel_rfl) (fun _=>rfl) fun x=>by kernel_rfl
def f8t:Kn Tryz.prog VV:=mk 20 Tryz.f20 ⟨[.ls .c_sapi_Fact,.cl 21 [.c_i64]],[.ow 57 .c_sapi_Fact]⟩ (fun x=>a4q x.1 x.2.1.1) w1 u1 (sk 2 (.s (.s .n (.l [1,8,9] [] [.ow 5 2 57 .c_sapi_Fact,.v 10 .c_i64] .n)) .n)) [K21] (by kernel_rfl) (by kernel_rfl) (fun _=>rfl) fun x=>by kernel_rfl
def K8:Kn Tryz.prog VV:=mk 8 Tryz.f8 ⟨[.ls .c_sapi_Fact,.v .c_i64],[.ow 57 .c_sapi_Fact]⟩ (fun x=>b1u x.1 x.2.1) w1 u1 .n [f8t] (by kernel_rfl) (by kernel_rfl) (fun _=>rfl) fun x=>by kernel_rfl
def K39:Kn Tryz.prog VV:=mk 39 Tryz.f39 ⟨[.v .c_sapi_Fact],[.v .c_bool]⟩ (fun x=>a8c x.1) w1 u1 .n [K40] (by kernel_rfl) (by kernel_rfl) (fun _=>rfl) fun x=>by kernel_rfl
def K19:Kn Tryz.prog VV:=mk 19 Tryz.f19 ⟨[.ls .c_sapi_Fact,.v .c_i64],[.v .c_i64,.v .c_bool]⟩ (fun x=>b3y x.1 x.2.1) w2 u2 (sk 2 (.s (.s .n (.l [1,10,11] [] [.v 6 .c_i64,.v 7 .c_bool,.v 12 .c_i64] .n)) .n)) [K39] (by kernel_rfl) (by kernel_rfl) (fun _=>rfl) fun x=>by kernel_rfl
def K7:Kn Tryz.prog VV:=mk 7 Tryz.f7 ⟨[.ls .c_sapi_Fact],[.v .c_i64,.v .c_bool]⟩ (fun x=>a8x x.1) w2 u2 .n [K19] (by kernel_rfl) (by kernel_rfl) (fun _=>rfl) fun x=>by kernel_rfl
def K26:Kn Tryz.prog VV:=mk 26 Tryz.f26 ⟨[.v .c_i64],[.v .c_bool]⟩ (fun x=>a4o x.1) w1 u1 .n [] (by kernel_rfl) (by kernel_rfl) (fun _=>rfl) fun x=>by kernel_rfl
def K84:Kn Tryz.prog VV:=mk 84 Tryz.f84 ⟨[.v .c_i64],[.v .c_bool]⟩ (fun x=>b2t x.1) w1 u1 .n [] (by kernel_rfl) (by kernel_rfl) (fun _=>rfl) fun x=>by kernel_rfl
def K44:Kn Tryz.prog VV:=mk 44 Tryz.f44 ⟨[.v .c_i64,.v .c_i64],[.v .c_i64]⟩ (fun x=>a0b x.1 x.2.1) w1 u1 .n [K84] (by kernel_rfl) (by kernel_rfl) (fun _=>rfl) fun x=>by kernel_rfl
def K45:Kn Tryz.prog VV:=mk 45 Tryz.f45 ⟨[.v .c_i64],[.v .c_i64]⟩ (fun x=>a29 x.1) w1 u1 .n [] (by kernel_rfl) (by kernel_rfl) (fun _=>rfl) fun x=>by kernel_rfl
def K27:Kn Tryz.prog VV:=mk 27 Tryz.f27 ⟨[.v .c_i64,.v .c_i64,.v .c_i64],[.v .c_i64,.v .c_bool]⟩ (fun x=>a7d x.1 x.2.1 x.2.2.1) w2 u2 (sk 3 (.s (.s .n (.l [0,1] [] [.v 8 .c_i64,.v 9 .c_i64] .n)) .n)) [K44,K45] (by kernel_rfl) (by kernel_rfl) (fun _=>rfl) fun x=>by kernel_rfl
def K10:Kn Tryz.prog VV:=mk 10 Tryz.f10 ⟨[.v .c_i64],[.v .c_i64,.v .c_bool]⟩ (fun x=>a1p x.1) w2 u2 .n [K26,K27] (by kernel_rfl) (by kernel_rfl) (fun _=>rfl) fun x=>by kernel_rfl
def g2c:Kn Tryz.prog VV:=mk 140 Tryz.f140 ⟨[.v .c_i64],[.v .c_bool]⟩ (fun x=>a4f x.1) w1 u1 .n [] (by kernel_rfl) (by kernel_rfl) (fun _=>rfl) fun x=>by kernel_rfl
def K141:Kn Tryz.prog VV:=mk 141 Tryz.f141 ⟨[.v .c_i64],[.v .c_i64]⟩ (fun x=>a4r x.1) w1 u1 .n [K84] (by kernel_rfl) (by kernel_rfl) (fun _=>rfl) fun x=>by kernel_rfl
def K85:Kn Tryz.prog VV:=mk 85 Tryz.f85 ⟨[.v .c_i64],[.v .c_i64,.v .c_i64,.v .c_i64,.v .c_bool]⟩ (fun x=>a9h x.1) (fun b=>((b.1,(b.2.1,(b.2.2.1,(b.2.2.2,())))),())) (fun p=>(p.1.1,p.1.2.1,p.1.2.2.1,p.1.2.2.2.1)) (sk 3 (.s (.l [0] [] [.v 2 .c_i64] .n) (.s .n (.s .n (.s (.l [2] [] [.v 3 .c_i64,.v 6 .c_i64] .n) .n))))) [K44,K45,g2c,K141] (by kernel_rfl) (by kernel_rfl) (fun _=>rfl) fun x=>by kernel_rfl
def K46:Kn Tryz.prog VV:=mk 46 Tryz.f46 ⟨[.v .c_i64],[.v .c_i64]⟩ (fun x=>a6e x.1) w1 u1 .n [K85] (by kernel_rfl) (by kernel_rfl) (fun _=>rfl) fun x=>by kernel_rfl
def K28:Kn Tryz.prog VV:=mk 28 Tryz.f28 ⟨[.v .c_sClaim],[.v .c_i64,.v .c_bool]⟩ (fun x=>a1z x.1) w2 u2 (sk 3 (.j [] [.v 4 .c_i64] .n .n)) [K10,K46] (by kernel_rfl) (by kernel_rfl) (fun _=>rfl) fun x=>by kernel_rfl
def K30:Kn Tryz.prog VV:=mk 30 Tryz.f30 ⟨[.v .c_sClaim],[.v .c_bool]⟩ (fun x=>a4d x.1) w1 u1 (sk 2 (.j [] [.bx 1 1 66 .c_sClaim] (.s .n (.j [] [.bx 1 1 66 .c_sClaim,.v 34 .c_i64,.v 35 .c_bool] .n (.s .n (.j [] [.bx 1 1 66 .c_sClaim,.v 53 .c_bool] .n .n)))) .n)) [K28] (by kernel_rfl) (by kernel_rfl) (fun _=>rfl) fun x=>by kernel_rfl
def K144:Kn Tryz.prog VV:=mk 144 Tryz.f144 ⟨[.v .c_u64],[.v .c_i64]⟩ (fun x=>c46 x.1) w1 u1 .n [K234] (by kernel_rfl) (by kernel_rfl) (fun _=>rfl) fun x=>by kernel_rfl
def K90:Kn Tryz.prog VV:=mk 90 Tryz.f90 ⟨[.v .c_sClaim,.v .c_sClaim],[.v .c_i64]⟩ (fun x=>a3t x.1 x.2.1) w1 u1 .n [K41,K42] (by kernel_rfl) (by kernel_rfl) (fun _=>rfl) fun x=>by kernel_rfl
def K91:Kn Tryz.prog VV:=mk 91 Tryz.f91 ⟨[.ow 66 .c_sClaim],[.ow 66 .c_sClaim]⟩ (fun x=>a2a x.1) w1 u1 (sk 2 (.s (.s .n (.l [] [] [.ow 0 1 66 .c_sClaim,.v 3 .c_i64] (.s .n (.s (.s .n (.s (.s (.g [1002]) (.s (.s .n (.l [] [] [.ow 0 1 66 .c_sClaim,.v 3 .c_i64,.v 5 .c_i64,.vw 4 1 .c_sClaim] .n)) (.s (.g [1002]) (.s (.g [2002]) .n)))) .n)) .n)))) .n)) [] (by kernel_rfl) (by kernel_rfl) (fun _=>rfl) fun x=>by kernel_rfl
def e13:Kn Tryz.prog VV:=mk 224 Tryz.f224 ⟨[.so 66 .c_sClaim,.v .c_i64,.v .c_i64,.cl 90 []],[]⟩ (fun x=>s5 x.1 x.2.1 x.2.2.1) (fun b=>((),(b,()))) (fun p=>p.2.1) (.s .n (.l [1,2,3] [] [.ow 0 0 66 .c_sClaim,.v 8 .c_i64] (.s .n (.s (.s .n (.l [1,2,3,8] [] [.ow 0 0 66 .c_sClaim,.v 9 .c_i64] .n)) .n)))) [K90] (by kernel_rfl) (by kernel_rfl) (fun _=>rfl) fun x=>by kernel_rfl
def b7f:Sig VV:=⟨[.so 66 .c_sClaim,.v .c_i64,.v .c_i64,.v .c_i64,.cl 90 []],[]⟩
def c5q (R:Ring_slices_pdqsortCmpFunc_of_api_Claim_c_decision_compare):Fent VV:=⟨b7f,List Claim,fun x=>R.f_slices_pdqsortCmpFunc_of_api_Claim x.1 x.2.1 x.2.2.1 x.2.2.2.1,fun b=>((),(b,())),none⟩
def e1w:Fent VV:=c5q (c7 FU)
def d20:Ress VV b7f.rs×Outs VV b7f.ps -> List Claim:=fun p=>p.2.1
def d0g:Ann VV.C:=(.s .n (.s .n (.l [4] [] [.ow 0 0 66 .c_sClaim,.v 1 .c_i64,.v 2 .c_i64,.v 3 .c_i64,.v 10 .c_bool,.v 11 .c_bool] (.s .n (.s .n (.s .n (.j [] [.ow 0 0 66 .c_sClaim,.v 1 .c_i64,.v 2 .c_i64,.v 3 .c_i64,.cl 4 90 [],.v 10 .c_bool,.v 11 .c_bool,.v 12 .c_i64] .n .n)))))))
def d16 (R:Ring_slices_pdqsortCmpFunc_of_api_Claim_c_decision_compare):Phi VV:=fun f ys=>lkF f ys [e13.e]
theorem d8j (R:Ring_slices_pdqsortCmpFunc_of_api_Claim_c_decision_compare):OKΦ Tryz.prog (d16 R):=okl ⟨e13.ok,trivial⟩
theorem e3h (R:Ring_slices_pdqsortCmpFunc_of_api_Claim_c_decision_compare): ∀x,c8d Tryz.prog (d16 R) b7f d20 Tryz.f143 d0g x=n9 R x.1 x.2.1 x.2.2.1 x.2.2.2.1:=fun x=>by kernel_rfl
theorem d3f:d02 Tryz.f143 b7f=true:=by kernel_rfl
theorem a06: ∀n,SX.Spec Tryz.prog 143 (c5q (c7 n))
 | 0=>(fun _ _ h=>(by cases (show none = some _ from h)))
 | n+1=>let h143:=a06 n;a7f (fe:=c5q (c7 (n+1))) uok (d8j (c7 n)) mixed (fn:=Tryz.f143) (by kernel_rfl) d20 d0g (u6 d3f).1 (u6 d3f).2 (fun _=>rfl) (e3h (c7 n))
def f2k:Kn Tryz.prog VV:=⟨143,e1w,knS rfl ⟨(a06 FU),fun _ _=>by kernel_rfl⟩⟩
def f9s:Kn Tryz.prog VV:=mk 89 Tryz.f89 ⟨[.so 66 .c_sClaim,.cl 90 []],[]⟩ (fun x=>n8 x.1) (fun b=>((),(b,()))) (fun p=>p.2.1) .n [f2k,K144] (by kernel_rfl) (by kernel_rfl) (fun _=>rfl) fun x=>by kernel_rfl
def K48:Kn Tryz.prog VV:=mk 48 Tryz.f48 ⟨[.ls .c_sClaim],[.ow 66 .c_sClaim]⟩ (fun x=>a7b x.1) w1 u1 (sk 2 (.s (.s .n (.l [6,7] [] [.ow 3 1 66 .c_sClaim,.v 8 .c_i64] .n)) .n)) [K30,f9s,K91] (by kernel_rfl) (by kernel_rfl) (fun _=>rfl) fun x=>by kernel_rfl
def K86:Kn Tryz.prog VV:=mk 86 Tryz.f86 ⟨[.v .c_sClaim,.v .c_i64],[.v .c_bool]⟩ (fun x=>a66 x.1 x.2.1) w1 u1 .n [K28] (by kernel_rfl) (by kernel_rfl) (fun _=>rfl) fun x=>by kernel_rfl
def K88:Kn Tryz.prog VV:=mk 88 Tryz.f88 ⟨[.v .c_sClaim,.v .c_sClaim],[.v .c_i64]⟩ (fun x=>a2g x.1 x.2.1) w1 u1 .n [K41,K42] (by kernel_rfl) (by kernel_rfl) (fun _=>rfl) fun x=>by kernel_rfl
def f5j:Kn Tryz.prog VV:=mk 224 Tryz.f224 ⟨[.so 66 .c_sClaim,.v .c_i64,.v .c_i64,.cl 88 []],[]⟩ (fun x=>k8 x.1 x.2.1 x.2.2.1) (fun b=>((),(b,()))) (fun p=>p.2.1) (.s .n (.l [1,2,3] [] [.ow 0 0 66 .c_sClaim,.v 8 .c_i64] (.s .n (.s (.s .n (.l [1,2,3,8] [] [.ow 0 0 66 .c_sClaim,.v 9 .c_i64] .n)) .n)))) [K88] (by kernel_rfl) (by kernel_rfl) (fun _=>rfl) fun x=>by kernel_rfl
def f5h:Kn Tryz.prog VV:=mk 142 Tryz.f142 ⟨[.so 66 .c_sClaim,.v .c_i64,.cl 88 []],[]⟩ (fun x=>u5 x.1 x.2.1) (fun b=>((),(b,()))) (fun p=>p.2.1) (sk 2 (.s (.l [1,2,6] [] [.ow 0 0 66 .c_sClaim,.v 7 .c_i64,.v 8 .c_i64] .n) (.s .n (.l [1,2] [] [.ow 0 0 66 .c_sClaim,.v 6 .c_i64] (.s .n (.s .n (.s (.l [1,2,6] [] [.ow 0 0 66 .c_sClaim,.v 7 .c_i64,.v 8 .c_i64] .n) .n))))))) [f5j] (by kernel_rfl) (by kernel_rfl) (fun _=>rfl) fun x=>by kernel_rfl
def g0a:Kn Tryz.prog VV:=mk 87 Tryz.f87 ⟨[.so 66 .c_sClaim,.cl 88 []],[]⟩ (fun x=>m7 x.1) (fun b=>((),(b,()))) (fun p=>p.2.1) .n [f5h] (by kernel_rfl) (by kernel_rfl) (fun _=>rfl) fun x=>by kernel_rfl
def K47:Kn Tryz.prog VV:=mk 47 Tryz.f47 ⟨[.ls .c_sClaim,.v .c_i64,.v .c_i64],[.ow 66 .c_sClaim]⟩ (fun x=>a0d x.1 x.2.1 x.2.2.1) w1 u1 (sk 4 (.s (.s .n (.l [1,2,12,13] [] [.ow 7 3 66 .c_sClaim,.bx 8 4 152 .c_A6_bool,.bx 9 5 153 .c_A100_bool,.v 14 .c_i64] .n)) .n)) [K86,g0a] (by kernel_rfl) (by kernel_rfl) (fun _=>rfl) fun x=>by kernel_rfl
def K29:Kn Tryz.prog VV:=mk 29 Tryz.f29 ⟨[.ls .c_sClaim,.v .c_i64,.v .c_i64],[.ow 66 .c_sClaim]⟩ (fun x=>b7l x.1 x.2.1 x.2.2.1) w1 u1 .n [K47,K48] (by kernel_rfl) (by kernel_rfl) (fun _=>rfl) fun x=>by kernel_rfl
def K33:Kn Tryz.prog VV:=mk 33 Tryz.f33 ⟨[.v .c_sLaws,.ls .c_sapi_Fact,.ls .c_sClaim,.v .c_i64],[.bo 104 .c_sdecision_file]⟩ (fun x=>a9u x.1 x.2.1 x.2.2.1 x.2.2.2.1) w1 u1 .n [K8,K9,K48] (by kernel_rfl) (by kernel_rfl) (fun _=>rfl) fun x=>by kernel_rfl
def K92:Kn Tryz.prog VV:=mk 92 Tryz.f92 ⟨[.rp 104 .c_sdecision_file,.v .c_i64,.v .c_i64],[.ow 66 .c_sClaim]⟩ (fun x=>a1f x.1 x.2.1 x.2.2.1) w1 u1 (sk 2 (.s (.s .n (.l [1,20] [] [.ow 7 3 66 .c_sClaim,.ow 19 4 66 .c_sClaim,.v 21 .c_i64] .n)) .n)) [K47] (by kernel_rfl) (by kernel_rfl) (fun _=>rfl) fun x=>by kernel_rfl
def K93:Kn Tryz.prog VV:=mk 93 Tryz.f93 ⟨[.rp 104 .c_sdecision_file,.v .c_i64],[.v .c_bool]⟩ (fun x=>a0w x.1 x.2.1) w1 u1 .n [K7] (by kernel_rfl) (by kernel_rfl) (fun _=>rfl) fun x=>by kernel_rfl
def f7w:Kn Tryz.prog VV:=mk 20 Tryz.f20 ⟨[.ls .c_sapi_Fact,.cl 39 []],[.ow 57 .c_sapi_Fact]⟩ (fun x=>a3f x.1) w1 u1 (sk 2 (.s (.s .n (.l [1,8,9] [] [.ow 5 2 57 .c_sapi_Fact,.v 10 .c_i64] .n)) .n)) [K39] (by kernel_rfl) (by kernel_rfl) (fun _=>rfl) fun x=>by kernel_rfl
def K146:Kn Tryz.prog VV:=mk 146 Tryz.f146 ⟨[.ls .c_sapi_Fact],[.ow 57 .c_sapi_Fact]⟩ (fun x=>b1b x.1) w1 u1 .n [f7w] (by kernel_rfl) (by kernel_rfl) (fun _=>rfl) fun x=>by kernel_rfl
def K183:Kn Tryz.prog VV:=mk 183 Tryz.f183 ⟨[.ls .c_sapi_Fact],[.ow 57 .c_sapi_Fact]⟩ (fun x=>b4k x.1) w1 u1 .n [K9,K146] (by kernel_rfl) (by kernel_rfl) (fun _=>rfl) fun x=>by kernel_rfl
def K268:Kn Tryz.prog VV:=mk 268 Tryz.f268 ⟨[.ls .c_sapi_Fact,.v .c_i64,.v .c_i64],[.v .c_bool]⟩ (fun x=>a8z x.1 x.2.1 x.2.2.1) w1 u1 .n [K7,K8] (by kernel_rfl) (by kernel_rfl) (fun _=>rfl) fun x=>by kernel_rfl
def K355:Kn Tryz.prog VV:=mk 355 Tryz.f355 ⟨[.v .c_sapi_Fact,.rp 3 .c_i64,.rp 3 .c_i64],[.v .c_bool]⟩ (fun x=>b3l x.1 x.2.1 x.2.2.1) w1 u1 .n [] (by kernel_rfl) (by kernel_rfl) (fun _=>rfl) fun x=>by kernel_rfl
def e7y:Kn Tryz.prog VV:=mk 235 Tryz.f235 ⟨[.ls .c_sapi_Fact,.cl 355 [.c_i64,.c_i64]],[.v .c_i64]⟩ (fun x=>a07 x.1 x.2.1.1 x.2.1.2.1) w1 u1 (.s .n (.s (.s .n (.l [0,1,7] [] [.v 8 .c_i64] .n)) .n)) [K355] (by kernel_rfl) (by kernel_rfl) (fun _=>rfl) fun x=>by kernel_rfl
def e8l:Kn Tryz.prog VV:=mk 145 Tryz.f145 ⟨[.ls .c_sapi_Fact,.cl 355 [.c_i64,.c_i64]],[.v .c_bool]⟩ (fun x=>y6 x.1 x.2.1.1 x.2.1.2.1) w1 u1 .n [e7y] (by kernel_rfl) (by kernel_rfl) (fun _=>rfl) fun x=>by kernel_rfl
def K269:Kn Tryz.prog VV:=mk 269 Tryz.f269 ⟨[.ls .c_sapi_Fact,.v .c_i64,.v .c_i64],[.v .c_bool]⟩ (fun x=>b2w x.1 x.2.1 x.2.2.1) w1 u1 .n [e8l] (by kernel_rfl) (by kernel_rfl) (fun _=>rfl) fun x=>by kernel_rfl
def K184:Kn Tryz.prog VV:=mk 184 Tryz.f184 ⟨[.ls .c_sapi_Fact,.v .c_i64,.v .c_i64],[.ow 3 .c_i64]⟩ (fun x=>b52 x.1 x.2.1 x.2.2.1) w1 u1 (sk 3 (.s (.s .n (.l [0,1,2] [] [.ow 7 3 3 .c_i64,.v 8 .c_i64] (.s .n (.s (.s (.g [3]) .n) .n)))) .n)) [K8,K268,K269] (by kernel_rfl) (by kernel_rfl) (fun _=>rfl) fun x=>by kernel_rfl
def K158:Kn Tryz.prog VV:=mk 158 Tryz.f158 ⟨[.ls .c_sapi_Fact,.v .c_i64,.v .c_i64],[.ow 3 .c_i64]⟩ (fun x=>b12 x.1 x.2.1 x.2.2.1) w1 u1 .n [K183,K184] (by kernel_rfl) (by kernel_rfl) (fun _=>rfl) fun x=>by kernel_rfl
def K240:Kn Tryz.prog VV:=mk 240 Tryz.f240 ⟨[.ls .c_i64,.v .c_i64],[.v .c_i64]⟩ (fun x=>a8t x.1 x.2.1) w1 u1 (.s .n (.s (.s .n (.l [0,1,7] [] [.v 8 .c_i64] .n)) .n)) [] (by kernel_rfl) (by kernel_rfl) (fun _=>rfl) fun x=>by kernel_rfl
def K157:Kn Tryz.prog VV:=mk 157 Tryz.f157 ⟨[.ls .c_i64,.v .c_i64],[.v .c_bool]⟩ (fun x=>a4s x.1 x.2.1) w1 u1 .n [K240] (by kernel_rfl) (by kernel_rfl) (fun _=>rfl) fun x=>by kernel_rfl
def K99:Kn Tryz.prog VV:=mk 99 Tryz.f99 ⟨[.rp 104 .c_sdecision_file,.v .c_i64,.v .c_i64],[.v .c_bool]⟩ (fun x=>a0r x.1 x.2.1 x.2.2.1) w1 u1 .n [K157,K158] (by kernel_rfl) (by kernel_rfl) (fun _=>rfl) fun x=>by kernel_rfl
def K98:Kn Tryz.prog VV:=mk 98 Tryz.f98 ⟨[.v .c_sClaim,.rp 73 .c_psdecision_file,.rp 3 .c_i64],[.v .c_bool]⟩ (fun x=>a8y x.1 x.2.1 x.2.2.1) w1 u1 .n [K99] (by kernel_rfl) (by kernel_rfl) (fun _=>rfl) fun x=>by kernel_rfl
def f2l:Kn Tryz.prog VV:=mk 156 Tryz.f156 ⟨[.ls .c_sClaim,.cl 98 [.c_psdecision_file,.c_i64]],[.v .c_i64]⟩ (fun x=>a0i x.1 x.2.1.1 x.2.1.2.1) w1 u1 (.s .n (.s (.s .n (.l [0,1,7] [] [.v 8 .c_i64] .n)) .n)) [K98] (by kernel_rfl) (by kernel_rfl) (fun _=>rfl) fun x=>by kernel_rfl
def f7b:Kn Tryz.prog VV:=mk 97 Tryz.f97 ⟨[.ls .c_sClaim,.cl 98 [.c_psdecision_file,.c_i64]],[.v .c_bool]⟩ (fun x=>a0c x.1 x.2.1.1 x.2.1.2.1) w1 u1 .n [f2l] (by kernel_rfl) (by kernel_rfl) (fun _=>rfl) fun x=>by kernel_rfl
def K49:Kn Tryz.prog VV:=mk 49 Tryz.f49 ⟨[.rp 104 .c_sdecision_file,.v .c_i64,.v .c_i64,.v .c_i64],[.v .c_bool]⟩ (fun x=>s4 x.1 x.2.1 x.2.2.1 x.2.2.2.1) w1 u1 .n [K92,K93,f7b] (by kernel_rfl) (by kernel_rfl) (fun _=>rfl) fun x=>by kernel_rfl
def K31:Kn Tryz.prog VV:=mk 31 Tryz.f31 ⟨[.ls .c_sapi_Fact,.ls .c_sClaim,.v .c_i64,.v .c_i64,.v .c_i64],[.v .c_bool]⟩ (fun x=>b0k x.1 x.2.1 x.2.2.1 x.2.2.2.1 x.2.2.2.2.1) w1 u1 (sk 2 (.s (.g [1]) .n)) [K10,K33,K49] (by kernel_rfl) (by kernel_rfl) (fun _=>rfl) fun x=>by kernel_rfl
def K11:Kn Tryz.prog VV:=mk 11 Tryz.f11 ⟨[],[.v .c_bool]⟩ (fun x=>b00) w1 u1 (sk 5 (.s (.g [21,26]) .n)) [K27,K28,K29,K30,K31] (by kernel_rfl) (by kernel_rfl) (fun _=>rfl) fun x=>by kernel_rfl
def K335:Kn Tryz.prog VV:=mk 335 Tryz.f335 ⟨[.v .c_u8],[.v .c_bool]⟩ (fun x=>c0b x.1) w1 u1 .n [] (by kernel_rfl) (by kernel_rfl) (fun _=>rfl) fun x=>by kernel_rfl
def K410:Kn Tryz.prog VV:=mk 410 Tryz.f410 ⟨[.v .c_u8],[.v .c_bool]⟩ (fun x=>b67 x.1) w1 u1 .n [] (by kernel_rfl) (by kernel_rfl) (fun _=>rfl) fun x=>by kernel_rfl
def K336:Kn Tryz.prog VV:=mk 336 Tryz.f336 ⟨[.v .c_u8],[.v .c_bool]⟩ (fun x=>c3b x.1) w1 u1 .n [K335,K410] (by kernel_rfl) (by kernel_rfl) (fun _=>rfl) fun x=>by kernel_rfl
def K241:Kn Tryz.prog VV:=mk 241 Tryz.f241 ⟨[.v .c_str],[.v .c_bool]⟩ (fun x=>c2w x.1) w1 u1 (sk 2 (.s (.s .n (.l [0] [] [.v 3 .c_i64] .n)) .n)) [K335,K336] (by kernel_rfl) (by kernel_rfl) (fun _=>rfl) fun x=>by kernel_rfl
def K242:Kn Tryz.prog VV:=mk 242 Tryz.f242 ⟨[.v .c_str],[.v .c_bool]⟩ (fun x=>b8y x.1) w1 u1 .n [] (by kernel_rfl) (by kernel_rfl) (fun _=>rfl) fun x=>by kernel_rfl
def g2b:Kn Tryz.prog VV:=mk 159 Tryz.f159 ⟨[.v .c_str],[.v .c_bool]⟩ (fun x=>a50 x.1) w1 u1 .n [K241,K242] (by kernel_rfl) (by kernel_rfl) (fun _=>rfl) fun x=>by kernel_rfl
def K244:Kn Tryz.prog VV:=mk 244 Tryz.f244 ⟨[],[.ow 435 .c_ssyntax_entry]⟩ (fun x=>b4p) w1 u1 .n [] (by kernel_rfl) (by kernel_rfl) (fun _=>rfl) fun x=>by kernel_rfl
def K338:Kn Tryz.prog VV:=mk 338 Tryz.f338 ⟨[.v .c_ssyntax_entry,.rp 3 .c_i64],[.v .c_bool]⟩ (fun x=>b5l x.1 x.2.1) w1 u1 .n [] (by kernel_rfl) (by kernel_rfl) (fun _=>rfl) fun x=>by kernel_rfl
def e6g:Kn Tryz.prog VV:=mk 337 Tryz.f337 ⟨[.ls .c_ssyntax_entry,.cl 338 [.c_i64]],[.v .c_i64]⟩ (fun x=>a0u x.1 x.2.1.1) w1 u1 (.s .n (.s (.s .n (.l [0,1,7] [] [.v 8 .c_i64] .n)) .n)) [K338] (by kernel_rfl) (by kernel_rfl) (fun _=>rfl) fun x=>by kernel_rfl
def K243:Kn Tryz.prog VV:=mk 243 Tryz.f243 ⟨[.ls .c_ssyntax_entry,.v .c_i64],[.v .c_str]⟩ (fun x=>a1l x.1 x.2.1) w1 u1 .n [e6g] (by kernel_rfl) (by kernel_rfl) (fun _=>rfl) fun x=>by kernel_rfl
def K245:Kn Tryz.prog VV:=mk 245 Tryz.f245 ⟨[],[.ow 435 .c_ssyntax_entry]⟩ (fun x=>b48) w1 u1 .n [] (by kernel_rfl) (by kernel_rfl) (fun _=>rfl) fun x=>by kernel_rfl
def K529:Kn Tryz.prog VV:=mk 529 Tryz.f529 ⟨[.v .c_str,.v .c_str],[.v .c_str,.v .c_str,.v .c_bool]⟩ (fun x=>b34 x.1 x.2.1) (fun b=>((b.1,(b.2.1,(b.2.2,()))),())) (fun p=>(p.1.1,p.1.2.1,p.1.2.2.1)) .n [K223] (by kernel_rfl) (by kernel_rfl) (fun _=>rfl) fun x=>by kernel_rfl
def K473:Kn Tryz.prog VV:=mk 473 Tryz.f473 ⟨[.v .c_str,.v .c_str],[.v .c_str,.v .c_str,.v .c_bool]⟩ (fun x=>b62 x.1 x.2.1) (fun b=>((b.1,(b.2.1,(b.2.2,()))),())) (fun p=>(p.1.1,p.1.2.1,p.1.2.2.1)) .n [K529] (by kernel_rfl) (by kernel_rfl) (fun _=>rfl) fun x=>by kernel_rfl
def K474:Kn Tryz.prog VV:=mk 474 Tryz.f474 ⟨[.v .c_str],[.v .c_i64,.v .c_bool]⟩ (fun x=>a5r x.1) w2 u2 (.s .n (.s (.s .n (.l [0] [] [.v 2 .c_i64,.v 4 .c_i64] .n)) .n)) [K410] (by kernel_rfl) (by kernel_rfl) (fun _=>rfl) fun x=>by kernel_rfl
def K412:Kn Tryz.prog VV:=mk 412 Tryz.f412 ⟨[.v .c_str],[.v .c_sFraction,.v .c_i64,.v .c_bool]⟩ (fun x=>b2p x.1) (fun b=>((b.1,(b.2.1,(b.2.2,()))),())) (fun p=>(p.1.1,p.1.2.1,p.1.2.2.1)) (sk 2 (.j [] [.v 0 .c_str,.bx 2 1 81 .c_sFraction,.v 3 .c_i64] .n (.s .n (.s .n (.s .n (.s .n (.s .n (.s .n (.j [] [.bx 2 1 81 .c_sFraction,.v 3 .c_i64,.v 9 .c_i64,.v 11 .c_i64] (.s .n (.l [3,11] [] [.bx 2 1 81 .c_sFraction,.v 9 .c_i64,.it 100 2] .n)) (.s .n (.s (.s .n (.l [3,113] [] [.bx 2 1 81 .c_sFraction,.v 114 .c_i64] (.s .n (.s .n (.s (.s .n (.l [3,14,113,114] [] [.bx 2 1 81 .c_sFraction] .n)) .n))))) .n))))))))))) [K473,K474] (by kernel_rfl) (by kernel_rfl) (fun _=>rfl) fun x=>by kernel_rfl
def K339:Kn Tryz.prog VV:=mk 339 Tryz.f339 ⟨[.v .c_sFraction,.v .c_i64],[.v .c_str,.v .c_bool]⟩ (fun x=>a0h x.1 x.2.1) w2 u2 (sk 4 (.s (.s .n (.l [1] [] [.bx 2 2 81 .c_sFraction,.v 6 .c_str,.v 7 .c_i64,.v 8 .c_i64] (.s .n (.s (.j [] [.v 1 .c_i64,.bx 2 2 81 .c_sFraction,.v 6 .c_str,.v 7 .c_i64,.v 8 .c_i64] .n .n) .n)))) (.j [] [.v 1 .c_i64,.bx 2 2 81 .c_sFraction,.v 6 .c_str] .n .n))) [K411,K412] (by kernel_rfl) (by kernel_rfl) (fun _=>rfl) fun x=>by kernel_rfl
def K340:Kn Tryz.prog VV:=mk 340 Tryz.f340 ⟨[.v .c_i64],[.v .c_bool]⟩ (fun x=>b28 x.1) w1 u1 .n [] (by kernel_rfl) (by kernel_rfl) (fun _=>rfl) fun x=>by kernel_rfl
def K246:Kn Tryz.prog VV:=mk 246 Tryz.f246 ⟨[.v .c_sIndex],[.v .c_bool]⟩ (fun x=>b0m x.1) w1 u1 .n [K339,K340] (by kernel_rfl) (by kernel_rfl) (fun _=>rfl) fun x=>by kernel_rfl
def d37:Sig VV:=⟨[.v .c_sExpr],[.v .c_i64]⟩
def d0t (R:Ring_syntax_Depth):Fent VV:=⟨d37,Int,fun x=>R.f_syntax_Depth x.1,fun b=>((b,()),()),none⟩
def g09:Fent VV:=d0t (a1r FU)
def f0i:Ress VV d37.rs×Outs VV d37.ps -> Int:=fun p=>p.1.1
def f09:Ann VV.C:=(.s .n (.s .n (.s (.s .n (.l [7,8] [] [.v 3 .c_i64,.v 9 .c_i64] .n)) .n)))
def e9h (R:Ring_syntax_Depth):Phi VV:=fun f ys=>lkF f ys [(341,d0t R)]
theorem f5q (R:Ring_syntax_Depth) (hr341:SX.Spec Tryz.prog 341 (d0t R)):OKΦ Tryz.prog (e9h R):=okl ⟨knS rfl ⟨hr341,fun _ _=>by kernel_rfl⟩,trivial⟩
theorem f9a (R:Ring_syntax_Depth): ∀x,c8d Tryz.prog (e9h R) d37 f0i Tryz.f341 f09 x=b1d R x.1:=fun x=>by kernel_rfl
theorem f04:d02 Tryz.f341 d37=true:=by kernel_rfl
theorem b2l: ∀n,SX.Spec Tryz.prog 341 (d0t (a1r n))
 | 0=>(fun _ _ h=>(by cases (show none = some _ from h)))
 | n+1=>let h341:=b2l n;a7f (fe:=d0t (a1r (n+1))) uok (f5q (a1r n) h341) mixed (fn:=Tryz.f341) (by kernel_rfl) f0i f09 (u6 f04).1 (u6 f04).2 (fun _=>rfl) (f9a (a1r n))
def K341:Kn Tryz.prog VV:=⟨341,g09,knS rfl ⟨(b2l FU),fun _ _=>by kernel_rfl⟩⟩
def d10:Sig VV:=⟨[.v .c_sExpr],[.v .c_i64]⟩
def d2r (R:Ring_syntax_Size):Fent VV:=⟨d10,Int,fun x=>R.f_syntax_Size x.1,fun b=>((b,()),()),none⟩
def f8w:Fent VV:=d2r (a2n FU)
def f0j:Ress VV d10.rs×Outs VV d10.ps -> Int:=fun p=>p.1.1
def f0x:Ann VV.C:=(.s .n (.s .n (.s (.s .n (.l [7,8] [] [.v 3 .c_i64,.v 9 .c_i64] .n)) .n)))
def f1x (R:Ring_syntax_Size):Phi VV:=fun f ys=>lkF f ys [(342,d2r R)]
theorem f4f (R:Ring_syntax_Size) (hr342:SX.Spec Tryz.prog 342 (d2r R)):OKΦ Tryz.prog (f1x R):=okl ⟨knS rfl ⟨hr342,fun _ _=>by kernel_rfl⟩,trivial⟩
theorem f9t (R:Ring_syntax_Size): ∀x,c8d Tryz.prog (f1x R) d10 f0j Tryz.f342 f0x x=b2r R x.1:=fun x=>by kernel_rfl
theorem f0b:d02 Tryz.f342 d10=true:=by kernel_rfl
theorem b3r: ∀n,SX.Spec Tryz.prog 342 (d2r (a2n n))
 | 0=>(fun _ _ h=>(by cases (show none = some _ from h)))
 | n+1=>let h342:=b3r n;a7f (fe:=d2r (a2n (n+1))) uok (f4f (a2n n) h342) mixed (fn:=Tryz.f342) (by kernel_rfl) f0j f0x (u6 f0b).1 (u6 f0b).2 (fun _=>rfl) (f9t (a2n n))
def K342:Kn Tryz.prog VV:=⟨342,f8w,knS rfl ⟨(b3r FU),fun _ _=>by kernel_rfl⟩⟩
def K475:Kn Tryz.prog VV:=mk 475 Tryz.f475 ⟨[.v .c_i64],[.v .c_i64]⟩ (fun x=>a5q x.1) w1 u1 .n [] (by kernel_rfl) (by kernel_rfl) (fun _=>rfl) fun x=>by kernel_rfl
def K413:Kn Tryz.prog VV:=mk 413 Tryz.f413 ⟨[.v .c_sExpr],[.v .c_bool]⟩ (fun x=>a2x x.1) w1 u1 .n [g2b,K339,K475] (by kernel_rfl) (by kernel_rfl) (fun _=>rfl) fun x=>by kernel_rfl
def d1h:Sig VV:=⟨[.v .c_sExpr],[.v .c_bool]⟩
def d31 (R:Ring_syntax_form):Fent VV:=⟨d1h,Bool,fun x=>R.f_syntax_form x.1,fun b=>((b,()),()),none⟩
def f9p:Fent VV:=d31 (d9 FU)
def f0y:Ress VV d1h.rs×Outs VV d1h.ps -> Bool:=fun p=>p.1.1
def f1q:Ann VV.C:= .n
def d3g:Sig VV:=⟨[.v .c_sExpr],[.v .c_bool]⟩
def d74 (R:Ring_syntax_form):Fent VV:=⟨d3g,Bool,fun x=>R.f_syntax_form_1 x.1,fun b=>((b,()),()),none⟩
def e9x:Ress VV d3g.rs×Outs VV d3g.ps -> Bool:=fun p=>p.1.1
def f1f:Ann VV.C:= .n
def b5e:Sig VV:=⟨[.ls .c_sExpr,.cl 415 []],[.v .c_bool]⟩
def b8m (R:Ring_syntax_form):Fent VV:=⟨b5e,Bool,fun x=>R.f_slices_ContainsFunc_of_api_Expr x.1,fun b=>((b,()),()),none⟩
def c7j:Ress VV b5e.rs×Outs VV b5e.ps -> Bool:=fun p=>p.1.1
def c82:Ann VV.C:= .n
def b5x:Sig VV:=⟨[.ls .c_sExpr,.cl 415 []],[.v .c_i64]⟩
def b8b (R:Ring_syntax_form):Fent VV:=⟨b5x,Int,fun x=>R.f_slices_IndexFunc_of_api_Expr x.1,fun b=>((b,()),()),none⟩
def c7q:Ress VV b5x.rs×Outs VV b5x.ps -> Int:=fun p=>p.1.1
def c7b:Ann VV.C:=(.s .n (.s (.s .n (.l [0,1,7] [] [.v 8 .c_i64] .n)) .n))
def f1h (R:Ring_syntax_form):Phi VV:=fun f ys=>lkF f ys [K413.e,(414,b8m R)]
theorem f3f (R:Ring_syntax_form) (hr414:SX.Spec Tryz.prog 414 (b8m R)):OKΦ Tryz.prog (f1h R):=okl ⟨K413.ok,knS rfl ⟨hr414,fun _ _=>by kernel_rfl⟩,trivial⟩
theorem g0l (R:Ring_syntax_form): ∀x,c8d Tryz.prog (f1h R) d1h f0y Tryz.f343 f1q x=b2x R x.1:=fun x=>by kernel_rfl
theorem e96:d02 Tryz.f343 d1h=true:=by kernel_rfl
def f0s (R:Ring_syntax_form):Phi VV:=fun f ys=>lkF f ys [(343,d31 R)]
theorem f58 (R:Ring_syntax_form) (hr343:SX.Spec Tryz.prog 343 (d31 R)):OKΦ Tryz.prog (f0s R):=okl ⟨knS rfl ⟨hr343,fun _ _=>by kernel_rfl⟩,trivial⟩
theorem g0v (R:Ring_syntax_form): ∀x,c8d Tryz.prog (f0s R) d3g e9x Tryz.f415 f1f x=a9d R x.1:=fun x=>by kernel_rfl
theorem e9u:d02 Tryz.f415 d3g=true:=by kernel_rfl
def c7z (R:Ring_syntax_form):Phi VV:=fun f ys=>lkF f ys [(476,b8b R)]
theorem d5i (R:Ring_syntax_form) (hr476:SX.Spec Tryz.prog 476 (b8b R)):OKΦ Tryz.prog (c7z R):=okl ⟨knS rfl ⟨hr476,fun _ _=>by kernel_rfl⟩,trivial⟩
theorem d9e (R:Ring_syntax_form): ∀x,c8d Tryz.prog (c7z R) b5e c7j Tryz.f414 c82 x=q0 R x.1:=fun x=>by kernel_rfl
theorem c7x:d02 Tryz.f414 b5e=true:=by kernel_rfl
def c85 (R:Ring_syntax_form):Phi VV:=fun f ys=>lkF f ys [(415,d74 R)]
theorem d47 (R:Ring_syntax_form) (hr415:SX.Spec Tryz.prog 415 (d74 R)):OKΦ Tryz.prog (c85 R):=okl ⟨knS rfl ⟨hr415,fun _ _=>by kernel_rfl⟩,trivial⟩
theorem e02 (R:Ring_syntax_form): ∀x,c8d Tryz.prog (c85 R) b5x c7q Tryz.f476 c7b x=o4 R x.1:=fun x=>by kernel_rfl
theorem c7r:d02 Tryz.f476 b5x=true:=by kernel_rfl
theorem b3u: ∀n,SX.Spec Tryz.prog 343 (d31 (d9 n)) /\ SX.Spec Tryz.prog 415 (d74 (d9 n)) /\ SX.Spec Tryz.prog 414 (b8m (d9 n)) /\ SX.Spec Tryz.prog 476 (b8b (d9 n))
 | 0=>⟨(fun _ _ h=>(by cases (show none = some _ from h))),(fun _ _ h=>(by cases (show none = some _ from h))),(fun _ _ h=>(by cases (show none = some _ from h))),(fun _ _ h=>(by cases (show none = some _ from h)))⟩
 | n+1=>let ⟨h343,h415,h414,h476⟩:=b3u n;⟨a7f (fe:=d31 (d9 (n+1))) uok (f3f (d9 n) h414) mixed (fn:=Tryz.f343) (by kernel_rfl) f0y f1q (u6 e96).1 (u6 e96).2 (fun _=>rfl) (g0l (d9 n)),a7f (fe:=d74 (d9 (n+1))) uok (f58 (d9 n) h343) mixed (fn:=Tryz.f415) (by kernel_rfl) e9x f1f (u6 e9u).1 (u6 e9u).2 (fun _=>rfl) (g0v (d9 n)),a7f (fe:=b8m (d9 (n+1))) uok (d5i (d9 n) h476) mixed (fn:=Tryz.f414) (by kernel_rfl) c7j c82 (u6 c7x).1 (u6 c7x).2 (fun _=>rfl) (d9e (d9 n)),a7f (fe:=b8b (d9 (n+1))) uok (d47 (d9 n) h415) mixed (fn:=Tryz.f476) (by kernel_rfl) c7q c7b (u6 c7r).1 (u6 c7r).2 (fun _=>rfl) (e02 (d9 n))⟩
def K343:Kn Tryz.prog VV:=⟨343,f9p,knS rfl ⟨(b3u FU).1,fun _ _=>by kernel_rfl⟩⟩
def g46:Kn Tryz.prog VV:=mk 247 Tryz.f247 ⟨[.v .c_sExpr],[.v .c_bool]⟩ (fun x=>a0k x.1) w1 u1 .n [K341,K342,K343] (by kernel_rfl) (by kernel_rfl) (fun _=>rfl) fun x=>by kernel_rfl
def K248:Kn Tryz.prog VV:=mk 248 Tryz.f248 ⟨[],[.ow 435 .c_ssyntax_entry]⟩ (fun x=>a77) w1 u1 .n [] (by kernel_rfl) (by kernel_rfl) (fun _=>rfl) fun x=>by kernel_rfl
def K160:Kn Tryz.prog VV:=mk 160 Tryz.f160 ⟨[.v .c_sVersion],[.v .c_bool]⟩ (fun x=>a5t x.1) w1 u1 (.s .n (.j [] [.bx 1 1 137 .c_sVersion] (.s (.g [4]) .n) (.s .n (.j [] [.bx 1 1 137 .c_sVersion] (.s .n (.l [66,67] [] [.bx 1 1 137 .c_sVersion,.v 68 .c_i64] .n)) (.j [] [.bx 1 1 137 .c_sVersion] (.s .n (.l [89,90] [] [.bx 1 1 137 .c_sVersion,.v 91 .c_i64] .n)) (.j [] [.bx 1 1 137 .c_sVersion] (.s .n (.l [100,101] [] [.bx 1 1 137 .c_sVersion,.v 102 .c_i64] .n)) (.j [] [.bx 1 1 137 .c_sVersion] (.s .n (.l [118,119] [] [.bx 1 1 137 .c_sVersion,.v 120 .c_i64] .n)) (.s (.s .n (.l [143,144] [] [.v 145 .c_i64] .n)) .n)))))))) [g2c,g2b,K243,K244,K245,K246,g46,K248] (by kernel_rfl) (by kernel_rfl) (fun _=>rfl) fun x=>by kernel_rfl
def K100:Kn Tryz.prog VV:=mk 100 Tryz.f100 ⟨[.v .c_sStatute],[.v .c_bool]⟩ (fun x=>b4q x.1) w1 u1 (sk 2 (.s (.s .n (.l [32,33] [] [.v 34 .c_i64] .n)) .n)) [g2b,K160] (by kernel_rfl) (by kernel_rfl) (fun _=>rfl) fun x=>by kernel_rfl
def d23:Sig VV:=⟨[.v .c_str],[.v .c_i64,.v .c_bool]⟩
def e2w:Fent VV:=⟨d23,Int×Bool,fun x=>a76 x.1,fun b=>((b.1,(b.2,())),()),none⟩
def f7c:Ress VV d23.rs×Outs VV d23.ps -> Int×Bool:=fun p=>(p.1.1,p.1.2.1)
def f9d:Ann VV.C:=(.s .n (.s (.s .n (.j [] [.v 4 .c_str,.v 5 .c_bool] .n (.s .n (.j [] [.v 4 .c_str,.v 9 .c_bool] .n .n)))) .n))
theorem f1i:SX.Spec Tryz.prog 249 e2w:=a7f (fe:=e2w) uok (okl (g1s [])) mixed (fn:=Tryz.f249) (by kernel_rfl) f7c f9d (u6 (s:=d23) (by kernel_rfl)).1 (u6 (s:=d23) (by kernel_rfl)).2 (fun _=>rfl) fun x=>by kernel_rfl
def K249:Kn Tryz.prog VV:=⟨249,e2w,knS rfl ⟨f1i,fun _ _=>by kernel_rfl⟩⟩
def f06:Fent VV:=⟨⟨[.v .c_str,.ls .c_sBinding],[.v .c_i64,.v .c_bool]⟩,Int×Bool,fun x=>a61 x.1 x.2.1,fun b=>((b.1,b.2,()),()),none⟩
theorem f8x:SX.Spec Tryz.prog 416 f06:=d4u f1i
def K416:Kn Tryz.prog VV:=⟨416,f06,knS rfl ⟨f8x,fun _ _=>by kernel_rfl⟩⟩
def K250:Kn Tryz.prog VV:=mk 250 Tryz.f250 ⟨[.v .c_str],[.v .c_bool]⟩ (fun x=>b2s x.1) w1 u1 .n [g46] (by kernel_rfl) (by kernel_rfl) (fun _=>rfl) fun x=>by kernel_rfl
def K252:Kn Tryz.prog VV:=mk 252 Tryz.f252 ⟨[.v .c_sBinding,.rp 320 .c_sLet],[.v .c_bool]⟩ (fun x=>c0i x.1 x.2.1) w1 u1 .n [] (by kernel_rfl) (by kernel_rfl) (fun _=>rfl) fun x=>by kernel_rfl
def K345:Kn Tryz.prog VV:=mk 345 Tryz.f345 ⟨[.v .c_sBinding],[.v .c_bool]⟩ (fun x=>b4r x.1) w1 u1 .n [] (by kernel_rfl) (by kernel_rfl) (fun _=>rfl) fun x=>by kernel_rfl
def K417:Kn Tryz.prog VV:=mk 417 Tryz.f417 ⟨[.v .c_i64,.ls .c_i64],[.v .c_i64,.v .c_bool]⟩ (fun x=>a9n x.1 x.2.1) w2 u2 (.s .n (.s (.s .n (.j [] [.ls 1 .c_i64,.v 6 .c_i64,.v 7 .c_bool] .n (.s .n (.s .n (.s .n (.j [] [.ls 1 .c_i64,.v 6 .c_i64,.v 23 .c_bool] .n (.s .n (.s .n (.s .n (.s .n (.s .n (.j [] [.ls 1 .c_i64,.v 6 .c_i64,.v 96 .c_bool] .n (.s .n (.j [] [.ls 1 .c_i64,.v 6 .c_i64,.v 116 .c_bool] .n .n)))))))))))))) .n)) [] (by kernel_rfl) (by kernel_rfl) (fun _=>rfl) fun x=>by kernel_rfl
def d2x:Sig VV:=⟨[.v .c_sExpr,.ls .c_sBinding],[.v .c_i64,.v .c_i64]⟩
def d1p (R:Ring_typing_infer):Fent VV:=⟨d2x,Int×Int,fun x=>R.f_typing_infer x.1 x.2.1,fun b=>((b.1,(b.2,())),()),none⟩
def g0s:Fent VV:=d1p (w8 FU)
def e9d:Ress VV d2x.rs×Outs VV d2x.ps -> Int×Int:=fun p=>(p.1.1,p.1.2.1)
def f0z:Ann VV.C:=(.s .n (.s .n (.s .n (.s (.s .n (.l [1,36,37] [] [.bx 2 2 248 .c_sExpr,.ow 8 3 3 .c_i64,.v 38 .c_i64] .n)) .n))))
def e9p (R:Ring_typing_infer):Phi VV:=fun f ys=>lkF f ys [(346,d1p R),K416.e,K417.e]
theorem f3t (R:Ring_typing_infer) (hr346:SX.Spec Tryz.prog 346 (d1p R)):OKΦ Tryz.prog (e9p R):=okl ⟨knS rfl ⟨hr346,fun _ _=>by kernel_rfl⟩,K416.ok,K417.ok,trivial⟩
theorem g10 (R:Ring_typing_infer): ∀x,c8d Tryz.prog (e9p R) d2x e9d Tryz.f346 f0z x=a3b R x.1 x.2.1:=fun x=>by kernel_rfl
theorem f0g:d02 Tryz.f346 d2x=true:=by kernel_rfl
theorem b2f: ∀n,SX.Spec Tryz.prog 346 (d1p (w8 n))
 | 0=>(fun _ _ h=>(by cases (show none = some _ from h)))
 | n+1=>let h346:=b2f n;a7f (fe:=d1p (w8 (n+1))) uok (f3t (w8 n) h346) mixed (fn:=Tryz.f346) (by kernel_rfl) e9d f0z (u6 f0g).1 (u6 f0g).2 (fun _=>rfl) (g10 (w8 n))
def K346:Kn Tryz.prog VV:=⟨346,g0s,knS rfl ⟨(b2f FU),fun _ _=>by kernel_rfl⟩⟩
def e7b:Kn Tryz.prog VV:=mk 344 Tryz.f344 ⟨[.ls .c_sBinding,.cl 345 []],[.v .c_i64]⟩ (fun x=>y9 x.1) w1 u1 (.s .n (.s (.s .n (.l [0,1,7] [] [.v 8 .c_i64] .n)) .n)) [K345] (by kernel_rfl) (by kernel_rfl) (fun _=>rfl) fun x=>by kernel_rfl
def e6d:Kn Tryz.prog VV:=mk 251 Tryz.f251 ⟨[.ls .c_sBinding,.cl 345 []],[.v .c_bool]⟩ (fun x=>p4 x.1) w1 u1 .n [e7b] (by kernel_rfl) (by kernel_rfl) (fun _=>rfl) fun x=>by kernel_rfl
def K253:Kn Tryz.prog VV:=mk 253 Tryz.f253 ⟨[.v .c_sExpr,.ls .c_sBinding],[.v .c_i64,.v .c_i64]⟩ (fun x=>b1f x.1 x.2.1) w2 u2 .n [g46,e6d,K346] (by kernel_rfl) (by kernel_rfl) (fun _=>rfl) fun x=>by kernel_rfl
def e60:Kn Tryz.prog VV:=mk 344 Tryz.f344 ⟨[.ls .c_sBinding,.cl 252 [.c_sLet]],[.v .c_i64]⟩ (fun x=>a1m x.1 x.2.1.1) w1 u1 (.s .n (.s (.s .n (.l [0,1,7] [] [.v 8 .c_i64] .n)) .n)) [K252] (by kernel_rfl) (by kernel_rfl) (fun _=>rfl) fun x=>by kernel_rfl
def e6i:Kn Tryz.prog VV:=mk 251 Tryz.f251 ⟨[.ls .c_sBinding,.cl 252 [.c_sLet]],[.v .c_bool]⟩ (fun x=>p9 x.1 x.2.1.1) w1 u1 .n [e60] (by kernel_rfl) (by kernel_rfl) (fun _=>rfl) fun x=>by kernel_rfl
def K161:Kn Tryz.prog VV:=mk 161 Tryz.f161 ⟨[.ls .c_sLet],[.ow 346 .c_sBinding,.v .c_i64]⟩ (fun x=>b3a x.1) w2 u2 (sk 3 (.s (.s .n (.l [14,15] [] [.ow 4 1 346 .c_sBinding,.v 16 .c_i64] .n)) .n)) [K249,K250,e6i,K253] (by kernel_rfl) (by kernel_rfl) (fun _=>rfl) fun x=>by kernel_rfl
def K163:Kn Tryz.prog VV:=mk 163 Tryz.f163 ⟨[.v .c_sCredit,.rp 241 .c_sCredit],[.v .c_bool]⟩ (fun x=>b29 x.1 x.2.1) w1 u1 .n [] (by kernel_rfl) (by kernel_rfl) (fun _=>rfl) fun x=>by kernel_rfl
def K165:Kn Tryz.prog VV:=mk 165 Tryz.f165 ⟨[.v .c_sGrant,.rp 250 .c_sGrant],[.v .c_bool]⟩ (fun x=>b24 x.1 x.2.1) w1 u1 .n [] (by kernel_rfl) (by kernel_rfl) (fun _=>rfl) fun x=>by kernel_rfl
def K166:Kn Tryz.prog VV:=mk 166 Tryz.f166 ⟨[.v .c_sExpr,.ls .c_sBinding,.v .c_i64],[.v .c_i64]⟩ (fun x=>b3v x.1 x.2.1 x.2.2.1) w1 u1 .n [K253] (by kernel_rfl) (by kernel_rfl) (fun _=>rfl) fun x=>by kernel_rfl
def K168:Kn Tryz.prog VV:=mk 168 Tryz.f168 ⟨[.v .c_sReduce,.rp 255 .c_sReduce],[.v .c_bool]⟩ (fun x=>b1z x.1 x.2.1) w1 u1 .n [] (by kernel_rfl) (by kernel_rfl) (fun _=>rfl) fun x=>by kernel_rfl
def e78:Kn Tryz.prog VV:=mk 254 Tryz.f254 ⟨[.ls .c_sCredit,.cl 163 [.c_sCredit]],[.v .c_i64]⟩ (fun x=>y7 x.1 x.2.1.1) w1 u1 (.s .n (.s (.s .n (.l [0,1,7] [] [.v 8 .c_i64] .n)) .n)) [K163] (by kernel_rfl) (by kernel_rfl) (fun _=>rfl) fun x=>by kernel_rfl
def e7n:Kn Tryz.prog VV:=mk 162 Tryz.f162 ⟨[.ls .c_sCredit,.cl 163 [.c_sCredit]],[.v .c_bool]⟩ (fun x=>o8 x.1 x.2.1.1) w1 u1 .n [e78] (by kernel_rfl) (by kernel_rfl) (fun _=>rfl) fun x=>by kernel_rfl
def e6c:Kn Tryz.prog VV:=mk 255 Tryz.f255 ⟨[.ls .c_sGrant,.cl 165 [.c_sGrant]],[.v .c_i64]⟩ (fun x=>a01 x.1 x.2.1.1) w1 u1 (.s .n (.s (.s .n (.l [0,1,7] [] [.v 8 .c_i64] .n)) .n)) [K165] (by kernel_rfl) (by kernel_rfl) (fun _=>rfl) fun x=>by kernel_rfl
def e85:Kn Tryz.prog VV:=mk 164 Tryz.f164 ⟨[.ls .c_sGrant,.cl 165 [.c_sGrant]],[.v .c_bool]⟩ (fun x=>p6 x.1 x.2.1.1) w1 u1 .n [e6c] (by kernel_rfl) (by kernel_rfl) (fun _=>rfl) fun x=>by kernel_rfl
def e6u:Kn Tryz.prog VV:=mk 256 Tryz.f256 ⟨[.ls .c_sReduce,.cl 168 [.c_sReduce]],[.v .c_i64]⟩ (fun x=>y8 x.1 x.2.1.1) w1 u1 (.s .n (.s (.s .n (.l [0,1,7] [] [.v 8 .c_i64] .n)) .n)) [K168] (by kernel_rfl) (by kernel_rfl) (fun _=>rfl) fun x=>by kernel_rfl
def e74:Kn Tryz.prog VV:=mk 167 Tryz.f167 ⟨[.ls .c_sReduce,.cl 168 [.c_sReduce]],[.v .c_bool]⟩ (fun x=>o6 x.1 x.2.1.1) w1 u1 .n [e6u] (by kernel_rfl) (by kernel_rfl) (fun _=>rfl) fun x=>by kernel_rfl
def K101:Kn Tryz.prog VV:=mk 101 Tryz.f101 ⟨[.v .c_sVersion],[.v .c_i64]⟩ (fun x=>b1a x.1) w1 u1 (sk 3 (.s (.s .n (.l [26,27] [] [.bx 1 1 137 .c_sVersion,.ow 3 2 346 .c_sBinding,.v 28 .c_i64] .n)) (.s (.s .n (.l [41,42] [] [.bx 1 1 137 .c_sVersion,.ow 3 2 346 .c_sBinding,.v 43 .c_i64] .n)) (.s (.s .n (.l [64,65] [] [.bx 1 1 137 .c_sVersion,.ow 3 2 346 .c_sBinding,.v 66 .c_i64] .n)) (.s (.s .n (.l [93,94] [] [.bx 1 1 137 .c_sVersion,.ow 3 2 346 .c_sBinding,.v 95 .c_i64] .n)) .n))))) [K161,e7n,e85,K166,e74] (by kernel_rfl) (by kernel_rfl) (fun _=>rfl) fun x=>by kernel_rfl
def K50:Kn Tryz.prog VV:=mk 50 Tryz.f50 ⟨[.v .c_sStatute],[.v .c_i64,.v .c_i64]⟩ (fun x=>a5c x.1) w2 u2 (sk 2 (.s (.s .n (.l [11,12] [] [.bx 1 1 86 .c_sStatute,.v 13 .c_i64] .n)) .n)) [K100,K101] (by kernel_rfl) (by kernel_rfl) (fun _=>rfl) fun x=>by kernel_rfl
def K169:Kn Tryz.prog VV:=mk 169 Tryz.f169 ⟨[.v .c_i64,.v .c_i64],[.v .c_bool]⟩ (fun x=>a7u x.1 x.2.1) w1 u1 .n [] (by kernel_rfl) (by kernel_rfl) (fun _=>rfl) fun x=>by kernel_rfl
def K102:Kn Tryz.prog VV:=mk 102 Tryz.f102 ⟨[.v .c_sRules],[.v .c_bool]⟩ (fun x=>a54 x.1) w1 u1 (sk 2 (.s (.s .n (.l [28,29] [] [.bx 1 1 93 .c_sRules,.v 30 .c_i64] .n)) .n)) [g2c,K169] (by kernel_rfl) (by kernel_rfl) (fun _=>rfl) fun x=>by kernel_rfl
def K51:Kn Tryz.prog VV:=mk 51 Tryz.f51 ⟨[.ls .c_sRules],[.v .c_i64]⟩ (fun x=>b1n x.1) w1 u1 (sk 3 (.s (.s .n (.l [0,18,19] [] [.v 20 .c_i64] .n)) .n)) [K102] (by kernel_rfl) (by kernel_rfl) (fun _=>rfl) fun x=>by kernel_rfl
def K103:Kn Tryz.prog VV:=mk 103 Tryz.f103 ⟨[.v .c_i64],[.v .c_bool]⟩ (fun x=>b92 x.1) w1 u1 .n [] (by kernel_rfl) (by kernel_rfl) (fun _=>rfl) fun x=>by kernel_rfl
def K170:Kn Tryz.prog VV:=mk 170 Tryz.f170 ⟨[.v .c_i64],[.v .c_i64]⟩ (fun x=>b4i x.1) w1 u1 .n [K26,K44] (by kernel_rfl) (by kernel_rfl) (fun _=>rfl) fun x=>by kernel_rfl
def K104:Kn Tryz.prog VV:=mk 104 Tryz.f104 ⟨[.v .c_i64],[.v .c_bool]⟩ (fun x=>c4v x.1) w1 u1 .n [K170] (by kernel_rfl) (by kernel_rfl) (fun _=>rfl) fun x=>by kernel_rfl
def K172:Kn Tryz.prog VV:=mk 172 Tryz.f172 ⟨[.v .c_i64],[.v .c_u64]⟩ (fun x=>b6n x.1) w1 u1 .n [] (by kernel_rfl) (by kernel_rfl) (fun _=>rfl) fun x=>by kernel_rfl
def K171:Kn Tryz.prog VV:=mk 171 Tryz.f171 ⟨[.v .c_u64,.v .c_u64],[.v .c_u64]⟩ (fun x=>c3h x.1 x.2.1) w1 u1 (.s .n (.s (.l [] [] [.v 0 .c_u64,.v 1 .c_u64] .n) .n)) [] (by kernel_rfl) (by kernel_rfl) (fun _=>rfl) fun x=>by kernel_rfl
def K105:Kn Tryz.prog VV:=mk 105 Tryz.f105 ⟨[.v .c_sFraction],[.v .c_bool]⟩ (fun x=>b90 x.1) w1 u1 .n [K171,K172] (by kernel_rfl) (by kernel_rfl) (fun _=>rfl) fun x=>by kernel_rfl
def K106:Kn Tryz.prog VV:=mk 106 Tryz.f106 ⟨[.v .c_i64],[.v .c_bool]⟩ (fun x=>b9b x.1) w1 u1 .n [] (by kernel_rfl) (by kernel_rfl) (fun _=>rfl) fun x=>by kernel_rfl
def K52:Kn Tryz.prog VV:=mk 52 Tryz.f52 ⟨[.ls .c_sRate],[.v .c_i64]⟩ (fun x=>a6b x.1) w1 u1 (sk 2 (.s (.s .n (.l [0,8,9] [] [.v 10 .c_i64] .n)) .n)) [K103,K104,K105,K106] (by kernel_rfl) (by kernel_rfl) (fun _=>rfl) fun x=>by kernel_rfl
def K32:Kn Tryz.prog VV:=mk 32 Tryz.f32 ⟨[.v .c_sLaws],[.v .c_i64]⟩ (fun x=>b0z x.1) w1 u1 (.s .n (.s (.s .n (.l [11,12] [] [.bx 1 1 31 .c_sLaws,.v 13 .c_i64] .n)) (.s (.s .n (.l [44,45] [] [.bx 1 1 31 .c_sLaws,.v 46 .c_i64] .n)) .n))) [K50,K51,K52] (by kernel_rfl) (by kernel_rfl) (fun _=>rfl) fun x=>by kernel_rfl
def K55:Kn Tryz.prog VV:=mk 55 Tryz.f55 ⟨[.rp 104 .c_sdecision_file,.v .c_i64,.v .c_i64],[.ow 178 .c_sdecision_item]⟩ (fun x=>a5u x.1 x.2.1 x.2.2.1) w1 u1 (sk 2 (.s (.s .n (.l [0,1,2,17] [] [.ow 7 3 178 .c_sdecision_item,.ow 16 4 3 .c_i64,.v 18 .c_i64] (.s .n (.s .n (.s (.s .n (.s .n (.s .n (.s .n (.j [] [.rp 0 .c_sdecision_file,.v 1 .c_i64,.v 2 .c_i64,.ow 7 3 178 .c_sdecision_item,.v 9 .c_i64,.ls 10 .c_sapi_Fact,.ow 11 4 226 .c_sHeir,.ow 16 5 3 .c_i64,.v 17 .c_i64,.v 18 .c_i64] .n (.s .n (.l [0,1,2,9,10,17,18,58,59] [] [.ow 7 3 178 .c_sdecision_item,.ow 11 4 226 .c_sHeir,.ow 16 5 3 .c_i64,.v 60 .c_i64] .n))))))) .n))))) .n)) [K8,K49,K92] (by kernel_rfl) (by kernel_rfl) (fun _=>rfl) fun x=>by kernel_rfl
def K54:Kn Tryz.prog VV:=mk 54 Tryz.f54 ⟨[.ls .c_sdecision_item],[.ow 170 .c_sGross]⟩ (fun x=>b4w x.1) w1 u1 (sk 2 (.s (.s .n (.l [6,7] [] [.ow 3 1 170 .c_sGross,.v 8 .c_i64] .n)) .n)) [] (by kernel_rfl) (by kernel_rfl) (fun _=>rfl) fun x=>by kernel_rfl
def K173:Kn Tryz.prog VV:=mk 173 Tryz.f173 ⟨[.ls .c_sGross],[.v .c_bool]⟩ (fun x=>b3n x.1) w1 u1 (sk 2 (.s (.s .n (.l [0,10,11] [] [.v 12 .c_i64] .n)) .n)) [] (by kernel_rfl) (by kernel_rfl) (fun _=>rfl) fun x=>by kernel_rfl
def K107:Kn Tryz.prog VV:=mk 107 Tryz.f107 ⟨[.ls .c_sGross,.ls .c_sRate,.v .c_i64],[.ow 172 .c_sDeduction,.v .c_i64]⟩ (fun x=>a5e x.1 x.2.1 x.2.2.1) w2 u2 (sk 3 (.s (.s .n (.l [0,1,2,38] [] [.ow 8 3 22 .c_li64,.v 39 .c_i64] .n)) (.s .n (.s (.s .n (.l [0,1,2,49,50] [] [.ow 8 3 22 .c_li64,.ow 10 4 172 .c_sDeduction,.v 51 .c_i64] .n)) .n)))) [K52,K173] (by kernel_rfl) (by kernel_rfl) (fun _=>rfl) fun x=>by kernel_rfl
def K53:Kn Tryz.prog VV:=mk 53 Tryz.f53 ⟨[.ls .c_sGross,.ls .c_sRate,.v .c_i64],[.ow 114 .c_sNet,.v .c_i64]⟩ (fun x=>a9q x.1 x.2.1 x.2.2.1) w2 u2 (sk 4 (.s (.s .n (.l [31,32] [] [.ow 8 3 172 .c_sDeduction,.ow 10 4 114 .c_sNet,.v 33 .c_i64] .n)) (.s (.s .n (.l [54] [] [.ow 10 3 114 .c_sNet,.ow 53 4 172 .c_sDeduction,.v 55 .c_i64] .n)) (.s (.s .n (.l [80] [] [.ow 10 3 114 .c_sNet,.v 81 .c_i64] .n)) .n)))) [K107] (by kernel_rfl) (by kernel_rfl) (fun _=>rfl) fun x=>by kernel_rfl
def K111:Kn Tryz.prog VV:=mk 111 Tryz.f111 ⟨[.v .c_sNet,.rp 114 .c_sNet],[.v .c_bool]⟩ (fun x=>b2j x.1 x.2.1) w1 u1 .n [] (by kernel_rfl) (by kernel_rfl) (fun _=>rfl) fun x=>by kernel_rfl
def K113:Kn Tryz.prog VV:=mk 113 Tryz.f113 ⟨[.v .c_sNet,.rp 114 .c_sNet],[.v .c_bool]⟩ (fun x=>b2i x.1 x.2.1) w1 u1 .n [] (by kernel_rfl) (by kernel_rfl) (fun _=>rfl) fun x=>by kernel_rfl
def e8e:Kn Tryz.prog VV:=mk 112 Tryz.f112 ⟨[.ls .c_sNet,.cl 111 [.c_sNet]],[.v .c_i64]⟩ (fun x=>a1a x.1 x.2.1.1) w1 u1 (.s .n (.s (.s .n (.l [0,1,7] [] [.v 8 .c_i64] .n)) .n)) [K111] (by kernel_rfl) (by kernel_rfl) (fun _=>rfl) fun x=>by kernel_rfl
def e61:Kn Tryz.prog VV:=mk 112 Tryz.f112 ⟨[.ls .c_sNet,.cl 113 [.c_sNet]],[.v .c_i64]⟩ (fun x=>a1b x.1 x.2.1.1) w1 u1 (.s .n (.s (.s .n (.l [0,1,7] [] [.v 8 .c_i64] .n)) .n)) [K113] (by kernel_rfl) (by kernel_rfl) (fun _=>rfl) fun x=>by kernel_rfl
def K56:Kn Tryz.prog VV:=mk 56 Tryz.f56 ⟨[.ls .c_sNet],[.ow 114 .c_sNet]⟩ (fun x=>a6u x.1) w1 u1 (sk 3 (.s (.s .n (.l [0,20,21] [] [.ow 3 1 3 .c_i64,.ow 4 2 4 .c_bool,.v 22 .c_i64] .n)) (.s (.s .n (.l [0,33,34] [] [.ow 3 1 3 .c_i64,.ow 4 2 4 .c_bool,.v 35 .c_i64] .n)) (.s .n (.s (.s .n (.l [66,67] [] [.ow 3 1 3 .c_i64,.ow 4 2 4 .c_bool,.ow 11 3 114 .c_sNet,.v 68 .c_i64] .n)) .n))))) [e8e,e61] (by kernel_rfl) (by kernel_rfl) (fun _=>rfl) fun x=>by kernel_rfl
def K57:Kn Tryz.prog VV:=mk 57 Tryz.f57 ⟨[.rp 104 .c_sdecision_file,.v .c_i64,.v .c_i64],[.ow 114 .c_sNet]⟩ (fun x=>a2u x.1 x.2.1 x.2.2.1) w1 u1 (sk 2 (.s (.s .n (.l [0,1,2,20] [] [.ow 7 3 114 .c_sNet,.ow 19 4 66 .c_sClaim,.v 21 .c_i64] .n)) .n)) [K92,K99] (by kernel_rfl) (by kernel_rfl) (fun _=>rfl) fun x=>by kernel_rfl
def K60:Kn Tryz.prog VV:=mk 60 Tryz.f60 ⟨[.v .c_sNet],[.v .c_bool]⟩ (fun x=>a75 x.1) w1 u1 .n [] (by kernel_rfl) (by kernel_rfl) (fun _=>rfl) fun x=>by kernel_rfl
def K62:Kn Tryz.prog VV:=mk 62 Tryz.f62 ⟨[.v .c_sNet,.v .c_sNet],[.v .c_i64]⟩ (fun x=>b1s x.1 x.2.1) w1 u1 .n [K41,K42] (by kernel_rfl) (by kernel_rfl) (fun _=>rfl) fun x=>by kernel_rfl
def f3c:Kn Tryz.prog VV:=mk 112 Tryz.f112 ⟨[.ls .c_sNet,.cl 60 []],[.v .c_i64]⟩ (fun x=>a15 x.1) w1 u1 (.s .n (.s (.s .n (.l [0,1,7] [] [.v 8 .c_i64] .n)) .n)) [K60] (by kernel_rfl) (by kernel_rfl) (fun _=>rfl) fun x=>by kernel_rfl
def g04:Kn Tryz.prog VV:=mk 59 Tryz.f59 ⟨[.ow 114 .c_sNet,.cl 60 []],[.ow 114 .c_sNet]⟩ (fun x=>o5 x.1) w1 u1 (sk 3 (.s (.s .n (.l [1] [] [.ow 0 2 114 .c_sNet,.v 5 .c_i64,.v 6 .c_i64] .n)) (.s (.g [1002]) (.s (.g [2002]) .n)))) [K60,f3c] (by kernel_rfl) (by kernel_rfl) (fun _=>rfl) fun x=>by kernel_rfl
def f3j:Kn Tryz.prog VV:=mk 206 Tryz.f206 ⟨[.so 114 .c_sNet,.v .c_i64,.v .c_i64,.cl 62 []],[]⟩ (fun x=>p8 x.1 x.2.1 x.2.2.1) (fun b=>((),(b,()))) (fun p=>p.2.1) (.s .n (.l [1,2,3] [] [.ow 0 0 114 .c_sNet,.v 8 .c_i64] (.s .n (.s (.s .n (.l [1,2,3,8] [] [.ow 0 0 114 .c_sNet,.v 9 .c_i64] .n)) .n)))) [K62] (by kernel_rfl) (by kernel_rfl) (fun _=>rfl) fun x=>by kernel_rfl
def f3z:Kn Tryz.prog VV:=mk 125 Tryz.f125 ⟨[.so 114 .c_sNet,.v .c_i64,.cl 62 []],[]⟩ (fun x=>a0m x.1 x.2.1) (fun b=>((),(b,()))) (fun p=>p.2.1) (sk 2 (.s (.l [1,2,6] [] [.ow 0 0 114 .c_sNet,.v 7 .c_i64,.v 8 .c_i64] .n) (.s .n (.l [1,2] [] [.ow 0 0 114 .c_sNet,.v 6 .c_i64] (.s .n (.s .n (.s (.l [1,2,6] [] [.ow 0 0 114 .c_sNet,.v 7 .c_i64,.v 8 .c_i64] .n) .n))))))) [f3j] (by kernel_rfl) (by kernel_rfl) (fun _=>rfl) fun x=>by kernel_rfl
def f95:Kn Tryz.prog VV:=mk 61 Tryz.f61 ⟨[.so 114 .c_sNet,.cl 62 []],[]⟩ (fun x=>m8 x.1) (fun b=>((),(b,()))) (fun p=>p.2.1) .n [f3z] (by kernel_rfl) (by kernel_rfl) (fun _=>rfl) fun x=>by kernel_rfl
def K34:Kn Tryz.prog VV:=mk 34 Tryz.f34 ⟨[.rp 104 .c_sdecision_file,.v .c_i64,.v .c_i64],[.ow 114 .c_sNet]⟩ (fun x=>a5w x.1 x.2.1 x.2.2.1) w1 u1 (sk 2 (.j [] [.rp 0 .c_sdecision_file,.v 1 .c_i64,.v 2 .c_i64,.ow 7 3 114 .c_sNet] .n (.s .n (.s (.s .n (.s (.s .n (.l [0,1,46,47] [] [.ow 9 3 114 .c_sNet,.v 48 .c_i64] .n)) .n)) .n)))) [K49,K53,K54,K55,K56,K57,g04,f95] (by kernel_rfl) (by kernel_rfl) (fun _=>rfl) fun x=>by kernel_rfl
def K12:Kn Tryz.prog VV:=mk 12 Tryz.f12 ⟨[.v .c_sLaws,.ls .c_sapi_Fact,.ls .c_sClaim,.v .c_i64,.v .c_i64],[.ow 114 .c_sNet]⟩ (fun x=>b13 x.1 x.2.1 x.2.2.1 x.2.2.2.1 x.2.2.2.2.1) w1 u1 .n [K10,K32,K33,K34] (by kernel_rfl) (by kernel_rfl) (fun _=>rfl) fun x=>by kernel_rfl
def f6k:Sig VV:=⟨[.v .c_spensionlaw26_Seeds,.v .c_i64,.v .c_i64],[.v .c_bool]⟩
def fe_3:Fent VV:=⟨f6k,Bool,fun x=>a1x x.1 x.2.1 x.2.2.1,fun b=>((b,()),()),none⟩
def un_3:Ress VV f6k.rs×Outs VV f6k.ps -> Bool:=fun p=>p.1.1
def an_3:Ann VV.C:= .n
theorem ok_3:SX.Spec Tryz.prog 3 fe_3:=a7f (fe:=fe_3) uok (okl (g1s [K4,K5,K6,K7,K8,K9,K10,K11,K12])) mixed (fn:=Tryz.f3) (by kernel_rfl) un_3 an_3 (u6 (s:=f6k) (by kernel_rfl)).1 (u6 (s:=f6k) (by kernel_rfl)).2 (fun _=>rfl) fun x=>by kernel_rfl
end
end Go.PL
