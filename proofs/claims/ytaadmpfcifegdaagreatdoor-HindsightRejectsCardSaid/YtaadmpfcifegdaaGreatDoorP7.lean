/- Texts of the proof, joined. -/
import Derived.Test.YtaadmpfcifegdaaGreatDoorP6
import Derived.Test.YtaadmpfcifegdaaGreatDoorProg
import Derived.KernelRfl
import Derived.Shelf.Strconv.Itoa3
import Derived.RangeFuncLeaves
import Derived.RangeFuncBox
import Derived.Shelf.Abstract
import Derived.WalkKit
import Derived.OwnWalkIn
import Derived.TacticsInMore
import Derived.LoopNIn
import Derived.LoopIn
set_option linter.unusedVariables false
set_option linter.unusedSimpArgs false
set_option maxRecDepth 100000
namespace Go.PL
open Go Go.SX
inductive TyC where
 | c_i64
 | c_sRounding
 | c_sCredit
 | c_sFraction
 | c_sIndex
 | c_str
 | c_sExpr
 | c_sLet
 | c_sGrant
 | c_sReduce
 | c_sVersion
 | c_sRules
 | c_sBinding
 | c_bool
 | c_sValue
 | c_sStep
 | c_u8
 | c_sEntry
 | c_sSpan
 | c_sapi_Fact
 | c_spensionhand_Fact
 | c_A3_str
 | c_sToken
 | c_spensionref5_reader
 | c_u64
 | c_spensionref1_wide
 | c_sStatute
 | c_sState
 | c_sRate
 | c_sLaws
 | c_spensionhand_Claim
 | c_sClaim
 | c_spensionlaw26_Seeds
 | c_ssyntax_entry
 | c_A2_i64
 | c_A12_i64
 | c_u32
 | c_sdecision_file
 | c_stransition_law
 | c_A6_bool
 | c_A100_bool
 | c_psdecision_file
 | c_sGross
 | c_sAward
 | c_sHeir
 | c_sdecision_item
 | c_sDeduction
 | c_li64
 | c_sNet
 | c_sFamilyPay
 | c_lsNet
 | c_sStage
 | c_lsStage
 | c_A6_lsStage
 | c_sRunning
 | c_sRow
 | c_lsRow
 | c_sKnowledge
 | c_nil
deriving DecidableEq
@[reducible] def TyC.T:TyC -> Type
  | .c_i64=>Int
  | .c_sRounding=>Rounding
  | .c_sCredit=>Credit
  | .c_sFraction=>Fraction
  | .c_sIndex=>Index
  | .c_str=>ByteArray
  | .c_sExpr=>Expr
  | .c_sLet=>Let
  | .c_sGrant=>Grant
  | .c_sReduce=>Reduce
  | .c_sVersion=>Version
  | .c_sRules=>Rules
  | .c_sBinding=>Binding
  | .c_bool=>Bool
  | .c_sValue=>Value
  | .c_sStep=>Step
  | .c_u8=>Int
  | .c_sEntry=>Entry
  | .c_sSpan=>Span
  | .c_sapi_Fact=>api_Fact
  | .c_spensionhand_Fact=>pensionhand_Fact
  | .c_A3_str=>Ar 3 ByteArray
  | .c_sToken=>Token
  | .c_spensionref5_reader=>pensionref5_reader
  | .c_u64=>Int
  | .c_spensionref1_wide=>pensionref1_wide
  | .c_sStatute=>Statute
  | .c_sState=>State
  | .c_sRate=>Rate
  | .c_sLaws=>Laws
  | .c_spensionhand_Claim=>pensionhand_Claim
  | .c_sClaim=>Claim
  | .c_spensionlaw26_Seeds=>pensionlaw26_Seeds
  | .c_ssyntax_entry=>syntax_entry
  | .c_A2_i64=>Ar 2 Int
  | .c_A12_i64=>Ar 12 Int
  | .c_u32=>Int
  | .c_sdecision_file=>decision_file
  | .c_stransition_law=>transition_law
  | .c_A6_bool=>Ar 6 Bool
  | .c_A100_bool=>Ar 100 Bool
  | .c_psdecision_file=>decision_file
  | .c_sGross=>Gross
  | .c_sAward=>Award
  | .c_sHeir=>Heir
  | .c_sdecision_item=>decision_item
  | .c_sDeduction=>Deduction
  | .c_li64=>List Int
  | .c_sNet=>Net
  | .c_sFamilyPay=>FamilyPay
  | .c_lsNet=>List Net
  | .c_sStage=>Stage
  | .c_lsStage=>List Stage
  | .c_A6_lsStage=>Ar 6 (List Stage)
  | .c_sRunning=>Running
  | .c_sRow=>Row
  | .c_lsRow=>List Row
  | .c_sKnowledge=>Knowledge
  | .c_nil=>Unit
abbrev VA:=AV TyC TyC.T
def dT:DecidableEq TyC:=inferInstance
def f4j:Int -> List VA:=fun x=>[.int .i64 x]
def f3i:List VA -> Option Int:=mkS (gI .i64) fun x0=>mkE x0
def c5t:Rounding -> List VA:=fun x=>[.int .i64 x.Mode,.int .i64 x.Unit]
def c5k:List VA -> Option Rounding:=mkS (gI .i64) fun x0=>mkS (gI .i64) fun x1=>mkE (⟨x0,x1⟩:Rounding)
def d0k:Credit -> List VA:=fun x=>[.int .i64 x.Kind,.int .i64 x.Limit]
def d0h:List VA -> Option Credit:=mkS (gI .i64) fun x0=>mkS (gI .i64) fun x1=>mkE (⟨x0,x1⟩:Credit)
def c5e:Fraction -> List VA:=fun x=>[.int .i64 x.Num,.int .i64 x.Den]
def c5w:List VA -> Option Fraction:=mkS (gI .i64) fun x0=>mkS (gI .i64) fun x1=>mkE (⟨x0,x1⟩:Fraction)
def d4o:Index -> List VA:=fun x=>[.int .i64 x.Year,.val .c_sFraction x.Factor]
def d2q:List VA -> Option Index:=mkS (gI .i64) fun x0=>mkS (gV dT .c_sFraction) fun x1=>mkE (⟨x0,x1⟩:Index)
def f4c:ByteArray -> List VA:=fun x=>[.str x]
def f3o:List VA -> Option ByteArray:=mkS (gS) fun x0=>mkE x0
def d8k:Expr -> List VA:=fun x=>[.int .i64 x.Op,.val .c_sFraction x.Value,.int .i64 x.Dim,.str x.Name,.list .c_sExpr x.Args]
def d9t:List VA -> Option Expr:=mkS (gI .i64) fun x0=>mkS (gV dT .c_sFraction) fun x1=>mkS (gI .i64) fun x2=>mkS (gS) fun x3=>mkS (SX.gL dT .c_sExpr) fun x4=>mkE (⟨x0,x1,x2,x3,x4⟩:Expr)
def e4d:Let -> List VA:=fun x=>[.str x.Name,.val .c_sExpr x.Body]
def e6o:List VA -> Option Let:=mkS (gS) fun x0=>mkS (gV dT .c_sExpr) fun x1=>mkE (⟨x0,x1⟩:Let)
def d35:Grant -> List VA:=fun x=>[.int .i64 x.Benefit,.val .c_sExpr x.If,.val .c_sExpr x.Pay]
def d3f:List VA -> Option Grant:=mkS (gI .i64) fun x0=>mkS (gV dT .c_sExpr) fun x1=>mkS (gV dT .c_sExpr) fun x2=>mkE (⟨x0,x1,x2⟩:Grant)
def d0d:Reduce -> List VA:=fun x=>[.int .i64 x.Benefit,.val .c_sExpr x.By]
def c9r:List VA -> Option Reduce:=mkS (gI .i64) fun x0=>mkS (gV dT .c_sExpr) fun x1=>mkE (⟨x0,x1⟩:Reduce)
def c71:Version -> List VA:=fun x=>[.int .i64 x.From,.val .c_sRounding x.Rounding,.list .c_sCredit x.Credits,.list .c_sIndex x.Series,.list .c_sLet x.Lets,.list .c_sGrant x.Grants,.list .c_sReduce x.Reduces]
def c6j:List VA -> Option Version:=mkS (gI .i64) fun x0=>mkS (gV dT .c_sRounding) fun x1=>mkS (SX.gL dT .c_sCredit) fun x2=>mkS (SX.gL dT .c_sIndex) fun x3=>mkS (SX.gL dT .c_sLet) fun x4=>mkS (SX.gL dT .c_sGrant) fun x5=>mkS (SX.gL dT .c_sReduce) fun x6=>mkE (⟨x0,x1,x2,x3,x4,x5,x6⟩:Version)
def d5h:Rules -> List VA:=fun x=>[.int .i64 x.From,.int .i64 x.MinDays,.int .i64 x.PostingLimit,.int .i64 x.Substantial,.list .c_i64 x.Members]
def d3d:List VA -> Option Rules:=mkS (gI .i64) fun x0=>mkS (gI .i64) fun x1=>mkS (gI .i64) fun x2=>mkS (gI .i64) fun x3=>mkS (SX.gL dT .c_i64) fun x4=>mkE (⟨x0,x1,x2,x3,x4⟩:Rules)
def c6n:Binding -> List VA:=fun x=>[.str x.Name,.int .i64 x.Dim]
def c80:List VA -> Option Binding:=mkS (gS) fun x0=>mkS (gI .i64) fun x1=>mkE (⟨x0,x1⟩:Binding)
def e4f:Bool -> List VA:=fun x=>[.bool x]
def e30:List VA -> Option Bool:=mkS (gB) fun x0=>mkE x0
def d4w:Value -> List VA:=fun x=>[.int .i64 x.Dim,.bool x.Yes,.val .c_sFraction x.Num]
def d5x:List VA -> Option Value:=mkS (gI .i64) fun x0=>mkS (gB) fun x1=>mkS (gV dT .c_sFraction) fun x2=>mkE (⟨x0,x1,x2⟩:Value)
def d9i:Step -> List VA:=fun x=>[.str x.Name,.val .c_sValue x.Value]
def d9j:List VA -> Option Step:=mkS (gS) fun x0=>mkS (gV dT .c_sValue) fun x1=>mkE (⟨x0,x1⟩:Step)
def g30:Int -> List VA:=fun x=>[.int .u8 x]
def g1f:List VA -> Option Int:=mkS (gI .u8) fun x0=>mkE x0
def d5i:Entry -> List VA:=fun x=>[.int .i64 x.Month,.int .i64 x.Kind,.int .i64 x.With,.int .i64 x.Number,.int .i64 x.Amount]
def d3m:List VA -> Option Entry:=mkS (gI .i64) fun x0=>mkS (gI .i64) fun x1=>mkS (gI .i64) fun x2=>mkS (gI .i64) fun x3=>mkS (gI .i64) fun x4=>mkE (⟨x0,x1,x2,x3,x4⟩:Entry)
def d89:Span -> List VA:=fun x=>[.int .i64 x.From,.int .i64 x.To]
def d8r:List VA -> Option Span:=mkS (gI .i64) fun x0=>mkS (gI .i64) fun x1=>mkE (⟨x0,x1⟩:Span)
def c5c:api_Fact -> List VA:=fun x=>[.int .i64 x.Issuer,.int .i64 x.Number,.int .i64 x.Version,.bool x.Withdrawn,.int .i64 x.Person,.int .i64 x.Kind,.int .i64 x.State,.val .c_sSpan x.Span,.int .i64 x.Seat,.int .i64 x.Share,.int .i64 x.Currency,.int .i64 x.Amount,.int .i64 x.Ref]
def c5s:List VA -> Option api_Fact:=mkS (gI .i64) fun x0=>mkS (gI .i64) fun x1=>mkS (gI .i64) fun x2=>mkS (gB) fun x3=>mkS (gI .i64) fun x4=>mkS (gI .i64) fun x5=>mkS (gI .i64) fun x6=>mkS (gV dT .c_sSpan) fun x7=>mkS (gI .i64) fun x8=>mkS (gI .i64) fun x9=>mkS (gI .i64) fun x10=>mkS (gI .i64) fun x11=>mkS (gI .i64) fun x12=>mkE (⟨x0,x1,x2,x3,x4,x5,x6,x7,x8,x9,x10,x11,x12⟩:api_Fact)
def b3g:pensionhand_Fact -> List VA:=fun x=>[.int .i64 x.Issuer,.int .i64 x.Number,.int .i64 x.Version,.bool x.Withdrawn,.int .i64 x.Person,.int .i64 x.Kind,.int .i64 x.State,.int .i64 x.Seat,.int .i64 x.From,.int .i64 x.Length,.int .i64 x.Share,.int .i64 x.Amount,.int .i64 x.Ref]
def b3q:List VA -> Option pensionhand_Fact:=mkS (gI .i64) fun x0=>mkS (gI .i64) fun x1=>mkS (gI .i64) fun x2=>mkS (gB) fun x3=>mkS (gI .i64) fun x4=>mkS (gI .i64) fun x5=>mkS (gI .i64) fun x6=>mkS (gI .i64) fun x7=>mkS (gI .i64) fun x8=>mkS (gI .i64) fun x9=>mkS (gI .i64) fun x10=>mkS (gI .i64) fun x11=>mkS (gI .i64) fun x12=>mkE (⟨x0,x1,x2,x3,x4,x5,x6,x7,x8,x9,x10,x11,x12⟩:pensionhand_Fact)
def d4g:Ar 3 ByteArray -> List VA:=fun x=>x.l.map fun y=> .str y
def d3i:List VA -> Option (Ar 3 ByteArray):=mkA (gS) 3
def d36:Token -> List VA:=fun x=>[.int .i64 x.Kind,.str x.Text,.int .i64 x.At]
def d60:List VA -> Option Token:=mkS (gI .i64) fun x0=>mkS (gS) fun x1=>mkS (gI .i64) fun x2=>mkE (⟨x0,x1,x2⟩:Token)
def b12:pensionref5_reader -> List VA:=fun x=>[.list .c_sToken x.l,.int .i64 x.at_,.int .i64 x.end_,.bool x.bad]
def b1c:List VA -> Option pensionref5_reader:=mkS (SX.gL dT .c_sToken) fun x0=>mkS (gI .i64) fun x1=>mkS (gI .i64) fun x2=>mkS (gB) fun x3=>mkE (⟨x0,x1,x2,x3⟩:pensionref5_reader)
def f3h:Int -> List VA:=fun x=>[.int .u64 x]
def f5h:List VA -> Option Int:=mkS (gI .u64) fun x0=>mkE x0
def b3d:pensionref1_wide -> List VA:=fun x=>[.int .u64 x.hi,.int .u64 x.lo]
def b3c:List VA -> Option pensionref1_wide:=mkS (gI .u64) fun x0=>mkS (gI .u64) fun x1=>mkE (⟨x0,x1⟩:pensionref1_wide)
def c83:Statute -> List VA:=fun x=>[.str x.Name,.int .i64 x.Currency,.list .c_sVersion x.Versions]
def c7y:List VA -> Option Statute:=mkS (gS) fun x0=>mkS (gI .i64) fun x1=>mkS (SX.gL dT .c_sVersion) fun x2=>mkE (⟨x0,x1,x2⟩:Statute)
def d2y:State -> List VA:=fun x=>[.int .i64 x.State,.val .c_sStatute x.Statute]
def d2x:List VA -> Option State:=mkS (gI .i64) fun x0=>mkS (gV dT .c_sStatute) fun x1=>mkE (⟨x0,x1⟩:State)
def d9w:Rate -> List VA:=fun x=>[.int .i64 x.Currency,.int .i64 x.Month,.val .c_sFraction x.Value]
def d8t:List VA -> Option Rate:=mkS (gI .i64) fun x0=>mkS (gI .i64) fun x1=>mkS (gV dT .c_sFraction) fun x2=>mkE (⟨x0,x1,x2⟩:Rate)
def d9b:Laws -> List VA:=fun x=>[.list .c_sState x.States,.list .c_sRules x.Treaty,.list .c_sRate x.Rates]
def d8w:List VA -> Option Laws:=mkS (SX.gL dT .c_sState) fun x0=>mkS (SX.gL dT .c_sRules) fun x1=>mkS (SX.gL dT .c_sRate) fun x2=>mkE (⟨x0,x1,x2⟩:Laws)
def b2r:pensionhand_Claim -> List VA:=fun x=>[.int .i64 x.Issuer,.int .i64 x.Number,.int .i64 x.Person,.int .i64 x.Benefit,.int .i64 x.Ref,.int .i64 x.Day]
def b2j:List VA -> Option pensionhand_Claim:=mkS (gI .i64) fun x0=>mkS (gI .i64) fun x1=>mkS (gI .i64) fun x2=>mkS (gI .i64) fun x3=>mkS (gI .i64) fun x4=>mkS (gI .i64) fun x5=>mkE (⟨x0,x1,x2,x3,x4,x5⟩:pensionhand_Claim)
def d32:Claim -> List VA:=fun x=>[.int .i64 x.Issuer,.int .i64 x.Number,.int .i64 x.Person,.int .i64 x.Benefit,.int .i64 x.Ref,.int .i64 x.Day]
def d49:List VA -> Option Claim:=mkS (gI .i64) fun x0=>mkS (gI .i64) fun x1=>mkS (gI .i64) fun x2=>mkS (gI .i64) fun x3=>mkS (gI .i64) fun x4=>mkS (gI .i64) fun x5=>mkE (⟨x0,x1,x2,x3,x4,x5⟩:Claim)
def b14:pensionlaw26_Seeds -> List VA:=fun x=>[.list .c_i64 x.Laws,.list .c_i64 x.Lives,.list .c_spensionhand_Fact x.Facts,.list .c_spensionhand_Claim x.Claims,.int .i64 x.Day]
def b1g:List VA -> Option pensionlaw26_Seeds:=mkS (SX.gL dT .c_i64) fun x0=>mkS (SX.gL dT .c_i64) fun x1=>mkS (SX.gL dT .c_spensionhand_Fact) fun x2=>mkS (SX.gL dT .c_spensionhand_Claim) fun x3=>mkS (gI .i64) fun x4=>mkE (⟨x0,x1,x2,x3,x4⟩:pensionlaw26_Seeds)
def b8n:syntax_entry -> List VA:=fun x=>[.str x.name,.int .i64 x.number]
def b8b:List VA -> Option syntax_entry:=mkS (gS) fun x0=>mkS (gI .i64) fun x1=>mkE (⟨x0,x1⟩:syntax_entry)
def d50:Ar 2 Int -> List VA:=fun x=>x.l.map fun y=> .int .i64 y
def d4e:List VA -> Option (Ar 2 Int):=mkA (gI .i64) 2
def d0e:Ar 12 Int -> List VA:=fun x=>x.l.map fun y=> .int .i64 y
def c9e:List VA -> Option (Ar 12 Int):=mkA (gI .i64) 12
def f3e:Int -> List VA:=fun x=>[.int .u32 x]
def f3m:List VA -> Option Int:=mkS (gI .u32) fun x0=>mkE x0
def b72:decision_file -> List VA:=fun x=>[.val .c_sLaws x.x,.list .c_sapi_Fact x.facts,.list .c_sapi_Fact x.own,.list .c_sClaim x.claims,.int .i64 x.person]
def b79:List VA -> Option decision_file:=mkS (gV dT .c_sLaws) fun x0=>mkS (SX.gL dT .c_sapi_Fact) fun x1=>mkS (SX.gL dT .c_sapi_Fact) fun x2=>mkS (SX.gL dT .c_sClaim) fun x3=>mkS (gI .i64) fun x4=>mkE (⟨x0,x1,x2,x3,x4⟩:decision_file)
def b58:transition_law -> List VA:=fun x=>[.int .i64 x.version,.int .i64 x.rules]
def b5i:List VA -> Option transition_law:=mkS (gI .i64) fun x0=>mkS (gI .i64) fun x1=>mkE (⟨x0,x1⟩:transition_law)
def c9c:Ar 6 Bool -> List VA:=fun x=>x.l.map fun y=> .bool y
def c9t:List VA -> Option (Ar 6 Bool):=mkA (gB) 6
def c5f:Ar 100 Bool -> List VA:=fun x=>x.l.map fun y=> .bool y
def c5u:List VA -> Option (Ar 100 Bool):=mkA (gB) 100
def b5t:decision_file -> List VA:=fun x=>[.rp (.val .c_sdecision_file x)]
def b5x:List VA -> Option decision_file:=mkS (gP dT .c_sdecision_file) fun x0=>mkE x0
def d5z:Gross -> List VA:=fun x=>[.int .i64 x.State,.int .i64 x.Benefit,.int .i64 x.Currency,.int .i64 x.Independent,.int .i64 x.ProRata,.val .c_sFraction x.Cut]
def d37:List VA -> Option Gross:=mkS (gI .i64) fun x0=>mkS (gI .i64) fun x1=>mkS (gI .i64) fun x2=>mkS (gI .i64) fun x3=>mkS (gI .i64) fun x4=>mkS (gV dT .c_sFraction) fun x5=>mkE (⟨x0,x1,x2,x3,x4,x5⟩:Gross)
def d3w:Award -> List VA:=fun x=>[.int .i64 x.State,.int .i64 x.Benefit,.int .i64 x.Day,.int .i64 x.Code,.bool x.Few,.int .i64 x.Independent,.int .i64 x.Theoretical,.int .i64 x.ProRata,.int .i64 x.Num,.int .i64 x.Den,.int .i64 x.Amount,.list .c_sStep x.Steps]
def d3q:List VA -> Option Award:=mkS (gI .i64) fun x0=>mkS (gI .i64) fun x1=>mkS (gI .i64) fun x2=>mkS (gI .i64) fun x3=>mkS (gB) fun x4=>mkS (gI .i64) fun x5=>mkS (gI .i64) fun x6=>mkS (gI .i64) fun x7=>mkS (gI .i64) fun x8=>mkS (gI .i64) fun x9=>mkS (gI .i64) fun x10=>mkS (SX.gL dT .c_sStep) fun x11=>mkE (⟨x0,x1,x2,x3,x4,x5,x6,x7,x8,x9,x10,x11⟩:Award)
def d93:Heir -> List VA:=fun x=>[.int .i64 x.Person,.int .i64 x.Kind,.int .i64 x.Days]
def d9d:List VA -> Option Heir:=mkS (gI .i64) fun x0=>mkS (gI .i64) fun x1=>mkS (gI .i64) fun x2=>mkE (⟨x0,x1,x2⟩:Heir)
def b75:decision_item -> List VA:=fun x=>[.val .c_sGross x.gross,.val .c_sAward x.award,.list .c_sHeir x.heirs,.int .i64 x.at_]
def b6k:List VA -> Option decision_item:=mkS (gV dT .c_sGross) fun x0=>mkS (gV dT .c_sAward) fun x1=>mkS (SX.gL dT .c_sHeir) fun x2=>mkS (gI .i64) fun x3=>mkE (⟨x0,x1,x2,x3⟩:decision_item)
def c3s:Deduction -> List VA:=fun x=>[.int .i64 x.By,.int .i64 x.From,.int .i64 x.Amount]
def c3j:List VA -> Option Deduction:=mkS (gI .i64) fun x0=>mkS (gI .i64) fun x1=>mkS (gI .i64) fun x2=>mkE (⟨x0,x1,x2⟩:Deduction)
def e48:List Int -> List VA:=fun x=>[.list .c_i64 x]
def e4e:List VA -> Option (List Int):=mkS (SX.gL dT .c_i64) fun x0=>mkE x0
def e3e:Net -> List VA:=fun x=>[.int .i64 x.State,.int .i64 x.Benefit,.int .i64 x.Currency,.int .i64 x.Independent,.int .i64 x.ProRata,.int .i64 x.Deducted,.int .i64 x.Amount]
def e78:List VA -> Option Net:=mkS (gI .i64) fun x0=>mkS (gI .i64) fun x1=>mkS (gI .i64) fun x2=>mkS (gI .i64) fun x3=>mkS (gI .i64) fun x4=>mkS (gI .i64) fun x5=>mkS (gI .i64) fun x6=>mkE (⟨x0,x1,x2,x3,x4,x5,x6⟩:Net)
def c3r:FamilyPay -> List VA:=fun x=>[.int .i64 x.State,.int .i64 x.Currency,.int .i64 x.Amount,.bool x.Primary]
def c3b:List VA -> Option FamilyPay:=mkS (gI .i64) fun x0=>mkS (gI .i64) fun x1=>mkS (gI .i64) fun x2=>mkS (gB) fun x3=>mkE (⟨x0,x1,x2,x3⟩:FamilyPay)
def d8m:List Net -> List VA:=fun x=>[.list .c_sNet x]
def d8o:List VA -> Option (List Net):=mkS (SX.gL dT .c_sNet) fun x0=>mkE x0
def d62:Stage -> List VA:=fun x=>[.int .i64 x.Month,.bool x.Law,.bool x.Ends,.int .i64 x.Amount]
def d55:List VA -> Option Stage:=mkS (gI .i64) fun x0=>mkS (gB) fun x1=>mkS (gB) fun x2=>mkS (gI .i64) fun x3=>mkE (⟨x0,x1,x2,x3⟩:Stage)
def c9b:List Stage -> List VA:=fun x=>[.list .c_sStage x]
def c9l:List VA -> Option (List Stage):=mkS (SX.gL dT .c_sStage) fun x0=>mkE x0
def c31:Ar 6 (List Stage) -> List VA:=fun x=>x.l.map fun y=> .list .c_sStage y
def c2i:List VA -> Option (Ar 6 (List Stage)):=mkA (SX.gL dT .c_sStage) 6
def c7q:Running -> List VA:=fun x=>[.int .i64 x.Month,.int .i64 x.Amount,.bool x.Protected]
def c6y:List VA -> Option Running:=mkS (gI .i64) fun x0=>mkS (gI .i64) fun x1=>mkS (gB) fun x2=>mkE (⟨x0,x1,x2⟩:Running)
def e5s:Row -> List VA:=fun x=>[.int .i64 x.State,.int .i64 x.Benefit,.int .i64 x.Month,.int .i64 x.Currency,.int .i64 x.Amount,.bool x.Protected]
def e3r:List VA -> Option Row:=mkS (gI .i64) fun x0=>mkS (gI .i64) fun x1=>mkS (gI .i64) fun x2=>mkS (gI .i64) fun x3=>mkS (gI .i64) fun x4=>mkS (gB) fun x5=>mkE (⟨x0,x1,x2,x3,x4,x5⟩:Row)
def d8z:List Row -> List VA:=fun x=>[.list .c_sRow x]
def d8c:List VA -> Option (List Row):=mkS (SX.gL dT .c_sRow) fun x0=>mkE x0
def c2l:Knowledge -> List VA:=fun x=>[.int .i64 x.Month,.list .c_sapi_Fact x.Facts,.list .c_sClaim x.Claims,.list .c_sEntry x.Received]
def c3q:List VA -> Option Knowledge:=mkS (gI .i64) fun x0=>mkS (SX.gL dT .c_sapi_Fact) fun x1=>mkS (SX.gL dT .c_sClaim) fun x2=>mkS (SX.gL dT .c_sEntry) fun x3=>mkE (⟨x0,x1,x2,x3⟩:Knowledge)
def f2v:Unit -> List VA:=fun _=>[.nilp]
def f2y:List VA -> Option Unit:=mkS (gN) fun x0=>mkE x0
def cdT (n:Nat):Option TyC:=bif Nat.blt n 170 then (bif Nat.blt n 94 then (bif Nat.blt n 31 then (bif Nat.blt n 10 then (bif Nat.blt n 5 then (bif Nat.blt n 3 then (bif Nat.beq n 2 then some .c_i64 else none) else (bif Nat.blt n 4 then (bif Nat.beq n 3 then some .c_i64 else none) else (bif Nat.beq n 4 then some .c_bool else none))) else (bif Nat.blt n 6 then (bif Nat.beq n 5 then some .c_u8 else none) else (bif Nat.blt n 9 then (bif Nat.beq n 6 then some .c_u8 else none) else (bif Nat.beq n 9 then some .c_str else none)))) else (bif Nat.blt n 22 then (bif Nat.blt n 11 then (bif Nat.beq n 10 then some .c_str else none) else (bif Nat.blt n 12 then (bif Nat.beq n 11 then some .c_str else none) else (bif Nat.beq n 12 then some .c_u64 else none))) else (bif Nat.blt n 26 then (bif Nat.blt n 25 then (bif Nat.beq n 22 then some .c_li64 else none) else (bif Nat.beq n 25 then some .c_spensionlaw26_Seeds else none)) else (bif Nat.blt n 30 then (bif Nat.beq n 26 then some .c_spensionlaw26_Seeds else none) else (bif Nat.beq n 30 then some .c_sLaws else none))))) else (bif Nat.blt n 77 then (bif Nat.blt n 47 then (bif Nat.blt n 37 then (bif Nat.beq n 31 then some .c_sLaws else none) else (bif Nat.blt n 46 then (bif Nat.beq n 37 then some .c_i64 else none) else (bif Nat.beq n 46 then some .c_sClaim else none))) else (bif Nat.blt n 74 then (bif Nat.blt n 73 then (bif Nat.beq n 47 then some .c_lsRow else none) else (bif Nat.beq n 73 then some .c_lsStage else none)) else (bif Nat.blt n 76 then (bif Nat.beq n 74 then some .c_A6_lsStage else none) else (bif Nat.beq n 76 then some .c_sStatute else none)))) else (bif Nat.blt n 84 then (bif Nat.blt n 78 then (bif Nat.beq n 77 then some .c_sStatute else none) else (bif Nat.blt n 79 then (bif Nat.beq n 78 then some .c_sState else none) else (bif Nat.beq n 79 then some .c_sState else none))) else (bif Nat.blt n 86 then (bif Nat.blt n 85 then (bif Nat.beq n 84 then some .c_sRunning else none) else (bif Nat.beq n 85 then some .c_sRunning else none)) else (bif Nat.blt n 87 then (bif Nat.beq n 86 then some .c_sRow else none) else (bif Nat.beq n 87 then some .c_sRow else none)))))) else (bif Nat.blt n 120 then (bif Nat.blt n 109 then (bif Nat.blt n 99 then (bif Nat.blt n 95 then (bif Nat.beq n 94 then some .c_sKnowledge else none) else (bif Nat.blt n 98 then (bif Nat.beq n 95 then some .c_sKnowledge else none) else (bif Nat.beq n 98 then some .c_sEntry else none))) else (bif Nat.blt n 107 then (bif Nat.blt n 106 then (bif Nat.beq n 99 then some .c_sEntry else none) else (bif Nat.beq n 106 then some .c_sSpan else none)) else (bif Nat.blt n 108 then (bif Nat.beq n 107 then some .c_sSpan else none) else (bif Nat.beq n 108 then some .c_sapi_Fact else none)))) else (bif Nat.blt n 113 then (bif Nat.blt n 111 then (bif Nat.beq n 109 then some .c_sapi_Fact else none) else (bif Nat.blt n 112 then (bif Nat.beq n 111 then some .c_spensionhand_Fact else none) else (bif Nat.beq n 112 then some .c_spensionhand_Fact else none))) else (bif Nat.blt n 115 then (bif Nat.blt n 114 then (bif Nat.beq n 113 then some .c_sFraction else none) else (bif Nat.beq n 114 then some .c_sFraction else none)) else (bif Nat.blt n 116 then (bif Nat.beq n 115 then some .c_sRate else none) else (bif Nat.beq n 116 then some .c_sRate else none))))) else (bif Nat.blt n 138 then (bif Nat.blt n 129 then (bif Nat.blt n 121 then (bif Nat.beq n 120 then some .c_sRules else none) else (bif Nat.blt n 122 then (bif Nat.beq n 121 then some .c_sRules else none) else (bif Nat.beq n 122 then some .c_spensionhand_Claim else none))) else (bif Nat.blt n 135 then (bif Nat.blt n 130 then (bif Nat.beq n 129 then some .c_sdecision_file else none) else (bif Nat.beq n 130 then some .c_sdecision_file else none)) else (bif Nat.blt n 137 then (bif Nat.beq n 135 then some .c_lsNet else none) else (bif Nat.beq n 137 then some .c_sNet else none)))) else (bif Nat.blt n 160 then (bif Nat.blt n 140 then (bif Nat.beq n 138 then some .c_sNet else none) else (bif Nat.blt n 141 then (bif Nat.beq n 140 then some .c_sStage else none) else (bif Nat.beq n 141 then some .c_sStage else none))) else (bif Nat.blt n 163 then (bif Nat.blt n 161 then (bif Nat.beq n 160 then some .c_spensionref5_reader else none) else (bif Nat.beq n 161 then some .c_spensionref5_reader else none)) else (bif Nat.blt n 164 then (bif Nat.beq n 163 then some .c_sRounding else none) else (bif Nat.beq n 164 then some .c_sRounding else none))))))) else (bif Nat.blt n 283 then (bif Nat.blt n 239 then (bif Nat.blt n 220 then (bif Nat.blt n 189 then (bif Nat.blt n 171 then (bif Nat.beq n 170 then some .c_sVersion else none) else (bif Nat.blt n 175 then (bif Nat.beq n 171 then some .c_sVersion else none) else (bif Nat.beq n 175 then some .c_A3_str else none))) else (bif Nat.blt n 190 then (bif Nat.beq n 189 then some .c_stransition_law else none) else (bif Nat.blt n 213 then (bif Nat.beq n 190 then some .c_stransition_law else none) else (bif Nat.beq n 213 then some .c_u64 else none)))) else (bif Nat.blt n 232 then (bif Nat.blt n 221 then (bif Nat.beq n 220 then some .c_sToken else none) else (bif Nat.blt n 231 then (bif Nat.beq n 221 then some .c_sToken else none) else (bif Nat.beq n 231 then some .c_sCredit else none))) else (bif Nat.blt n 236 then (bif Nat.blt n 235 then (bif Nat.beq n 232 then some .c_sCredit else none) else (bif Nat.beq n 235 then some .c_sIndex else none)) else (bif Nat.blt n 238 then (bif Nat.beq n 236 then some .c_sIndex else none) else (bif Nat.beq n 238 then some .c_sExpr else none))))) else (bif Nat.blt n 264 then (bif Nat.blt n 245 then (bif Nat.blt n 240 then (bif Nat.beq n 239 then some .c_sExpr else none) else (bif Nat.blt n 241 then (bif Nat.beq n 240 then some .c_sGrant else none) else (bif Nat.beq n 241 then some .c_sGrant else none))) else (bif Nat.blt n 249 then (bif Nat.blt n 246 then (bif Nat.beq n 245 then some .c_sReduce else none) else (bif Nat.beq n 246 then some .c_sReduce else none)) else (bif Nat.blt n 263 then (bif Nat.beq n 249 then some .c_u64 else none) else (bif Nat.beq n 263 then some .c_sGross else none)))) else (bif Nat.blt n 269 then (bif Nat.blt n 265 then (bif Nat.beq n 264 then some .c_sGross else none) else (bif Nat.blt n 266 then (bif Nat.beq n 265 then some .c_sDeduction else none) else (bif Nat.beq n 266 then some .c_sDeduction else none))) else (bif Nat.blt n 271 then (bif Nat.blt n 270 then (bif Nat.beq n 269 then some .c_sAward else none) else (bif Nat.beq n 270 then some .c_sAward else none)) else (bif Nat.blt n 272 then (bif Nat.beq n 271 then some .c_sdecision_item else none) else (bif Nat.beq n 272 then some .c_sdecision_item else none)))))) else (bif Nat.blt n 433 then (bif Nat.blt n 333 then (bif Nat.blt n 305 then (bif Nat.blt n 284 then (bif Nat.beq n 283 then some .c_sFamilyPay else none) else (bif Nat.blt n 304 then (bif Nat.beq n 284 then some .c_sFamilyPay else none) else (bif Nat.beq n 304 then some .c_sHeir else none))) else (bif Nat.blt n 317 then (bif Nat.blt n 307 then (bif Nat.beq n 305 then some .c_sHeir else none) else (bif Nat.beq n 307 then some .c_A100_bool else none)) else (bif Nat.blt n 324 then (bif Nat.beq n 317 then some .c_i64 else none) else (bif Nat.beq n 324 then some .c_u32 else none)))) else (bif Nat.blt n 347 then (bif Nat.blt n 334 then (bif Nat.beq n 333 then some .c_sLet else none) else (bif Nat.blt n 346 then (bif Nat.beq n 334 then some .c_sLet else none) else (bif Nat.beq n 346 then some .c_sBinding else none))) else (bif Nat.blt n 417 then (bif Nat.blt n 371 then (bif Nat.beq n 347 then some .c_sBinding else none) else (bif Nat.beq n 371 then some .c_A12_i64 else none)) else (bif Nat.blt n 423 then (bif Nat.beq n 417 then some .c_A6_bool else none) else (bif Nat.beq n 423 then some .c_u64 else none))))) else (bif Nat.blt n 566 then (bif Nat.blt n 440 then (bif Nat.blt n 434 then (bif Nat.beq n 433 then some .c_spensionref1_wide else none) else (bif Nat.blt n 439 then (bif Nat.beq n 434 then some .c_spensionref1_wide else none) else (bif Nat.beq n 439 then some .c_ssyntax_entry else none))) else (bif Nat.blt n 508 then (bif Nat.blt n 507 then (bif Nat.beq n 440 then some .c_ssyntax_entry else none) else (bif Nat.beq n 507 then some .c_sValue else none)) else (bif Nat.blt n 565 then (bif Nat.beq n 508 then some .c_sValue else none) else (bif Nat.beq n 565 then some .c_sStep else none)))) else (bif Nat.blt n 657 then (bif Nat.blt n 571 then (bif Nat.beq n 566 then some .c_sStep else none) else (bif Nat.blt n 591 then (bif Nat.beq n 571 then some .c_A2_i64 else none) else (bif Nat.beq n 591 then some .c_u64 else none))) else (bif Nat.blt n 719 then (bif Nat.blt n 686 then (bif Nat.beq n 657 then some .c_i64 else none) else (bif Nat.beq n 686 then some .c_u64 else none)) else (bif Nat.blt n 720 then (bif Nat.beq n 719 then some .c_u8 else none) else (bif Nat.beq n 720 then some .c_u8 else none)))))))
def VV:Uni where
 C:=TyC
 T:=TyC.T
 dec:=dT
 c0:= .c_i64
 n:=fun c=>match c with
  | .c_i64=>1
  | .c_sRounding=>2
  | .c_sCredit=>2
  | .c_sFraction=>2
  | .c_sIndex=>3
  | .c_str=>1
  | .c_sExpr=>6
  | .c_sLet=>7
  | .c_sGrant=>13
  | .c_sReduce=>7
  | .c_sVersion=>8
  | .c_sRules=>5
  | .c_sBinding=>2
  | .c_bool=>1
  | .c_sValue=>4
  | .c_sStep=>5
  | .c_u8=>1
  | .c_sEntry=>5
  | .c_sSpan=>2
  | .c_sapi_Fact=>14
  | .c_spensionhand_Fact=>13
  | .c_A3_str=>3
  | .c_sToken=>3
  | .c_spensionref5_reader=>4
  | .c_u64=>1
  | .c_spensionref1_wide=>2
  | .c_sStatute=>3
  | .c_sState=>4
  | .c_sRate=>4
  | .c_sLaws=>3
  | .c_spensionhand_Claim=>6
  | .c_sClaim=>6
  | .c_spensionlaw26_Seeds=>5
  | .c_ssyntax_entry=>2
  | .c_A2_i64=>2
  | .c_A12_i64=>12
  | .c_u32=>1
  | .c_sdecision_file=>7
  | .c_stransition_law=>2
  | .c_A6_bool=>6
  | .c_A100_bool=>100
  | .c_psdecision_file=>1
  | .c_sGross=>7
  | .c_sAward=>12
  | .c_sHeir=>3
  | .c_sdecision_item=>21
  | .c_sDeduction=>3
  | .c_li64=>1
  | .c_sNet=>7
  | .c_sFamilyPay=>4
  | .c_lsNet=>1
  | .c_sStage=>4
  | .c_lsStage=>1
  | .c_A6_lsStage=>6
  | .c_sRunning=>3
  | .c_sRow=>6
  | .c_lsRow=>1
  | .c_sKnowledge=>4
  | .c_nil=>1
 ag:=fun c=>match c with
  | .c_i64=>false
  | .c_sRounding=>true
  | .c_sCredit=>true
  | .c_sFraction=>true
  | .c_sIndex=>true
  | .c_str=>false
  | .c_sExpr=>true
  | .c_sLet=>true
  | .c_sGrant=>true
  | .c_sReduce=>true
  | .c_sVersion=>true
  | .c_sRules=>true
  | .c_sBinding=>true
  | .c_bool=>false
  | .c_sValue=>true
  | .c_sStep=>true
  | .c_u8=>false
  | .c_sEntry=>true
  | .c_sSpan=>true
  | .c_sapi_Fact=>true
  | .c_spensionhand_Fact=>true
  | .c_A3_str=>true
  | .c_sToken=>true
  | .c_spensionref5_reader=>true
  | .c_u64=>false
  | .c_spensionref1_wide=>true
  | .c_sStatute=>true
  | .c_sState=>true
  | .c_sRate=>true
  | .c_sLaws=>true
  | .c_spensionhand_Claim=>true
  | .c_sClaim=>true
  | .c_spensionlaw26_Seeds=>true
  | .c_ssyntax_entry=>true
  | .c_A2_i64=>true
  | .c_A12_i64=>true
  | .c_u32=>false
  | .c_sdecision_file=>true
  | .c_stransition_law=>true
  | .c_A6_bool=>true
  | .c_A100_bool=>true
  | .c_psdecision_file=>false
  | .c_sGross=>true
  | .c_sAward=>true
  | .c_sHeir=>true
  | .c_sdecision_item=>true
  | .c_sDeduction=>true
  | .c_li64=>false
  | .c_sNet=>true
  | .c_sFamilyPay=>true
  | .c_lsNet=>false
  | .c_sStage=>true
  | .c_lsStage=>false
  | .c_A6_lsStage=>true
  | .c_sRunning=>true
  | .c_sRow=>true
  | .c_lsRow=>false
  | .c_sKnowledge=>true
  | .c_nil=>false
 lay:=fun c=>match c with
  | .c_i64=>[none]
  | .c_sRounding=>[none,none]
  | .c_sCredit=>[none,none]
  | .c_sFraction=>[none,none]
  | .c_sIndex=>[none,some .c_sFraction]
  | .c_str=>[none]
  | .c_sExpr=>[none,some .c_sFraction,none,none,none]
  | .c_sLet=>[none,some .c_sExpr]
  | .c_sGrant=>[none,some .c_sExpr,some .c_sExpr]
  | .c_sReduce=>[none,some .c_sExpr]
  | .c_sVersion=>[none,some .c_sRounding,none,none,none,none,none]
  | .c_sRules=>[none,none,none,none,none]
  | .c_sBinding=>[none,none]
  | .c_bool=>[none]
  | .c_sValue=>[none,none,some .c_sFraction]
  | .c_sStep=>[none,some .c_sValue]
  | .c_u8=>[none]
  | .c_sEntry=>[none,none,none,none,none]
  | .c_sSpan=>[none,none]
  | .c_sapi_Fact=>[none,none,none,none,none,none,none,some .c_sSpan,none,none,none,none,none]
  | .c_spensionhand_Fact=>[none,none,none,none,none,none,none,none,none,none,none,none,none]
  | .c_A3_str=>List.replicate 3 (none)
  | .c_sToken=>[none,none,none]
  | .c_spensionref5_reader=>[none,none,none,none]
  | .c_u64=>[none]
  | .c_spensionref1_wide=>[none,none]
  | .c_sStatute=>[none,none,none]
  | .c_sState=>[none,some .c_sStatute]
  | .c_sRate=>[none,none,some .c_sFraction]
  | .c_sLaws=>[none,none,none]
  | .c_spensionhand_Claim=>[none,none,none,none,none,none]
  | .c_sClaim=>[none,none,none,none,none,none]
  | .c_spensionlaw26_Seeds=>[none,none,none,none,none]
  | .c_ssyntax_entry=>[none,none]
  | .c_A2_i64=>List.replicate 2 (none)
  | .c_A12_i64=>List.replicate 12 (none)
  | .c_u32=>[none]
  | .c_sdecision_file=>[some .c_sLaws,none,none,none,none]
  | .c_stransition_law=>[none,none]
  | .c_A6_bool=>List.replicate 6 (none)
  | .c_A100_bool=>List.replicate 100 (none)
  | .c_psdecision_file=>[none]
  | .c_sGross=>[none,none,none,none,none,some .c_sFraction]
  | .c_sAward=>[none,none,none,none,none,none,none,none,none,none,none,none]
  | .c_sHeir=>[none,none,none]
  | .c_sdecision_item=>[some .c_sGross,some .c_sAward,none,none]
  | .c_sDeduction=>[none,none,none]
  | .c_li64=>[none]
  | .c_sNet=>[none,none,none,none,none,none,none]
  | .c_sFamilyPay=>[none,none,none,none]
  | .c_lsNet=>[none]
  | .c_sStage=>[none,none,none,none]
  | .c_lsStage=>[none]
  | .c_A6_lsStage=>List.replicate 6 (none)
  | .c_sRunning=>[none,none,none]
  | .c_sRow=>[none,none,none,none,none,none]
  | .c_lsRow=>[none]
  | .c_sKnowledge=>[none,none,none,none]
  | .c_nil=>[none]
 flds:=fun c=>match c with
  | .c_i64=>f4j
  | .c_sRounding=>c5t
  | .c_sCredit=>d0k
  | .c_sFraction=>c5e
  | .c_sIndex=>d4o
  | .c_str=>f4c
  | .c_sExpr=>d8k
  | .c_sLet=>e4d
  | .c_sGrant=>d35
  | .c_sReduce=>d0d
  | .c_sVersion=>c71
  | .c_sRules=>d5h
  | .c_sBinding=>c6n
  | .c_bool=>e4f
  | .c_sValue=>d4w
  | .c_sStep=>d9i
  | .c_u8=>g30
  | .c_sEntry=>d5i
  | .c_sSpan=>d89
  | .c_sapi_Fact=>c5c
  | .c_spensionhand_Fact=>b3g
  | .c_A3_str=>d4g
  | .c_sToken=>d36
  | .c_spensionref5_reader=>b12
  | .c_u64=>f3h
  | .c_spensionref1_wide=>b3d
  | .c_sStatute=>c83
  | .c_sState=>d2y
  | .c_sRate=>d9w
  | .c_sLaws=>d9b
  | .c_spensionhand_Claim=>b2r
  | .c_sClaim=>d32
  | .c_spensionlaw26_Seeds=>b14
  | .c_ssyntax_entry=>b8n
  | .c_A2_i64=>d50
  | .c_A12_i64=>d0e
  | .c_u32=>f3e
  | .c_sdecision_file=>b72
  | .c_stransition_law=>b58
  | .c_A6_bool=>c9c
  | .c_A100_bool=>c5f
  | .c_psdecision_file=>b5t
  | .c_sGross=>d5z
  | .c_sAward=>d3w
  | .c_sHeir=>d93
  | .c_sdecision_item=>b75
  | .c_sDeduction=>c3s
  | .c_li64=>e48
  | .c_sNet=>e3e
  | .c_sFamilyPay=>c3r
  | .c_lsNet=>d8m
  | .c_sStage=>d62
  | .c_lsStage=>c9b
  | .c_A6_lsStage=>c31
  | .c_sRunning=>c7q
  | .c_sRow=>e5s
  | .c_lsRow=>d8z
  | .c_sKnowledge=>c2l
  | .c_nil=>f2v
 mkv:=fun c=>match c with
  | .c_i64=>f3i
  | .c_sRounding=>c5k
  | .c_sCredit=>d0h
  | .c_sFraction=>c5w
  | .c_sIndex=>d2q
  | .c_str=>f3o
  | .c_sExpr=>d9t
  | .c_sLet=>e6o
  | .c_sGrant=>d3f
  | .c_sReduce=>c9r
  | .c_sVersion=>c6j
  | .c_sRules=>d3d
  | .c_sBinding=>c80
  | .c_bool=>e30
  | .c_sValue=>d5x
  | .c_sStep=>d9j
  | .c_u8=>g1f
  | .c_sEntry=>d3m
  | .c_sSpan=>d8r
  | .c_sapi_Fact=>c5s
  | .c_spensionhand_Fact=>b3q
  | .c_A3_str=>d3i
  | .c_sToken=>d60
  | .c_spensionref5_reader=>b1c
  | .c_u64=>f5h
  | .c_spensionref1_wide=>b3c
  | .c_sStatute=>c7y
  | .c_sState=>d2x
  | .c_sRate=>d8t
  | .c_sLaws=>d8w
  | .c_spensionhand_Claim=>b2j
  | .c_sClaim=>d49
  | .c_spensionlaw26_Seeds=>b1g
  | .c_ssyntax_entry=>b8b
  | .c_A2_i64=>d4e
  | .c_A12_i64=>c9e
  | .c_u32=>f3m
  | .c_sdecision_file=>b79
  | .c_stransition_law=>b5i
  | .c_A6_bool=>c9t
  | .c_A100_bool=>c5u
  | .c_psdecision_file=>b5x
  | .c_sGross=>d37
  | .c_sAward=>d3q
  | .c_sHeir=>d9d
  | .c_sdecision_item=>b6k
  | .c_sDeduction=>c3j
  | .c_li64=>e4e
  | .c_sNet=>e78
  | .c_sFamilyPay=>c3b
  | .c_lsNet=>d8o
  | .c_sStage=>d55
  | .c_lsStage=>c9l
  | .c_A6_lsStage=>c2i
  | .c_sRunning=>c6y
  | .c_sRow=>e3r
  | .c_lsRow=>d8c
  | .c_sKnowledge=>c3q
  | .c_nil=>f2y
 cd:=cdT
 flat:=fun c=>match c with
  | .c_i64=>true
  | .c_sRounding=>true
  | .c_sCredit=>true
  | .c_sFraction=>true
  | .c_sIndex=>true
  | .c_str=>true
  | .c_sExpr=>false
  | .c_sLet=>false
  | .c_sGrant=>false
  | .c_sReduce=>false
  | .c_sVersion=>false
  | .c_sRules=>false
  | .c_sBinding=>true
  | .c_bool=>true
  | .c_sValue=>true
  | .c_sStep=>true
  | .c_u8=>true
  | .c_sEntry=>true
  | .c_sSpan=>true
  | .c_sapi_Fact=>true
  | .c_spensionhand_Fact=>true
  | .c_A3_str=>true
  | .c_sToken=>true
  | .c_spensionref5_reader=>false
  | .c_u64=>true
  | .c_spensionref1_wide=>true
  | .c_sStatute=>false
  | .c_sState=>false
  | .c_sRate=>true
  | .c_sLaws=>false
  | .c_spensionhand_Claim=>true
  | .c_sClaim=>true
  | .c_spensionlaw26_Seeds=>false
  | .c_ssyntax_entry=>true
  | .c_A2_i64=>true
  | .c_A12_i64=>true
  | .c_u32=>true
  | .c_sdecision_file=>false
  | .c_stransition_law=>true
  | .c_A6_bool=>true
  | .c_A100_bool=>true
  | .c_psdecision_file=>false
  | .c_sGross=>true
  | .c_sAward=>false
  | .c_sHeir=>true
  | .c_sdecision_item=>false
  | .c_sDeduction=>true
  | .c_li64=>false
  | .c_sNet=>true
  | .c_sFamilyPay=>true
  | .c_lsNet=>false
  | .c_sStage=>true
  | .c_lsStage=>false
  | .c_A6_lsStage=>false
  | .c_sRunning=>true
  | .c_sRow=>true
  | .c_lsRow=>false
  | .c_sKnowledge=>false
  | .c_nil=>false
 isA:=fun c=>match c with
  | .c_i64=>false
  | .c_sRounding=>false
  | .c_sCredit=>false
  | .c_sFraction=>false
  | .c_sIndex=>false
  | .c_str=>false
  | .c_sExpr=>false
  | .c_sLet=>false
  | .c_sGrant=>false
  | .c_sReduce=>false
  | .c_sVersion=>false
  | .c_sRules=>false
  | .c_sBinding=>false
  | .c_bool=>false
  | .c_sValue=>false
  | .c_sStep=>false
  | .c_u8=>false
  | .c_sEntry=>false
  | .c_sSpan=>false
  | .c_sapi_Fact=>false
  | .c_spensionhand_Fact=>false
  | .c_A3_str=>true
  | .c_sToken=>false
  | .c_spensionref5_reader=>false
  | .c_u64=>false
  | .c_spensionref1_wide=>false
  | .c_sStatute=>false
  | .c_sState=>false
  | .c_sRate=>false
  | .c_sLaws=>false
  | .c_spensionhand_Claim=>false
  | .c_sClaim=>false
  | .c_spensionlaw26_Seeds=>false
  | .c_ssyntax_entry=>false
  | .c_A2_i64=>true
  | .c_A12_i64=>true
  | .c_u32=>false
  | .c_sdecision_file=>false
  | .c_stransition_law=>false
  | .c_A6_bool=>true
  | .c_A100_bool=>true
  | .c_psdecision_file=>false
  | .c_sGross=>false
  | .c_sAward=>false
  | .c_sHeir=>false
  | .c_sdecision_item=>false
  | .c_sDeduction=>false
  | .c_li64=>false
  | .c_sNet=>false
  | .c_sFamilyPay=>false
  | .c_lsNet=>false
  | .c_sStage=>false
  | .c_lsStage=>false
  | .c_A6_lsStage=>true
  | .c_sRunning=>false
  | .c_sRow=>false
  | .c_lsRow=>false
  | .c_sKnowledge=>false
  | .c_nil=>false
 ae:=fun c=>match c with
  | .c_i64=> .c_i64
  | .c_sRounding=> .c_sRounding
  | .c_sCredit=> .c_sCredit
  | .c_sFraction=> .c_sFraction
  | .c_sIndex=> .c_sIndex
  | .c_str=> .c_str
  | .c_sExpr=> .c_sExpr
  | .c_sLet=> .c_sLet
  | .c_sGrant=> .c_sGrant
  | .c_sReduce=> .c_sReduce
  | .c_sVersion=> .c_sVersion
  | .c_sRules=> .c_sRules
  | .c_sBinding=> .c_sBinding
  | .c_bool=> .c_bool
  | .c_sValue=> .c_sValue
  | .c_sStep=> .c_sStep
  | .c_u8=> .c_u8
  | .c_sEntry=> .c_sEntry
  | .c_sSpan=> .c_sSpan
  | .c_sapi_Fact=> .c_sapi_Fact
  | .c_spensionhand_Fact=> .c_spensionhand_Fact
  | .c_A3_str=> .c_str
  | .c_sToken=> .c_sToken
  | .c_spensionref5_reader=> .c_spensionref5_reader
  | .c_u64=> .c_u64
  | .c_spensionref1_wide=> .c_spensionref1_wide
  | .c_sStatute=> .c_sStatute
  | .c_sState=> .c_sState
  | .c_sRate=> .c_sRate
  | .c_sLaws=> .c_sLaws
  | .c_spensionhand_Claim=> .c_spensionhand_Claim
  | .c_sClaim=> .c_sClaim
  | .c_spensionlaw26_Seeds=> .c_spensionlaw26_Seeds
  | .c_ssyntax_entry=> .c_ssyntax_entry
  | .c_A2_i64=> .c_i64
  | .c_A12_i64=> .c_i64
  | .c_u32=> .c_u32
  | .c_sdecision_file=> .c_sdecision_file
  | .c_stransition_law=> .c_stransition_law
  | .c_A6_bool=> .c_bool
  | .c_A100_bool=> .c_bool
  | .c_psdecision_file=> .c_psdecision_file
  | .c_sGross=> .c_sGross
  | .c_sAward=> .c_sAward
  | .c_sHeir=> .c_sHeir
  | .c_sdecision_item=> .c_sdecision_item
  | .c_sDeduction=> .c_sDeduction
  | .c_li64=> .c_li64
  | .c_sNet=> .c_sNet
  | .c_sFamilyPay=> .c_sFamilyPay
  | .c_lsNet=> .c_lsNet
  | .c_sStage=> .c_sStage
  | .c_lsStage=> .c_lsStage
  | .c_A6_lsStage=> .c_lsStage
  | .c_sRunning=> .c_sRunning
  | .c_sRow=> .c_sRow
  | .c_lsRow=> .c_lsRow
  | .c_sKnowledge=> .c_sKnowledge
  | .c_nil=> .c_nil
 an:=fun c=>match c with
  | .c_i64=>0
  | .c_sRounding=>0
  | .c_sCredit=>0
  | .c_sFraction=>0
  | .c_sIndex=>0
  | .c_str=>0
  | .c_sExpr=>0
  | .c_sLet=>0
  | .c_sGrant=>0
  | .c_sReduce=>0
  | .c_sVersion=>0
  | .c_sRules=>0
  | .c_sBinding=>0
  | .c_bool=>0
  | .c_sValue=>0
  | .c_sStep=>0
  | .c_u8=>0
  | .c_sEntry=>0
  | .c_sSpan=>0
  | .c_sapi_Fact=>0
  | .c_spensionhand_Fact=>0
  | .c_A3_str=>3
  | .c_sToken=>0
  | .c_spensionref5_reader=>0
  | .c_u64=>0
  | .c_spensionref1_wide=>0
  | .c_sStatute=>0
  | .c_sState=>0
  | .c_sRate=>0
  | .c_sLaws=>0
  | .c_spensionhand_Claim=>0
  | .c_sClaim=>0
  | .c_spensionlaw26_Seeds=>0
  | .c_ssyntax_entry=>0
  | .c_A2_i64=>2
  | .c_A12_i64=>12
  | .c_u32=>0
  | .c_sdecision_file=>0
  | .c_stransition_law=>0
  | .c_A6_bool=>6
  | .c_A100_bool=>100
  | .c_psdecision_file=>0
  | .c_sGross=>0
  | .c_sAward=>0
  | .c_sHeir=>0
  | .c_sdecision_item=>0
  | .c_sDeduction=>0
  | .c_li64=>0
  | .c_sNet=>0
  | .c_sFamilyPay=>0
  | .c_lsNet=>0
  | .c_sStage=>0
  | .c_lsStage=>0
  | .c_A6_lsStage=>6
  | .c_sRunning=>0
  | .c_sRow=>0
  | .c_lsRow=>0
  | .c_sKnowledge=>0
  | .c_nil=>0
 al:=fun c=>match c with
  | .c_i64=>fun _=>[]
  | .c_sRounding=>fun _=>[]
  | .c_sCredit=>fun _=>[]
  | .c_sFraction=>fun _=>[]
  | .c_sIndex=>fun _=>[]
  | .c_str=>fun _=>[]
  | .c_sExpr=>fun _=>[]
  | .c_sLet=>fun _=>[]
  | .c_sGrant=>fun _=>[]
  | .c_sReduce=>fun _=>[]
  | .c_sVersion=>fun _=>[]
  | .c_sRules=>fun _=>[]
  | .c_sBinding=>fun _=>[]
  | .c_bool=>fun _=>[]
  | .c_sValue=>fun _=>[]
  | .c_sStep=>fun _=>[]
  | .c_u8=>fun _=>[]
  | .c_sEntry=>fun _=>[]
  | .c_sSpan=>fun _=>[]
  | .c_sapi_Fact=>fun _=>[]
  | .c_spensionhand_Fact=>fun _=>[]
  | .c_A3_str=>fun x=>x.l
  | .c_sToken=>fun _=>[]
  | .c_spensionref5_reader=>fun _=>[]
  | .c_u64=>fun _=>[]
  | .c_spensionref1_wide=>fun _=>[]
  | .c_sStatute=>fun _=>[]
  | .c_sState=>fun _=>[]
  | .c_sRate=>fun _=>[]
  | .c_sLaws=>fun _=>[]
  | .c_spensionhand_Claim=>fun _=>[]
  | .c_sClaim=>fun _=>[]
  | .c_spensionlaw26_Seeds=>fun _=>[]
  | .c_ssyntax_entry=>fun _=>[]
  | .c_A2_i64=>fun x=>x.l
  | .c_A12_i64=>fun x=>x.l
  | .c_u32=>fun _=>[]
  | .c_sdecision_file=>fun _=>[]
  | .c_stransition_law=>fun _=>[]
  | .c_A6_bool=>fun x=>x.l
  | .c_A100_bool=>fun x=>x.l
  | .c_psdecision_file=>fun _=>[]
  | .c_sGross=>fun _=>[]
  | .c_sAward=>fun _=>[]
  | .c_sHeir=>fun _=>[]
  | .c_sdecision_item=>fun _=>[]
  | .c_sDeduction=>fun _=>[]
  | .c_li64=>fun _=>[]
  | .c_sNet=>fun _=>[]
  | .c_sFamilyPay=>fun _=>[]
  | .c_lsNet=>fun _=>[]
  | .c_sStage=>fun _=>[]
  | .c_lsStage=>fun _=>[]
  | .c_A6_lsStage=>fun x=>x.l
  | .c_sRunning=>fun _=>[]
  | .c_sRow=>fun _=>[]
  | .c_lsRow=>fun _=>[]
  | .c_sKnowledge=>fun _=>[]
  | .c_nil=>fun _=>[]
 «as» :=fun c=>match c with
  | .c_i64=>fun x _ _=>x
  | .c_sRounding=>fun x _ _=>x
  | .c_sCredit=>fun x _ _=>x
  | .c_sFraction=>fun x _ _=>x
  | .c_sIndex=>fun x _ _=>x
  | .c_str=>fun x _ _=>x
  | .c_sExpr=>fun x _ _=>x
  | .c_sLet=>fun x _ _=>x
  | .c_sGrant=>fun x _ _=>x
  | .c_sReduce=>fun x _ _=>x
  | .c_sVersion=>fun x _ _=>x
  | .c_sRules=>fun x _ _=>x
  | .c_sBinding=>fun x _ _=>x
  | .c_bool=>fun x _ _=>x
  | .c_sValue=>fun x _ _=>x
  | .c_sStep=>fun x _ _=>x
  | .c_u8=>fun x _ _=>x
  | .c_sEntry=>fun x _ _=>x
  | .c_sSpan=>fun x _ _=>x
  | .c_sapi_Fact=>fun x _ _=>x
  | .c_spensionhand_Fact=>fun x _ _=>x
  | .c_A3_str=>fun x i y=>x.set i y
  | .c_sToken=>fun x _ _=>x
  | .c_spensionref5_reader=>fun x _ _=>x
  | .c_u64=>fun x _ _=>x
  | .c_spensionref1_wide=>fun x _ _=>x
  | .c_sStatute=>fun x _ _=>x
  | .c_sState=>fun x _ _=>x
  | .c_sRate=>fun x _ _=>x
  | .c_sLaws=>fun x _ _=>x
  | .c_spensionhand_Claim=>fun x _ _=>x
  | .c_sClaim=>fun x _ _=>x
  | .c_spensionlaw26_Seeds=>fun x _ _=>x
  | .c_ssyntax_entry=>fun x _ _=>x
  | .c_A2_i64=>fun x i y=>x.set i y
  | .c_A12_i64=>fun x i y=>x.set i y
  | .c_u32=>fun x _ _=>x
  | .c_sdecision_file=>fun x _ _=>x
  | .c_stransition_law=>fun x _ _=>x
  | .c_A6_bool=>fun x i y=>x.set i y
  | .c_A100_bool=>fun x i y=>x.set i y
  | .c_psdecision_file=>fun x _ _=>x
  | .c_sGross=>fun x _ _=>x
  | .c_sAward=>fun x _ _=>x
  | .c_sHeir=>fun x _ _=>x
  | .c_sdecision_item=>fun x _ _=>x
  | .c_sDeduction=>fun x _ _=>x
  | .c_li64=>fun x _ _=>x
  | .c_sNet=>fun x _ _=>x
  | .c_sFamilyPay=>fun x _ _=>x
  | .c_lsNet=>fun x _ _=>x
  | .c_sStage=>fun x _ _=>x
  | .c_lsStage=>fun x _ _=>x
  | .c_A6_lsStage=>fun x i y=>x.set i y
  | .c_sRunning=>fun x _ _=>x
  | .c_sRow=>fun x _ _=>x
  | .c_lsRow=>fun x _ _=>x
  | .c_sKnowledge=>fun x _ _=>x
  | .c_nil=>fun x _ _=>x
 gt:=fun c=>match c with
  | .c_i64=>fun x _=>x
  | .c_sRounding=>fun x _=>x
  | .c_sCredit=>fun x _=>x
  | .c_sFraction=>fun x _=>x
  | .c_sIndex=>fun x _=>x
  | .c_str=>fun x _=>x
  | .c_sExpr=>fun x _=>x
  | .c_sLet=>fun x _=>x
  | .c_sGrant=>fun x _=>x
  | .c_sReduce=>fun x _=>x
  | .c_sVersion=>fun x _=>x
  | .c_sRules=>fun x _=>x
  | .c_sBinding=>fun x _=>x
  | .c_bool=>fun x _=>x
  | .c_sValue=>fun x _=>x
  | .c_sStep=>fun x _=>x
  | .c_u8=>fun x _=>x
  | .c_sEntry=>fun x _=>x
  | .c_sSpan=>fun x _=>x
  | .c_sapi_Fact=>fun x _=>x
  | .c_spensionhand_Fact=>fun x _=>x
  | .c_A3_str=>fun x i=>Ar.gt ByteArray.empty x i
  | .c_sToken=>fun x _=>x
  | .c_spensionref5_reader=>fun x _=>x
  | .c_u64=>fun x _=>x
  | .c_spensionref1_wide=>fun x _=>x
  | .c_sStatute=>fun x _=>x
  | .c_sState=>fun x _=>x
  | .c_sRate=>fun x _=>x
  | .c_sLaws=>fun x _=>x
  | .c_spensionhand_Claim=>fun x _=>x
  | .c_sClaim=>fun x _=>x
  | .c_spensionlaw26_Seeds=>fun x _=>x
  | .c_ssyntax_entry=>fun x _=>x
  | .c_A2_i64=>fun x i=>Ar.gt 0 x i
  | .c_A12_i64=>fun x i=>Ar.gt 0 x i
  | .c_u32=>fun x _=>x
  | .c_sdecision_file=>fun x _=>x
  | .c_stransition_law=>fun x _=>x
  | .c_A6_bool=>fun x i=>Ar.gt false x i
  | .c_A100_bool=>fun x i=>Ar.gt false x i
  | .c_psdecision_file=>fun x _=>x
  | .c_sGross=>fun x _=>x
  | .c_sAward=>fun x _=>x
  | .c_sHeir=>fun x _=>x
  | .c_sdecision_item=>fun x _=>x
  | .c_sDeduction=>fun x _=>x
  | .c_li64=>fun x _=>x
  | .c_sNet=>fun x _=>x
  | .c_sFamilyPay=>fun x _=>x
  | .c_lsNet=>fun x _=>x
  | .c_sStage=>fun x _=>x
  | .c_lsStage=>fun x _=>x
  | .c_A6_lsStage=>fun x i=>Ar.gt [] x i
  | .c_sRunning=>fun x _=>x
  | .c_sRow=>fun x _=>x
  | .c_lsRow=>fun x _=>x
  | .c_sKnowledge=>fun x _=>x
  | .c_nil=>fun x _=>x
 b8:=fun c=>match c with
  | .c_i64=>false
  | .c_sRounding=>false
  | .c_sCredit=>false
  | .c_sFraction=>false
  | .c_sIndex=>false
  | .c_str=>false
  | .c_sExpr=>false
  | .c_sLet=>false
  | .c_sGrant=>false
  | .c_sReduce=>false
  | .c_sVersion=>false
  | .c_sRules=>false
  | .c_sBinding=>false
  | .c_bool=>false
  | .c_sValue=>false
  | .c_sStep=>false
  | .c_u8=>true
  | .c_sEntry=>false
  | .c_sSpan=>false
  | .c_sapi_Fact=>false
  | .c_spensionhand_Fact=>false
  | .c_A3_str=>false
  | .c_sToken=>false
  | .c_spensionref5_reader=>false
  | .c_u64=>false
  | .c_spensionref1_wide=>false
  | .c_sStatute=>false
  | .c_sState=>false
  | .c_sRate=>false
  | .c_sLaws=>false
  | .c_spensionhand_Claim=>false
  | .c_sClaim=>false
  | .c_spensionlaw26_Seeds=>false
  | .c_ssyntax_entry=>false
  | .c_A2_i64=>false
  | .c_A12_i64=>false
  | .c_u32=>false
  | .c_sdecision_file=>false
  | .c_stransition_law=>false
  | .c_A6_bool=>false
  | .c_A100_bool=>false
  | .c_psdecision_file=>false
  | .c_sGross=>false
  | .c_sAward=>false
  | .c_sHeir=>false
  | .c_sdecision_item=>false
  | .c_sDeduction=>false
  | .c_li64=>false
  | .c_sNet=>false
  | .c_sFamilyPay=>false
  | .c_lsNet=>false
  | .c_sStage=>false
  | .c_lsStage=>false
  | .c_A6_lsStage=>false
  | .c_sRunning=>false
  | .c_sRow=>false
  | .c_lsRow=>false
  | .c_sKnowledge=>false
  | .c_nil=>false
 t8:=fun c=>match c with
  | .c_i64=>fun _=>0
  | .c_sRounding=>fun _=>0
  | .c_sCredit=>fun _=>0
  | .c_sFraction=>fun _=>0
  | .c_sIndex=>fun _=>0
  | .c_str=>fun _=>0
  | .c_sExpr=>fun _=>0
  | .c_sLet=>fun _=>0
  | .c_sGrant=>fun _=>0
  | .c_sReduce=>fun _=>0
  | .c_sVersion=>fun _=>0
  | .c_sRules=>fun _=>0
  | .c_sBinding=>fun _=>0
  | .c_bool=>fun _=>0
  | .c_sValue=>fun _=>0
  | .c_sStep=>fun _=>0
  | .c_u8=>fun x=>x
  | .c_sEntry=>fun _=>0
  | .c_sSpan=>fun _=>0
  | .c_sapi_Fact=>fun _=>0
  | .c_spensionhand_Fact=>fun _=>0
  | .c_A3_str=>fun _=>0
  | .c_sToken=>fun _=>0
  | .c_spensionref5_reader=>fun _=>0
  | .c_u64=>fun _=>0
  | .c_spensionref1_wide=>fun _=>0
  | .c_sStatute=>fun _=>0
  | .c_sState=>fun _=>0
  | .c_sRate=>fun _=>0
  | .c_sLaws=>fun _=>0
  | .c_spensionhand_Claim=>fun _=>0
  | .c_sClaim=>fun _=>0
  | .c_spensionlaw26_Seeds=>fun _=>0
  | .c_ssyntax_entry=>fun _=>0
  | .c_A2_i64=>fun _=>0
  | .c_A12_i64=>fun _=>0
  | .c_u32=>fun _=>0
  | .c_sdecision_file=>fun _=>0
  | .c_stransition_law=>fun _=>0
  | .c_A6_bool=>fun _=>0
  | .c_A100_bool=>fun _=>0
  | .c_psdecision_file=>fun _=>0
  | .c_sGross=>fun _=>0
  | .c_sAward=>fun _=>0
  | .c_sHeir=>fun _=>0
  | .c_sdecision_item=>fun _=>0
  | .c_sDeduction=>fun _=>0
  | .c_li64=>fun _=>0
  | .c_sNet=>fun _=>0
  | .c_sFamilyPay=>fun _=>0
  | .c_lsNet=>fun _=>0
  | .c_sStage=>fun _=>0
  | .c_lsStage=>fun _=>0
  | .c_A6_lsStage=>fun _=>0
  | .c_sRunning=>fun _=>0
  | .c_sRow=>fun _=>0
  | .c_lsRow=>fun _=>0
  | .c_sKnowledge=>fun _=>0
  | .c_nil=>fun _=>0
 tab:=fun w=>Lib.TabIs Go.Proofs.Tryz.prog w "internal/strconv.uint64pow10" .u64 Lib.pow10Tab
 tb:=fun b=>b=5
theorem f9e: ∀(zs:List VV.AV) (y:Int),f3i zs=some y -> p9 (AEq (U:=VV)) zs (f4j y):=by
 intro zs y h
 obtain ⟨a0,zs,x0,rfl,h0,h⟩:=c7 h;obtain ⟨rfl,rfl⟩:=a0a h;exact ⟨m8 (U:=VV) h0,trivial⟩
theorem d0y: ∀(zs:List VV.AV) (y:Rounding),c5k zs=some y -> p9 (AEq (U:=VV)) zs (c5t y):=by
 intro zs y h
 obtain ⟨a0,zs,x0,rfl,h0,h⟩:=c7 h;obtain ⟨a1,zs,x1,rfl,h1,h⟩:=c7 h;obtain ⟨rfl,rfl⟩:=a0a h;exact ⟨m8 (U:=VV) h0,m8 (U:=VV) h1,trivial⟩
theorem d7k: ∀(zs:List VV.AV) (y:Credit),d0h zs=some y -> p9 (AEq (U:=VV)) zs (d0k y):=by
 intro zs y h
 obtain ⟨a0,zs,x0,rfl,h0,h⟩:=c7 h;obtain ⟨a1,zs,x1,rfl,h1,h⟩:=c7 h;obtain ⟨rfl,rfl⟩:=a0a h;exact ⟨m8 (U:=VV) h0,m8 (U:=VV) h1,trivial⟩
theorem d1h: ∀(zs:List VV.AV) (y:Fraction),c5w zs=some y -> p9 (AEq (U:=VV)) zs (c5e y):=by
 intro zs y h
 obtain ⟨a0,zs,x0,rfl,h0,h⟩:=c7 h;obtain ⟨a1,zs,x1,rfl,h1,h⟩:=c7 h;obtain ⟨rfl,rfl⟩:=a0a h;exact ⟨m8 (U:=VV) h0,m8 (U:=VV) h1,trivial⟩
theorem e1d: ∀(zs:List VV.AV) (y:Index),d2q zs=some y -> p9 (AEq (U:=VV)) zs (d4o y):=by
 intro zs y h
 obtain ⟨a0,zs,x0,rfl,h0,h⟩:=c7 h;obtain ⟨a1,zs,x1,rfl,h1,h⟩:=c7 h;obtain ⟨rfl,rfl⟩:=a0a h;exact ⟨m8 (U:=VV) h0,c0o (U:=VV) h1,trivial⟩
theorem f8e: ∀(zs:List VV.AV) (y:ByteArray),f3o zs=some y -> p9 (AEq (U:=VV)) zs (f4c y):=by
 intro zs y h
 obtain ⟨a0,zs,x0,rfl,h0,h⟩:=c7 h;obtain ⟨rfl,rfl⟩:=a0a h;exact ⟨d1f (U:=VV) h0,trivial⟩
theorem e3w: ∀(zs:List VV.AV) (y:Expr),d9t zs=some y -> p9 (AEq (U:=VV)) zs (d8k y):=by
 intro zs y h
 obtain ⟨a0,zs,x0,rfl,h0,h⟩:=c7 h;obtain ⟨a1,zs,x1,rfl,h1,h⟩:=c7 h;obtain ⟨a2,zs,x2,rfl,h2,h⟩:=c7 h;obtain ⟨a3,zs,x3,rfl,h3,h⟩:=c7 h;obtain ⟨a4,zs,x4,rfl,h4,h⟩:=c7 h;obtain ⟨rfl,rfl⟩:=a0a h;exact ⟨m8 (U:=VV) h0,c0o (U:=VV) h1,m8 (U:=VV) h2,d1f (U:=VV) h3,b0t (U:=VV) h4,trivial⟩
theorem f09: ∀(zs:List VV.AV) (y:Let),e6o zs=some y -> p9 (AEq (U:=VV)) zs (e4d y):=by
 intro zs y h
 obtain ⟨a0,zs,x0,rfl,h0,h⟩:=c7 h;obtain ⟨a1,zs,x1,rfl,h1,h⟩:=c7 h;obtain ⟨rfl,rfl⟩:=a0a h;exact ⟨d1f (U:=VV) h0,c0o (U:=VV) h1,trivial⟩
theorem e25: ∀(zs:List VV.AV) (y:Grant),d3f zs=some y -> p9 (AEq (U:=VV)) zs (d35 y):=by
 intro zs y h
 obtain ⟨a0,zs,x0,rfl,h0,h⟩:=c7 h;obtain ⟨a1,zs,x1,rfl,h1,h⟩:=c7 h;obtain ⟨a2,zs,x2,rfl,h2,h⟩:=c7 h;obtain ⟨rfl,rfl⟩:=a0a h;exact ⟨m8 (U:=VV) h0,c0o (U:=VV) h1,c0o (U:=VV) h2,trivial⟩
theorem d79: ∀(zs:List VV.AV) (y:Reduce),c9r zs=some y -> p9 (AEq (U:=VV)) zs (d0d y):=by
 intro zs y h
 obtain ⟨a0,zs,x0,rfl,h0,h⟩:=c7 h;obtain ⟨a1,zs,x1,rfl,h1,h⟩:=c7 h;obtain ⟨rfl,rfl⟩:=a0a h;exact ⟨m8 (U:=VV) h0,c0o (U:=VV) h1,trivial⟩
theorem d4r: ∀(zs:List VV.AV) (y:Version),c6j zs=some y -> p9 (AEq (U:=VV)) zs (c71 y):=by
 intro zs y h
 obtain ⟨a0,zs,x0,rfl,h0,h⟩:=c7 h;obtain ⟨a1,zs,x1,rfl,h1,h⟩:=c7 h;obtain ⟨a2,zs,x2,rfl,h2,h⟩:=c7 h;obtain ⟨a3,zs,x3,rfl,h3,h⟩:=c7 h;obtain ⟨a4,zs,x4,rfl,h4,h⟩:=c7 h;obtain ⟨a5,zs,x5,rfl,h5,h⟩:=c7 h;obtain ⟨a6,zs,x6,rfl,h6,h⟩:=c7 h;obtain ⟨rfl,rfl⟩:=a0a h;exact ⟨m8 (U:=VV) h0,c0o (U:=VV) h1,b0t (U:=VV) h2,b0t (U:=VV) h3,b0t (U:=VV) h4,b0t (U:=VV) h5,b0t (U:=VV) h6,trivial⟩
theorem e16: ∀(zs:List VV.AV) (y:Rules),d3d zs=some y -> p9 (AEq (U:=VV)) zs (d5h y):=by
 intro zs y h
 obtain ⟨a0,zs,x0,rfl,h0,h⟩:=c7 h;obtain ⟨a1,zs,x1,rfl,h1,h⟩:=c7 h;obtain ⟨a2,zs,x2,rfl,h2,h⟩:=c7 h;obtain ⟨a3,zs,x3,rfl,h3,h⟩:=c7 h;obtain ⟨a4,zs,x4,rfl,h4,h⟩:=c7 h;obtain ⟨rfl,rfl⟩:=a0a h;exact ⟨m8 (U:=VV) h0,m8 (U:=VV) h1,m8 (U:=VV) h2,m8 (U:=VV) h3,b0t (U:=VV) h4,trivial⟩
theorem d4k: ∀(zs:List VV.AV) (y:Binding),c80 zs=some y -> p9 (AEq (U:=VV)) zs (c6n y):=by
 intro zs y h
 obtain ⟨a0,zs,x0,rfl,h0,h⟩:=c7 h;obtain ⟨a1,zs,x1,rfl,h1,h⟩:=c7 h;obtain ⟨rfl,rfl⟩:=a0a h;exact ⟨d1f (U:=VV) h0,m8 (U:=VV) h1,trivial⟩
theorem e93: ∀(zs:List VV.AV) (y:Bool),e30 zs=some y -> p9 (AEq (U:=VV)) zs (e4f y):=by
 intro zs y h
 obtain ⟨a0,zs,x0,rfl,h0,h⟩:=c7 h;obtain ⟨rfl,rfl⟩:=a0a h;exact ⟨c4o (U:=VV) h0,trivial⟩
theorem e19: ∀(zs:List VV.AV) (y:Value),d5x zs=some y -> p9 (AEq (U:=VV)) zs (d4w y):=by
 intro zs y h
 obtain ⟨a0,zs,x0,rfl,h0,h⟩:=c7 h;obtain ⟨a1,zs,x1,rfl,h1,h⟩:=c7 h;obtain ⟨a2,zs,x2,rfl,h2,h⟩:=c7 h;obtain ⟨rfl,rfl⟩:=a0a h;exact ⟨m8 (U:=VV) h0,c4o (U:=VV) h1,c0o (U:=VV) h2,trivial⟩
theorem e60: ∀(zs:List VV.AV) (y:Step),d9j zs=some y -> p9 (AEq (U:=VV)) zs (d9i y):=by
 intro zs y h
 obtain ⟨a0,zs,x0,rfl,h0,h⟩:=c7 h;obtain ⟨a1,zs,x1,rfl,h1,h⟩:=c7 h;obtain ⟨rfl,rfl⟩:=a0a h;exact ⟨d1f (U:=VV) h0,c0o (U:=VV) h1,trivial⟩
theorem g0c: ∀(zs:List VV.AV) (y:Int),g1f zs=some y -> p9 (AEq (U:=VV)) zs (g30 y):=by
 intro zs y h
 obtain ⟨a0,zs,x0,rfl,h0,h⟩:=c7 h;obtain ⟨rfl,rfl⟩:=a0a h;exact ⟨m8 (U:=VV) h0,trivial⟩
theorem e0n: ∀(zs:List VV.AV) (y:Entry),d3m zs=some y -> p9 (AEq (U:=VV)) zs (d5i y):=by
 intro zs y h
 obtain ⟨a0,zs,x0,rfl,h0,h⟩:=c7 h;obtain ⟨a1,zs,x1,rfl,h1,h⟩:=c7 h;obtain ⟨a2,zs,x2,rfl,h2,h⟩:=c7 h;obtain ⟨a3,zs,x3,rfl,h3,h⟩:=c7 h;obtain ⟨a4,zs,x4,rfl,h4,h⟩:=c7 h;obtain ⟨rfl,rfl⟩:=a0a h;exact ⟨m8 (U:=VV) h0,m8 (U:=VV) h1,m8 (U:=VV) h2,m8 (U:=VV) h3,m8 (U:=VV) h4,trivial⟩
theorem e3a: ∀(zs:List VV.AV) (y:Span),d8r zs=some y -> p9 (AEq (U:=VV)) zs (d89 y):=by
 intro zs y h
 obtain ⟨a0,zs,x0,rfl,h0,h⟩:=c7 h;obtain ⟨a1,zs,x1,rfl,h1,h⟩:=c7 h;obtain ⟨rfl,rfl⟩:=a0a h;exact ⟨m8 (U:=VV) h0,m8 (U:=VV) h1,trivial⟩
theorem d1y: ∀(zs:List VV.AV) (y:api_Fact),c5s zs=some y -> p9 (AEq (U:=VV)) zs (c5c y):=by
 intro zs y h
 obtain ⟨a0,zs,x0,rfl,h0,h⟩:=c7 h;obtain ⟨a1,zs,x1,rfl,h1,h⟩:=c7 h;obtain ⟨a2,zs,x2,rfl,h2,h⟩:=c7 h;obtain ⟨a3,zs,x3,rfl,h3,h⟩:=c7 h;obtain ⟨a4,zs,x4,rfl,h4,h⟩:=c7 h;obtain ⟨a5,zs,x5,rfl,h5,h⟩:=c7 h;obtain ⟨a6,zs,x6,rfl,h6,h⟩:=c7 h;obtain ⟨a7,zs,x7,rfl,h7,h⟩:=c7 h;obtain ⟨a8,zs,x8,rfl,h8,h⟩:=c7 h;obtain ⟨a9,zs,x9,rfl,h9,h⟩:=c7 h;obtain ⟨a10,zs,x10,rfl,h10,h⟩:=c7 h;obtain ⟨a11,zs,x11,rfl,h11,h⟩:=c7 h;obtain ⟨a12,zs,x12,rfl,h12,h⟩:=c7 h;obtain ⟨rfl,rfl⟩:=a0a h;exact ⟨m8 (U:=VV) h0,m8 (U:=VV) h1,m8 (U:=VV) h2,c4o (U:=VV) h3,m8 (U:=VV) h4,m8 (U:=VV) h5,m8 (U:=VV) h6,c0o (U:=VV) h7,m8 (U:=VV) h8,m8 (U:=VV) h9,m8 (U:=VV) h10,m8 (U:=VV) h11,m8 (U:=VV) h12,trivial⟩
theorem b9m: ∀(zs:List VV.AV) (y:pensionhand_Fact),b3q zs=some y -> p9 (AEq (U:=VV)) zs (b3g y):=by
 intro zs y h
 obtain ⟨a0,zs,x0,rfl,h0,h⟩:=c7 h;obtain ⟨a1,zs,x1,rfl,h1,h⟩:=c7 h;obtain ⟨a2,zs,x2,rfl,h2,h⟩:=c7 h;obtain ⟨a3,zs,x3,rfl,h3,h⟩:=c7 h;obtain ⟨a4,zs,x4,rfl,h4,h⟩:=c7 h;obtain ⟨a5,zs,x5,rfl,h5,h⟩:=c7 h;obtain ⟨a6,zs,x6,rfl,h6,h⟩:=c7 h;obtain ⟨a7,zs,x7,rfl,h7,h⟩:=c7 h;obtain ⟨a8,zs,x8,rfl,h8,h⟩:=c7 h;obtain ⟨a9,zs,x9,rfl,h9,h⟩:=c7 h;obtain ⟨a10,zs,x10,rfl,h10,h⟩:=c7 h;obtain ⟨a11,zs,x11,rfl,h11,h⟩:=c7 h;obtain ⟨a12,zs,x12,rfl,h12,h⟩:=c7 h;obtain ⟨rfl,rfl⟩:=a0a h;exact ⟨m8 (U:=VV) h0,m8 (U:=VV) h1,m8 (U:=VV) h2,c4o (U:=VV) h3,m8 (U:=VV) h4,m8 (U:=VV) h5,m8 (U:=VV) h6,m8 (U:=VV) h7,m8 (U:=VV) h8,m8 (U:=VV) h9,m8 (U:=VV) h10,m8 (U:=VV) h11,m8 (U:=VV) h12,trivial⟩
theorem e1j: ∀(zs:List VV.AV) (y:Ar 3 ByteArray),d3i zs=some y -> p9 (AEq (U:=VV)) zs (d4g y):=fun zs y h=>d07 (fun _ _ h=>d1f (U:=VV) h) h
theorem e1o: ∀(zs:List VV.AV) (y:Token),d60 zs=some y -> p9 (AEq (U:=VV)) zs (d36 y):=by
 intro zs y h
 obtain ⟨a0,zs,x0,rfl,h0,h⟩:=c7 h;obtain ⟨a1,zs,x1,rfl,h1,h⟩:=c7 h;obtain ⟨a2,zs,x2,rfl,h2,h⟩:=c7 h;obtain ⟨rfl,rfl⟩:=a0a h;exact ⟨m8 (U:=VV) h0,d1f (U:=VV) h1,m8 (U:=VV) h2,trivial⟩
theorem b83: ∀(zs:List VV.AV) (y:pensionref5_reader),b1c zs=some y -> p9 (AEq (U:=VV)) zs (b12 y):=by
 intro zs y h
 obtain ⟨a0,zs,x0,rfl,h0,h⟩:=c7 h;obtain ⟨a1,zs,x1,rfl,h1,h⟩:=c7 h;obtain ⟨a2,zs,x2,rfl,h2,h⟩:=c7 h;obtain ⟨a3,zs,x3,rfl,h3,h⟩:=c7 h;obtain ⟨rfl,rfl⟩:=a0a h;exact ⟨b0t (U:=VV) h0,m8 (U:=VV) h1,m8 (U:=VV) h2,c4o (U:=VV) h3,trivial⟩
theorem f6q: ∀(zs:List VV.AV) (y:Int),f5h zs=some y -> p9 (AEq (U:=VV)) zs (f3h y):=by
 intro zs y h
 obtain ⟨a0,zs,x0,rfl,h0,h⟩:=c7 h;obtain ⟨rfl,rfl⟩:=a0a h;exact ⟨m8 (U:=VV) h0,trivial⟩
theorem b9n: ∀(zs:List VV.AV) (y:pensionref1_wide),b3c zs=some y -> p9 (AEq (U:=VV)) zs (b3d y):=by
 intro zs y h
 obtain ⟨a0,zs,x0,rfl,h0,h⟩:=c7 h;obtain ⟨a1,zs,x1,rfl,h1,h⟩:=c7 h;obtain ⟨rfl,rfl⟩:=a0a h;exact ⟨m8 (U:=VV) h0,m8 (U:=VV) h1,trivial⟩
theorem d5b: ∀(zs:List VV.AV) (y:Statute),c7y zs=some y -> p9 (AEq (U:=VV)) zs (c83 y):=by
 intro zs y h
 obtain ⟨a0,zs,x0,rfl,h0,h⟩:=c7 h;obtain ⟨a1,zs,x1,rfl,h1,h⟩:=c7 h;obtain ⟨a2,zs,x2,rfl,h2,h⟩:=c7 h;obtain ⟨rfl,rfl⟩:=a0a h;exact ⟨d1f (U:=VV) h0,m8 (U:=VV) h1,b0t (U:=VV) h2,trivial⟩
theorem e2f: ∀(zs:List VV.AV) (y:State),d2x zs=some y -> p9 (AEq (U:=VV)) zs (d2y y):=by
 intro zs y h
 obtain ⟨a0,zs,x0,rfl,h0,h⟩:=c7 h;obtain ⟨a1,zs,x1,rfl,h1,h⟩:=c7 h;obtain ⟨rfl,rfl⟩:=a0a h;exact ⟨m8 (U:=VV) h0,c0o (U:=VV) h1,trivial⟩
theorem e72: ∀(zs:List VV.AV) (y:Rate),d8t zs=some y -> p9 (AEq (U:=VV)) zs (d9w y):=by
 intro zs y h
 obtain ⟨a0,zs,x0,rfl,h0,h⟩:=c7 h;obtain ⟨a1,zs,x1,rfl,h1,h⟩:=c7 h;obtain ⟨a2,zs,x2,rfl,h2,h⟩:=c7 h;obtain ⟨rfl,rfl⟩:=a0a h;exact ⟨m8 (U:=VV) h0,m8 (U:=VV) h1,c0o (U:=VV) h2,trivial⟩
theorem e4b: ∀(zs:List VV.AV) (y:Laws),d8w zs=some y -> p9 (AEq (U:=VV)) zs (d9b y):=by
 intro zs y h
 obtain ⟨a0,zs,x0,rfl,h0,h⟩:=c7 h;obtain ⟨a1,zs,x1,rfl,h1,h⟩:=c7 h;obtain ⟨a2,zs,x2,rfl,h2,h⟩:=c7 h;obtain ⟨rfl,rfl⟩:=a0a h;exact ⟨b0t (U:=VV) h0,b0t (U:=VV) h1,b0t (U:=VV) h2,trivial⟩
theorem b8q: ∀(zs:List VV.AV) (y:pensionhand_Claim),b2j zs=some y -> p9 (AEq (U:=VV)) zs (b2r y):=by
 intro zs y h
 obtain ⟨a0,zs,x0,rfl,h0,h⟩:=c7 h;obtain ⟨a1,zs,x1,rfl,h1,h⟩:=c7 h;obtain ⟨a2,zs,x2,rfl,h2,h⟩:=c7 h;obtain ⟨a3,zs,x3,rfl,h3,h⟩:=c7 h;obtain ⟨a4,zs,x4,rfl,h4,h⟩:=c7 h;obtain ⟨a5,zs,x5,rfl,h5,h⟩:=c7 h;obtain ⟨rfl,rfl⟩:=a0a h;exact ⟨m8 (U:=VV) h0,m8 (U:=VV) h1,m8 (U:=VV) h2,m8 (U:=VV) h3,m8 (U:=VV) h4,m8 (U:=VV) h5,trivial⟩
theorem e0z: ∀(zs:List VV.AV) (y:Claim),d49 zs=some y -> p9 (AEq (U:=VV)) zs (d32 y):=by
 intro zs y h
 obtain ⟨a0,zs,x0,rfl,h0,h⟩:=c7 h;obtain ⟨a1,zs,x1,rfl,h1,h⟩:=c7 h;obtain ⟨a2,zs,x2,rfl,h2,h⟩:=c7 h;obtain ⟨a3,zs,x3,rfl,h3,h⟩:=c7 h;obtain ⟨a4,zs,x4,rfl,h4,h⟩:=c7 h;obtain ⟨a5,zs,x5,rfl,h5,h⟩:=c7 h;obtain ⟨rfl,rfl⟩:=a0a h;exact ⟨m8 (U:=VV) h0,m8 (U:=VV) h1,m8 (U:=VV) h2,m8 (U:=VV) h3,m8 (U:=VV) h4,m8 (U:=VV) h5,trivial⟩
theorem b7p: ∀(zs:List VV.AV) (y:pensionlaw26_Seeds),b1g zs=some y -> p9 (AEq (U:=VV)) zs (b14 y):=by
 intro zs y h
 obtain ⟨a0,zs,x0,rfl,h0,h⟩:=c7 h;obtain ⟨a1,zs,x1,rfl,h1,h⟩:=c7 h;obtain ⟨a2,zs,x2,rfl,h2,h⟩:=c7 h;obtain ⟨a3,zs,x3,rfl,h3,h⟩:=c7 h;obtain ⟨a4,zs,x4,rfl,h4,h⟩:=c7 h;obtain ⟨rfl,rfl⟩:=a0a h;exact ⟨b0t (U:=VV) h0,b0t (U:=VV) h1,b0t (U:=VV) h2,b0t (U:=VV) h3,m8 (U:=VV) h4,trivial⟩
theorem c55: ∀(zs:List VV.AV) (y:syntax_entry),b8b zs=some y -> p9 (AEq (U:=VV)) zs (b8n y):=by
 intro zs y h
 obtain ⟨a0,zs,x0,rfl,h0,h⟩:=c7 h;obtain ⟨a1,zs,x1,rfl,h1,h⟩:=c7 h;obtain ⟨rfl,rfl⟩:=a0a h;exact ⟨d1f (U:=VV) h0,m8 (U:=VV) h1,trivial⟩
theorem e0p: ∀(zs:List VV.AV) (y:Ar 2 Int),d4e zs=some y -> p9 (AEq (U:=VV)) zs (d50 y):=fun zs y h=>d07 (fun _ _ h=>m8 (U:=VV) h) h
theorem d6t: ∀(zs:List VV.AV) (y:Ar 12 Int),c9e zs=some y -> p9 (AEq (U:=VV)) zs (d0e y):=fun zs y h=>d07 (fun _ _ h=>m8 (U:=VV) h) h
theorem f7i: ∀(zs:List VV.AV) (y:Int),f3m zs=some y -> p9 (AEq (U:=VV)) zs (f3e y):=by
 intro zs y h
 obtain ⟨a0,zs,x0,rfl,h0,h⟩:=c7 h;obtain ⟨rfl,rfl⟩:=a0a h;exact ⟨m8 (U:=VV) h0,trivial⟩
theorem c3d: ∀(zs:List VV.AV) (y:decision_file),b79 zs=some y -> p9 (AEq (U:=VV)) zs (b72 y):=by
 intro zs y h
 obtain ⟨a0,zs,x0,rfl,h0,h⟩:=c7 h;obtain ⟨a1,zs,x1,rfl,h1,h⟩:=c7 h;obtain ⟨a2,zs,x2,rfl,h2,h⟩:=c7 h;obtain ⟨a3,zs,x3,rfl,h3,h⟩:=c7 h;obtain ⟨a4,zs,x4,rfl,h4,h⟩:=c7 h;obtain ⟨rfl,rfl⟩:=a0a h;exact ⟨c0o (U:=VV) h0,b0t (U:=VV) h1,b0t (U:=VV) h2,b0t (U:=VV) h3,m8 (U:=VV) h4,trivial⟩
theorem c22: ∀(zs:List VV.AV) (y:transition_law),b5i zs=some y -> p9 (AEq (U:=VV)) zs (b58 y):=by
 intro zs y h
 obtain ⟨a0,zs,x0,rfl,h0,h⟩:=c7 h;obtain ⟨a1,zs,x1,rfl,h1,h⟩:=c7 h;obtain ⟨rfl,rfl⟩:=a0a h;exact ⟨m8 (U:=VV) h0,m8 (U:=VV) h1,trivial⟩
theorem d6l: ∀(zs:List VV.AV) (y:Ar 6 Bool),c9t zs=some y -> p9 (AEq (U:=VV)) zs (c9c y):=fun zs y h=>d07 (fun _ _ h=>c4o (U:=VV) h) h
theorem d1s: ∀(zs:List VV.AV) (y:Ar 100 Bool),c5u zs=some y -> p9 (AEq (U:=VV)) zs (c5f y):=fun zs y h=>d07 (fun _ _ h=>c4o (U:=VV) h) h
theorem c28: ∀(zs:List VV.AV) (y:decision_file),b5x zs=some y -> p9 (AEq (U:=VV)) zs (b5t y):=by
 intro zs y h
 obtain ⟨a0,zs,x0,rfl,h0,h⟩:=c7 h;obtain ⟨rfl,rfl⟩:=a0a h;exact ⟨g6d (U:=VV) h0,trivial⟩
theorem e1x: ∀(zs:List VV.AV) (y:Gross),d37 zs=some y -> p9 (AEq (U:=VV)) zs (d5z y):=by
 intro zs y h
 obtain ⟨a0,zs,x0,rfl,h0,h⟩:=c7 h;obtain ⟨a1,zs,x1,rfl,h1,h⟩:=c7 h;obtain ⟨a2,zs,x2,rfl,h2,h⟩:=c7 h;obtain ⟨a3,zs,x3,rfl,h3,h⟩:=c7 h;obtain ⟨a4,zs,x4,rfl,h4,h⟩:=c7 h;obtain ⟨a5,zs,x5,rfl,h5,h⟩:=c7 h;obtain ⟨rfl,rfl⟩:=a0a h;exact ⟨m8 (U:=VV) h0,m8 (U:=VV) h1,m8 (U:=VV) h2,m8 (U:=VV) h3,m8 (U:=VV) h4,c0o (U:=VV) h5,trivial⟩
theorem e27: ∀(zs:List VV.AV) (y:Award),d3q zs=some y -> p9 (AEq (U:=VV)) zs (d3w y):=by
 intro zs y h
 obtain ⟨a0,zs,x0,rfl,h0,h⟩:=c7 h;obtain ⟨a1,zs,x1,rfl,h1,h⟩:=c7 h;obtain ⟨a2,zs,x2,rfl,h2,h⟩:=c7 h;obtain ⟨a3,zs,x3,rfl,h3,h⟩:=c7 h;obtain ⟨a4,zs,x4,rfl,h4,h⟩:=c7 h;obtain ⟨a5,zs,x5,rfl,h5,h⟩:=c7 h;obtain ⟨a6,zs,x6,rfl,h6,h⟩:=c7 h;obtain ⟨a7,zs,x7,rfl,h7,h⟩:=c7 h;obtain ⟨a8,zs,x8,rfl,h8,h⟩:=c7 h;obtain ⟨a9,zs,x9,rfl,h9,h⟩:=c7 h;obtain ⟨a10,zs,x10,rfl,h10,h⟩:=c7 h;obtain ⟨a11,zs,x11,rfl,h11,h⟩:=c7 h;obtain ⟨rfl,rfl⟩:=a0a h;exact ⟨m8 (U:=VV) h0,m8 (U:=VV) h1,m8 (U:=VV) h2,m8 (U:=VV) h3,c4o (U:=VV) h4,m8 (U:=VV) h5,m8 (U:=VV) h6,m8 (U:=VV) h7,m8 (U:=VV) h8,m8 (U:=VV) h9,m8 (U:=VV) h10,b0t (U:=VV) h11,trivial⟩
theorem e6t: ∀(zs:List VV.AV) (y:Heir),d9d zs=some y -> p9 (AEq (U:=VV)) zs (d93 y):=by
 intro zs y h
 obtain ⟨a0,zs,x0,rfl,h0,h⟩:=c7 h;obtain ⟨a1,zs,x1,rfl,h1,h⟩:=c7 h;obtain ⟨a2,zs,x2,rfl,h2,h⟩:=c7 h;obtain ⟨rfl,rfl⟩:=a0a h;exact ⟨m8 (U:=VV) h0,m8 (U:=VV) h1,m8 (U:=VV) h2,trivial⟩
theorem c3z: ∀(zs:List VV.AV) (y:decision_item),b6k zs=some y -> p9 (AEq (U:=VV)) zs (b75 y):=by
 intro zs y h
 obtain ⟨a0,zs,x0,rfl,h0,h⟩:=c7 h;obtain ⟨a1,zs,x1,rfl,h1,h⟩:=c7 h;obtain ⟨a2,zs,x2,rfl,h2,h⟩:=c7 h;obtain ⟨a3,zs,x3,rfl,h3,h⟩:=c7 h;obtain ⟨rfl,rfl⟩:=a0a h;exact ⟨c0o (U:=VV) h0,c0o (U:=VV) h1,b0t (U:=VV) h2,m8 (U:=VV) h3,trivial⟩
theorem c91: ∀(zs:List VV.AV) (y:Deduction),c3j zs=some y -> p9 (AEq (U:=VV)) zs (c3s y):=by
 intro zs y h
 obtain ⟨a0,zs,x0,rfl,h0,h⟩:=c7 h;obtain ⟨a1,zs,x1,rfl,h1,h⟩:=c7 h;obtain ⟨a2,zs,x2,rfl,h2,h⟩:=c7 h;obtain ⟨rfl,rfl⟩:=a0a h;exact ⟨m8 (U:=VV) h0,m8 (U:=VV) h1,m8 (U:=VV) h2,trivial⟩
theorem e9o: ∀(zs:List VV.AV) (y:List Int),e4e zs=some y -> p9 (AEq (U:=VV)) zs (e48 y):=by
 intro zs y h
 obtain ⟨a0,zs,x0,rfl,h0,h⟩:=c7 h;obtain ⟨rfl,rfl⟩:=a0a h;exact ⟨b0t (U:=VV) h0,trivial⟩
theorem f0m: ∀(zs:List VV.AV) (y:Net),e78 zs=some y -> p9 (AEq (U:=VV)) zs (e3e y):=by
 intro zs y h
 obtain ⟨a0,zs,x0,rfl,h0,h⟩:=c7 h;obtain ⟨a1,zs,x1,rfl,h1,h⟩:=c7 h;obtain ⟨a2,zs,x2,rfl,h2,h⟩:=c7 h;obtain ⟨a3,zs,x3,rfl,h3,h⟩:=c7 h;obtain ⟨a4,zs,x4,rfl,h4,h⟩:=c7 h;obtain ⟨a5,zs,x5,rfl,h5,h⟩:=c7 h;obtain ⟨a6,zs,x6,rfl,h6,h⟩:=c7 h;obtain ⟨rfl,rfl⟩:=a0a h;exact ⟨m8 (U:=VV) h0,m8 (U:=VV) h1,m8 (U:=VV) h2,m8 (U:=VV) h3,m8 (U:=VV) h4,m8 (U:=VV) h5,m8 (U:=VV) h6,trivial⟩
theorem c8v: ∀(zs:List VV.AV) (y:FamilyPay),c3b zs=some y -> p9 (AEq (U:=VV)) zs (c3r y):=by
 intro zs y h
 obtain ⟨a0,zs,x0,rfl,h0,h⟩:=c7 h;obtain ⟨a1,zs,x1,rfl,h1,h⟩:=c7 h;obtain ⟨a2,zs,x2,rfl,h2,h⟩:=c7 h;obtain ⟨a3,zs,x3,rfl,h3,h⟩:=c7 h;obtain ⟨rfl,rfl⟩:=a0a h;exact ⟨m8 (U:=VV) h0,m8 (U:=VV) h1,m8 (U:=VV) h2,c4o (U:=VV) h3,trivial⟩
theorem e63: ∀(zs:List VV.AV) (y:List Net),d8o zs=some y -> p9 (AEq (U:=VV)) zs (d8m y):=by
 intro zs y h
 obtain ⟨a0,zs,x0,rfl,h0,h⟩:=c7 h;obtain ⟨rfl,rfl⟩:=a0a h;exact ⟨b0t (U:=VV) h0,trivial⟩
theorem e24: ∀(zs:List VV.AV) (y:Stage),d55 zs=some y -> p9 (AEq (U:=VV)) zs (d62 y):=by
 intro zs y h
 obtain ⟨a0,zs,x0,rfl,h0,h⟩:=c7 h;obtain ⟨a1,zs,x1,rfl,h1,h⟩:=c7 h;obtain ⟨a2,zs,x2,rfl,h2,h⟩:=c7 h;obtain ⟨a3,zs,x3,rfl,h3,h⟩:=c7 h;obtain ⟨rfl,rfl⟩:=a0a h;exact ⟨m8 (U:=VV) h0,c4o (U:=VV) h1,c4o (U:=VV) h2,m8 (U:=VV) h3,trivial⟩
theorem d7w: ∀(zs:List VV.AV) (y:List Stage),c9l zs=some y -> p9 (AEq (U:=VV)) zs (c9b y):=by
 intro zs y h
 obtain ⟨a0,zs,x0,rfl,h0,h⟩:=c7 h;obtain ⟨rfl,rfl⟩:=a0a h;exact ⟨b0t (U:=VV) h0,trivial⟩
theorem c8s: ∀(zs:List VV.AV) (y:Ar 6 (List Stage)),c2i zs=some y -> p9 (AEq (U:=VV)) zs (c31 y):=fun zs y h=>d07 (fun _ _ h=>b0t (U:=VV) h) h
theorem d5j: ∀(zs:List VV.AV) (y:Running),c6y zs=some y -> p9 (AEq (U:=VV)) zs (c7q y):=by
 intro zs y h
 obtain ⟨a0,zs,x0,rfl,h0,h⟩:=c7 h;obtain ⟨a1,zs,x1,rfl,h1,h⟩:=c7 h;obtain ⟨a2,zs,x2,rfl,h2,h⟩:=c7 h;obtain ⟨rfl,rfl⟩:=a0a h;exact ⟨m8 (U:=VV) h0,m8 (U:=VV) h1,c4o (U:=VV) h2,trivial⟩
theorem f1n: ∀(zs:List VV.AV) (y:Row),e3r zs=some y -> p9 (AEq (U:=VV)) zs (e5s y):=by
 intro zs y h
 obtain ⟨a0,zs,x0,rfl,h0,h⟩:=c7 h;obtain ⟨a1,zs,x1,rfl,h1,h⟩:=c7 h;obtain ⟨a2,zs,x2,rfl,h2,h⟩:=c7 h;obtain ⟨a3,zs,x3,rfl,h3,h⟩:=c7 h;obtain ⟨a4,zs,x4,rfl,h4,h⟩:=c7 h;obtain ⟨a5,zs,x5,rfl,h5,h⟩:=c7 h;obtain ⟨rfl,rfl⟩:=a0a h;exact ⟨m8 (U:=VV) h0,m8 (U:=VV) h1,m8 (U:=VV) h2,m8 (U:=VV) h3,m8 (U:=VV) h4,c4o (U:=VV) h5,trivial⟩
theorem e35: ∀(zs:List VV.AV) (y:List Row),d8c zs=some y -> p9 (AEq (U:=VV)) zs (d8z y):=by
 intro zs y h
 obtain ⟨a0,zs,x0,rfl,h0,h⟩:=c7 h;obtain ⟨rfl,rfl⟩:=a0a h;exact ⟨b0t (U:=VV) h0,trivial⟩
theorem c8q: ∀(zs:List VV.AV) (y:Knowledge),c3q zs=some y -> p9 (AEq (U:=VV)) zs (c2l y):=by
 intro zs y h
 obtain ⟨a0,zs,x0,rfl,h0,h⟩:=c7 h;obtain ⟨a1,zs,x1,rfl,h1,h⟩:=c7 h;obtain ⟨a2,zs,x2,rfl,h2,h⟩:=c7 h;obtain ⟨a3,zs,x3,rfl,h3,h⟩:=c7 h;obtain ⟨rfl,rfl⟩:=a0a h;exact ⟨m8 (U:=VV) h0,b0t (U:=VV) h1,b0t (U:=VV) h2,b0t (U:=VV) h3,trivial⟩
theorem f6z: ∀(zs:List VV.AV) (y:Unit),f2y zs=some y -> p9 (AEq (U:=VV)) zs (f2v y):=by
 intro zs y h
 obtain ⟨a0,zs,x0,rfl,h0,h⟩:=c7 h;obtain ⟨rfl,rfl⟩:=a0a h;exact ⟨g62 (U:=VV) h0,trivial⟩
theorem uok:UOK VV where
 lay:=fun c x=>match c,x with
  | .c_i64,x=>rfl
  | .c_sRounding,x=>rfl
  | .c_sCredit,x=>rfl
  | .c_sFraction,x=>rfl
  | .c_sIndex,x=>rfl
  | .c_str,x=>rfl
  | .c_sExpr,x=>rfl
  | .c_sLet,x=>rfl
  | .c_sGrant,x=>rfl
  | .c_sReduce,x=>rfl
  | .c_sVersion,x=>rfl
  | .c_sRules,x=>rfl
  | .c_sBinding,x=>rfl
  | .c_bool,x=>rfl
  | .c_sValue,x=>rfl
  | .c_sStep,x=>rfl
  | .c_u8,x=>rfl
  | .c_sEntry,x=>rfl
  | .c_sSpan,x=>rfl
  | .c_sapi_Fact,x=>rfl
  | .c_spensionhand_Fact,x=>rfl
  | .c_A3_str,x=>c4k (U:=VV) x fun _=>rfl
  | .c_sToken,x=>rfl
  | .c_spensionref5_reader,x=>rfl
  | .c_u64,x=>rfl
  | .c_spensionref1_wide,x=>rfl
  | .c_sStatute,x=>rfl
  | .c_sState,x=>rfl
  | .c_sRate,x=>rfl
  | .c_sLaws,x=>rfl
  | .c_spensionhand_Claim,x=>rfl
  | .c_sClaim,x=>rfl
  | .c_spensionlaw26_Seeds,x=>rfl
  | .c_ssyntax_entry,x=>rfl
  | .c_A2_i64,x=>c4k (U:=VV) x fun _=>rfl
  | .c_A12_i64,x=>c4k (U:=VV) x fun _=>rfl
  | .c_u32,x=>rfl
  | .c_sdecision_file,x=>rfl
  | .c_stransition_law,x=>rfl
  | .c_A6_bool,x=>c4k (U:=VV) x fun _=>rfl
  | .c_A100_bool,x=>c4k (U:=VV) x fun _=>rfl
  | .c_psdecision_file,x=>rfl
  | .c_sGross,x=>rfl
  | .c_sAward,x=>rfl
  | .c_sHeir,x=>rfl
  | .c_sdecision_item,x=>rfl
  | .c_sDeduction,x=>rfl
  | .c_li64,x=>rfl
  | .c_sNet,x=>rfl
  | .c_sFamilyPay,x=>rfl
  | .c_lsNet,x=>rfl
  | .c_sStage,x=>rfl
  | .c_lsStage,x=>rfl
  | .c_A6_lsStage,x=>c4k (U:=VV) x fun _=>rfl
  | .c_sRunning,x=>rfl
  | .c_sRow,x=>rfl
  | .c_lsRow,x=>rfl
  | .c_sKnowledge,x=>rfl
  | .c_nil,x=>rfl
 kind:=fun c x=>match c,x with
  | .c_i64,x=>rfl
  | .c_sRounding,x=>rfl
  | .c_sCredit,x=>rfl
  | .c_sFraction,x=>rfl
  | .c_sIndex,x=>rfl
  | .c_str,x=>rfl
  | .c_sExpr,x=>rfl
  | .c_sLet,x=>rfl
  | .c_sGrant,x=>rfl
  | .c_sReduce,x=>rfl
  | .c_sVersion,x=>rfl
  | .c_sRules,x=>rfl
  | .c_sBinding,x=>rfl
  | .c_bool,x=>rfl
  | .c_sValue,x=>rfl
  | .c_sStep,x=>rfl
  | .c_u8,x=>rfl
  | .c_sEntry,x=>rfl
  | .c_sSpan,x=>rfl
  | .c_sapi_Fact,x=>rfl
  | .c_spensionhand_Fact,x=>rfl
  | .c_A3_str,x=>b4t (U:=VV) x fun _=>rfl
  | .c_sToken,x=>rfl
  | .c_spensionref5_reader,x=>rfl
  | .c_u64,x=>rfl
  | .c_spensionref1_wide,x=>rfl
  | .c_sStatute,x=>rfl
  | .c_sState,x=>rfl
  | .c_sRate,x=>rfl
  | .c_sLaws,x=>rfl
  | .c_spensionhand_Claim,x=>rfl
  | .c_sClaim,x=>rfl
  | .c_spensionlaw26_Seeds,x=>rfl
  | .c_ssyntax_entry,x=>rfl
  | .c_A2_i64,x=>b4t (U:=VV) x fun _=>rfl
  | .c_A12_i64,x=>b4t (U:=VV) x fun _=>rfl
  | .c_u32,x=>rfl
  | .c_sdecision_file,x=>rfl
  | .c_stransition_law,x=>rfl
  | .c_A6_bool,x=>b4t (U:=VV) x fun _=>rfl
  | .c_A100_bool,x=>b4t (U:=VV) x fun _=>rfl
  | .c_psdecision_file,x=>rfl
  | .c_sGross,x=>rfl
  | .c_sAward,x=>rfl
  | .c_sHeir,x=>rfl
  | .c_sdecision_item,x=>rfl
  | .c_sDeduction,x=>rfl
  | .c_li64,x=>rfl
  | .c_sNet,x=>rfl
  | .c_sFamilyPay,x=>rfl
  | .c_lsNet,x=>rfl
  | .c_sStage,x=>rfl
  | .c_lsStage,x=>rfl
  | .c_A6_lsStage,x=>b4t (U:=VV) x fun _=>rfl
  | .c_sRunning,x=>rfl
  | .c_sRow,x=>rfl
  | .c_lsRow,x=>rfl
  | .c_sKnowledge,x=>rfl
  | .c_nil,x=>rfl
 sum:=fun c=>by cases c<;>rfl
 sc:=fun c h=>by cases c<;>first | rfl | cases h
 mkl:=fun c zs y h=>match c,y,h with
  | .c_i64,y,h=>f9e zs y h
  | .c_sRounding,y,h=>d0y zs y h
  | .c_sCredit,y,h=>d7k zs y h
  | .c_sFraction,y,h=>d1h zs y h
  | .c_sIndex,y,h=>e1d zs y h
  | .c_str,y,h=>f8e zs y h
  | .c_sExpr,y,h=>e3w zs y h
  | .c_sLet,y,h=>f09 zs y h
  | .c_sGrant,y,h=>e25 zs y h
  | .c_sReduce,y,h=>d79 zs y h
  | .c_sVersion,y,h=>d4r zs y h
  | .c_sRules,y,h=>e16 zs y h
  | .c_sBinding,y,h=>d4k zs y h
  | .c_bool,y,h=>e93 zs y h
  | .c_sValue,y,h=>e19 zs y h
  | .c_sStep,y,h=>e60 zs y h
  | .c_u8,y,h=>g0c zs y h
  | .c_sEntry,y,h=>e0n zs y h
  | .c_sSpan,y,h=>e3a zs y h
  | .c_sapi_Fact,y,h=>d1y zs y h
  | .c_spensionhand_Fact,y,h=>b9m zs y h
  | .c_A3_str,y,h=>e1j zs y h
  | .c_sToken,y,h=>e1o zs y h
  | .c_spensionref5_reader,y,h=>b83 zs y h
  | .c_u64,y,h=>f6q zs y h
  | .c_spensionref1_wide,y,h=>b9n zs y h
  | .c_sStatute,y,h=>d5b zs y h
  | .c_sState,y,h=>e2f zs y h
  | .c_sRate,y,h=>e72 zs y h
  | .c_sLaws,y,h=>e4b zs y h
  | .c_spensionhand_Claim,y,h=>b8q zs y h
  | .c_sClaim,y,h=>e0z zs y h
  | .c_spensionlaw26_Seeds,y,h=>b7p zs y h
  | .c_ssyntax_entry,y,h=>c55 zs y h
  | .c_A2_i64,y,h=>e0p zs y h
  | .c_A12_i64,y,h=>d6t zs y h
  | .c_u32,y,h=>f7i zs y h
  | .c_sdecision_file,y,h=>c3d zs y h
  | .c_stransition_law,y,h=>c22 zs y h
  | .c_A6_bool,y,h=>d6l zs y h
  | .c_A100_bool,y,h=>d1s zs y h
  | .c_psdecision_file,y,h=>c28 zs y h
  | .c_sGross,y,h=>e1x zs y h
  | .c_sAward,y,h=>e27 zs y h
  | .c_sHeir,y,h=>e6t zs y h
  | .c_sdecision_item,y,h=>c3z zs y h
  | .c_sDeduction,y,h=>c91 zs y h
  | .c_li64,y,h=>e9o zs y h
  | .c_sNet,y,h=>f0m zs y h
  | .c_sFamilyPay,y,h=>c8v zs y h
  | .c_lsNet,y,h=>e63 zs y h
  | .c_sStage,y,h=>e24 zs y h
  | .c_lsStage,y,h=>d7w zs y h
  | .c_A6_lsStage,y,h=>c8s zs y h
  | .c_sRunning,y,h=>d5j zs y h
  | .c_sRow,y,h=>f1n zs y h
  | .c_lsRow,y,h=>e35 zs y h
  | .c_sKnowledge,y,h=>c8q zs y h
  | .c_nil,y,h=>f6z zs y h
 flat:=fun c x h=>match c,x,h with
  | .c_i64,x,h=>rfl
  | .c_sRounding,x,h=>rfl
  | .c_sCredit,x,h=>rfl
  | .c_sFraction,x,h=>rfl
  | .c_sIndex,x,h=>rfl
  | .c_str,x,h=>rfl
  | .c_sExpr,x,h=>Bool.noConfusion (show false=true from h)
  | .c_sLet,x,h=>Bool.noConfusion (show false=true from h)
  | .c_sGrant,x,h=>Bool.noConfusion (show false=true from h)
  | .c_sReduce,x,h=>Bool.noConfusion (show false=true from h)
  | .c_sVersion,x,h=>Bool.noConfusion (show false=true from h)
  | .c_sRules,x,h=>Bool.noConfusion (show false=true from h)
  | .c_sBinding,x,h=>rfl
  | .c_bool,x,h=>rfl
  | .c_sValue,x,h=>rfl
  | .c_sStep,x,h=>rfl
  | .c_u8,x,h=>rfl
  | .c_sEntry,x,h=>rfl
  | .c_sSpan,x,h=>rfl
  | .c_sapi_Fact,x,h=>rfl
  | .c_spensionhand_Fact,x,h=>rfl
  | .c_A3_str,x,h=>b4t (U:=VV) x fun _=>rfl
  | .c_sToken,x,h=>rfl
  | .c_spensionref5_reader,x,h=>Bool.noConfusion (show false=true from h)
  | .c_u64,x,h=>rfl
  | .c_spensionref1_wide,x,h=>rfl
  | .c_sStatute,x,h=>Bool.noConfusion (show false=true from h)
  | .c_sState,x,h=>Bool.noConfusion (show false=true from h)
  | .c_sRate,x,h=>rfl
  | .c_sLaws,x,h=>Bool.noConfusion (show false=true from h)
  | .c_spensionhand_Claim,x,h=>rfl
  | .c_sClaim,x,h=>rfl
  | .c_spensionlaw26_Seeds,x,h=>Bool.noConfusion (show false=true from h)
  | .c_ssyntax_entry,x,h=>rfl
  | .c_A2_i64,x,h=>b4t (U:=VV) x fun _=>rfl
  | .c_A12_i64,x,h=>b4t (U:=VV) x fun _=>rfl
  | .c_u32,x,h=>rfl
  | .c_sdecision_file,x,h=>Bool.noConfusion (show false=true from h)
  | .c_stransition_law,x,h=>rfl
  | .c_A6_bool,x,h=>b4t (U:=VV) x fun _=>rfl
  | .c_A100_bool,x,h=>b4t (U:=VV) x fun _=>rfl
  | .c_psdecision_file,x,h=>Bool.noConfusion (show false=true from h)
  | .c_sGross,x,h=>rfl
  | .c_sAward,x,h=>Bool.noConfusion (show false=true from h)
  | .c_sHeir,x,h=>rfl
  | .c_sdecision_item,x,h=>Bool.noConfusion (show false=true from h)
  | .c_sDeduction,x,h=>rfl
  | .c_li64,x,h=>Bool.noConfusion (show false=true from h)
  | .c_sNet,x,h=>rfl
  | .c_sFamilyPay,x,h=>rfl
  | .c_lsNet,x,h=>Bool.noConfusion (show false=true from h)
  | .c_sStage,x,h=>rfl
  | .c_lsStage,x,h=>Bool.noConfusion (show false=true from h)
  | .c_A6_lsStage,x,h=>Bool.noConfusion (show false=true from h)
  | .c_sRunning,x,h=>rfl
  | .c_sRow,x,h=>rfl
  | .c_lsRow,x,h=>Bool.noConfusion (show false=true from h)
  | .c_sKnowledge,x,h=>Bool.noConfusion (show false=true from h)
  | .c_nil,x,h=>Bool.noConfusion (show false=true from h)
 arr:=fun c x h=>match c,x,h with
  | .c_i64,x,h=>Bool.noConfusion (show false=true from h)
  | .c_sRounding,x,h=>Bool.noConfusion (show false=true from h)
  | .c_sCredit,x,h=>Bool.noConfusion (show false=true from h)
  | .c_sFraction,x,h=>Bool.noConfusion (show false=true from h)
  | .c_sIndex,x,h=>Bool.noConfusion (show false=true from h)
  | .c_str,x,h=>Bool.noConfusion (show false=true from h)
  | .c_sExpr,x,h=>Bool.noConfusion (show false=true from h)
  | .c_sLet,x,h=>Bool.noConfusion (show false=true from h)
  | .c_sGrant,x,h=>Bool.noConfusion (show false=true from h)
  | .c_sReduce,x,h=>Bool.noConfusion (show false=true from h)
  | .c_sVersion,x,h=>Bool.noConfusion (show false=true from h)
  | .c_sRules,x,h=>Bool.noConfusion (show false=true from h)
  | .c_sBinding,x,h=>Bool.noConfusion (show false=true from h)
  | .c_bool,x,h=>Bool.noConfusion (show false=true from h)
  | .c_sValue,x,h=>Bool.noConfusion (show false=true from h)
  | .c_sStep,x,h=>Bool.noConfusion (show false=true from h)
  | .c_u8,x,h=>Bool.noConfusion (show false=true from h)
  | .c_sEntry,x,h=>Bool.noConfusion (show false=true from h)
  | .c_sSpan,x,h=>Bool.noConfusion (show false=true from h)
  | .c_sapi_Fact,x,h=>Bool.noConfusion (show false=true from h)
  | .c_spensionhand_Fact,x,h=>Bool.noConfusion (show false=true from h)
  | .c_A3_str,x,h=>⟨rfl,x.h⟩
  | .c_sToken,x,h=>Bool.noConfusion (show false=true from h)
  | .c_spensionref5_reader,x,h=>Bool.noConfusion (show false=true from h)
  | .c_u64,x,h=>Bool.noConfusion (show false=true from h)
  | .c_spensionref1_wide,x,h=>Bool.noConfusion (show false=true from h)
  | .c_sStatute,x,h=>Bool.noConfusion (show false=true from h)
  | .c_sState,x,h=>Bool.noConfusion (show false=true from h)
  | .c_sRate,x,h=>Bool.noConfusion (show false=true from h)
  | .c_sLaws,x,h=>Bool.noConfusion (show false=true from h)
  | .c_spensionhand_Claim,x,h=>Bool.noConfusion (show false=true from h)
  | .c_sClaim,x,h=>Bool.noConfusion (show false=true from h)
  | .c_spensionlaw26_Seeds,x,h=>Bool.noConfusion (show false=true from h)
  | .c_ssyntax_entry,x,h=>Bool.noConfusion (show false=true from h)
  | .c_A2_i64,x,h=>⟨rfl,x.h⟩
  | .c_A12_i64,x,h=>⟨rfl,x.h⟩
  | .c_u32,x,h=>Bool.noConfusion (show false=true from h)
  | .c_sdecision_file,x,h=>Bool.noConfusion (show false=true from h)
  | .c_stransition_law,x,h=>Bool.noConfusion (show false=true from h)
  | .c_A6_bool,x,h=>⟨rfl,x.h⟩
  | .c_A100_bool,x,h=>⟨rfl,x.h⟩
  | .c_psdecision_file,x,h=>Bool.noConfusion (show false=true from h)
  | .c_sGross,x,h=>Bool.noConfusion (show false=true from h)
  | .c_sAward,x,h=>Bool.noConfusion (show false=true from h)
  | .c_sHeir,x,h=>Bool.noConfusion (show false=true from h)
  | .c_sdecision_item,x,h=>Bool.noConfusion (show false=true from h)
  | .c_sDeduction,x,h=>Bool.noConfusion (show false=true from h)
  | .c_li64,x,h=>Bool.noConfusion (show false=true from h)
  | .c_sNet,x,h=>Bool.noConfusion (show false=true from h)
  | .c_sFamilyPay,x,h=>Bool.noConfusion (show false=true from h)
  | .c_lsNet,x,h=>Bool.noConfusion (show false=true from h)
  | .c_sStage,x,h=>Bool.noConfusion (show false=true from h)
  | .c_lsStage,x,h=>Bool.noConfusion (show false=true from h)
  | .c_A6_lsStage,x,h=>⟨rfl,x.h⟩
  | .c_sRunning,x,h=>Bool.noConfusion (show false=true from h)
  | .c_sRow,x,h=>Bool.noConfusion (show false=true from h)
  | .c_lsRow,x,h=>Bool.noConfusion (show false=true from h)
  | .c_sKnowledge,x,h=>Bool.noConfusion (show false=true from h)
  | .c_nil,x,h=>Bool.noConfusion (show false=true from h)
 ars:=fun c x i y h=>match c,x,y,h with
  | .c_i64,x,y,h=>Bool.noConfusion (show false=true from h)
  | .c_sRounding,x,y,h=>Bool.noConfusion (show false=true from h)
  | .c_sCredit,x,y,h=>Bool.noConfusion (show false=true from h)
  | .c_sFraction,x,y,h=>Bool.noConfusion (show false=true from h)
  | .c_sIndex,x,y,h=>Bool.noConfusion (show false=true from h)
  | .c_str,x,y,h=>Bool.noConfusion (show false=true from h)
  | .c_sExpr,x,y,h=>Bool.noConfusion (show false=true from h)
  | .c_sLet,x,y,h=>Bool.noConfusion (show false=true from h)
  | .c_sGrant,x,y,h=>Bool.noConfusion (show false=true from h)
  | .c_sReduce,x,y,h=>Bool.noConfusion (show false=true from h)
  | .c_sVersion,x,y,h=>Bool.noConfusion (show false=true from h)
  | .c_sRules,x,y,h=>Bool.noConfusion (show false=true from h)
  | .c_sBinding,x,y,h=>Bool.noConfusion (show false=true from h)
  | .c_bool,x,y,h=>Bool.noConfusion (show false=true from h)
  | .c_sValue,x,y,h=>Bool.noConfusion (show false=true from h)
  | .c_sStep,x,y,h=>Bool.noConfusion (show false=true from h)
  | .c_u8,x,y,h=>Bool.noConfusion (show false=true from h)
  | .c_sEntry,x,y,h=>Bool.noConfusion (show false=true from h)
  | .c_sSpan,x,y,h=>Bool.noConfusion (show false=true from h)
  | .c_sapi_Fact,x,y,h=>Bool.noConfusion (show false=true from h)
  | .c_spensionhand_Fact,x,y,h=>Bool.noConfusion (show false=true from h)
  | .c_A3_str,x,y,h=>rfl
  | .c_sToken,x,y,h=>Bool.noConfusion (show false=true from h)
  | .c_spensionref5_reader,x,y,h=>Bool.noConfusion (show false=true from h)
  | .c_u64,x,y,h=>Bool.noConfusion (show false=true from h)
  | .c_spensionref1_wide,x,y,h=>Bool.noConfusion (show false=true from h)
  | .c_sStatute,x,y,h=>Bool.noConfusion (show false=true from h)
  | .c_sState,x,y,h=>Bool.noConfusion (show false=true from h)
  | .c_sRate,x,y,h=>Bool.noConfusion (show false=true from h)
  | .c_sLaws,x,y,h=>Bool.noConfusion (show false=true from h)
  | .c_spensionhand_Claim,x,y,h=>Bool.noConfusion (show false=true from h)
  | .c_sClaim,x,y,h=>Bool.noConfusion (show false=true from h)
  | .c_spensionlaw26_Seeds,x,y,h=>Bool.noConfusion (show false=true from h)
  | .c_ssyntax_entry,x,y,h=>Bool.noConfusion (show false=true from h)
  | .c_A2_i64,x,y,h=>rfl
  | .c_A12_i64,x,y,h=>rfl
  | .c_u32,x,y,h=>Bool.noConfusion (show false=true from h)
  | .c_sdecision_file,x,y,h=>Bool.noConfusion (show false=true from h)
  | .c_stransition_law,x,y,h=>Bool.noConfusion (show false=true from h)
  | .c_A6_bool,x,y,h=>rfl
  | .c_A100_bool,x,y,h=>rfl
  | .c_psdecision_file,x,y,h=>Bool.noConfusion (show false=true from h)
  | .c_sGross,x,y,h=>Bool.noConfusion (show false=true from h)
  | .c_sAward,x,y,h=>Bool.noConfusion (show false=true from h)
  | .c_sHeir,x,y,h=>Bool.noConfusion (show false=true from h)
  | .c_sdecision_item,x,y,h=>Bool.noConfusion (show false=true from h)
  | .c_sDeduction,x,y,h=>Bool.noConfusion (show false=true from h)
  | .c_li64,x,y,h=>Bool.noConfusion (show false=true from h)
  | .c_sNet,x,y,h=>Bool.noConfusion (show false=true from h)
  | .c_sFamilyPay,x,y,h=>Bool.noConfusion (show false=true from h)
  | .c_lsNet,x,y,h=>Bool.noConfusion (show false=true from h)
  | .c_sStage,x,y,h=>Bool.noConfusion (show false=true from h)
  | .c_lsStage,x,y,h=>Bool.noConfusion (show false=true from h)
  | .c_A6_lsStage,x,y,h=>rfl
  | .c_sRunning,x,y,h=>Bool.noConfusion (show false=true from h)
  | .c_sRow,x,y,h=>Bool.noConfusion (show false=true from h)
  | .c_lsRow,x,y,h=>Bool.noConfusion (show false=true from h)
  | .c_sKnowledge,x,y,h=>Bool.noConfusion (show false=true from h)
  | .c_nil,x,y,h=>Bool.noConfusion (show false=true from h)
 gt:=fun c x i y h=>match c,x,y,h with
  | .c_i64,x,y,h=>Bool.noConfusion (show false=true from h)
  | .c_sRounding,x,y,h=>Bool.noConfusion (show false=true from h)
  | .c_sCredit,x,y,h=>Bool.noConfusion (show false=true from h)
  | .c_sFraction,x,y,h=>Bool.noConfusion (show false=true from h)
  | .c_sIndex,x,y,h=>Bool.noConfusion (show false=true from h)
  | .c_str,x,y,h=>Bool.noConfusion (show false=true from h)
  | .c_sExpr,x,y,h=>Bool.noConfusion (show false=true from h)
  | .c_sLet,x,y,h=>Bool.noConfusion (show false=true from h)
  | .c_sGrant,x,y,h=>Bool.noConfusion (show false=true from h)
  | .c_sReduce,x,y,h=>Bool.noConfusion (show false=true from h)
  | .c_sVersion,x,y,h=>Bool.noConfusion (show false=true from h)
  | .c_sRules,x,y,h=>Bool.noConfusion (show false=true from h)
  | .c_sBinding,x,y,h=>Bool.noConfusion (show false=true from h)
  | .c_bool,x,y,h=>Bool.noConfusion (show false=true from h)
  | .c_sValue,x,y,h=>Bool.noConfusion (show false=true from h)
  | .c_sStep,x,y,h=>Bool.noConfusion (show false=true from h)
  | .c_u8,x,y,h=>Bool.noConfusion (show false=true from h)
  | .c_sEntry,x,y,h=>Bool.noConfusion (show false=true from h)
  | .c_sSpan,x,y,h=>Bool.noConfusion (show false=true from h)
  | .c_sapi_Fact,x,y,h=>Bool.noConfusion (show false=true from h)
  | .c_spensionhand_Fact,x,y,h=>Bool.noConfusion (show false=true from h)
  | .c_A3_str,x,y,h=>fun hg=>Ar.gt_ok hg
  | .c_sToken,x,y,h=>Bool.noConfusion (show false=true from h)
  | .c_spensionref5_reader,x,y,h=>Bool.noConfusion (show false=true from h)
  | .c_u64,x,y,h=>Bool.noConfusion (show false=true from h)
  | .c_spensionref1_wide,x,y,h=>Bool.noConfusion (show false=true from h)
  | .c_sStatute,x,y,h=>Bool.noConfusion (show false=true from h)
  | .c_sState,x,y,h=>Bool.noConfusion (show false=true from h)
  | .c_sRate,x,y,h=>Bool.noConfusion (show false=true from h)
  | .c_sLaws,x,y,h=>Bool.noConfusion (show false=true from h)
  | .c_spensionhand_Claim,x,y,h=>Bool.noConfusion (show false=true from h)
  | .c_sClaim,x,y,h=>Bool.noConfusion (show false=true from h)
  | .c_spensionlaw26_Seeds,x,y,h=>Bool.noConfusion (show false=true from h)
  | .c_ssyntax_entry,x,y,h=>Bool.noConfusion (show false=true from h)
  | .c_A2_i64,x,y,h=>fun hg=>Ar.gt_ok hg
  | .c_A12_i64,x,y,h=>fun hg=>Ar.gt_ok hg
  | .c_u32,x,y,h=>Bool.noConfusion (show false=true from h)
  | .c_sdecision_file,x,y,h=>Bool.noConfusion (show false=true from h)
  | .c_stransition_law,x,y,h=>Bool.noConfusion (show false=true from h)
  | .c_A6_bool,x,y,h=>fun hg=>Ar.gt_ok hg
  | .c_A100_bool,x,y,h=>fun hg=>Ar.gt_ok hg
  | .c_psdecision_file,x,y,h=>Bool.noConfusion (show false=true from h)
  | .c_sGross,x,y,h=>Bool.noConfusion (show false=true from h)
  | .c_sAward,x,y,h=>Bool.noConfusion (show false=true from h)
  | .c_sHeir,x,y,h=>Bool.noConfusion (show false=true from h)
  | .c_sdecision_item,x,y,h=>Bool.noConfusion (show false=true from h)
  | .c_sDeduction,x,y,h=>Bool.noConfusion (show false=true from h)
  | .c_li64,x,y,h=>Bool.noConfusion (show false=true from h)
  | .c_sNet,x,y,h=>Bool.noConfusion (show false=true from h)
  | .c_sFamilyPay,x,y,h=>Bool.noConfusion (show false=true from h)
  | .c_lsNet,x,y,h=>Bool.noConfusion (show false=true from h)
  | .c_sStage,x,y,h=>Bool.noConfusion (show false=true from h)
  | .c_lsStage,x,y,h=>Bool.noConfusion (show false=true from h)
  | .c_A6_lsStage,x,y,h=>fun hg=>Ar.gt_ok hg
  | .c_sRunning,x,y,h=>Bool.noConfusion (show false=true from h)
  | .c_sRow,x,y,h=>Bool.noConfusion (show false=true from h)
  | .c_lsRow,x,y,h=>Bool.noConfusion (show false=true from h)
  | .c_sKnowledge,x,y,h=>Bool.noConfusion (show false=true from h)
  | .c_nil,x,y,h=>Bool.noConfusion (show false=true from h)
 by8:=fun c x h=>match c,x,h with
  | .c_i64,x,h=>Bool.noConfusion (show false=true from h)
  | .c_sRounding,x,h=>Bool.noConfusion (show false=true from h)
  | .c_sCredit,x,h=>Bool.noConfusion (show false=true from h)
  | .c_sFraction,x,h=>Bool.noConfusion (show false=true from h)
  | .c_sIndex,x,h=>Bool.noConfusion (show false=true from h)
  | .c_str,x,h=>Bool.noConfusion (show false=true from h)
  | .c_sExpr,x,h=>Bool.noConfusion (show false=true from h)
  | .c_sLet,x,h=>Bool.noConfusion (show false=true from h)
  | .c_sGrant,x,h=>Bool.noConfusion (show false=true from h)
  | .c_sReduce,x,h=>Bool.noConfusion (show false=true from h)
  | .c_sVersion,x,h=>Bool.noConfusion (show false=true from h)
  | .c_sRules,x,h=>Bool.noConfusion (show false=true from h)
  | .c_sBinding,x,h=>Bool.noConfusion (show false=true from h)
  | .c_bool,x,h=>Bool.noConfusion (show false=true from h)
  | .c_sValue,x,h=>Bool.noConfusion (show false=true from h)
  | .c_sStep,x,h=>Bool.noConfusion (show false=true from h)
  | .c_u8,x,h=>rfl
  | .c_sEntry,x,h=>Bool.noConfusion (show false=true from h)
  | .c_sSpan,x,h=>Bool.noConfusion (show false=true from h)
  | .c_sapi_Fact,x,h=>Bool.noConfusion (show false=true from h)
  | .c_spensionhand_Fact,x,h=>Bool.noConfusion (show false=true from h)
  | .c_A3_str,x,h=>Bool.noConfusion (show false=true from h)
  | .c_sToken,x,h=>Bool.noConfusion (show false=true from h)
  | .c_spensionref5_reader,x,h=>Bool.noConfusion (show false=true from h)
  | .c_u64,x,h=>Bool.noConfusion (show false=true from h)
  | .c_spensionref1_wide,x,h=>Bool.noConfusion (show false=true from h)
  | .c_sStatute,x,h=>Bool.noConfusion (show false=true from h)
  | .c_sState,x,h=>Bool.noConfusion (show false=true from h)
  | .c_sRate,x,h=>Bool.noConfusion (show false=true from h)
  | .c_sLaws,x,h=>Bool.noConfusion (show false=true from h)
  | .c_spensionhand_Claim,x,h=>Bool.noConfusion (show false=true from h)
  | .c_sClaim,x,h=>Bool.noConfusion (show false=true from h)
  | .c_spensionlaw26_Seeds,x,h=>Bool.noConfusion (show false=true from h)
  | .c_ssyntax_entry,x,h=>Bool.noConfusion (show false=true from h)
  | .c_A2_i64,x,h=>Bool.noConfusion (show false=true from h)
  | .c_A12_i64,x,h=>Bool.noConfusion (show false=true from h)
  | .c_u32,x,h=>Bool.noConfusion (show false=true from h)
  | .c_sdecision_file,x,h=>Bool.noConfusion (show false=true from h)
  | .c_stransition_law,x,h=>Bool.noConfusion (show false=true from h)
  | .c_A6_bool,x,h=>Bool.noConfusion (show false=true from h)
  | .c_A100_bool,x,h=>Bool.noConfusion (show false=true from h)
  | .c_psdecision_file,x,h=>Bool.noConfusion (show false=true from h)
  | .c_sGross,x,h=>Bool.noConfusion (show false=true from h)
  | .c_sAward,x,h=>Bool.noConfusion (show false=true from h)
  | .c_sHeir,x,h=>Bool.noConfusion (show false=true from h)
  | .c_sdecision_item,x,h=>Bool.noConfusion (show false=true from h)
  | .c_sDeduction,x,h=>Bool.noConfusion (show false=true from h)
  | .c_li64,x,h=>Bool.noConfusion (show false=true from h)
  | .c_sNet,x,h=>Bool.noConfusion (show false=true from h)
  | .c_sFamilyPay,x,h=>Bool.noConfusion (show false=true from h)
  | .c_lsNet,x,h=>Bool.noConfusion (show false=true from h)
  | .c_sStage,x,h=>Bool.noConfusion (show false=true from h)
  | .c_lsStage,x,h=>Bool.noConfusion (show false=true from h)
  | .c_A6_lsStage,x,h=>Bool.noConfusion (show false=true from h)
  | .c_sRunning,x,h=>Bool.noConfusion (show false=true from h)
  | .c_sRow,x,h=>Bool.noConfusion (show false=true from h)
  | .c_lsRow,x,h=>Bool.noConfusion (show false=true from h)
  | .c_sKnowledge,x,h=>Bool.noConfusion (show false=true from h)
  | .c_nil,x,h=>Bool.noConfusion (show false=true from h)
 tabK:=fun w w2 h hb=>e8y (g:=5) (show Go.Proofs.Tryz.prog.globalNamed "internal/strconv.uint64pow10" =some 5 by kernel_rfl) h (hb 5 rfl)
end Go.PL
namespace Go.Proofs
open Go.Shelf
def Tryz.laysItoa_ren:Go.Shelf.Ren:=⟨fun | 171=>404 | 243=>455 | 246=>518 | 283=>565 | 284=>566 | 285=>567 | 286=>568 | 129=>200 | 317=>596 | 318=>597 | 319=>598 | 320=>599 | 337=>607 | 338=>608 | n=>n,fun | 3=>3 | 9=>9 | 2=>2 | 4=>4 | 171=>680 | 0=>0 | 53=>249 | 37=>357 | 5=>5 | 173=>682 | 212=>703 | 51=>324 | 20=>20 | 213=>704 | 46=>213 | 232=>711 | 233=>712 | n=>n,fun | 17=>5 | 18=>6 | 19=>7 | n=>n⟩
theorem Tryz.laysItoa:Go.Proofs.LaysM.n171 Tryz.prog Tryz.laysItoa_ren:={
 mixed:=by kernel_rfl
 f129:=Tryz.func200.trans (congrArg some (by kernel_rfl))
 f171:=Tryz.func404.trans (congrArg some (by kernel_rfl))
 f243:=Tryz.func455.trans (congrArg some (by kernel_rfl))
 f246:=Tryz.func518.trans (congrArg some (by kernel_rfl))
 f283:=Tryz.func565.trans (congrArg some (by kernel_rfl))
 f284:=Tryz.func566.trans (congrArg some (by kernel_rfl))
 f285:=Tryz.func567.trans (congrArg some (by kernel_rfl))
 f286:=Tryz.func568.trans (congrArg some (by kernel_rfl))
 f317:=Tryz.func596.trans (congrArg some (by kernel_rfl))
 f318:=Tryz.func597.trans (congrArg some (by kernel_rfl))
 f319:=Tryz.func598.trans (congrArg some (by kernel_rfl))
 f320:=Tryz.func599.trans (congrArg some (by kernel_rfl))
 f337:=Tryz.func607.trans (congrArg some (by kernel_rfl))
 f338:=Tryz.func608.trans (congrArg some (by kernel_rfl))
 t0:=Tryz.underlying0
 a0:=Tryz.isAgg0
 z0:=Tryz.sizeOf0
 v0:=Tryz.zeroValue0
 t2:=Tryz.underlying2
 a2:=Tryz.isAgg2
 z2:=Tryz.sizeOf2
 v2:=Tryz.zeroValue2
 t3:=Tryz.underlying3
 a3:=Tryz.isAgg3
 z3:=Tryz.sizeOf3
 v3:=Tryz.zeroValue3
 t4:=Tryz.underlying4
 a4:=Tryz.isAgg4
 z4:=Tryz.sizeOf4
 v4:=Tryz.zeroValue4
 t5:=Tryz.underlying5
 a5:=Tryz.isAgg5
 z5:=Tryz.sizeOf5
 v5:=Tryz.zeroValue5
 t9:=Tryz.underlying9
 a9:=Tryz.isAgg9
 z9:=Tryz.sizeOf9
 v9:=Tryz.zeroValue9
 t20:=Tryz.underlying20
 a20:=Tryz.isAgg20
 z20:=Tryz.sizeOf20
 v20:=Tryz.zeroValue20
 t37:=Tryz.underlying357
 a37:=Tryz.isAgg357
 z37:=Tryz.sizeOf357
 v37:=Tryz.zeroValue357
 t46:=Tryz.underlying213
 a46:=Tryz.isAgg213
 z46:=Tryz.sizeOf213
 v46:=Tryz.zeroValue213
 t51:=Tryz.underlying324
 a51:=Tryz.isAgg324
 z51:=Tryz.sizeOf324
 v51:=Tryz.zeroValue324
 t53:=Tryz.underlying249
 a53:=Tryz.isAgg249
 z53:=Tryz.sizeOf249
 v53:=Tryz.zeroValue249
 t171:=Tryz.underlying680
 a171:=Tryz.isAgg680
 z171:=Tryz.sizeOf680
 v171:=Tryz.zeroValue680
 t173:=Tryz.underlying682
 a173:=Tryz.isAgg682
 z173:=Tryz.sizeOf682
 v173:=Tryz.zeroValue682
 t212:=Tryz.underlying703
 a212:=Tryz.isAgg703
 z212:=Tryz.sizeOf703
 v212:=Tryz.zeroValue703
 t213:=Tryz.underlying704
 a213:=Tryz.isAgg704
 z213:=Tryz.sizeOf704
 t232:=Tryz.underlying711
 a232:=Tryz.isAgg711
 z232:=Tryz.sizeOf711
 v232:=Tryz.zeroValue711
 t233:=Tryz.underlying712
 a233:=Tryz.isAgg712
 z233:=Tryz.sizeOf712
 v233:=Tryz.zeroValue712
 g17:=by kernel_rfl
 g18:=by kernel_rfl
 g19:=by kernel_rfl
 i0:=by kernel_rfl
 i2:=by kernel_rfl
 i3:=by kernel_rfl
 i4:=by kernel_rfl
 i5:=by kernel_rfl
 i9:=by kernel_rfl
 i20:=by kernel_rfl
 i37:=by kernel_rfl
 i46:=by kernel_rfl
 i51:=by kernel_rfl
 i53:=by kernel_rfl
 i171:=by kernel_rfl
 i173:=by kernel_rfl
 i212:=by kernel_rfl
 i232:=by kernel_rfl
 i233:=by kernel_rfl
 m17:=by kernel_rfl
 m18:=by kernel_rfl
 m19:=by kernel_rfl}
end Go.Proofs
namespace Go.Proofs
open Go.RowKit Go.Shelf Go.PL Go.SX
attribute [local go_sem] Oper.semAt_some
def g1e (len:Nat) (f:Nat -> ByteArray×Int) (k:Nat):Array Value:= #[.int .i64 ((len-1-k:Nat):Int),.agg #[.string (f (len-1-k)).1,.int .i64 (f (len-1-k)).2]]
set_option maxRecDepth 100000 in
set_option maxHeartbeats 2000000 in
theorem g2p (F:Fence) (n:Nat) (h7:F.fn 520) (hro:F.round=none) (hn:1 <= n) (l Bs n₀ b off len cap:Nat) (f:Nat -> ByteArray×Int) (hlen:len <= 9223372036854775807) (hb:b<n₀) (J Jx:Nat -> World -> Prop)
  (hY: ∀k W1,J k W1 -> k<len -> YieldAt F (n-1) Tryz.prog l (g1e len f k) W1 fun e W'=>(e= .returned (.bool true) /\ J (k+1) W' /\ Below n₀ W1 W') \/ (e= .returned (.bool false) /\ Jx (k+1) W'))
  (W:World) (hBs:W.cell? ⟨Bs,0,none⟩=some (.slice (some ⟨b,off,none⟩) len cap)) (hBn:Bs<n₀)
  (hc: ∀j,j<len -> W.cell? ⟨b,off+j*2,none⟩=some (.string (f j).1) /\ W.cell? ⟨b,off+j*2+1,none⟩=some (.int .i64 (f j).2)) (h0:J 0 W):
  CallsIn F n Tryz.prog 520 #[.func (.yield l) #[] #[],.pointer (some ⟨Bs,0,none⟩)] W fun e W'=>(∃v,e= .returned v) /\ (J len W' \/ ∃k,k <= len /\ Jx k W'):=by
 refine callsIn_of_wp Tryz.func520 rfl h7 ?_ hro
 simp only [Tryz.ntmps520,List.size_toArray,List.length_cons,List.length_nil,Nat.reduceAdd,Nat.reduceSub,Array.replicate_succ,Array.replicate_zero,List.push_toArray,List.append_toArray,List.nil_append,List.cons_append]
 gi_wp2
 gi_loopw [3] (fun i wr=> ∃k r:Nat,k+r=len /\ i= .int .i64 ((r:Int)-1) /\ J k wr /\ Below n₀ W wr) (fun i _=>(intOf i+1).toNat)
 case atStart=>exact ⟨0,len,by omega,rfl,h0,Below.refl _ _⟩
 case round=>
  obtain ⟨k,r,hk,rfl,hJs,hnx⟩:=hrel
  have hBs':wr.cell? ⟨Bs,0,none⟩=some (.slice (some ⟨b,off,none⟩) len cap):=(hnx.cell (p:=⟨Bs,0,none⟩) hBn).trans hBs
  cases r with
  | succ m=>
    have hc1:wr.cell? ⟨b,off+m*2,none⟩=some (.string (f m).1):=(hnx.cell (p:=⟨b,off+m*2,none⟩) hb).trans (hc m (by omega)).1
    have hc2:wr.cell? ⟨b,off+m*2+1,none⟩=some (.int .i64 (f m).2):=(hnx.cell (p:=⟨b,off+m*2+1,none⟩) hb).trans (hc m (by omega)).2
    have hm:len-1-k=m:=by omega
    obtain ⟨fn,tmps,assign,body,hy,hR⟩:=hY k wr hJs (by omega)
    unfold g1e at hy
    rw [hm] at hy
    have e1:((m+1:Nat):Int)-1=(m:Int):=by omega
    rw [e1]
    gi_wp2
    refine hR.mono ?_
    rintro e W3 (⟨rfl,hJ3,hk3⟩ | ⟨rfl,hJx3⟩)
    ·gi_wp2
     go_roundw
     case rel=>exact ⟨k+1,m,by omega,rfl,hJ3,hnx.trans hk3⟩
     case measure=>simp [intOf]
    ·gi_wp2
     refine bodyPost_ret (results_none rfl _ _ _) rfl ?_
     exact ⟨⟨_,rfl⟩,.inr ⟨k+1,by omega,hJx3⟩⟩
  | zero=>
    obtain rfl:k=len:=by omega
    gi_wp2
    go_end0
    exact ⟨⟨_,rfl⟩,.inl hJs⟩
set_option maxRecDepth 100000 in
set_option maxHeartbeats 1000000 in
theorem e1i (F:Fence) (n:Nat) (h7:F.fn 520) (hro:F.round=none) (l Bs:Nat) (a:Option Addr) (cap:Nat) (J:Nat -> World -> Prop) (W:World) (hBs:W.cell? ⟨Bs,0,none⟩=some (.slice a 0 cap)) (h0:J 0 W):
  CallsIn F n Tryz.prog 520 #[.func (.yield l) #[] #[],.pointer (some ⟨Bs,0,none⟩)] W fun e W'=>(∃v,e= .returned v) /\ J 0 W':=by
 refine callsIn_of_wp Tryz.func520 rfl h7 ?_ hro
 simp only [Tryz.ntmps520,List.size_toArray,List.length_cons,List.length_nil,Nat.reduceAdd,Nat.reduceSub,Array.replicate_succ,Array.replicate_zero,List.push_toArray,List.append_toArray,List.nil_append,List.cons_append]
 gi_wp2
 gi_loopw [3] (fun i wr=>i= .int .i64 (-1) /\ J 0 wr) (fun _ _=>0)
 case atStart=>exact ⟨rfl,h0⟩
 case round=>
  obtain ⟨rfl,hJs⟩:=hrel
  gi_wp2
  go_end0
  exact ⟨⟨_,rfl⟩,hJs⟩
set_option maxHeartbeats 1000000 in
theorem g6f (F:Fence) (n:Nat) (h5:F.fn 460) (hro:F.round=none) (a:Option Addr) (len cap:Nat) (w:World):
  CallsIn F n Tryz.prog 460 #[.slice a len cap] w fun e w'=>e= .returned (.func (.func 520) #[] #[.pointer (some ⟨w.heap.size,0,none⟩)]) /\ w'=w.alloc (.cells #[.slice a len cap] 228):=by
 refine callsIn_of_wp Tryz.func460 rfl h5 ?_ hro
 simp only [Tryz.ntmps460,List.size_toArray,List.length_cons,List.length_nil,Nat.reduceAdd,Nat.reduceSub,Array.replicate_succ,Array.replicate_zero,List.push_toArray,List.append_toArray,List.nil_append,List.cons_append]
 gi_wp2
 go_ret
 exact ⟨rfl,rfl⟩
def f9f (n₀:Nat) (W:World) (sv:Value) (len:Nat) (f:Nat -> ByteArray×Int):Prop:=
 (∃a cap,sv= .slice a 0 cap /\ len=0) \/ ∃b off cap,sv= .slice (some ⟨b,off,none⟩) len cap /\ b<n₀ /\ ∀j,j<len -> W.cell? ⟨b,off+j*2,none⟩=some (.string (f j).1) /\ W.cell? ⟨b,off+j*2+1,none⟩=some (.int .i64 (f j).2)
theorem f9f.below {n₀ n:Nat} (hn:n₀ <= n) {A B:World} {sv:Value} {len:Nat} {f:Nat -> ByteArray×Int} (h:Below n A B):f9f n₀ A sv len f -> f9f n B sv len f
 | .inl e=> .inl e
 | .inr ⟨b,off,cap,e,hb,hc⟩=> .inr ⟨b,off,cap,e,by omega,fun j hj=>⟨(h.cell (p:=⟨b,off+j*2,none⟩) (by show b<n;omega)).trans (hc j hj).1,(h.cell (p:=⟨b,off+j*2+1,none⟩) (by show b<n;omega)).trans (hc j hj).2⟩⟩
theorem g1t (F:Fence) (n:Nat) (h7:F.fn 520) (hro:F.round=none) (hn:1 <= n) (n₀ Bs len:Nat) (f:Nat -> ByteArray×Int) (hlen:len <= 9223372036854775807) (sv:Value) (w:World) (hb:Bs<n₀) (hBs:w.cell? ⟨Bs,0,none⟩=some sv) (hI:f9f n₀ w sv len f)
  (l:Nat) (J Jx:Nat -> World -> Prop) (W:World) (hW:Below n₀ w W)
  (hY: ∀k W1,J k W1 -> k<len -> YieldAt F (n-1) Tryz.prog l (g1e len f k) W1 fun e W'=>(e= .returned (.bool true) /\ J (k+1) W' /\ Below n₀ W1 W') \/ (e= .returned (.bool false) /\ Jx (k+1) W'))
  (h0:J 0 W):CallsIn F n Tryz.prog 520 (#[.func (.yield l) #[] #[]]++ #[.pointer (some ⟨Bs,0,none⟩)]) W fun e W'=>(∃v,e= .returned v) /\ (J len W' \/ ∃k,k <= len /\ Jx k W'):=by
 have hc':=(hW.cell (p:=⟨Bs,0,none⟩) hb).trans hBs
 rcases hI.below (Nat.le_refl _) hW with ⟨a,cap,rfl,rfl⟩ | ⟨b,off,cap,rfl,hbb,hcs⟩
 ·exact (e1i F n h7 hro l Bs a cap J W hc' h0).mono fun e W' ⟨he,hj⟩=>⟨he,.inl hj⟩
 ·exact g2p F n h7 hro hn l Bs n₀ b off len cap f hlen hbb J Jx hY W hc' hb hcs h0
def lkA (nm:ByteArray) (len:Nat) (f:Nat -> ByteArray×Int) (r:Int×Bool):Prop:=
 (r=(0,false) /\ ∀j,j<len -> ((f j).1.toList==nm.toList)=false) \/ ∃k,k<len /\ ((f k).1.toList==nm.toList)=true /\ r=((f k).2,true) /\ ∀j,k<j -> j<len -> ((f j).1.toList==nm.toList)=false
theorem g57 {tmps:Array Value} {A B:Nat} {x:Int} {b:Bool} {W:World} (hA:tmps[4]?.getD undef= .pointer (some ⟨A,0,none⟩)) (hB:tmps[5]?.getD undef= .pointer (some ⟨B,0,none⟩)) (cA:W.cell? ⟨A,0,none⟩=some (.int .i64 x)) (cB:W.cell? ⟨B,0,none⟩=some (.bool b)):
  (results Tryz.f409 tmps).run Tryz.prog W= .ok (.tuple #[.int .i64 x,.bool b]) W:=by
 have e:Tryz.f409.results= #[.cell 4 3,.cell 5 4]:=by kernel_rfl
 have a3:=Tryz.isAgg3
 have a4:=Tryz.isAgg4
 simp only [results,e]
 simp [Sem.run_bind,Result.andThen,hA,hB,asAddr,loadVar,go_sem,cA,cB,a3,a4]
set_option maxRecDepth 100000 in
set_option maxHeartbeats 4000000 in
theorem d44 (nm:ByteArray) (d:Int) (len:Nat) (f:Nat -> ByteArray×Int) (hlen:len <= 9223372036854775807) (sv:Value) (w:World) (ok:Bool)
  (hI: ∀w0,Below w.heap.size w w0 -> Calls Tryz.prog 224 #[.string nm] w0 fun e w'=>e= .returned (.tuple #[.int .i64 d,.bool ok]) /\ Ext noG w0 w') (hB:f9f w.heap.size w sv len f):
  Calls Tryz.prog 409 #[.string nm,sv] w fun e w'=> ∃r:Int×Bool,e= .returned (.tuple #[.int .i64 r.1,.bool r.2]) /\ (ok=true -> r=(d,true)) /\ (ok=false -> lkA nm len f r) /\ Below w.heap.size w w' /\ w.drawn <= w'.drawn:=by
 obtain ⟨a,cap,rfl⟩: ∃a cap,sv= .slice a len cap:=by
  rcases hB with ⟨a,cap,rfl,rfl⟩ | ⟨b,off,cap,rfl,_⟩
  ·exact ⟨_,_,rfl⟩
  ·exact ⟨_,_,rfl⟩
 refine (callsIn_wide (n:=9)).1 ?_
 refine callsIn_of_wp_marks Tryz.func409 rfl trivial ?_ rfl
 simp only [Tryz.ntmps409,List.size_toArray,List.length_cons,List.length_nil,Nat.reduceAdd,Nat.reduceSub,Array.replicate_succ,Array.replicate_zero,List.push_toArray,List.append_toArray,List.nil_append,List.cons_append]
 have bN:=((Boxed.new w 9 (.string nm)).alloc (.cells #[.int .i64 0] 3)).alloc (.cells #[.bool false] 4)
 have bD:=(Boxed.new (w.alloc (.cells #[.string nm] 9)) 3 (.int .i64 0)).alloc (.cells #[.bool false] 4)
 have bO:=Boxed.new ((w.alloc (.cells #[.string nm] 9)).alloc (.cells #[.int .i64 0] 3)) 4 (.bool false)
 simp only [World.size_alloc] at bD bO
 have hB0:Below w.heap.size w (((w.alloc (.cells #[.string nm] 9)).alloc (.cells #[.int .i64 0] 3)).alloc (.cells #[.bool false] 4)):=(((Below.refl _ w).alloc (Nat.le_refl _) _).alloc (by simp) _).alloc (by simp;omega) _
 cases ok with
 | true=>
   gi_wp2_with (refine ⟨trivial,?_⟩;gi_at_call 224;refine (callsIn_wide.2 (hI _ hB0)).mono ?_;rintro e w1 ⟨rfl,hE⟩;have hN1:=Boxed.ex hE bN;have hD1:=Boxed.ex hE bD;have hO1:=Boxed.ex hE bO;have cD:=hD1.cell;have fD:=hD1.frozen;have cO:=hO1.cell;have fO:=hO1.frozen)
   have hD2:=(hD1.set (.int .i64 d)).other (B':=w.heap.size+1+1) (by omega) (.bool true)
   have hO2:=(hO1.other (B':=w.heap.size+1) (by omega) (.int .i64 d)).set (.bool true)
   refine ⟨_,g57 rfl rfl hD2.cell hO2.cell,d,rfl,rfl,?_,?_⟩
   ·exact ((hB0.trans (hE.below.mono (by simp;omega))).setCell (p:=⟨w.heap.size+1,0,none⟩) (by simp) _).setCell (p:=⟨w.heap.size+1+1,0,none⟩) (by simp;omega) _
   ·simpa using hE.drawn
 | false=>
   gi_wp2_with (refine ⟨trivial,?_⟩;first | (gi_at_call 224;refine (callsIn_wide.2 (hI _ hB0)).mono ?_;rintro e w1 ⟨rfl,hE⟩;have hN1:=Boxed.ex hE bN;have hD1:=Boxed.ex hE bD;have hO1:=Boxed.ex hE bO;have cD:=hD1.cell;have fD:=hD1.frozen;have cO:=hO1.cell;have fO:=hO1.frozen;have cN:=hN1.cell) | (gi_at_call 460;refine (g6f Fence.wide _ trivial rfl _ _ _ _).mono ?_;rintro e w2 ⟨rfl,rfl⟩))
   have hW1:w.heap.size+1+1<w1.heap.size:=hO1.lt
   have hbl1:Below w.heap.size w w1:=hB0.trans (hE.below.mono (by simp;omega))
   have hsz:(w1.alloc (.cells #[.slice a len cap] 228)).heap.size=w1.heap.size+1:=by simp
   have hbs:=Boxed.new w1 228 (.slice a len cap)
   have hN2:=hN1.alloc (.cells #[.slice a len cap] 228)
   have hD2:=hD1.alloc (.cells #[.slice a len cap] 228)
   have hO2:=hO1.alloc (.cells #[.slice a len cap] 228)
   have hbl2:Below w.heap.size w (w1.alloc (.cells #[.slice a len cap] 228)):=hbl1.alloc (by omega) _
   have hdr2:w.drawn <= (w1.alloc (.cells #[.slice a len cap] 228)).drawn:=by simpa using hE.drawn
   have hB2:=hB.below (Nat.le_of_lt (Nat.lt_of_lt_of_le (Nat.lt_succ_of_lt (Nat.lt_succ_of_lt (Nat.lt_of_le_of_lt (Nat.le_refl _) (Nat.lt_succ_self _)))) (Nat.le_refl _))) (Below.refl (w.heap.size+1+1+1) w)
   clear hB2
   obtain ⟨W0,hW0⟩: ∃W0,w1.alloc (.cells #[.slice a len cap] 228)=W0:=⟨_,rfl⟩
   rw [hW0] at hsz hbs hN2 hD2 hO2 hbl2 hdr2⊢
   have hB3:f9f W0.heap.size W0 (.slice a len cap) len f:=by
    rcases hB with h | ⟨b,off,c,e,hb,hc⟩
    ·exact .inl h
    ·exact .inr ⟨b,off,c,e,by omega,fun j hj=>⟨(hbl2.cell (p:=⟨b,off+j*2,none⟩) hb).trans (hc j hj).1,(hbl2.cell (p:=⟨b,off+j*2+1,none⟩) hb).trans (hc j hj).2⟩⟩
   clear hW0
   refine g0e (F:=Fence.wide) rfl (by omega) (gf:=520) (lb:= #[.pointer (some ⟨w1.heap.size,0,none⟩)]) rfl trivial (enters_of Tryz.func520 (by kernel_rfl) rfl)
    (g1e len f) len (Below W0.heap.size) (fun l J Jx W hW hY h0=>g1t Fence.wide _ trivial rfl (by omega) W0.heap.size w1.heap.size len f hlen _ W0 (by omega) hbs.cell hB3 l J Jx W hW hY h0)
    (fun _ _ _ h k=>h.trans k) (fun W l o o' hl ho _ _=>⟨rfl,rfl,rfl,by simp,fun k hk=>World.putObj_heap_other (by omega)⟩) (fun _=>rfl)
    (fun k W=>(Boxed W w.heap.size 9 (.string nm) /\ Boxed W (w.heap.size+1) 3 (.int .i64 0) /\ Boxed W (w.heap.size+1+1) 4 (.bool false)) /\ (∀j,len <= j+k -> j<len -> ((f j).1.toList==nm.toList)=false) /\ W0.heap.size <= W.heap.size /\ Below w.heap.size w W /\ w.drawn <= W.drawn)
    (fun k c W=>c= .ret /\ ∃r:Int×Bool,lkA nm len f r /\ (Boxed W (w.heap.size+1) 3 (.int .i64 r.1) /\ Boxed W (w.heap.size+1+1) 4 (.bool r.2)) /\ Below w.heap.size w W /\ w.drawn <= W.drawn)
    (fun k a' W=> ∃Bx,(w.heap.size+1+1<Bx /\ a'={tmps:= #[.string nm,.slice a len cap,.pointer (some ⟨w.heap.size,0,none⟩),undef,.pointer (some ⟨w.heap.size+1,0,none⟩),.pointer (some ⟨w.heap.size+1+1,0,none⟩),.int .i64 d,.bool false,
      undef,.pointer (some ⟨Bx,0,none⟩),.tuple #[.int .i64 d,.bool false],.string nm,.tuple #[.int .i64 d,.bool false],.int .i64 d,.bool false,.bool false,undef,.slice a len cap,
      .func (.func 520) #[] #[.pointer (some ⟨w1.heap.size,0,none⟩)],.int .i64 ((len-1-k:Nat):Int),.agg #[.string (f (len-1-k)).1,.int .i64 (f (len-1-k)).2],undef,undef,undef,undef,undef,undef],defers:=[]}) /\ d7v Bx 0 (.string (f (len-1-k)).1) W /\ d7v Bx 1 (.int .i64 (f (len-1-k)).2) W)
    (fun k=>(a8b.and (a8b.and a8b)).and (c38.and (e1k.and (d03 (Nat.le_refl _) (by omega)))))
    (fun k c=>c38.and (StillR.ex fun r=>c38.and ((a8b.and a8b).and (d03 (Nat.le_refl _) (by omega)))))
    (fun k a'=>StillR.ex fun Bx=>c38.and (c6x.and c6x))
    ⟨⟨hN2,hD2,hO2⟩,fun j h1 h2=>by omega,Nat.le_refl _,hbl2,hdr2⟩ ?assign ?body ?done ?stop
   case assign=>
    rintro l k W K ⟨⟨b1,b2,b3⟩,hno,hsw,hbw,hdw⟩ hK
    simp only [g1e]
    gi_wp2
    exact hK _ _ ((KeepsOthers.alloc _ _).from _) ((Below.refl _ W).alloc hsw _) ⟨⟨b1.alloc _,b2.alloc _,b3.alloc _⟩,hno,(by simp;omega),hbw.alloc (by omega) _,hdw⟩ ⟨W.heap.size,⟨b3.lt,rfl⟩,d2r _ _ _ rfl,d2r _ _ _ rfl⟩
   case body=>
    rintro l k a' W ⟨⟨b1,b2,b3⟩,hno,hsw,hbw,hdw⟩ ⟨Bx,⟨hBx,rfl⟩,c0,c1⟩ hk
    have x0:=c0.1
    have x1:=c1.1
    have n0:=b1.cell
    have d0:=b2.cell
    have d1:=b2.frozen
    have o0:=b3.cell
    have o1:=b3.frozen
    gi_wp2
    ·rename_i hx
     have g2:=(b2.set (.int .i64 (f (len-1-k)).2)).other (B':=w.heap.size+1+1) (by omega) (.bool true)
     have g3:=(b3.other (B':=w.heap.size+1) (by omega) (.int .i64 (f (len-1-k)).2)).set (.bool true)
     refine ⟨((KeepsOthers.setCell _ _ _).trans (KeepsOthers.setCell _ _ _)).from _,rfl,((f (len-1-k)).2,true),.inr ⟨len-1-k,by omega,hx,rfl,fun j h1 h2=>hno j (by omega) h2⟩,⟨g2,g3⟩,?_,hdw⟩
     exact (hbw.setCell (p:=⟨w.heap.size+1,0,none⟩) (by simp) _).setCell (p:=⟨w.heap.size+1+1,0,none⟩) (by simp;omega) _
    ·rename_i hx
     refine ⟨KeepsFrom.refl _ _,Below.refl _ _,⟨b1,b2,b3⟩,fun j h1 h2=> ?_,hsw,hbw,hdw⟩
     by_cases hj:j=len-1-k
     ·subst hj;simpa using hx
     ·exact hno j (by omega) h2
   case done=>
    rintro D W hD ⟨⟨b1,b2,b3⟩,hno,hsw,hbw,hdw⟩ hKD
    have d0:=b2.cell
    have d1:=b2.frozen
    have o0:=b3.cell
    have o1:=b3.frozen
    gi_wp2
    have g2:=(b2.set (.int .i64 0)).other (B':=w.heap.size+1+1) (by omega) (.bool false)
    have g3:=(b3.other (B':=w.heap.size+1) (by omega) (.int .i64 0)).set (.bool false)
    have hK2:=((KeepsOthers.setCell W ⟨w.heap.size+1,0,none⟩ (.int .i64 0)).trans (KeepsOthers.setCell _ ⟨w.heap.size+1+1,0,none⟩ (.bool false))).same _ _ hKD rfl
    have h4:=a8b.pu (B:=w.heap.size) _ D _ (.deferred none) (by omega) hK2 rfl g2
    have h5:=a8b.pu (B:=w.heap.size) _ D _ (.deferred none) (by omega) hK2 rfl g3
    refine ⟨by simp,.inl ⟨_,_,rfl,run_takeDeferred hK2,⟨_,g57 rfl rfl h4.cell h5.cell,0,.inl ⟨rfl,.inl ⟨rfl,fun j hj=>hno j (by omega) hj⟩,?_,hdw⟩⟩⟩⟩
    exact ((hbw.setCell (p:=⟨w.heap.size+1,0,none⟩) (by simp) _).setCell (p:=⟨w.heap.size+1+1,0,none⟩) (by simp;omega) _).trans ⟨rfl,rfl,rfl,by simp,fun k hk=>World.putObj_heap_other (by omega)⟩
   case stop=>
    rintro D k c W hD hk ⟨rfl,r,hr,⟨b2,b3⟩,hbw,hdw⟩ hKD
    gi_wp2
    have h4:=a8b.pu (B:=w.heap.size) _ D _ (.deferred none) (by omega) hKD rfl b2
    have h5:=a8b.pu (B:=w.heap.size) _ D _ (.deferred none) (by omega) hKD rfl b3
    refine ⟨by simp,.inl ⟨_,_,rfl,run_takeDeferred hKD,⟨_,g57 rfl rfl h4.cell h5.cell,?_⟩⟩⟩
    obtain ⟨r1,r2⟩:=r
    have hb':Below w.heap.size w (W.putObj D (.deferred none)):=hbw.trans ⟨rfl,rfl,rfl,by simp,fun k hk=>World.putObj_heap_other (by omega)⟩
    cases r2 with
    | true=>exact ⟨r1,.inr ⟨rfl,hr,hb',hdw⟩⟩
    | false=>exact ⟨r1,.inl ⟨rfl,hr,hb',hdw⟩⟩
theorem f9b {l:List Binding} {nm:ByteArray} {f:Nat -> ByteArray×Int} (hf: ∀j (b:Binding),l[j]? =some b -> f j=(b.Name,b.Dim)) {r:Int×Bool} (h:lkA nm l.length f r):
  r=(match l.reverse.find? fun b=>b.Name.toList==nm.toList with | some b=>(b.Dim,true) | none=>(0,false)):=by
 have none_of: ∀(m:List Binding),(∀b∈m,(b.Name.toList==nm.toList)=false) -> m.find? (fun b=>b.Name.toList==nm.toList)=none:=fun m hm=>List.find?_eq_none.2 fun b hb=>by rw [hm b hb];decide
 rcases h with ⟨rfl,h⟩ | ⟨k,hk,hp,rfl,h⟩
 ·rw [none_of _ fun b hb=>by
   obtain ⟨j,hj⟩:=List.getElem?_of_mem (List.mem_reverse.1 hb)
   have h1:=h j (List.getElem?_eq_some_iff.1 hj).1
   rw [hf j b hj] at h1
   exact h1]
 ·have e:l=l.take k++l[k]::l.drop (k+1):=by rw [<- List.drop_eq_getElem_cons hk,List.take_append_drop]
  have hk':l[k]? =some l[k]:=List.getElem?_eq_getElem hk
  have hfk:=hf k _ hk'
  have e2:l.reverse=(l.drop (k+1)).reverse++(l[k]::(l.take k).reverse):=by
   conv=>lhs;rw [e]
   simp
  rw [e2,List.find?_append,none_of _ fun b hb=>by
   obtain ⟨j,hj⟩:=List.getElem?_of_mem (List.mem_reverse.1 hb)
   rw [List.getElem?_drop] at hj
   have h1:=h (k+1+j) (by omega) (List.getElem?_eq_some_iff.1 hj).1
   rw [hf _ b hj] at h1
   exact h1]
  rw [hfk] at hp⊢
  have hp:(l[k].Name.toList==nm.toList)=true:=hp
  simp [List.find?_cons,hp]
theorem d7m (h:SX.Spec Tryz.prog 224 (⟨⟨[.v .c_str],[.v .c_i64,.v .c_bool]⟩,Int×Bool,fun x=>a7w x.1,w2,none⟩:Fent VV)):
  SX.Spec Tryz.prog 409 (⟨⟨[.v .c_str,.ls .c_sBinding],[.v .c_i64,.v .c_bool]⟩,Int×Bool,fun x=>a6e x.1 x.2.1,fun b=>((b.1,b.2,()),()),none⟩:Fent VV):=by
 intro xs r hr Z G w us hl hR
 match us,hl with
 | [u1,u2],_=>
   have s0:u1= .string xs.1:=hR.slot 0
   have s1:s5 (Rp (U:=VV) .c_sBinding) (cx Z (d0a [u1,u2]) (a0l (U:=VV) 0 [PK.v .c_str,PK.ls .c_sBinding] xs) w).G w u2 xs.2.1:=hR.slot 1
   have hr:a6e xs.1 xs.2.1=some r:=hr
   unfold a6e at hr
   cases hi:a7w xs.1 with
   | none=>rw [hi] at hr;cases hr
   | some v=>
     obtain ⟨d,ok⟩:=v
     rw [hi,Option.bind_some] at hr
     have htb: ∀w0,Below w.heap.size w w0 -> VV.tab w0 /\ ∀b,VV.tb b -> b<w0.heap.size:=fun w0 hb=>⟨uok.tabK _ _ hR.tab.1 fun b h1=>hb.block b (hR.tab.2 b h1).1,fun b h1=>Nat.lt_of_lt_of_le (hR.tab.2 b h1).1 hb.size⟩
     have hI: ∀w0,Below w.heap.size w w0 -> Calls Tryz.prog 224 #[.string xs.1] w0 fun e w'=>e= .returned (.tuple #[.int .i64 d,.bool ok]) /\ Ext noG w0 w':=fun w0 hb=>by
      refine (c9j uok h (xs:=(xs.1,())) (b:=(d,ok)) hi (htb w0 hb) (us:=[.string xs.1]) rfl (by kernel_rfl) [[]] (by simp) (fun Z' hz=>⟨⟨rfl,rfl⟩,trivial⟩)).mono ?_
      rintro e w' ⟨vs,Z',he,hE,hRR⟩
      match vs,hRR with
      | [v1,v2],⟨h1,h2,_⟩=>
        have h1:v1= .int .i64 d:=h1
        have h2:v2= .bool ok:=h2
        exact ⟨by rw [he,h1,h2];rfl,hE⟩
     let f:Nat -> ByteArray×Int:=fun j=>match xs.2.1[j]? with | some b=>(b.Name,b.Dim) | none=>(⟨#[]⟩,0)
     have hf: ∀j (b:Binding),xs.2.1[j]? =some b -> f j=(b.Name,b.Dim):=fun j b hj=>by simp only [f];erw [hj]
     have hlen:xs.2.1.length <= 9223372036854775807:=by
      rcases s1 with ⟨_,e⟩ | ⟨_,cap,_,h1,h2,_⟩
      ·rw [e];decide
      ·have:maxLen=9223372036854775807:=by decide
       omega
     have hB:f9f w.heap.size w u2 xs.2.1.length f:=by
      rcases s1 with ⟨e1,e2⟩ | ⟨a,cap,e1,h1,h2,h3⟩
      ·exact .inl ⟨none,0,e1,by rw [e2];rfl⟩
      ·rcases Nat.eq_zero_or_pos xs.2.1.length with h0 | h0
       ·exact .inl ⟨some a,cap,by rw [e1,h0],h0⟩
       ·have key: ∀j,j<xs.2.1.length -> a.block<w.heap.size /\ w.cell? (a.add (j*2))=some (.string (f j).1) /\ w.cell? (a.add (j*2+1))=some (.int .i64 (f j).2):=by
         intro j hj
         obtain ⟨cs,hrep,hb,_,hca⟩:=h3 j _ (List.getElem?_eq_getElem hj)
         obtain ⟨_,css,rfl,hall⟩:=b6z.1 hrep
         rw [hf j _ (List.getElem?_eq_getElem hj)]
         match css,hall with
         | [c0,c1],⟨g0,g1,_⟩=>
           have g0:c0=[.string xs.2.1[j].Name]:=g0
           have g1:c1=[.int .i64 xs.2.1[j].Dim]:=g1
           subst g0;subst g1
           have x0:=hca 0 _ rfl
           have x1:=hca 1 _ rfl
           rw [Deep.add_add] at x0 x1
           exact ⟨hb,x0,x1⟩
        have hsp:a.spot=none:=by
         have h9:=(key 0 h0).2.1
         cases hs:a.spot with
         | none=>rfl
         | some q=>
           exfalso;revert h9;simp [World.cell?,Addr.add,hs]
           split<;>simp
        obtain ⟨ab,ao,ap⟩:=a
        cases hsp
        exact .inr ⟨ab,ao,cap,e1,(key 0 h0).1,fun j hj=>(by
         have h:=(key j hj).2
         have e: ∀n,(⟨ab,ao,none⟩:Addr).add n=⟨ab,ao+n,none⟩:=fun n=>by
          unfold Addr.add
          split
          ·rename_i h0;rw [show n=0 from by simpa using h0];rfl
          ·rfl
         rw [e,e] at h
         exact h)⟩
     subst s0
     show Calls Tryz.prog 409 #[.string xs.1,u2] w _
     refine (d44 xs.1 d xs.2.1.length f hlen u2 w ok hI hB).mono ?_
     rintro e w' ⟨q,he,hq1,hq2,hbe,hdr⟩
     have hqr:q=r:=by
      cases ok with
      | true=>rw [if_pos rfl] at hr;exact (hq1 rfl).trans (Option.some.inj hr)
      | false=>rw [if_neg (fun h:false=true=>by cases h)] at hr;exact (f9b hf (hq2 rfl)).trans (Option.some.inj hr)
     subst hqr
     exact ⟨_,he,⟨Z,[.int .i64 q.1,.bool q.2],[.string xs.1,u2],rfl,fun _ h=>h,fun _ h=> .inl h,⟨hbe.os,hbe.tape,hbe.output,hbe.size,fun b hb _=>hbe.block b hb,hdr⟩,rfl,fun _ _ _ _=>rfl,⟨rfl,rfl,trivial⟩,trivial,(fun v hv=>by cases hv),(fun i j v v' b _ hv=>by cases hv)⟩⟩
end Go.Proofs
namespace Go.PL
open Go Go.SX Go.Proofs
theorem mixed:Tryz.prog.follows .mixedOrders=true:=by kernel_rfl
noncomputable section
def f4l:Fent VV:=⟨⟨[.ls .c_u8,.ls .c_u8],[.v .c_i64]⟩,Int,fun x=>b4j x.1 x.2.1,fun n=>((n,()),()),none⟩
theorem g2k:d7r Tryz.prog 331 f4l:=e9x (U:=VV) (a:= .c_u8) (c:= .c_i64) uok (fn:=Tryz.f331) (by kernel_rfl) (by kernel_rfl) (by kernel_rfl) (by kernel_rfl) (by kernel_rfl) rfl (fun n=>n) (fun _=>rfl)
def f54:Fent VV:=⟨⟨[.v .c_str,.v .c_u8],[.v .c_i64]⟩,Int,fun x=>a6n x.1 x.2.1,fun n=>((n,()),()),none⟩
theorem g2m:d7r Tryz.prog 521 f54:=f0b (U:=VV) (a:= .c_str) (b:= .c_u8) (c:= .c_i64) (fn:=Tryz.f521) (by kernel_rfl) (by kernel_rfl) (by kernel_rfl) (by kernel_rfl) (by kernel_rfl) (fun x=>x) (fun x=>x) (fun n=>n) (fun _=>rfl) (fun _=>rfl) (fun _=>rfl)
def f2p:Fent VV:=⟨⟨[.v .c_i64],[.v .c_str]⟩,ByteArray,fun x=>strconv_Itoa x.1,fun b=>((b,()),()),none⟩
theorem g2j:SX.Spec Tryz.prog 404 f2p:=e7b (U:=VV) (a:= .c_i64) (c:= .c_str) Tryz.laysItoa (fun _ h=>h) (fun x=>x) (fun _=>rfl) (fun x=>x) (fun _=>rfl)
def K404:Kn Tryz.prog VV:=⟨404,f2p,knS rfl ⟨g2j,fun _ _=>by kernel_rfl⟩⟩
def K331:Kn Tryz.prog VV:=⟨331,f4l,knX rfl g2k⟩
def K521:Kn Tryz.prog VV:=⟨521,f54,knX rfl g2m⟩
abbrev mk:= @kn Tryz.prog VV uok mixed
def K5:Kn Tryz.prog VV:=mk 5 Tryz.f5 ⟨[.v .c_i64,.v .c_i64],[.v .c_i64]⟩ (fun x=>b6 x.1 x.2.1) w1 u1 .n [] (by kernel_rfl) (by kernel_rfl) (fun _=>rfl) fun x=>by kernel_rfl
def K37:Kn Tryz.prog VV:=mk 37 Tryz.f37 ⟨[.ls .c_i64,.v .c_i64],[.v .c_i64]⟩ (fun x=>d7 x.1 x.2.1) w1 u1 .n [K5] (by kernel_rfl) (by kernel_rfl) (fun _=>rfl) fun x=>by kernel_rfl
def K17:Kn Tryz.prog VV:=mk 17 Tryz.f17 ⟨[.ls .c_i64],[.ow 109 .c_sapi_Fact]⟩ (fun x=>a88 x.1) w1 u1 (sk 2 (.s (.s .n (.l [0] [] [.ow 3 1 109 .c_sapi_Fact,.v 4 .c_i64] .n)) .n)) [K5,K37] (by kernel_rfl) (by kernel_rfl) (fun _=>rfl) fun x=>by kernel_rfl
def K64:Kn Tryz.prog VV:=mk 64 Tryz.f64 ⟨[.v .c_i64],[.v .c_i64]⟩ (fun x=>a7i x.1) w1 u1 .n [K5] (by kernel_rfl) (by kernel_rfl) (fun _=>rfl) fun x=>by kernel_rfl
def K65:Kn Tryz.prog VV:=mk 65 Tryz.f65 ⟨[.v .c_i64],[.v .c_str]⟩ (fun x=>a5y x.1) w1 u1 .n [] (by kernel_rfl) (by kernel_rfl) (fun _=>rfl) fun x=>by kernel_rfl
def K38:Kn Tryz.prog VV:=mk 38 Tryz.f38 ⟨[.v .c_spensionhand_Fact],[.v .c_sapi_Fact]⟩ (fun x=>a9c x.1) w1 u1 (sk 5 (.j [] [.bx 1 1 112 .c_spensionhand_Fact,.bx 2 2 109 .c_sapi_Fact,.bx 3 3 109 .c_sapi_Fact,.v 4 .c_i64,.v 5 .c_i64] .n (.s .n (.s (.s .n (.l [4,5,6] [] [.bx 1 1 112 .c_spensionhand_Fact,.bx 2 2 109 .c_sapi_Fact,.bx 3 3 109 .c_sapi_Fact,.v 7 .c_i64] .n)) .n)))) [K5,K64,K65] (by kernel_rfl) (by kernel_rfl) (fun _=>rfl) fun x=>by kernel_rfl
def K18:Kn Tryz.prog VV:=mk 18 Tryz.f18 ⟨[.ls .c_spensionhand_Fact],[.ow 109 .c_sapi_Fact]⟩ (fun x=>a8f x.1) w1 u1 (sk 2 (.s (.s .n (.l [0] [] [.ow 3 1 109 .c_sapi_Fact,.v 4 .c_i64] .n)) .n)) [K38] (by kernel_rfl) (by kernel_rfl) (fun _=>rfl) fun x=>by kernel_rfl
def K74:Kn Tryz.prog VV:=mk 74 Tryz.f74 ⟨[.v .c_i64],[.v .c_str]⟩ (fun x=>k7 x.1) w1 u1 (sk 2 (.s (.l [] [] [.v 0 .c_i64,.v 3 .c_str] .n) .n)) [] (by kernel_rfl) (by kernel_rfl) (fun _=>rfl) fun x=>by kernel_rfl
def K132:Kn Tryz.prog VV:=mk 132 Tryz.f132 ⟨[.v .c_i64],[.v .c_str]⟩ (fun x=>s7 x.1) w1 u1 .n [K74] (by kernel_rfl) (by kernel_rfl) (fun _=>rfl) fun x=>by kernel_rfl
def K75:Kn Tryz.prog VV:=mk 75 Tryz.f75 ⟨[.v .c_str,.ls .c_i64,.v .c_i64],[.v .c_str]⟩ (fun x=>a0z x.1 x.2.1 x.2.2.1) w1 u1 (sk 3 (.j [] [.ls 1 .c_i64,.v 2 .c_i64,.v 7 .c_str,.v 8 .c_str] .n (.s .n (.j [] [.ls 1 .c_i64,.v 2 .c_i64,.v 7 .c_str,.v 8 .c_str] .n (.j [] [.ls 1 .c_i64,.v 2 .c_i64,.v 7 .c_str,.v 8 .c_str] .n (.s .n (.s .n (.s .n (.s .n (.j [] [.ls 1 .c_i64,.v 2 .c_i64,.v 8 .c_str] .n (.s .n (.s .n (.j [] [.ls 1 .c_i64,.v 2 .c_i64,.v 8 .c_str] .n .n))))))))))))) [K5,K37,K74,K132] (by kernel_rfl) (by kernel_rfl) (fun _=>rfl) fun x=>by kernel_rfl
def K40:Kn Tryz.prog VV:=mk 40 Tryz.f40 ⟨[.v .c_i64,.ls .c_i64],[.v .c_str]⟩ (fun x=>a14 x.1 x.2.1) w1 u1 (sk 3 (.j [] [.v 0 .c_i64,.ls 1 .c_i64,.v 6 .c_str] .n .n)) [K5,K37,K74,K75] (by kernel_rfl) (by kernel_rfl) (fun _=>rfl) fun x=>by kernel_rfl
def K302:Kn Tryz.prog VV:=mk 302 Tryz.f302 ⟨[.v .c_str,.v .c_i64],[.v .c_i64]⟩ (fun x=>a6u x.1 x.2.1) w1 u1 (sk 2 (.s (.l [0] [] [.v 1 .c_i64,.v 5 .c_bool] .n) .n)) [] (by kernel_rfl) (by kernel_rfl) (fun _=>rfl) fun x=>by kernel_rfl
def g4z:Kn Tryz.prog VV:=mk 303 Tryz.f303 ⟨[.v .c_u8],[.v .c_bool]⟩ (fun x=>a3m x.1) w1 u1 .n [] (by kernel_rfl) (by kernel_rfl) (fun _=>rfl) fun x=>by kernel_rfl
def g3t:Kn Tryz.prog VV:=mk 305 Tryz.f305 ⟨[.v .c_u8],[.v .c_bool]⟩ (fun x=>a2v x.1) w1 u1 .n [] (by kernel_rfl) (by kernel_rfl) (fun _=>rfl) fun x=>by kernel_rfl
def K304:Kn Tryz.prog VV:=mk 304 Tryz.f304 ⟨[.v .c_str,.v .c_i64,.v .c_bool],[.v .c_i64]⟩ (fun x=>a4v x.1 x.2.1 x.2.2.1) w1 u1 (sk 2 (.s (.l [0,1,2] [] [.v 7 .c_i64] .n) .n)) [g4z,g3t] (by kernel_rfl) (by kernel_rfl) (fun _=>rfl) fun x=>by kernel_rfl
def K204:Kn Tryz.prog VV:=mk 204 Tryz.f204 ⟨[.v .c_str],[.v .c_str,.v .c_str,.v .c_i64,.v .c_bool]⟩ (fun x=>a0m x.1) (fun b=>((b.1,(b.2.1,(b.2.2.1,(b.2.2.2,())))),())) (fun p=>(p.1.1,p.1.2.1,p.1.2.2.1,p.1.2.2.2.1)) (sk 2 (.j [] [.v 0 .c_str,.v 6 .c_i64] .n (.s .n (.s (.s .n (.l [0,6] [] [.v 8 .c_i64,.v 9 .c_i64] .n)) (.s .n (.j [] [.v 6 .c_i64,.v 10 .c_str,.v 11 .c_str] .n (.s (.s .n (.l [6,10,11] [] [.v 12 .c_i64] .n)) .n))))))) [g3t] (by kernel_rfl) (by kernel_rfl) (fun _=>rfl) fun x=>by kernel_rfl
def K309:Kn Tryz.prog VV:=mk 309 Tryz.f309 ⟨[.v .c_str],[.v .c_i64,.v .c_bool]⟩ (fun x=>a85 x.1) w2 u2 (sk 2 (.s (.s .n (.l [0] [] [.v 4 .c_i64,.v 5 .c_i64] .n)) .n)) [] (by kernel_rfl) (by kernel_rfl) (fun _=>rfl) fun x=>by kernel_rfl
def K454:Kn Tryz.prog VV:=mk 454 Tryz.f454 ⟨[.v .c_i64],[.v .c_bool]⟩ (fun x=>b8f x.1) w1 u1 .n [] (by kernel_rfl) (by kernel_rfl) (fun _=>rfl) fun x=>by kernel_rfl
def K396:Kn Tryz.prog VV:=mk 396 Tryz.f396 ⟨[.v .c_i64,.v .c_i64],[.v .c_i64]⟩ (fun x=>b06 x.1 x.2.1) w1 u1 .n [K454] (by kernel_rfl) (by kernel_rfl) (fun _=>rfl) fun x=>by kernel_rfl
def K397:Kn Tryz.prog VV:=mk 397 Tryz.f397 ⟨[.v .c_i64],[.v .c_i64]⟩ (fun x=>b7a x.1) w1 u1 (sk 2 (.s (.s .n (.l [0] [] [.v 3 .c_i64,.v 4 .c_i64] .n)) .n)) [K396] (by kernel_rfl) (by kernel_rfl) (fun _=>rfl) fun x=>by kernel_rfl
def K310:Kn Tryz.prog VV:=mk 310 Tryz.f310 ⟨[.v .c_i64,.v .c_i64,.v .c_i64],[.v .c_i64,.v .c_bool]⟩ (fun x=>b9o x.1 x.2.1 x.2.2.1) w2 u2 .n [K396,K397] (by kernel_rfl) (by kernel_rfl) (fun _=>rfl) fun x=>by kernel_rfl
def K206:Kn Tryz.prog VV:=mk 206 Tryz.f206 ⟨[.v .c_str],[.v .c_i64,.v .c_bool]⟩ (fun x=>a2e x.1) w2 u2 .n [K309,K310] (by kernel_rfl) (by kernel_rfl) (fun _=>rfl) fun x=>by kernel_rfl
def K306:Kn Tryz.prog VV:=mk 306 Tryz.f306 ⟨[.v .c_str,.v .c_i64],[.v .c_i64]⟩ (fun x=>a3o x.1 x.2.1) w1 u1 (.s .n (.j [] [.v 0 .c_str,.v 1 .c_i64] .n .n)) [] (by kernel_rfl) (by kernel_rfl) (fun _=>rfl) fun x=>by kernel_rfl
def K201:Kn Tryz.prog VV:=mk 201 Tryz.f201 ⟨[.v .c_str,.v .c_i64],[.v .c_sToken,.v .c_i64,.v .c_i64]⟩ (fun x=>a56 x.1 x.2.1) (fun b=>((b.1,(b.2.1,(b.2.2,()))),())) (fun p=>(p.1.1,p.1.2.1,p.1.2.2.1)) (sk 5 (.j [] [.v 0 .c_str,.v 1 .c_i64,.bx 4 2 221 .c_sToken,.v 7 .c_i64,.v 8 .c_i64,.v 9 .c_bool] .n .n)) [K204,K206,K302,g4z,K304,g3t,K306] (by kernel_rfl) (by kernel_rfl) (fun _=>rfl) fun x=>by kernel_rfl
def K122:Kn Tryz.prog VV:=mk 122 Tryz.f122 ⟨[.v .c_str],[.ow 221 .c_sToken,.v .c_i64,.v .c_i64]⟩ (fun x=>a7v x.1) (fun b=>((b.1,(b.2.1,(b.2.2,()))),())) (fun p=>(p.1.1,p.1.2.1,p.1.2.2.1)) (sk 4 (.l [0] [] [.ow 5 1 221 .c_sToken,.v 6 .c_i64] .n)) [K201] (by kernel_rfl) (by kernel_rfl) (fun _=>rfl) fun x=>by kernel_rfl
def K66:Kn Tryz.prog VV:=mk 66 Tryz.f66 ⟨[.v .c_str],[.bo 161 .c_spensionref5_reader,.v .c_i64,.v .c_i64]⟩ (fun x=>b1q x.1) (fun b=>((b.1,(b.2.1,(b.2.2,()))),())) (fun p=>(p.1.1,p.1.2.1,p.1.2.2.1)) .n [K122] (by kernel_rfl) (by kernel_rfl) (fun _=>rfl) fun x=>by kernel_rfl
def g3w:Kn Tryz.prog VV:=mk 127 Tryz.f127 ⟨[.rp 161 .c_spensionref5_reader,.v .c_str],[.v .c_bool]⟩ (fun x=>a09 x.1 x.2.1) w1 u1 .n [] (by kernel_rfl) (by kernel_rfl) (fun _=>rfl) fun x=>by kernel_rfl
def K70:Kn Tryz.prog VV:=mk 70 Tryz.f70 ⟨[.io 161 .c_spensionref5_reader,.v .c_str],[.v .c_bool]⟩ (fun x=>g8 x.1 x.2.1) (fun b=>((b.1,()),(b.2,()))) (fun p=>(p.1.1,p.2.1)) .n [g3w] (by kernel_rfl) (by kernel_rfl) (fun _=>rfl) fun x=>by kernel_rfl
def f9x:Kn Tryz.prog VV:=mk 123 Tryz.f123 ⟨[.io 161 .c_spensionref5_reader],[]⟩ (fun x=>q9 x.1) (fun b=>((),(b,()))) (fun p=>p.2.1) .n [] (by kernel_rfl) (by kernel_rfl) (fun _=>rfl) fun x=>by kernel_rfl
def K67:Kn Tryz.prog VV:=mk 67 Tryz.f67 ⟨[.io 161 .c_spensionref5_reader,.v .c_str],[]⟩ (fun x=>c6 x.1 x.2.1) (fun b=>((),(b,()))) (fun p=>p.2.1) .n [K70,f9x] (by kernel_rfl) (by kernel_rfl) (fun _=>rfl) fun x=>by kernel_rfl
def f8y:Kn Tryz.prog VV:=mk 124 Tryz.f124 ⟨[.rp 161 .c_spensionref5_reader,.v .c_i64],[.v .c_bool]⟩ (fun x=>u5 x.1 x.2.1) w1 u1 .n [] (by kernel_rfl) (by kernel_rfl) (fun _=>rfl) fun x=>by kernel_rfl
def K202:Kn Tryz.prog VV:=mk 202 Tryz.f202 ⟨[.v .c_str],[.v .c_bool]⟩ (fun x=>b5d x.1) w1 u1 (.s .n (.s (.s .n (.l [0] [] [.v 3 .c_i64] .n)) .n)) [g4z,g3t] (by kernel_rfl) (by kernel_rfl) (fun _=>rfl) fun x=>by kernel_rfl
def K203:Kn Tryz.prog VV:=mk 203 Tryz.f203 ⟨[.v .c_str],[.v .c_bool]⟩ (fun x=>b48 x.1) w1 u1 .n [] (by kernel_rfl) (by kernel_rfl) (fun _=>rfl) fun x=>by kernel_rfl
def g1y:Kn Tryz.prog VV:=mk 125 Tryz.f125 ⟨[.v .c_str],[.v .c_bool]⟩ (fun x=>u9 x.1) w1 u1 .n [K202,K203] (by kernel_rfl) (by kernel_rfl) (fun _=>rfl) fun x=>by kernel_rfl
def K68:Kn Tryz.prog VV:=mk 68 Tryz.f68 ⟨[.io 161 .c_spensionref5_reader],[.v .c_str]⟩ (fun x=>a1a x.1) (fun b=>((b.1,()),(b.2,()))) (fun p=>(p.1.1,p.2.1)) .n [f9x,f8y,g1y] (by kernel_rfl) (by kernel_rfl) (fun _=>rfl) fun x=>by kernel_rfl
def g5y:Kn Tryz.prog VV:=mk 308 Tryz.f308 ⟨[.v .c_i64],[.v .c_u64]⟩ (fun x=>a2k x.1) w1 u1 .n [] (by kernel_rfl) (by kernel_rfl) (fun _=>rfl) fun x=>by kernel_rfl
def K200:Kn Tryz.prog VV:=mk 200 Tryz.f200 ⟨[.v .c_u64],[.v .c_i64]⟩ (fun x=>c4z x.1) w1 u1 (.s .n (.j [] [.v 0 .c_u64,.v 2 .c_i64] .n (.j [] [.v 0 .c_u64,.v 2 .c_i64] .n .n))) [] (by kernel_rfl) (by kernel_rfl) (fun _=>rfl) fun x=>by kernel_rfl
def K451:Kn Tryz.prog VV:=mk 451 Tryz.f451 ⟨[.v .c_u64],[.v .c_i64]⟩ (fun x=>b4v x.1) w1 u1 .n [K200] (by kernel_rfl) (by kernel_rfl) (fun _=>rfl) fun x=>by kernel_rfl
def K389:Kn Tryz.prog VV:=mk 389 Tryz.f389 ⟨[.v .c_u64,.v .c_u64,.v .c_u64],[.v .c_u64,.v .c_u64]⟩ (fun x=>c0i x.1 x.2.1 x.2.2.1) w2 u2 (.s .n (.j [] [.v 0 .c_u64,.v 1 .c_u64,.v 2 .c_u64] .n (.j [] [.v 0 .c_u64,.v 1 .c_u64,.v 2 .c_u64] .n (.s .n (.s .n (.s .n (.s .n (.s .n (.s .n (.s .n (.s .n (.s .n (.s .n (.s .n (.j [] [.v 2 .c_u64,.v 8 .c_u64,.v 9 .c_u64,.v 10 .c_u64,.v 11 .c_u64,.v 13 .c_u64,.v 14 .c_u64,.v 15 .c_u64] (.l [2,8,9,10,11,13,14] [] [.v 15 .c_u64,.v 16 .c_u64] .n) (.s .n (.s .n (.s .n (.j [] [.v 2 .c_u64,.v 8 .c_u64,.v 14 .c_u64,.v 15 .c_u64,.v 17 .c_u64,.v 18 .c_u64] (.l [2,8,9,10,14,15,17] [] [.v 16 .c_u64,.v 18 .c_u64] .n) .n))))))))))))))))))) [K451] (by kernel_rfl) (by kernel_rfl) (fun _=>rfl) fun x=>by kernel_rfl
def K394:Kn Tryz.prog VV:=mk 394 Tryz.f394 ⟨[.v .c_spensionref1_wide,.v .c_u64],[.v .c_spensionref1_wide,.v .c_u64]⟩ (fun x=>a3i x.1 x.2.1) w2 u2 .n [K389] (by kernel_rfl) (by kernel_rfl) (fun _=>rfl) fun x=>by kernel_rfl
def K395:Kn Tryz.prog VV:=mk 395 Tryz.f395 ⟨[.v .c_u64,.v .c_u64],[.v .c_u64]⟩ (fun x=>a2b x.1 x.2.1) w1 u1 (.s .n (.s (.l [] [] [.v 0 .c_u64,.v 1 .c_u64] .n) .n)) [] (by kernel_rfl) (by kernel_rfl) (fun _=>rfl) fun x=>by kernel_rfl
def K307:Kn Tryz.prog VV:=mk 307 Tryz.f307 ⟨[.v .c_bool,.v .c_spensionref1_wide,.v .c_u64],[.v .c_sFraction,.v .c_i64]⟩ (fun x=>b09 x.1 x.2.1 x.2.2.1) w2 u2 .n [K394,K395] (by kernel_rfl) (by kernel_rfl) (fun _=>rfl) fun x=>by kernel_rfl
def K205:Kn Tryz.prog VV:=mk 205 Tryz.f205 ⟨[.v .c_i64,.v .c_i64],[.v .c_sFraction,.v .c_i64]⟩ (fun x=>a3k x.1 x.2.1) w2 u2 .n [K307,g5y] (by kernel_rfl) (by kernel_rfl) (fun _=>rfl) fun x=>by kernel_rfl
def g48:Kn Tryz.prog VV:=mk 126 Tryz.f126 ⟨[.v .c_str],[.v .c_sFraction,.v .c_i64,.v .c_bool]⟩ (fun x=>w6 x.1) (fun b=>((b.1,(b.2.1,(b.2.2,()))),())) (fun p=>(p.1.1,p.1.2.1,p.1.2.2.1)) (sk 4 (.s (.s .n (.l [5,6,7] [] [.bx 2 1 114 .c_sFraction,.v 9 .c_i64,.v 10 .c_i64,.v 11 .c_i64] .n)) .n)) [K204,K205] (by kernel_rfl) (by kernel_rfl) (fun _=>rfl) fun x=>by kernel_rfl
def K69:Kn Tryz.prog VV:=mk 69 Tryz.f69 ⟨[.io 161 .c_spensionref5_reader,.v .c_i64,.v .c_i64],[.v .c_i64]⟩ (fun x=>w8 x.1 x.2.1 x.2.2.1) (fun b=>((b.1,()),(b.2,()))) (fun p=>(p.1.1,p.2.1)) .n [f9x,f8y,g48] (by kernel_rfl) (by kernel_rfl) (fun _=>rfl) fun x=>by kernel_rfl
def K128:Kn Tryz.prog VV:=mk 128 Tryz.f128 ⟨[.v .c_str],[.v .c_i64]⟩ (fun x=>a5z x.1) w1 u1 .n [K206] (by kernel_rfl) (by kernel_rfl) (fun _=>rfl) fun x=>by kernel_rfl
def K207:Kn Tryz.prog VV:=mk 207 Tryz.f207 ⟨[.v .c_str],[.v .c_i64]⟩ (fun x=>a9e x.1) w1 u1 .n [] (by kernel_rfl) (by kernel_rfl) (fun _=>rfl) fun x=>by kernel_rfl
def K208:Kn Tryz.prog VV:=mk 208 Tryz.f208 ⟨[.v .c_str],[.v .c_i64]⟩ (fun x=>a6g x.1) w1 u1 .n [] (by kernel_rfl) (by kernel_rfl) (fun _=>rfl) fun x=>by kernel_rfl
def K209:Kn Tryz.prog VV:=mk 209 Tryz.f209 ⟨[.v .c_str],[.v .c_i64]⟩ (fun x=>a98 x.1) w1 u1 .n [] (by kernel_rfl) (by kernel_rfl) (fun _=>rfl) fun x=>by kernel_rfl
def K129:Kn Tryz.prog VV:=mk 129 Tryz.f129 ⟨[.io 161 .c_spensionref5_reader,.v .c_i64],[.v .c_i64]⟩ (fun x=>a0x x.1 x.2.1) (fun b=>((b.1,()),(b.2,()))) (fun p=>(p.1.1,p.2.1)) .n [f9x,f8y,K207,K208,K209] (by kernel_rfl) (by kernel_rfl) (fun _=>rfl) fun x=>by kernel_rfl
def g45:Kn Tryz.prog VV:=mk 402 Tryz.f402 ⟨[.v .c_i64],[.v .c_i64]⟩ (fun x=>a15 x.1) w1 u1 .n [] (by kernel_rfl) (by kernel_rfl) (fun _=>rfl) fun x=>by kernel_rfl
def K399:Kn Tryz.prog VV:=mk 399 Tryz.f399 ⟨[.v .c_i64],[.v .c_i64]⟩ (fun x=>b1l x.1) w1 u1 (.s .n (.s (.s .n (.s .n (.s .n (.s .n (.s .n (.s .n (.s .n (.s .n (.s .n (.j [] [.v 3 .c_i64,.v 12 .c_bool] .n (.s .n (.j [] [.v 3 .c_i64,.v 19 .c_bool] .n .n)))))))))))) .n)) [] (by kernel_rfl) (by kernel_rfl) (fun _=>rfl) fun x=>by kernel_rfl
def K400:Kn Tryz.prog VV:=mk 400 Tryz.f400 ⟨[.v .c_i64],[.v .c_str]⟩ (fun x=>b0s x.1) w1 u1 .n [] (by kernel_rfl) (by kernel_rfl) (fun _=>rfl) fun x=>by kernel_rfl
def K312:Kn Tryz.prog VV:=mk 312 Tryz.f312 ⟨[.rp 161 .c_spensionref5_reader,.v .c_i64],[.v .c_i64]⟩ (fun x=>a36 x.1 x.2.1) w1 u1 (.s .n (.s (.s .n (.l [0,1] [] [.v 5 .c_i64] .n)) .n)) [g3w,K399,K400] (by kernel_rfl) (by kernel_rfl) (fun _=>rfl) fun x=>by kernel_rfl
def d3o:Sig VV:=⟨[.io 161 .c_spensionref5_reader,.v .c_i64],[.v .c_sExpr]⟩
def c46 (R:Ring_pensionref5_reader_expr):Fent VV:=⟨d3o,Expr×pensionref5_reader,fun x=>R.f_pensionref5_reader_expr x.1 x.2.1,fun b=>((b.1,()),(b.2,())),none⟩
def g3n:Fent VV:=c46 (d9 FU)
def f5i:Ress VV d3o.rs×Outs VV d3o.ps -> Expr×pensionref5_reader:=fun p=>(p.1.1,p.2.1)
def f2t:Ann VV.C:=(.s .n (.s .n (.s .n (.s .n (.s (.l [1] [] [.bx 0 0 161 .c_spensionref5_reader,.of 4 4 3 239 .c_sExpr,.bm 4 2 239 .c_sExpr [(4,3)],.bx 8 4 239 .c_sExpr] .n) .n)))))
def d2t:Sig VV:=⟨[.io 161 .c_spensionref5_reader],[.v .c_sExpr]⟩
def d8h (R:Ring_pensionref5_reader_expr):Fent VV:=⟨d2t,Expr×pensionref5_reader,fun x=>R.f_pensionref5_reader_factor x.1,fun b=>((b.1,()),(b.2,())),none⟩
def f3f:Ress VV d2t.rs×Outs VV d2t.ps -> Expr×pensionref5_reader:=fun p=>(p.1.1,p.2.1)
def f2q:Ann VV.C:= .n
def d5r:Sig VV:=⟨[.io 161 .c_spensionref5_reader,.v .c_i64],[.v .c_sExpr]⟩
def d8b (R:Ring_pensionref5_reader_expr):Fent VV:=⟨d5r,Expr×pensionref5_reader,fun x=>R.f_pensionref5_reader_call x.1 x.2.1,fun b=>((b.1,()),(b.2,())),none⟩
def f5m:Ress VV d5r.rs×Outs VV d5r.ps -> Expr×pensionref5_reader:=fun p=>(p.1.1,p.2.1)
def f4x:Ann VV.C:= .n
def f2i (R:Ring_pensionref5_reader_expr):Phi VV:=fun f ys=>lkF f ys [K67.e,K70.e,(210,c46 R),(311,d8h R),K312.e]
theorem f7j (R:Ring_pensionref5_reader_expr) (hr210:SX.Spec Tryz.prog 210 (c46 R)) (hr311:SX.Spec Tryz.prog 311 (d8h R)):OKΦ Tryz.prog (f2i R):=okl ⟨K67.ok,K70.ok,knS rfl ⟨hr210,fun _ _=>by kernel_rfl⟩,knS rfl ⟨hr311,fun _ _=>by kernel_rfl⟩,K312.ok,trivial⟩
theorem g0i (R:Ring_pensionref5_reader_expr): ∀x,c9q Tryz.prog (f2i R) d3o f5i Tryz.f210 f2t x=l8 R x.1 x.2.1:=fun x=>by kernel_rfl
theorem f2a:d04 Tryz.f210 d3o=true:=by kernel_rfl
def f5t (R:Ring_pensionref5_reader_expr):Phi VV:=fun f ys=>lkF f ys [K67.e,K68.e,K69.e,K70.e,f8y.e,g48.e,g3w.e,(210,c46 R),(398,d8b R)]
theorem f8x (R:Ring_pensionref5_reader_expr) (hr210:SX.Spec Tryz.prog 210 (c46 R)) (hr398:SX.Spec Tryz.prog 398 (d8b R)):OKΦ Tryz.prog (f5t R):=okl ⟨K67.ok,K68.ok,K69.ok,K70.ok,f8y.ok,g48.ok,g3w.ok,knS rfl ⟨hr210,fun _ _=>by kernel_rfl⟩,knS rfl ⟨hr398,fun _ _=>by kernel_rfl⟩,trivial⟩
theorem g3b (R:Ring_pensionref5_reader_expr): ∀x,c9q Tryz.prog (f5t R) d2t f3f Tryz.f311 f2q x=k8 R x.1:=fun x=>by kernel_rfl
theorem f51:d04 Tryz.f311 d2t=true:=by kernel_rfl
def f4q (R:Ring_pensionref5_reader_expr):Phi VV:=fun f ys=>lkF f ys [K67.e,(210,c46 R),g45.e]
theorem f6i (R:Ring_pensionref5_reader_expr) (hr210:SX.Spec Tryz.prog 210 (c46 R)):OKΦ Tryz.prog (f4q R):=okl ⟨K67.ok,knS rfl ⟨hr210,fun _ _=>by kernel_rfl⟩,g45.ok,trivial⟩
theorem g0o (R:Ring_pensionref5_reader_expr): ∀x,c9q Tryz.prog (f4q R) d5r f5m Tryz.f398 f4x x=a3a R x.1 x.2.1:=fun x=>by kernel_rfl
theorem f2j:d04 Tryz.f398 d5r=true:=by kernel_rfl
theorem a61: ∀n,SX.Spec Tryz.prog 210 (c46 (d9 n)) /\ SX.Spec Tryz.prog 311 (d8h (d9 n)) /\ SX.Spec Tryz.prog 398 (d8b (d9 n))
 | 0=>⟨(fun _ _ h=>(by cases (show none=some _ from h))),(fun _ _ h=>(by cases (show none=some _ from h))),(fun _ _ h=>(by cases (show none=some _ from h)))⟩
 | n+1=>let ⟨h210,h311,h398⟩:=a61 n;⟨a79 (fe:=c46 (d9 (n+1))) uok (f7j (d9 n) h210 h311) mixed (fn:=Tryz.f210) (by kernel_rfl) f5i f2t (q8 f2a).1 (q8 f2a).2 (fun _=>rfl) (g0i (d9 n)),a79 (fe:=d8h (d9 (n+1))) uok (f8x (d9 n) h210 h398) mixed (fn:=Tryz.f311) (by kernel_rfl) f3f f2q (q8 f51).1 (q8 f51).2 (fun _=>rfl) (g3b (d9 n)),a79 (fe:=d8b (d9 (n+1))) uok (f6i (d9 n) h210) mixed (fn:=Tryz.f398) (by kernel_rfl) f5m f4x (q8 f2j).1 (q8 f2j).2 (fun _=>rfl) (g0o (d9 n))⟩
def K210:Kn Tryz.prog VV:=⟨210,g3n,knS rfl ⟨(a61 FU).1,fun _ _=>by kernel_rfl⟩⟩
def K130:Kn Tryz.prog VV:=mk 130 Tryz.f130 ⟨[.io 161 .c_spensionref5_reader,.im 171 .c_sVersion [(2,2),(3,3),(4,4),(5,5),(6,6)],.po 1 2 232 .c_sCredit,.po 1 3 236 .c_sIndex,.po 1 4 334 .c_sLet,.po 1 5 241 .c_sGrant,.po 1 6 246 .c_sReduce],[]⟩ (fun x=>a38 x.1 x.2.1 x.2.2.1 x.2.2.2.1 x.2.2.2.2.1 x.2.2.2.2.2.1 x.2.2.2.2.2.2.1) (fun b=>((),(b.1,(b.2.1,(b.2.2.1,(b.2.2.2.1,(b.2.2.2.2.1,(b.2.2.2.2.2.1,(b.2.2.2.2.2.2,()))))))))) (fun p=>(p.2.1,p.2.2.1,p.2.2.2.1,p.2.2.2.2.1,p.2.2.2.2.2.1,p.2.2.2.2.2.2.1,p.2.2.2.2.2.2.2.1)) (.s (.s .n (.s (.s .n (.j [] [.bx 0 0 161 .c_spensionref5_reader,.of 1 2 7 232 .c_sCredit,.of 1 3 8 236 .c_sIndex,.of 1 4 9 334 .c_sLet,.of 1 5 10 241 .c_sGrant,.of 1 6 11 246 .c_sReduce,.bm 1 1 171 .c_sVersion [(2,7),(3,8),(4,9),(5,10),(6,11)],.bx 4 12 232 .c_sCredit] .n .n)) (.s .n (.s (.s .n (.j [] [.bx 0 0 161 .c_spensionref5_reader,.of 1 2 7 232 .c_sCredit,.of 1 3 8 236 .c_sIndex,.of 1 4 9 334 .c_sLet,.of 1 5 10 241 .c_sGrant,.of 1 6 11 246 .c_sReduce,.bm 1 1 171 .c_sVersion [(2,7),(3,8),(4,9),(5,10),(6,11)],.bx 6 12 236 .c_sIndex] .n (.j [] [.bx 0 0 161 .c_spensionref5_reader,.of 1 2 7 232 .c_sCredit,.of 1 3 8 236 .c_sIndex,.of 1 4 9 334 .c_sLet,.of 1 5 10 241 .c_sGrant,.of 1 6 11 246 .c_sReduce,.bm 1 1 171 .c_sVersion [(2,7),(3,8),(4,9),(5,10),(6,11)],.bx 6 12 236 .c_sIndex] .n .n))) .n)))) .n) [K67,K68,K69,K70,f9x,f8y,g48,K129,K210] (by kernel_rfl) (by kernel_rfl) (fun _=>rfl) fun x=>by kernel_rfl
def K71:Kn Tryz.prog VV:=mk 71 Tryz.f71 ⟨[.io 161 .c_spensionref5_reader],[.v .c_sVersion]⟩ (fun x=>a2q x.1) (fun b=>((b.1,()),(b.2,()))) (fun p=>(p.1.1,p.2.1)) (sk 3 (.j [] [.bx 0 0 161 .c_spensionref5_reader,.of 2 2 2 232 .c_sCredit,.of 2 3 3 236 .c_sIndex,.of 2 4 4 334 .c_sLet,.of 2 5 5 241 .c_sGrant,.of 2 6 6 246 .c_sReduce,.bm 2 1 171 .c_sVersion [(2,2),(3,3),(4,4),(5,5),(6,6)],.of 3 2 8 232 .c_sCredit,.of 3 3 9 236 .c_sIndex,.of 3 4 10 334 .c_sLet,.of 3 5 11 241 .c_sGrant,.of 3 6 12 246 .c_sReduce,.bm 3 7 171 .c_sVersion [(2,8),(3,9),(4,10),(5,11),(6,12)]] .n (.s .n (.s .n (.s .n (.s .n (.s .n (.s (.l [] [] [.bx 0 0 161 .c_spensionref5_reader,.of 2 2 2 232 .c_sCredit,.of 2 3 3 236 .c_sIndex,.of 2 4 4 334 .c_sLet,.of 2 5 5 241 .c_sGrant,.of 2 6 6 246 .c_sReduce,.bm 2 1 171 .c_sVersion [(2,2),(3,3),(4,4),(5,5),(6,6)],.of 3 2 8 232 .c_sCredit,.of 3 3 9 236 .c_sIndex,.of 3 4 10 334 .c_sLet,.of 3 5 11 241 .c_sGrant,.of 3 6 12 246 .c_sReduce,.bm 3 7 171 .c_sVersion [(2,8),(3,9),(4,10),(5,11),(6,12)]] (.s (.s (.g [5]) .n) .n)) .n)))))))) [K67,K69,K70,f9x,f8y,K128,K129,K130] (by kernel_rfl) (by kernel_rfl) (fun _=>rfl) fun x=>by kernel_rfl
def K72:Kn Tryz.prog VV:=mk 72 Tryz.f72 ⟨[.rp 161 .c_spensionref5_reader],[.v .c_i64]⟩ (fun x=>a9o x.1) w1 u1 .n [] (by kernel_rfl) (by kernel_rfl) (fun _=>rfl) fun x=>by kernel_rfl
def K211:Kn Tryz.prog VV:=mk 211 Tryz.f211 ⟨[.v .c_i64],[.v .c_bool]⟩ (fun x=>a8p x.1) w1 u1 .n [] (by kernel_rfl) (by kernel_rfl) (fun _=>rfl) fun x=>by kernel_rfl
def K212:Kn Tryz.prog VV:=mk 212 Tryz.f212 ⟨[.v .c_sRounding],[.v .c_bool]⟩ (fun x=>a5l x.1) w1 u1 .n [] (by kernel_rfl) (by kernel_rfl) (fun _=>rfl) fun x=>by kernel_rfl
def K213:Kn Tryz.prog VV:=mk 213 Tryz.f213 ⟨[.v .c_i64,.v .c_i64],[.v .c_str]⟩ (fun x=>a3n x.1 x.2.1) w1 u1 (sk 2 (.s (.s .n (.l [0,1] [] [.ow 5 2 9 .c_str,.v 6 .c_i64] .n)) .n)) [K207,K208,K209] (by kernel_rfl) (by kernel_rfl) (fun _=>rfl) fun x=>by kernel_rfl
def K313:Kn Tryz.prog VV:=mk 313 Tryz.f313 ⟨[.v .c_sFraction],[.v .c_bool]⟩ (fun x=>y8 x.1) w1 u1 .n [g5y,K395] (by kernel_rfl) (by kernel_rfl) (fun _=>rfl) fun x=>by kernel_rfl
def K401:Kn Tryz.prog VV:=mk 401 Tryz.f401 ⟨[.v .c_i64,.v .c_i64],[.v .c_str]⟩ (fun x=>a5a x.1 x.2.1) w1 u1 (sk 2 (.s (.l [1] [] [.v 0 .c_i64,.v 5 .c_str] .n) .n)) [] (by kernel_rfl) (by kernel_rfl) (fun _=>rfl) fun x=>by kernel_rfl
def K314:Kn Tryz.prog VV:=mk 314 Tryz.f314 ⟨[.v .c_sFraction],[.v .c_str]⟩ (fun x=>a2p x.1) w1 u1 (sk 3 (.j [] [.bx 1 1 114 .c_sFraction,.v 3 .c_str] .n .n)) [g5y,K313,K401] (by kernel_rfl) (by kernel_rfl) (fun _=>rfl) fun x=>by kernel_rfl
def g69:Kn Tryz.prog VV:=mk 214 Tryz.f214 ⟨[.v .c_sFraction,.v .c_i64],[.v .c_str,.v .c_bool]⟩ (fun x=>s4 x.1 x.2.1) w2 u2 (sk 6 (.j [] [.v 1 .c_i64,.v 7 .c_str,.v 8 .c_i64] .n (.s (.s .n (.l [1] [] [.v 7 .c_str,.v 8 .c_i64,.v 9 .c_i64] .n)) .n))) [K313,K314] (by kernel_rfl) (by kernel_rfl) (fun _=>rfl) fun x=>by kernel_rfl
def d4y:Sig VV:=⟨[.v .c_sExpr],[.v .c_i64]⟩
def d3h (R:Ring_pensionref5_Depth):Fent VV:=⟨d4y,Int,fun x=>R.f_pensionref5_Depth x.1,fun b=>((b,()),()),none⟩
def g0d:Fent VV:=d3h (a03 FU)
def f3d:Ress VV d4y.rs×Outs VV d4y.ps -> Int:=fun p=>p.1.1
def f4g:Ann VV.C:=(.s .n (.s .n (.s (.s .n (.l [] [] [.bx 1 1 239 .c_sExpr,.v 3 .c_i64,.v 4 .c_i64] .n)) .n)))
def f3v (R:Ring_pensionref5_Depth):Phi VV:=fun f ys=>lkF f ys [(315,d3h R)]
theorem f5y (R:Ring_pensionref5_Depth) (hr315:SX.Spec Tryz.prog 315 (d3h R)):OKΦ Tryz.prog (f3v R):=okl ⟨knS rfl ⟨hr315,fun _ _=>by kernel_rfl⟩,trivial⟩
theorem g2q (R:Ring_pensionref5_Depth): ∀x,c9q Tryz.prog (f3v R) d4y f3d Tryz.f315 f4g x=a6o R x.1:=fun x=>by kernel_rfl
theorem f3p:d04 Tryz.f315 d4y=true:=by kernel_rfl
theorem a91: ∀n,SX.Spec Tryz.prog 315 (d3h (a03 n))
 | 0=>(fun _ _ h=>(by cases (show none=some _ from h)))
 | n+1=>let h315:=a91 n;a79 (fe:=d3h (a03 (n+1))) uok (f5y (a03 n) h315) mixed (fn:=Tryz.f315) (by kernel_rfl) f3d f4g (q8 f3p).1 (q8 f3p).2 (fun _=>rfl) (g2q (a03 n))
def K315:Kn Tryz.prog VV:=⟨315,g0d,knS rfl ⟨(a91 FU),fun _ _=>by kernel_rfl⟩⟩
def d3u:Sig VV:=⟨[.v .c_sExpr],[.v .c_i64]⟩
def d5t (R:Ring_pensionref5_Size):Fent VV:=⟨d3u,Int,fun x=>R.f_pensionref5_Size x.1,fun b=>((b,()),()),none⟩
def g29:Fent VV:=d5t (a07 FU)
def f2w:Ress VV d3u.rs×Outs VV d3u.ps -> Int:=fun p=>p.1.1
def f3q:Ann VV.C:=(.s .n (.s .n (.s (.s .n (.l [] [] [.bx 1 1 239 .c_sExpr,.v 3 .c_i64,.v 4 .c_i64] .n)) .n)))
def f4r (R:Ring_pensionref5_Size):Phi VV:=fun f ys=>lkF f ys [(316,d5t R)]
theorem f7v (R:Ring_pensionref5_Size) (hr316:SX.Spec Tryz.prog 316 (d5t R)):OKΦ Tryz.prog (f4r R):=okl ⟨knS rfl ⟨hr316,fun _ _=>by kernel_rfl⟩,trivial⟩
theorem g2g (R:Ring_pensionref5_Size): ∀x,c9q Tryz.prog (f4r R) d3u f2w Tryz.f316 f3q x=a7j R x.1:=fun x=>by kernel_rfl
theorem f4f:d04 Tryz.f316 d3u=true:=by kernel_rfl
theorem a9s: ∀n,SX.Spec Tryz.prog 316 (d5t (a07 n))
 | 0=>(fun _ _ h=>(by cases (show none=some _ from h)))
 | n+1=>let h316:=a9s n;a79 (fe:=d5t (a07 (n+1))) uok (f7v (a07 n) h316) mixed (fn:=Tryz.f316) (by kernel_rfl) f2w f3q (q8 f4f).1 (q8 f4f).2 (fun _=>rfl) (g2g (a07 n))
def K316:Kn Tryz.prog VV:=⟨316,g29,knS rfl ⟨(a9s FU),fun _ _=>by kernel_rfl⟩⟩
def d3g:Sig VV:=⟨[.v .c_sExpr],[.v .c_bool]⟩
def d3j (R:Ring_pensionref5_formed):Fent VV:=⟨d3g,Bool,fun x=>R.f_pensionref5_formed x.1,fun b=>((b,()),()),none⟩
def g3p:Fent VV:=d3j (i7 FU)
def f3w:Ress VV d3g.rs×Outs VV d3g.ps -> Bool:=fun p=>p.1.1
def f4n:Ann VV.C:=(.s .n (.s .n (.s .n (.s .n (.s (.s .n (.l [3] [] [.bx 1 1 239 .c_sExpr,.v 6 .c_i64] .n)) .n)))))
def f4s (R:Ring_pensionref5_formed):Phi VV:=fun f ys=>lkF f ys [g1y.e,g69.e,(317,d3j R),g45.e]
theorem f6p (R:Ring_pensionref5_formed) (hr317:SX.Spec Tryz.prog 317 (d3j R)):OKΦ Tryz.prog (f4s R):=okl ⟨g1y.ok,g69.ok,knS rfl ⟨hr317,fun _ _=>by kernel_rfl⟩,g45.ok,trivial⟩
theorem g0a (R:Ring_pensionref5_formed): ∀x,c9q Tryz.prog (f4s R) d3g f3w Tryz.f317 f4n x=p4 R x.1:=fun x=>by kernel_rfl
theorem f3c:d04 Tryz.f317 d3g=true:=by kernel_rfl
theorem a8o: ∀n,SX.Spec Tryz.prog 317 (d3j (i7 n))
 | 0=>(fun _ _ h=>(by cases (show none=some _ from h)))
 | n+1=>let h317:=a8o n;a79 (fe:=d3j (i7 (n+1))) uok (f6p (i7 n) h317) mixed (fn:=Tryz.f317) (by kernel_rfl) f3w f4n (q8 f3c).1 (q8 f3c).2 (fun _=>rfl) (g0a (i7 n))
def K317:Kn Tryz.prog VV:=⟨317,g3p,knS rfl ⟨(a8o FU),fun _ _=>by kernel_rfl⟩⟩
def K215:Kn Tryz.prog VV:=mk 215 Tryz.f215 ⟨[.v .c_sExpr],[.v .c_bool]⟩ (fun x=>y4 x.1) w1 u1 .n [K315,K316,K317] (by kernel_rfl) (by kernel_rfl) (fun _=>rfl) fun x=>by kernel_rfl
def K131:Kn Tryz.prog VV:=mk 131 Tryz.f131 ⟨[.v .c_sVersion],[.v .c_bool]⟩ (fun x=>a3l x.1) w1 u1 (sk 2 (.s (.s .n (.l [] [] [.bx 1 1 171 .c_sVersion,.v 3 .c_i64] .n)) (.s (.s .n (.l [] [] [.bx 1 1 171 .c_sVersion,.v 4 .c_i64] .n)) (.s (.s .n (.l [] [] [.bx 1 1 171 .c_sVersion,.v 7 .c_i64] .n)) (.s (.s .n (.l [] [] [.bx 1 1 171 .c_sVersion,.v 8 .c_i64] .n)) (.s (.s .n (.l [] [] [.bx 1 1 171 .c_sVersion,.v 9 .c_i64] .n)) .n)))))) [g1y,K211,K212,K213,g69,K215] (by kernel_rfl) (by kernel_rfl) (fun _=>rfl) fun x=>by kernel_rfl
def K73:Kn Tryz.prog VV:=mk 73 Tryz.f73 ⟨[.v .c_sStatute],[.v .c_bool]⟩ (fun x=>a4k x.1) w1 u1 (sk 2 (.s (.s .n (.l [] [] [.bx 1 1 77 .c_sStatute,.v 3 .c_i64] .n)) .n)) [g1y,K131] (by kernel_rfl) (by kernel_rfl) (fun _=>rfl) fun x=>by kernel_rfl
def K39:Kn Tryz.prog VV:=mk 39 Tryz.f39 ⟨[.v .c_str],[.v .c_sStatute,.v .c_i64,.v .c_i64]⟩ (fun x=>a32 x.1) (fun b=>((b.1,(b.2.1,(b.2.2,()))),())) (fun p=>(p.1.1,p.1.2.1,p.1.2.2.1)) (sk 8 (.j [] [.of 2 2 2 171 .c_sVersion,.bm 2 1 77 .c_sStatute [(2,2)],.bx 5 3 161 .c_spensionref5_reader,.of 8 2 5 171 .c_sVersion,.bm 8 4 77 .c_sStatute [(2,5)]] (.s .n (.l [] [] [.of 2 2 2 171 .c_sVersion,.bm 2 1 77 .c_sStatute [(2,2)],.bx 5 3 161 .c_spensionref5_reader,.of 8 2 5 171 .c_sVersion,.bm 8 4 77 .c_sStatute [(2,5)],.v 9 .c_bool] (.j [] [.of 2 2 2 171 .c_sVersion,.bm 2 1 77 .c_sStatute [(2,2)],.bx 5 3 161 .c_spensionref5_reader,.of 8 2 5 171 .c_sVersion,.bm 8 4 77 .c_sStatute [(2,5)]] (.s (.g [5,7]) .n) .n))) .n)) [K66,K67,K68,K69,K70,K71,K72,K73] (by kernel_rfl) (by kernel_rfl) (fun _=>rfl) fun x=>by kernel_rfl
def K19:Kn Tryz.prog VV:=mk 19 Tryz.f19 ⟨[.ls .c_i64],[.v .c_sLaws]⟩ (fun x=>a9a x.1) w1 u1 (sk 2 (.s (.s .n (.l [0] [] [.of 2 0 2 79 .c_sState,.of 2 1 3 121 .c_sRules,.of 2 2 4 116 .c_sRate,.bm 2 1 31 .c_sLaws [(0,2),(1,3),(2,4)],.of 3 0 6 79 .c_sState,.of 3 1 7 121 .c_sRules,.bm 3 5 31 .c_sLaws [(0,6),(1,7)],.v 4 .c_i64] .n)) .n)) [K5,K37,K39,K40] (by kernel_rfl) (by kernel_rfl) (fun _=>rfl) fun x=>by kernel_rfl
def K20:Kn Tryz.prog VV:=mk 20 Tryz.f20 ⟨[.ls .c_spensionhand_Claim],[.ow 46 .c_sClaim]⟩ (fun x=>a7k x.1) w1 u1 (sk 2 (.s (.s .n (.l [0] [] [.ow 3 1 46 .c_sClaim,.v 4 .c_i64] .n)) .n)) [K5] (by kernel_rfl) (by kernel_rfl) (fun _=>rfl) fun x=>by kernel_rfl
def K21:Kn Tryz.prog VV:=mk 21 Tryz.f21 ⟨[.v .c_i64],[.ow 46 .c_sClaim]⟩ (fun x=>b0a x.1) w1 u1 .n [K5] (by kernel_rfl) (by kernel_rfl) (fun _=>rfl) fun x=>by kernel_rfl
def K10:Kn Tryz.prog VV:=mk 10 Tryz.f10 ⟨[.v .c_spensionlaw26_Seeds],[.v .c_sLaws,.ow 109 .c_sapi_Fact,.ow 46 .c_sClaim]⟩ (fun x=>a60 x.1) (fun b=>((b.1,(b.2.1,(b.2.2,()))),())) (fun p=>(p.1.1,p.1.2.1,p.1.2.2.1)) .n [K17,K18,K19,K20,K21] (by kernel_rfl) (by kernel_rfl) (fun _=>rfl) fun x=>by kernel_rfl
def K4:Kn Tryz.prog VV:=mk 4 Tryz.f4 ⟨[.v .c_spensionlaw26_Seeds],[.v .c_sLaws,.ow 109 .c_sapi_Fact,.ls .c_sClaim]⟩ (fun x=>a7l x.1) (fun b=>((b.1,(b.2.1,(b.2.2,()))),())) (fun p=>(p.1.1,p.1.2.1,p.1.2.2.1)) (sk 2 (.s (.s .n (.l [18] [] [.bx 1 1 26 .c_spensionlaw26_Seeds,.of 2 0 3 79 .c_sState,.of 2 1 4 121 .c_sRules,.of 2 2 5 116 .c_sRate,.bm 2 2 31 .c_sLaws [(0,3),(1,4),(2,5)],.bx 5 6 31 .c_sLaws,.ow 6 7 109 .c_sapi_Fact,.ow 7 8 46 .c_sClaim,.v 19 .c_i64] .n)) .n)) [K5,K10] (by kernel_rfl) (by kernel_rfl) (fun _=>rfl) fun x=>by kernel_rfl
def K318:Kn Tryz.prog VV:=mk 318 Tryz.f318 ⟨[.v .c_u8],[.v .c_bool]⟩ (fun x=>c1v x.1) w1 u1 .n [] (by kernel_rfl) (by kernel_rfl) (fun _=>rfl) fun x=>by kernel_rfl
def K403:Kn Tryz.prog VV:=mk 403 Tryz.f403 ⟨[.v .c_u8],[.v .c_bool]⟩ (fun x=>b88 x.1) w1 u1 .n [] (by kernel_rfl) (by kernel_rfl) (fun _=>rfl) fun x=>by kernel_rfl
def K319:Kn Tryz.prog VV:=mk 319 Tryz.f319 ⟨[.v .c_u8],[.v .c_bool]⟩ (fun x=>c5o x.1) w1 u1 .n [K318,K403] (by kernel_rfl) (by kernel_rfl) (fun _=>rfl) fun x=>by kernel_rfl
def K216:Kn Tryz.prog VV:=mk 216 Tryz.f216 ⟨[.v .c_str],[.v .c_bool]⟩ (fun x=>c58 x.1) w1 u1 (sk 2 (.s (.s .n (.l [0] [] [.v 3 .c_i64] .n)) .n)) [K318,K319] (by kernel_rfl) (by kernel_rfl) (fun _=>rfl) fun x=>by kernel_rfl
def K217:Kn Tryz.prog VV:=mk 217 Tryz.f217 ⟨[.v .c_str],[.v .c_bool]⟩ (fun x=>c15 x.1) w1 u1 .n [] (by kernel_rfl) (by kernel_rfl) (fun _=>rfl) fun x=>by kernel_rfl
def g5h:Kn Tryz.prog VV:=mk 133 Tryz.f133 ⟨[.v .c_str],[.v .c_bool]⟩ (fun x=>a5d x.1) w1 u1 .n [K216,K217] (by kernel_rfl) (by kernel_rfl) (fun _=>rfl) fun x=>by kernel_rfl
def g61:Kn Tryz.prog VV:=mk 143 Tryz.f143 ⟨[.v .c_i64],[.v .c_bool]⟩ (fun x=>a4h x.1) w1 u1 .n [] (by kernel_rfl) (by kernel_rfl) (fun _=>rfl) fun x=>by kernel_rfl
def K219:Kn Tryz.prog VV:=mk 219 Tryz.f219 ⟨[],[.ow 440 .c_ssyntax_entry]⟩ (fun x=>b56) w1 u1 .n [] (by kernel_rfl) (by kernel_rfl) (fun _=>rfl) fun x=>by kernel_rfl
def K321:Kn Tryz.prog VV:=mk 321 Tryz.f321 ⟨[.v .c_ssyntax_entry,.rp 3 .c_i64],[.v .c_bool]⟩ (fun x=>b74 x.1 x.2.1) w1 u1 .n [] (by kernel_rfl) (by kernel_rfl) (fun _=>rfl) fun x=>by kernel_rfl
def e9g:Kn Tryz.prog VV:=mk 320 Tryz.f320 ⟨[.ls .c_ssyntax_entry,.cl 321 [.c_i64]],[.v .c_i64]⟩ (fun x=>a0s x.1 x.2.1.1) w1 u1 (.s .n (.s (.s .n (.l [0,1,7] [] [.v 8 .c_i64] .n)) .n)) [K321] (by kernel_rfl) (by kernel_rfl) (fun _=>rfl) fun x=>by kernel_rfl
def K218:Kn Tryz.prog VV:=mk 218 Tryz.f218 ⟨[.ls .c_ssyntax_entry,.v .c_i64],[.v .c_str]⟩ (fun x=>a1h x.1 x.2.1) w1 u1 .n [e9g] (by kernel_rfl) (by kernel_rfl) (fun _=>rfl) fun x=>by kernel_rfl
def K220:Kn Tryz.prog VV:=mk 220 Tryz.f220 ⟨[],[.ow 440 .c_ssyntax_entry]⟩ (fun x=>b5v) w1 u1 .n [] (by kernel_rfl) (by kernel_rfl) (fun _=>rfl) fun x=>by kernel_rfl
def K461:Kn Tryz.prog VV:=mk 461 Tryz.f461 ⟨[.v .c_str,.v .c_u8],[.v .c_i64]⟩ (fun x=>a7t x.1 x.2.1) w1 u1 .n [K521] (by kernel_rfl) (by kernel_rfl) (fun _=>rfl) fun x=>by kernel_rfl
def K411:Kn Tryz.prog VV:=mk 411 Tryz.f411 ⟨[.v .c_str,.v .c_str],[.v .c_i64]⟩ (fun x=>a5v x.1 x.2.1) w1 u1 .n [K461] (by kernel_rfl) (by kernel_rfl) (fun _=>rfl) fun x=>by kernel_rfl
def K519:Kn Tryz.prog VV:=mk 519 Tryz.f519 ⟨[.v .c_str,.v .c_str],[.v .c_str,.v .c_str,.v .c_bool]⟩ (fun x=>b4y x.1 x.2.1) (fun b=>((b.1,(b.2.1,(b.2.2,()))),())) (fun p=>(p.1.1,p.1.2.1,p.1.2.2.1)) .n [K411] (by kernel_rfl) (by kernel_rfl) (fun _=>rfl) fun x=>by kernel_rfl
def K456:Kn Tryz.prog VV:=mk 456 Tryz.f456 ⟨[.v .c_str,.v .c_str],[.v .c_str,.v .c_str,.v .c_bool]⟩ (fun x=>b7m x.1 x.2.1) (fun b=>((b.1,(b.2.1,(b.2.2,()))),())) (fun p=>(p.1.1,p.1.2.1,p.1.2.2.1)) .n [K519] (by kernel_rfl) (by kernel_rfl) (fun _=>rfl) fun x=>by kernel_rfl
def K457:Kn Tryz.prog VV:=mk 457 Tryz.f457 ⟨[.v .c_str],[.v .c_i64,.v .c_bool]⟩ (fun x=>a6k x.1) w2 u2 (.s .n (.s (.s .n (.l [0] [] [.v 2 .c_i64,.v 4 .c_i64] .n)) .n)) [K403] (by kernel_rfl) (by kernel_rfl) (fun _=>rfl) fun x=>by kernel_rfl
def K405:Kn Tryz.prog VV:=mk 405 Tryz.f405 ⟨[.v .c_str],[.v .c_sFraction,.v .c_i64,.v .c_bool]⟩ (fun x=>b3u x.1) (fun b=>((b.1,(b.2.1,(b.2.2,()))),())) (fun p=>(p.1.1,p.1.2.1,p.1.2.2.1)) (sk 2 (.j [] [.v 0 .c_str,.bx 2 1 114 .c_sFraction,.v 3 .c_i64] .n (.s .n (.s .n (.s .n (.s .n (.s .n (.s .n (.j [] [.bx 2 1 114 .c_sFraction,.v 3 .c_i64,.v 9 .c_i64,.v 11 .c_i64] (.s .n (.l [3,11] [] [.bx 2 1 114 .c_sFraction,.v 9 .c_i64,.it 100 2] .n)) (.s .n (.s (.s .n (.l [3,113] [] [.bx 2 1 114 .c_sFraction,.v 114 .c_i64] (.s .n (.s .n (.s (.s .n (.l [3,14,113,114] [] [.bx 2 1 114 .c_sFraction] .n)) .n))))) .n))))))))))) [K456,K457] (by kernel_rfl) (by kernel_rfl) (fun _=>rfl) fun x=>by kernel_rfl
def K322:Kn Tryz.prog VV:=mk 322 Tryz.f322 ⟨[.v .c_sFraction,.v .c_i64],[.v .c_str,.v .c_bool]⟩ (fun x=>a0c x.1 x.2.1) w2 u2 (sk 4 (.s (.s .n (.l [1] [] [.bx 2 2 114 .c_sFraction,.v 6 .c_str,.v 7 .c_i64,.v 8 .c_i64] (.s .n (.s (.j [] [.v 1 .c_i64,.bx 2 2 114 .c_sFraction,.v 6 .c_str,.v 7 .c_i64,.v 8 .c_i64] .n .n) .n)))) (.j [] [.v 1 .c_i64,.bx 2 2 114 .c_sFraction,.v 6 .c_str] .n .n))) [K404,K405] (by kernel_rfl) (by kernel_rfl) (fun _=>rfl) fun x=>by kernel_rfl
def K323:Kn Tryz.prog VV:=mk 323 Tryz.f323 ⟨[.v .c_i64],[.v .c_bool]⟩ (fun x=>b2x x.1) w1 u1 .n [] (by kernel_rfl) (by kernel_rfl) (fun _=>rfl) fun x=>by kernel_rfl
def K221:Kn Tryz.prog VV:=mk 221 Tryz.f221 ⟨[.v .c_sIndex],[.v .c_bool]⟩ (fun x=>b1x x.1) w1 u1 .n [K322,K323] (by kernel_rfl) (by kernel_rfl) (fun _=>rfl) fun x=>by kernel_rfl
def d3x:Sig VV:=⟨[.v .c_sExpr],[.v .c_i64]⟩
def d4d (R:Ring_syntax_Depth):Fent VV:=⟨d3x,Int,fun x=>R.f_syntax_Depth x.1,fun b=>((b,()),()),none⟩
def g0z:Fent VV:=d4d (a1r FU)
def f3n:Ress VV d3x.rs×Outs VV d3x.ps -> Int:=fun p=>p.1.1
def f4k:Ann VV.C:=(.s .n (.s .n (.s (.s .n (.l [7,8] [] [.v 3 .c_i64,.v 9 .c_i64] .n)) .n)))
def f35 (R:Ring_syntax_Depth):Phi VV:=fun f ys=>lkF f ys [(324,d4d R)]
theorem f7d (R:Ring_syntax_Depth) (hr324:SX.Spec Tryz.prog 324 (d4d R)):OKΦ Tryz.prog (f35 R):=okl ⟨knS rfl ⟨hr324,fun _ _=>by kernel_rfl⟩,trivial⟩
theorem g31 (R:Ring_syntax_Depth): ∀x,c9q Tryz.prog (f35 R) d3x f3n Tryz.f324 f4k x=b21 R x.1:=fun x=>by kernel_rfl
theorem f4v:d04 Tryz.f324 d3x=true:=by kernel_rfl
theorem b3s: ∀n,SX.Spec Tryz.prog 324 (d4d (a1r n))
 | 0=>(fun _ _ h=>(by cases (show none=some _ from h)))
 | n+1=>let h324:=b3s n;a79 (fe:=d4d (a1r (n+1))) uok (f7d (a1r n) h324) mixed (fn:=Tryz.f324) (by kernel_rfl) f3n f4k (q8 f4v).1 (q8 f4v).2 (fun _=>rfl) (g31 (a1r n))
def K324:Kn Tryz.prog VV:=⟨324,g0z,knS rfl ⟨(b3s FU),fun _ _=>by kernel_rfl⟩⟩
def d5u:Sig VV:=⟨[.v .c_sExpr],[.v .c_i64]⟩
def d54 (R:Ring_syntax_Size):Fent VV:=⟨d5u,Int,fun x=>R.f_syntax_Size x.1,fun b=>((b,()),()),none⟩
def g26:Fent VV:=d54 (a2n FU)
def f2r:Ress VV d5u.rs×Outs VV d5u.ps -> Int:=fun p=>p.1.1
def f4u:Ann VV.C:=(.s .n (.s .n (.s (.s .n (.l [7,8] [] [.v 3 .c_i64,.v 9 .c_i64] .n)) .n)))
def f2b (R:Ring_syntax_Size):Phi VV:=fun f ys=>lkF f ys [(325,d54 R)]
theorem f7r (R:Ring_syntax_Size) (hr325:SX.Spec Tryz.prog 325 (d54 R)):OKΦ Tryz.prog (f2b R):=okl ⟨knS rfl ⟨hr325,fun _ _=>by kernel_rfl⟩,trivial⟩
theorem g21 (R:Ring_syntax_Size): ∀x,c9q Tryz.prog (f2b R) d5u f2r Tryz.f325 f4u x=b3x R x.1:=fun x=>by kernel_rfl
theorem f2e:d04 Tryz.f325 d5u=true:=by kernel_rfl
theorem b4n: ∀n,SX.Spec Tryz.prog 325 (d54 (a2n n))
 | 0=>(fun _ _ h=>(by cases (show none=some _ from h)))
 | n+1=>let h325:=b4n n;a79 (fe:=d54 (a2n (n+1))) uok (f7r (a2n n) h325) mixed (fn:=Tryz.f325) (by kernel_rfl) f2r f4u (q8 f2e).1 (q8 f2e).2 (fun _=>rfl) (g21 (a2n n))
def K325:Kn Tryz.prog VV:=⟨325,g26,knS rfl ⟨(b4n FU),fun _ _=>by kernel_rfl⟩⟩
def K458:Kn Tryz.prog VV:=mk 458 Tryz.f458 ⟨[.v .c_i64],[.v .c_i64]⟩ (fun x=>a6d x.1) w1 u1 .n [] (by kernel_rfl) (by kernel_rfl) (fun _=>rfl) fun x=>by kernel_rfl
def K406:Kn Tryz.prog VV:=mk 406 Tryz.f406 ⟨[.v .c_sExpr],[.v .c_bool]⟩ (fun x=>a30 x.1) w1 u1 .n [g5h,K322,K458] (by kernel_rfl) (by kernel_rfl) (fun _=>rfl) fun x=>by kernel_rfl
def d4l:Sig VV:=⟨[.v .c_sExpr],[.v .c_bool]⟩
def d47 (R:Ring_syntax_form):Fent VV:=⟨d4l,Bool,fun x=>R.f_syntax_form x.1,fun b=>((b,()),()),none⟩
def g0w:Fent VV:=d47 (g7 FU)
def f5e:Ress VV d4l.rs×Outs VV d4l.ps -> Bool:=fun p=>p.1.1
def f5x:Ann VV.C:= .n
def d58:Sig VV:=⟨[.v .c_sExpr],[.v .c_bool]⟩
def d9m (R:Ring_syntax_form):Fent VV:=⟨d58,Bool,fun x=>R.f_syntax_form_1 x.1,fun b=>((b,()),()),none⟩
def f2k:Ress VV d58.rs×Outs VV d58.ps -> Bool:=fun p=>p.1.1
def f5v:Ann VV.C:= .n
def b6q:Sig VV:=⟨[.ls .c_sExpr,.cl 408 []],[.v .c_bool]⟩
def c0l (R:Ring_syntax_form):Fent VV:=⟨b6q,Bool,fun x=>R.f_slices_ContainsFunc_of_api_Expr x.1,fun b=>((b,()),()),none⟩
def c9a:Ress VV b6q.rs×Outs VV b6q.ps -> Bool:=fun p=>p.1.1
def d0b:Ann VV.C:= .n
def b6v:Sig VV:=⟨[.ls .c_sExpr,.cl 408 []],[.v .c_i64]⟩
def c0g (R:Ring_syntax_form):Fent VV:=⟨b6v,Int,fun x=>R.f_slices_IndexFunc_of_api_Expr x.1,fun b=>((b,()),()),none⟩
def d0n:Ress VV b6v.rs×Outs VV b6v.ps -> Int:=fun p=>p.1.1
def c9g:Ann VV.C:=(.s .n (.s (.s .n (.l [0,1,7] [] [.v 8 .c_i64] .n)) .n))
def f5w (R:Ring_syntax_form):Phi VV:=fun f ys=>lkF f ys [K406.e,(407,c0l R)]
theorem f7g (R:Ring_syntax_form) (hr407:SX.Spec Tryz.prog 407 (c0l R)):OKΦ Tryz.prog (f5w R):=okl ⟨K406.ok,knS rfl ⟨hr407,fun _ _=>by kernel_rfl⟩,trivial⟩
theorem g3g (R:Ring_syntax_form): ∀x,c9q Tryz.prog (f5w R) d4l f5e Tryz.f326 f5x x=b3t R x.1:=fun x=>by kernel_rfl
theorem f5p:d04 Tryz.f326 d4l=true:=by kernel_rfl
def f34 (R:Ring_syntax_form):Phi VV:=fun f ys=>lkF f ys [(326,d47 R)]
theorem f7l (R:Ring_syntax_form) (hr326:SX.Spec Tryz.prog 326 (d47 R)):OKΦ Tryz.prog (f34 R):=okl ⟨knS rfl ⟨hr326,fun _ _=>by kernel_rfl⟩,trivial⟩
theorem g0b (R:Ring_syntax_form): ∀x,c9q Tryz.prog (f34 R) d58 f2k Tryz.f408 f5v x=b01 R x.1:=fun x=>by kernel_rfl
theorem f2m:d04 Tryz.f408 d58=true:=by kernel_rfl
def c9x (R:Ring_syntax_form):Phi VV:=fun f ys=>lkF f ys [(459,c0g R)]
theorem d6g (R:Ring_syntax_form) (hr459:SX.Spec Tryz.prog 459 (c0g R)):OKΦ Tryz.prog (c9x R):=okl ⟨knS rfl ⟨hr459,fun _ _=>by kernel_rfl⟩,trivial⟩
theorem e11 (R:Ring_syntax_form): ∀x,c9q Tryz.prog (c9x R) b6q c9a Tryz.f407 d0b x=p8 R x.1:=fun x=>by kernel_rfl
theorem d06:d04 Tryz.f407 b6q=true:=by kernel_rfl
def c9p (R:Ring_syntax_form):Phi VV:=fun f ys=>lkF f ys [(408,d9m R)]
theorem d66 (R:Ring_syntax_form) (hr408:SX.Spec Tryz.prog 408 (d9m R)):OKΦ Tryz.prog (c9p R):=okl ⟨knS rfl ⟨hr408,fun _ _=>by kernel_rfl⟩,trivial⟩
theorem e2c (R:Ring_syntax_form): ∀x,c9q Tryz.prog (c9p R) b6v d0n Tryz.f459 c9g x=m7 R x.1:=fun x=>by kernel_rfl
theorem c9n:d04 Tryz.f459 b6v=true:=by kernel_rfl
theorem b45: ∀n,SX.Spec Tryz.prog 326 (d47 (g7 n)) /\ SX.Spec Tryz.prog 408 (d9m (g7 n)) /\ SX.Spec Tryz.prog 407 (c0l (g7 n)) /\ SX.Spec Tryz.prog 459 (c0g (g7 n))
 | 0=>⟨(fun _ _ h=>(by cases (show none=some _ from h))),(fun _ _ h=>(by cases (show none=some _ from h))),(fun _ _ h=>(by cases (show none=some _ from h))),(fun _ _ h=>(by cases (show none=some _ from h)))⟩
 | n+1=>let ⟨h326,h408,h407,h459⟩:=b45 n;⟨a79 (fe:=d47 (g7 (n+1))) uok (f7g (g7 n) h407) mixed (fn:=Tryz.f326) (by kernel_rfl) f5e f5x (q8 f5p).1 (q8 f5p).2 (fun _=>rfl) (g3g (g7 n)),a79 (fe:=d9m (g7 (n+1))) uok (f7l (g7 n) h326) mixed (fn:=Tryz.f408) (by kernel_rfl) f2k f5v (q8 f2m).1 (q8 f2m).2 (fun _=>rfl) (g0b (g7 n)),a79 (fe:=c0l (g7 (n+1))) uok (d6g (g7 n) h459) mixed (fn:=Tryz.f407) (by kernel_rfl) c9a d0b (q8 d06).1 (q8 d06).2 (fun _=>rfl) (e11 (g7 n)),a79 (fe:=c0g (g7 (n+1))) uok (d66 (g7 n) h408) mixed (fn:=Tryz.f459) (by kernel_rfl) d0n c9g (q8 c9n).1 (q8 c9n).2 (fun _=>rfl) (e2c (g7 n))⟩
def K326:Kn Tryz.prog VV:=⟨326,g0w,knS rfl ⟨(b45 FU).1,fun _ _=>by kernel_rfl⟩⟩
def g67:Kn Tryz.prog VV:=mk 222 Tryz.f222 ⟨[.v .c_sExpr],[.v .c_bool]⟩ (fun x=>a0j x.1) w1 u1 .n [K324,K325,K326] (by kernel_rfl) (by kernel_rfl) (fun _=>rfl) fun x=>by kernel_rfl
def K223:Kn Tryz.prog VV:=mk 223 Tryz.f223 ⟨[],[.ow 440 .c_ssyntax_entry]⟩ (fun x=>a7r) w1 u1 .n [] (by kernel_rfl) (by kernel_rfl) (fun _=>rfl) fun x=>by kernel_rfl
def K134:Kn Tryz.prog VV:=mk 134 Tryz.f134 ⟨[.v .c_sVersion],[.v .c_bool]⟩ (fun x=>a6h x.1) w1 u1 (.s .n (.j [] [.bx 1 1 171 .c_sVersion] (.s (.g [4]) .n) (.s .n (.j [] [.bx 1 1 171 .c_sVersion] (.s .n (.l [66,67] [] [.bx 1 1 171 .c_sVersion,.v 68 .c_i64] .n)) (.j [] [.bx 1 1 171 .c_sVersion] (.s .n (.l [89,90] [] [.bx 1 1 171 .c_sVersion,.v 91 .c_i64] .n)) (.j [] [.bx 1 1 171 .c_sVersion] (.s .n (.l [100,101] [] [.bx 1 1 171 .c_sVersion,.v 102 .c_i64] .n)) (.j [] [.bx 1 1 171 .c_sVersion] (.s .n (.l [118,119] [] [.bx 1 1 171 .c_sVersion,.v 120 .c_i64] .n)) (.s (.s .n (.l [143,144] [] [.v 145 .c_i64] .n)) .n)))))))) [g5h,g61,K218,K219,K220,K221,g67,K223] (by kernel_rfl) (by kernel_rfl) (fun _=>rfl) fun x=>by kernel_rfl
def K76:Kn Tryz.prog VV:=mk 76 Tryz.f76 ⟨[.v .c_sStatute],[.v .c_bool]⟩ (fun x=>b5q x.1) w1 u1 (sk 2 (.s (.s .n (.l [32,33] [] [.v 34 .c_i64] .n)) .n)) [g5h,K134] (by kernel_rfl) (by kernel_rfl) (fun _=>rfl) fun x=>by kernel_rfl
def d53:Sig VV:=⟨[.v .c_str],[.v .c_i64,.v .c_bool]⟩
def e2r:Fent VV:=⟨d53,Int×Bool,fun x=>a7w x.1,fun b=>((b.1,(b.2,())),()),none⟩
def g0p:Ress VV d53.rs×Outs VV d53.ps -> Int×Bool:=fun p=>(p.1.1,p.1.2.1)
def g2l:Ann VV.C:=(.s .n (.s (.s .n (.j [] [.v 4 .c_str,.v 5 .c_bool] .n (.s .n (.j [] [.v 4 .c_str,.v 9 .c_bool] .n .n)))) .n))
theorem f4t:SX.Spec Tryz.prog 224 e2r:=a79 (fe:=e2r) uok (okl (g4d [])) mixed (fn:=Tryz.f224) (by kernel_rfl) g0p g2l (q8 (s:=d53) (by kernel_rfl)).1 (q8 (s:=d53) (by kernel_rfl)).2 (fun _=>rfl) fun x=>by kernel_rfl
def K224:Kn Tryz.prog VV:=⟨224,e2r,knS rfl ⟨f4t,fun _ _=>by kernel_rfl⟩⟩
def f3k:Fent VV:=⟨⟨[.v .c_str,.ls .c_sBinding],[.v .c_i64,.v .c_bool]⟩,Int×Bool,fun x=>a6e x.1 x.2.1,fun b=>((b.1,b.2,()),()),none⟩
theorem g07:SX.Spec Tryz.prog 409 f3k:=d7m f4t
def K409:Kn Tryz.prog VV:=⟨409,f3k,knS rfl ⟨g07,fun _ _=>by kernel_rfl⟩⟩
def K225:Kn Tryz.prog VV:=mk 225 Tryz.f225 ⟨[.v .c_str],[.v .c_bool]⟩ (fun x=>b3z x.1) w1 u1 .n [g67] (by kernel_rfl) (by kernel_rfl) (fun _=>rfl) fun x=>by kernel_rfl
def K227:Kn Tryz.prog VV:=mk 227 Tryz.f227 ⟨[.v .c_sBinding,.rp 334 .c_sLet],[.v .c_bool]⟩ (fun x=>c37 x.1 x.2.1) w1 u1 .n [] (by kernel_rfl) (by kernel_rfl) (fun _=>rfl) fun x=>by kernel_rfl
def K328:Kn Tryz.prog VV:=mk 328 Tryz.f328 ⟨[.v .c_sBinding],[.v .c_bool]⟩ (fun x=>b6c x.1) w1 u1 .n [] (by kernel_rfl) (by kernel_rfl) (fun _=>rfl) fun x=>by kernel_rfl
def K410:Kn Tryz.prog VV:=mk 410 Tryz.f410 ⟨[.v .c_i64,.ls .c_i64],[.v .c_i64,.v .c_bool]⟩ (fun x=>b0k x.1 x.2.1) w2 u2 (.s .n (.s (.s .n (.j [] [.ls 1 .c_i64,.v 6 .c_i64,.v 7 .c_bool] .n (.s .n (.s .n (.s .n (.j [] [.ls 1 .c_i64,.v 6 .c_i64,.v 23 .c_bool] .n (.s .n (.s .n (.s .n (.s .n (.s .n (.j [] [.ls 1 .c_i64,.v 6 .c_i64,.v 96 .c_bool] .n (.s .n (.j [] [.ls 1 .c_i64,.v 6 .c_i64,.v 116 .c_bool] .n .n)))))))))))))) .n)) [] (by kernel_rfl) (by kernel_rfl) (fun _=>rfl) fun x=>by kernel_rfl
def d4m:Sig VV:=⟨[.v .c_sExpr,.ls .c_sBinding],[.v .c_i64,.v .c_i64]⟩
def d3v (R:Ring_typing_infer):Fent VV:=⟨d4m,Int×Int,fun x=>R.f_typing_infer x.1 x.2.1,fun b=>((b.1,(b.2,())),()),none⟩
def g12:Fent VV:=d3v (u7 FU)
def f4b:Ress VV d4m.rs×Outs VV d4m.ps -> Int×Int:=fun p=>(p.1.1,p.1.2.1)
def f2g:Ann VV.C:=(.s .n (.s .n (.s .n (.s (.s .n (.l [1,36,37] [] [.bx 2 2 239 .c_sExpr,.ow 8 3 3 .c_i64,.v 38 .c_i64] .n)) .n))))
def f5j (R:Ring_typing_infer):Phi VV:=fun f ys=>lkF f ys [(329,d3v R),K409.e,K410.e]
theorem f7a (R:Ring_typing_infer) (hr329:SX.Spec Tryz.prog 329 (d3v R)):OKΦ Tryz.prog (f5j R):=okl ⟨knS rfl ⟨hr329,fun _ _=>by kernel_rfl⟩,K409.ok,K410.ok,trivial⟩
theorem g2e (R:Ring_typing_infer): ∀x,c9q Tryz.prog (f5j R) d4m f4b Tryz.f329 f2g x=a3b R x.1 x.2.1:=fun x=>by kernel_rfl
theorem f3x:d04 Tryz.f329 d4m=true:=by kernel_rfl
theorem b3p: ∀n,SX.Spec Tryz.prog 329 (d3v (u7 n))
 | 0=>(fun _ _ h=>(by cases (show none=some _ from h)))
 | n+1=>let h329:=b3p n;a79 (fe:=d3v (u7 (n+1))) uok (f7a (u7 n) h329) mixed (fn:=Tryz.f329) (by kernel_rfl) f4b f2g (q8 f3x).1 (q8 f3x).2 (fun _=>rfl) (g2e (u7 n))
def K329:Kn Tryz.prog VV:=⟨329,g12,knS rfl ⟨(b3p FU),fun _ _=>by kernel_rfl⟩⟩
def e8x:Kn Tryz.prog VV:=mk 327 Tryz.f327 ⟨[.ls .c_sBinding,.cl 328 []],[.v .c_i64]⟩ (fun x=>y5 x.1) w1 u1 (.s .n (.s (.s .n (.l [0,1,7] [] [.v 8 .c_i64] .n)) .n)) [K328] (by kernel_rfl) (by kernel_rfl) (fun _=>rfl) fun x=>by kernel_rfl
def f0x:Kn Tryz.prog VV:=mk 226 Tryz.f226 ⟨[.ls .c_sBinding,.cl 328 []],[.v .c_bool]⟩ (fun x=>p3 x.1) w1 u1 .n [e8x] (by kernel_rfl) (by kernel_rfl) (fun _=>rfl) fun x=>by kernel_rfl
def K228:Kn Tryz.prog VV:=mk 228 Tryz.f228 ⟨[.v .c_sExpr,.ls .c_sBinding],[.v .c_i64,.v .c_i64]⟩ (fun x=>b2q x.1 x.2.1) w2 u2 .n [g67,f0x,K329] (by kernel_rfl) (by kernel_rfl) (fun _=>rfl) fun x=>by kernel_rfl
def f00:Kn Tryz.prog VV:=mk 327 Tryz.f327 ⟨[.ls .c_sBinding,.cl 227 [.c_sLet]],[.v .c_i64]⟩ (fun x=>a1i x.1 x.2.1.1) w1 u1 (.s .n (.s (.s .n (.l [0,1,7] [] [.v 8 .c_i64] .n)) .n)) [K227] (by kernel_rfl) (by kernel_rfl) (fun _=>rfl) fun x=>by kernel_rfl
def f0n:Kn Tryz.prog VV:=mk 226 Tryz.f226 ⟨[.ls .c_sBinding,.cl 227 [.c_sLet]],[.v .c_bool]⟩ (fun x=>p6 x.1 x.2.1.1) w1 u1 .n [f00] (by kernel_rfl) (by kernel_rfl) (fun _=>rfl) fun x=>by kernel_rfl
def K135:Kn Tryz.prog VV:=mk 135 Tryz.f135 ⟨[.ls .c_sLet],[.ow 347 .c_sBinding,.v .c_i64]⟩ (fun x=>b4e x.1) w2 u2 (sk 3 (.s (.s .n (.l [14,15] [] [.ow 4 1 347 .c_sBinding,.v 16 .c_i64] .n)) .n)) [K224,K225,f0n,K228] (by kernel_rfl) (by kernel_rfl) (fun _=>rfl) fun x=>by kernel_rfl
def K137:Kn Tryz.prog VV:=mk 137 Tryz.f137 ⟨[.v .c_sCredit,.rp 232 .c_sCredit],[.v .c_bool]⟩ (fun x=>b37 x.1 x.2.1) w1 u1 .n [] (by kernel_rfl) (by kernel_rfl) (fun _=>rfl) fun x=>by kernel_rfl
def K139:Kn Tryz.prog VV:=mk 139 Tryz.f139 ⟨[.v .c_sGrant,.rp 241 .c_sGrant],[.v .c_bool]⟩ (fun x=>b3a x.1 x.2.1) w1 u1 .n [] (by kernel_rfl) (by kernel_rfl) (fun _=>rfl) fun x=>by kernel_rfl
def K140:Kn Tryz.prog VV:=mk 140 Tryz.f140 ⟨[.v .c_sExpr,.ls .c_sBinding,.v .c_i64],[.v .c_i64]⟩ (fun x=>b4b x.1 x.2.1 x.2.2.1) w1 u1 .n [K228] (by kernel_rfl) (by kernel_rfl) (fun _=>rfl) fun x=>by kernel_rfl
def K142:Kn Tryz.prog VV:=mk 142 Tryz.f142 ⟨[.v .c_sReduce,.rp 246 .c_sReduce],[.v .c_bool]⟩ (fun x=>b39 x.1 x.2.1) w1 u1 .n [] (by kernel_rfl) (by kernel_rfl) (fun _=>rfl) fun x=>by kernel_rfl
def e8b:Kn Tryz.prog VV:=mk 229 Tryz.f229 ⟨[.ls .c_sCredit,.cl 137 [.c_sCredit]],[.v .c_i64]⟩ (fun x=>y3 x.1 x.2.1.1) w1 u1 (.s .n (.s (.s .n (.l [0,1,7] [] [.v 8 .c_i64] .n)) .n)) [K137] (by kernel_rfl) (by kernel_rfl) (fun _=>rfl) fun x=>by kernel_rfl
def f0a:Kn Tryz.prog VV:=mk 136 Tryz.f136 ⟨[.ls .c_sCredit,.cl 137 [.c_sCredit]],[.v .c_bool]⟩ (fun x=>n6 x.1 x.2.1.1) w1 u1 .n [e8b] (by kernel_rfl) (by kernel_rfl) (fun _=>rfl) fun x=>by kernel_rfl
def f08:Kn Tryz.prog VV:=mk 230 Tryz.f230 ⟨[.ls .c_sGrant,.cl 139 [.c_sGrant]],[.v .c_i64]⟩ (fun x=>y6 x.1 x.2.1.1) w1 u1 (.s .n (.s (.s .n (.l [0,1,7] [] [.v 8 .c_i64] .n)) .n)) [K139] (by kernel_rfl) (by kernel_rfl) (fun _=>rfl) fun x=>by kernel_rfl
def e8c:Kn Tryz.prog VV:=mk 138 Tryz.f138 ⟨[.ls .c_sGrant,.cl 139 [.c_sGrant]],[.v .c_bool]⟩ (fun x=>o7 x.1 x.2.1.1) w1 u1 .n [f08] (by kernel_rfl) (by kernel_rfl) (fun _=>rfl) fun x=>by kernel_rfl
def f1x:Kn Tryz.prog VV:=mk 231 Tryz.f231 ⟨[.ls .c_sReduce,.cl 142 [.c_sReduce]],[.v .c_i64]⟩ (fun x=>y2 x.1 x.2.1.1) w1 u1 (.s .n (.s (.s .n (.l [0,1,7] [] [.v 8 .c_i64] .n)) .n)) [K142] (by kernel_rfl) (by kernel_rfl) (fun _=>rfl) fun x=>by kernel_rfl
def e97:Kn Tryz.prog VV:=mk 141 Tryz.f141 ⟨[.ls .c_sReduce,.cl 142 [.c_sReduce]],[.v .c_bool]⟩ (fun x=>n9 x.1 x.2.1.1) w1 u1 .n [f1x] (by kernel_rfl) (by kernel_rfl) (fun _=>rfl) fun x=>by kernel_rfl
def K77:Kn Tryz.prog VV:=mk 77 Tryz.f77 ⟨[.v .c_sVersion],[.v .c_i64]⟩ (fun x=>b25 x.1) w1 u1 (sk 3 (.s (.s .n (.l [26,27] [] [.bx 1 1 171 .c_sVersion,.ow 3 2 347 .c_sBinding,.v 28 .c_i64] .n)) (.s (.s .n (.l [41,42] [] [.bx 1 1 171 .c_sVersion,.ow 3 2 347 .c_sBinding,.v 43 .c_i64] .n)) (.s (.s .n (.l [64,65] [] [.bx 1 1 171 .c_sVersion,.ow 3 2 347 .c_sBinding,.v 66 .c_i64] .n)) (.s (.s .n (.l [93,94] [] [.bx 1 1 171 .c_sVersion,.ow 3 2 347 .c_sBinding,.v 95 .c_i64] .n)) .n))))) [K135,f0a,e8c,K140,e97] (by kernel_rfl) (by kernel_rfl) (fun _=>rfl) fun x=>by kernel_rfl
def K41:Kn Tryz.prog VV:=mk 41 Tryz.f41 ⟨[.v .c_sStatute],[.v .c_i64,.v .c_i64]⟩ (fun x=>a5j x.1) w2 u2 (sk 2 (.s (.s .n (.l [11,12] [] [.bx 1 1 77 .c_sStatute,.v 13 .c_i64] .n)) .n)) [K76,K77] (by kernel_rfl) (by kernel_rfl) (fun _=>rfl) fun x=>by kernel_rfl
def K144:Kn Tryz.prog VV:=mk 144 Tryz.f144 ⟨[.v .c_i64,.v .c_i64],[.v .c_bool]⟩ (fun x=>a8a x.1 x.2.1) w1 u1 .n [] (by kernel_rfl) (by kernel_rfl) (fun _=>rfl) fun x=>by kernel_rfl
def K78:Kn Tryz.prog VV:=mk 78 Tryz.f78 ⟨[.v .c_sRules],[.v .c_bool]⟩ (fun x=>a5b x.1) w1 u1 (sk 2 (.s (.s .n (.l [28,29] [] [.bx 1 1 121 .c_sRules,.v 30 .c_i64] .n)) .n)) [g61,K144] (by kernel_rfl) (by kernel_rfl) (fun _=>rfl) fun x=>by kernel_rfl
def K42:Kn Tryz.prog VV:=mk 42 Tryz.f42 ⟨[.ls .c_sRules],[.v .c_i64]⟩ (fun x=>b2i x.1) w1 u1 (sk 3 (.s (.s .n (.l [0,18,19] [] [.v 20 .c_i64] .n)) .n)) [K78] (by kernel_rfl) (by kernel_rfl) (fun _=>rfl) fun x=>by kernel_rfl
def K79:Kn Tryz.prog VV:=mk 79 Tryz.f79 ⟨[.v .c_i64],[.v .c_bool]⟩ (fun x=>c0x x.1) w1 u1 .n [] (by kernel_rfl) (by kernel_rfl) (fun _=>rfl) fun x=>by kernel_rfl
def K95:Kn Tryz.prog VV:=mk 95 Tryz.f95 ⟨[.v .c_i64],[.v .c_bool]⟩ (fun x=>a4q x.1) w1 u1 .n [] (by kernel_rfl) (by kernel_rfl) (fun _=>rfl) fun x=>by kernel_rfl
def K253:Kn Tryz.prog VV:=mk 253 Tryz.f253 ⟨[.v .c_i64],[.v .c_bool]⟩ (fun x=>b3v x.1) w1 u1 .n [] (by kernel_rfl) (by kernel_rfl) (fun _=>rfl) fun x=>by kernel_rfl
def g55:Kn Tryz.prog VV:=mk 154 Tryz.f154 ⟨[.v .c_i64,.v .c_i64],[.v .c_i64]⟩ (fun x=>a04 x.1 x.2.1) w1 u1 .n [K253] (by kernel_rfl) (by kernel_rfl) (fun _=>rfl) fun x=>by kernel_rfl
def K145:Kn Tryz.prog VV:=mk 145 Tryz.f145 ⟨[.v .c_i64],[.v .c_i64]⟩ (fun x=>b5u x.1) w1 u1 .n [K95,g55] (by kernel_rfl) (by kernel_rfl) (fun _=>rfl) fun x=>by kernel_rfl
def K80:Kn Tryz.prog VV:=mk 80 Tryz.f80 ⟨[.v .c_i64],[.v .c_bool]⟩ (fun x=>c8j x.1) w1 u1 .n [K145] (by kernel_rfl) (by kernel_rfl) (fun _=>rfl) fun x=>by kernel_rfl
def K147:Kn Tryz.prog VV:=mk 147 Tryz.f147 ⟨[.v .c_i64],[.v .c_u64]⟩ (fun x=>b8a x.1) w1 u1 .n [] (by kernel_rfl) (by kernel_rfl) (fun _=>rfl) fun x=>by kernel_rfl
def K146:Kn Tryz.prog VV:=mk 146 Tryz.f146 ⟨[.v .c_u64,.v .c_u64],[.v .c_u64]⟩ (fun x=>c5q x.1 x.2.1) w1 u1 (.s .n (.s (.l [] [] [.v 0 .c_u64,.v 1 .c_u64] .n) .n)) [] (by kernel_rfl) (by kernel_rfl) (fun _=>rfl) fun x=>by kernel_rfl
def K81:Kn Tryz.prog VV:=mk 81 Tryz.f81 ⟨[.v .c_sFraction],[.v .c_bool]⟩ (fun x=>c18 x.1) w1 u1 .n [K146,K147] (by kernel_rfl) (by kernel_rfl) (fun _=>rfl) fun x=>by kernel_rfl
def K82:Kn Tryz.prog VV:=mk 82 Tryz.f82 ⟨[.v .c_i64],[.v .c_bool]⟩ (fun x=>c1s x.1) w1 u1 .n [] (by kernel_rfl) (by kernel_rfl) (fun _=>rfl) fun x=>by kernel_rfl
def K43:Kn Tryz.prog VV:=mk 43 Tryz.f43 ⟨[.ls .c_sRate],[.v .c_i64]⟩ (fun x=>a6t x.1) w1 u1 (sk 2 (.s (.s .n (.l [0,8,9] [] [.v 10 .c_i64] .n)) .n)) [K79,K80,K81,K82] (by kernel_rfl) (by kernel_rfl) (fun _=>rfl) fun x=>by kernel_rfl
def K22:Kn Tryz.prog VV:=mk 22 Tryz.f22 ⟨[.v .c_sLaws],[.v .c_i64]⟩ (fun x=>a9l x.1) w1 u1 (.s .n (.s (.s .n (.l [11,12] [] [.bx 1 1 31 .c_sLaws,.v 13 .c_i64] .n)) (.s (.s .n (.l [44,45] [] [.bx 1 1 31 .c_sLaws,.v 46 .c_i64] .n)) .n))) [K41,K42,K43] (by kernel_rfl) (by kernel_rfl) (fun _=>rfl) fun x=>by kernel_rfl
def K232:Kn Tryz.prog VV:=mk 232 Tryz.f232 ⟨[.v .c_i64],[.v .c_str]⟩ (fun x=>b0u x.1) w1 u1 (.s .n (.s (.s .n (.s .n (.s .n (.j [] [.v 3 .c_i64,.v 6 .c_bool] .n (.s .n (.s .n (.s .n (.j [] [.v 3 .c_i64,.v 11 .c_bool] .n (.s .n (.s .n (.s .n (.s .n (.s .n (.j [] [.v 3 .c_i64,.v 20 .c_bool] .n .n)))))))))))))) .n)) [] (by kernel_rfl) (by kernel_rfl) (fun _=>rfl) fun x=>by kernel_rfl
def K330:Kn Tryz.prog VV:=mk 330 Tryz.f330 ⟨[.v .c_str,.v .c_str],[.v .c_i64]⟩ (fun x=>c2o x.1 x.2.1) w1 u1 .n [K411] (by kernel_rfl) (by kernel_rfl) (fun _=>rfl) fun x=>by kernel_rfl
def K234:Kn Tryz.prog VV:=mk 234 Tryz.f234 ⟨[.v .c_str,.v .c_str],[.v .c_bool]⟩ (fun x=>b8l x.1 x.2.1) w1 u1 .n [K330] (by kernel_rfl) (by kernel_rfl) (fun _=>rfl) fun x=>by kernel_rfl
def K233:Kn Tryz.prog VV:=mk 233 Tryz.f233 ⟨[.v .c_str,.rp 9 .c_str],[.v .c_bool]⟩ (fun x=>a13 x.1 x.2.1) w1 u1 .n [K234] (by kernel_rfl) (by kernel_rfl) (fun _=>rfl) fun x=>by kernel_rfl
def K235:Kn Tryz.prog VV:=mk 235 Tryz.f235 ⟨[.v .c_i64,.v .c_i64,.v .c_i64],[.v .c_bool]⟩ (fun x=>a7s x.1 x.2.1 x.2.2.1) w1 u1 .n [] (by kernel_rfl) (by kernel_rfl) (fun _=>rfl) fun x=>by kernel_rfl
def K236:Kn Tryz.prog VV:=mk 236 Tryz.f236 ⟨[.v .c_bool,.v .c_i64,.v .c_i64,.v .c_i64],[.v .c_bool]⟩ (fun x=>a89 x.1 x.2.1 x.2.2.1 x.2.2.2.1) w1 u1 .n [K235] (by kernel_rfl) (by kernel_rfl) (fun _=>rfl) fun x=>by kernel_rfl
def K237:Kn Tryz.prog VV:=mk 237 Tryz.f237 ⟨[.v .c_sSpan],[.v .c_bool]⟩ (fun x=>b6a x.1) w1 u1 .n [] (by kernel_rfl) (by kernel_rfl) (fun _=>rfl) fun x=>by kernel_rfl
def g41:Kn Tryz.prog VV:=mk 148 Tryz.f148 ⟨[.v .c_sapi_Fact],[.v .c_bool]⟩ (fun x=>a5t x.1) w1 u1 (sk 4 (.s (.s .n (.s .n (.s .n (.j [] [.bx 1 1 109 .c_sapi_Fact,.v 89 .c_i64,.v 97 .c_bool] .n (.s .n (.j [] [.bx 1 1 109 .c_sapi_Fact,.v 108 .c_bool] .n .n)))))) .n)) [K232,K233,K235,K236,K237] (by kernel_rfl) (by kernel_rfl) (fun _=>rfl) fun x=>by kernel_rfl
def K116:Kn Tryz.prog VV:=mk 116 Tryz.f116 ⟨[.v .c_i64],[.v .c_bool]⟩ (fun x=>a3t x.1) w1 u1 .n [] (by kernel_rfl) (by kernel_rfl) (fun _=>rfl) fun x=>by kernel_rfl
def K56:Kn Tryz.prog VV:=mk 56 Tryz.f56 ⟨[.v .c_i64,.v .c_i64],[.v .c_i64]⟩ (fun x=>k6 x.1 x.2.1) w1 u1 .n [K116] (by kernel_rfl) (by kernel_rfl) (fun _=>rfl) fun x=>by kernel_rfl
def K55:Kn Tryz.prog VV:=mk 55 Tryz.f55 ⟨[.ls .c_i64],[.v .c_i64]⟩ (fun x=>a3c x.1) w1 u1 (sk 2 (.s (.s .n (.l [3,6,7] [] [.v 8 .c_i64] .n)) .n)) [] (by kernel_rfl) (by kernel_rfl) (fun _=>rfl) fun x=>by kernel_rfl
def K85:Kn Tryz.prog VV:=mk 85 Tryz.f85 ⟨[.v .c_sapi_Fact,.v .c_sapi_Fact],[.v .c_i64]⟩ (fun x=>a8g x.1 x.2.1) w1 u1 .n [K55,K56] (by kernel_rfl) (by kernel_rfl) (fun _=>rfl) fun x=>by kernel_rfl
def K332:Kn Tryz.prog VV:=mk 332 Tryz.f332 ⟨[.ow 5 .c_u8,.v .c_i64,.ls .c_i64],[.ow 5 .c_u8]⟩ (fun x=>l9 x.1 x.2.1 x.2.2.1) w1 u1 (.s .n (.s (.s .n (.l [1,10,11] [] [.ow 0 3 5 .c_u8,.v 12 .c_i64] (.s .n (.s .n (.s (.s .n (.s .n (.l [1,8,10,11,12] [] [.ow 0 3 5 .c_u8,.v 9 .c_i64] .n))) .n))))) .n)) [] (by kernel_rfl) (by kernel_rfl) (fun _=>rfl) fun x=>by kernel_rfl
def K239:Kn Tryz.prog VV:=mk 239 Tryz.f239 ⟨[.v .c_sapi_Fact],[.ow 5 .c_u8]⟩ (fun x=>b6y x.1) w1 u1 (sk 3 (.j [] [.bx 1 1 109 .c_sapi_Fact,.v 3 .c_i64] .n (.s .n (.s .n (.s .n (.s (.s .n (.l [] [] [.bx 1 1 109 .c_sapi_Fact,.ow 4 2 5 .c_u8,.it 34 3] .n)) .n)))))) [g41,K232,K332] (by kernel_rfl) (by kernel_rfl) (fun _=>rfl) fun x=>by kernel_rfl
def K238:Kn Tryz.prog VV:=mk 238 Tryz.f238 ⟨[.ls .c_u8,.ls .c_u8],[.v .c_i64]⟩ (fun x=>b7q x.1 x.2.1) w1 u1 .n [K331] (by kernel_rfl) (by kernel_rfl) (fun _=>rfl) fun x=>by kernel_rfl
def K149:Kn Tryz.prog VV:=mk 149 Tryz.f149 ⟨[.v .c_sapi_Fact,.v .c_sapi_Fact],[.v .c_bool]⟩ (fun x=>c3a x.1 x.2.1) w1 u1 .n [g41,K238,K239] (by kernel_rfl) (by kernel_rfl) (fun _=>rfl) fun x=>by kernel_rfl
def K86:Kn Tryz.prog VV:=mk 86 Tryz.f86 ⟨[.v .c_sapi_Fact,.v .c_sapi_Fact],[.v .c_sapi_Fact]⟩ (fun x=>b22 x.1 x.2.1) w1 u1 .n [K149] (by kernel_rfl) (by kernel_rfl) (fun _=>rfl) fun x=>by kernel_rfl
def d4n:Kn Tryz.prog VV:=mk 83 Tryz.f83 ⟨[.ls .c_sapi_Fact,.ls .c_sapi_Fact,.cl 85 [],.cl 86 []],[.ow 109 .c_sapi_Fact]⟩ (fun x=>i6 x.1 x.2.1) w1 u1 (sk 2 (.s (.l [2,3] [] [.ls 0 .c_sapi_Fact,.ls 1 .c_sapi_Fact,.ow 9 4 109 .c_sapi_Fact] .n) .n)) [K85,K86] (by kernel_rfl) (by kernel_rfl) (fun _=>rfl) fun x=>by kernel_rfl
def K84:Kn Tryz.prog VV:=mk 84 Tryz.f84 ⟨[.ls .c_sapi_Fact],[.ow 109 .c_sapi_Fact]⟩ (fun x=>a6x x.1) w1 u1 (sk 2 (.s (.s .n (.l [6,7] [] [.ow 3 1 109 .c_sapi_Fact,.v 8 .c_i64] .n)) .n)) [d4n,g41] (by kernel_rfl) (by kernel_rfl) (fun _=>rfl) fun x=>by kernel_rfl
def K44:Kn Tryz.prog VV:=mk 44 Tryz.f44 ⟨[.ls .c_sapi_Fact,.ls .c_sapi_Fact],[.ow 109 .c_sapi_Fact]⟩ (fun x=>b2o x.1 x.2.1) w1 u1 .n [d4n,K84] (by kernel_rfl) (by kernel_rfl) (fun _=>rfl) fun x=>by kernel_rfl
def K88:Kn Tryz.prog VV:=mk 88 Tryz.f88 ⟨[.v .c_sapi_Fact,.rp 3 .c_i64],[.v .c_bool]⟩ (fun x=>c25 x.1 x.2.1) w1 u1 .n [] (by kernel_rfl) (by kernel_rfl) (fun _=>rfl) fun x=>by kernel_rfl
def g2h:Kn Tryz.prog VV:=mk 87 Tryz.f87 ⟨[.ls .c_sapi_Fact,.cl 88 [.c_i64]],[.ow 109 .c_sapi_Fact]⟩ (fun x=>a4m x.1 x.2.1.1) w1 u1 (sk 2 (.s (.s .n (.l [1,8,9] [] [.ow 5 2 109 .c_sapi_Fact,.v 10 .c_i64] .n)) .n)) [K88] (by kernel_rfl) (by kernel_rfl) (fun _=>rfl) fun x=>by kernel_rfl
def K45:Kn Tryz.prog VV:=mk 45 Tryz.f45 ⟨[.ls .c_sapi_Fact,.v .c_i64],[.ow 109 .c_sapi_Fact]⟩ (fun x=>b4c x.1 x.2.1) w1 u1 .n [g2h] (by kernel_rfl) (by kernel_rfl) (fun _=>rfl) fun x=>by kernel_rfl
def K155:Kn Tryz.prog VV:=mk 155 Tryz.f155 ⟨[.v .c_i64],[.v .c_i64]⟩ (fun x=>a26 x.1) w1 u1 .n [] (by kernel_rfl) (by kernel_rfl) (fun _=>rfl) fun x=>by kernel_rfl
def K248:Kn Tryz.prog VV:=mk 248 Tryz.f248 ⟨[.v .c_i64],[.v .c_i64]⟩ (fun x=>a4r x.1) w1 u1 .n [K253] (by kernel_rfl) (by kernel_rfl) (fun _=>rfl) fun x=>by kernel_rfl
def K151:Kn Tryz.prog VV:=mk 151 Tryz.f151 ⟨[.v .c_i64],[.v .c_i64,.v .c_i64,.v .c_i64,.v .c_bool]⟩ (fun x=>b07 x.1) (fun b=>((b.1,(b.2.1,(b.2.2.1,(b.2.2.2,())))),())) (fun p=>(p.1.1,p.1.2.1,p.1.2.2.1,p.1.2.2.2.1)) (sk 3 (.s (.l [0] [] [.v 2 .c_i64] .n) (.s .n (.s .n (.s (.l [2] [] [.v 3 .c_i64,.v 6 .c_i64] .n) .n))))) [g61,g55,K155,K248] (by kernel_rfl) (by kernel_rfl) (fun _=>rfl) fun x=>by kernel_rfl
def K93:Kn Tryz.prog VV:=mk 93 Tryz.f93 ⟨[.v .c_i64],[.v .c_i64]⟩ (fun x=>a70 x.1) w1 u1 .n [K151] (by kernel_rfl) (by kernel_rfl) (fun _=>rfl) fun x=>by kernel_rfl
def K96:Kn Tryz.prog VV:=mk 96 Tryz.f96 ⟨[.v .c_i64,.v .c_i64,.v .c_i64],[.v .c_i64,.v .c_bool]⟩ (fun x=>a9t x.1 x.2.1 x.2.2.1) w2 u2 (sk 3 (.s (.s .n (.l [0,1] [] [.v 8 .c_i64,.v 9 .c_i64] .n)) .n)) [g55,K155] (by kernel_rfl) (by kernel_rfl) (fun _=>rfl) fun x=>by kernel_rfl
def K49:Kn Tryz.prog VV:=mk 49 Tryz.f49 ⟨[.v .c_i64],[.v .c_i64,.v .c_bool]⟩ (fun x=>a35 x.1) w2 u2 .n [K95,K96] (by kernel_rfl) (by kernel_rfl) (fun _=>rfl) fun x=>by kernel_rfl
def K47:Kn Tryz.prog VV:=mk 47 Tryz.f47 ⟨[.v .c_sClaim],[.v .c_i64,.v .c_bool]⟩ (fun x=>a1j x.1) w2 u2 (sk 3 (.j [] [.v 4 .c_i64] .n .n)) [K49,K93] (by kernel_rfl) (by kernel_rfl) (fun _=>rfl) fun x=>by kernel_rfl
def K89:Kn Tryz.prog VV:=mk 89 Tryz.f89 ⟨[.v .c_sClaim],[.v .c_bool]⟩ (fun x=>a5m x.1) w1 u1 (sk 2 (.j [] [.bx 1 1 46 .c_sClaim] (.s .n (.j [] [.bx 1 1 46 .c_sClaim,.v 34 .c_i64,.v 35 .c_bool] .n (.s .n (.j [] [.bx 1 1 46 .c_sClaim,.v 53 .c_bool] .n .n)))) .n)) [K47] (by kernel_rfl) (by kernel_rfl) (fun _=>rfl) fun x=>by kernel_rfl
def g6r:Kn Tryz.prog VV:=mk 118 Tryz.f118 ⟨[.v .c_u64],[.v .c_i64]⟩ (fun x=>c0j x.1) w1 u1 .n [K200] (by kernel_rfl) (by kernel_rfl) (fun _=>rfl) fun x=>by kernel_rfl
def K298:Kn Tryz.prog VV:=mk 298 Tryz.f298 ⟨[.v .c_i64],[.v .c_u64]⟩ (fun x=>b2e x.1) w1 u1 .n [g6r] (by kernel_rfl) (by kernel_rfl) (fun _=>rfl) fun x=>by kernel_rfl
def K299:Kn Tryz.prog VV:=mk 299 Tryz.f299 ⟨[.io 423 .c_u64],[.v .c_u64]⟩ (fun x=>b3o x.1) (fun b=>((b.1,()),(b.2,()))) (fun p=>(p.1.1,p.2.1)) .n [] (by kernel_rfl) (by kernel_rfl) (fun _=>rfl) fun x=>by kernel_rfl
def K91:Kn Tryz.prog VV:=mk 91 Tryz.f91 ⟨[.v .c_sClaim,.v .c_sClaim],[.v .c_i64]⟩ (fun x=>a3x x.1 x.2.1) w1 u1 .n [K55,K56] (by kernel_rfl) (by kernel_rfl) (fun _=>rfl) fun x=>by kernel_rfl
def K92:Kn Tryz.prog VV:=mk 92 Tryz.f92 ⟨[.ow 46 .c_sClaim],[.ow 46 .c_sClaim]⟩ (fun x=>a28 x.1) w1 u1 (sk 2 (.s (.s .n (.l [] [] [.ow 0 1 46 .c_sClaim,.v 3 .c_i64] (.s .n (.s (.s .n (.s (.s (.g [1002]) (.s (.s .n (.l [] [] [.ow 0 1 46 .c_sClaim,.v 3 .c_i64,.v 5 .c_i64,.vw 4 1 .c_sClaim] .n)) (.s (.g [1002]) (.s (.g [2002]) .n)))) .n)) .n)))) .n)) [] (by kernel_rfl) (by kernel_rfl) (fun _=>rfl) fun x=>by kernel_rfl
def e40:Kn Tryz.prog VV:=mk 240 Tryz.f240 ⟨[.so 46 .c_sClaim,.v .c_i64,.v .c_i64,.cl 91 []],[]⟩ (fun x=>q0 x.1 x.2.1 x.2.2.1) (fun b=>((),(b,()))) (fun p=>p.2.1) (.s .n (.l [1,2,3] [] [.ow 0 0 46 .c_sClaim,.v 8 .c_i64] (.s .n (.s (.s .n (.l [1,2,3,8] [] [.ow 0 0 46 .c_sClaim,.v 9 .c_i64] .n)) .n)))) [K91] (by kernel_rfl) (by kernel_rfl) (fun _=>rfl) fun x=>by kernel_rfl
def b9b:Sig VV:=⟨[.so 46 .c_sClaim,.v .c_i64,.v .c_i64,.v .c_i64,.cl 91 []],[]⟩
def c7d (R:Ring_slices_pdqsortCmpFunc_of_api_Claim_c_decision_compare):Fent VV:=⟨b9b,List Claim,fun x=>R.f_slices_pdqsortCmpFunc_of_api_Claim x.1 x.2.1 x.2.2.1 x.2.2.2.1,fun b=>((),(b,())),none⟩
def e7o:Fent VV:=c7d (c9 FU)
def d59:Ress VV b9b.rs×Outs VV b9b.ps -> List Claim:=fun p=>p.2.1
def d56:Ann VV.C:=(.s .n (.s .n (.l [4] [] [.ow 0 0 46 .c_sClaim,.v 1 .c_i64,.v 2 .c_i64,.v 3 .c_i64,.v 10 .c_bool,.v 11 .c_bool] (.s .n (.s .n (.s .n (.j [] [.ow 0 0 46 .c_sClaim,.v 1 .c_i64,.v 2 .c_i64,.v 3 .c_i64,.cl 4 91 [],.v 10 .c_bool,.v 11 .c_bool,.v 12 .c_i64] .n .n)))))))
def d4q (R:Ring_slices_pdqsortCmpFunc_of_api_Claim_c_decision_compare):Phi VV:=fun f ys=>lkF f ys [e40.e]
theorem e0j (R:Ring_slices_pdqsortCmpFunc_of_api_Claim_c_decision_compare):OKΦ Tryz.prog (d4q R):=okl ⟨e40.ok,trivial⟩
theorem e59 (R:Ring_slices_pdqsortCmpFunc_of_api_Claim_c_decision_compare): ∀x,c9q Tryz.prog (d4q R) b9b d59 Tryz.f150 d56 x=m6 R x.1 x.2.1 x.2.2.1 x.2.2.2.1:=fun x=>by kernel_rfl
theorem d34:d04 Tryz.f150 b9b=true:=by kernel_rfl
theorem a01: ∀n,SX.Spec Tryz.prog 150 (c7d (c9 n))
 | 0=>(fun _ _ h=>(by cases (show none=some _ from h)))
 | n+1=>let h150:=a01 n;a79 (fe:=c7d (c9 (n+1))) uok (e0j (c9 n)) mixed (fn:=Tryz.f150) (by kernel_rfl) d59 d56 (q8 d34).1 (q8 d34).2 (fun _=>rfl) (e59 (c9 n))
def f8h:Kn Tryz.prog VV:=⟨150,e7o,knS rfl ⟨(a01 FU),fun _ _=>by kernel_rfl⟩⟩
def g1l:Kn Tryz.prog VV:=mk 90 Tryz.f90 ⟨[.so 46 .c_sClaim,.cl 91 []],[]⟩ (fun x=>m5 x.1) (fun b=>((),(b,()))) (fun p=>p.2.1) .n [g6r,f8h] (by kernel_rfl) (by kernel_rfl) (fun _=>rfl) fun x=>by kernel_rfl
def K46:Kn Tryz.prog VV:=mk 46 Tryz.f46 ⟨[.ls .c_sClaim],[.ow 46 .c_sClaim]⟩ (fun x=>b0q x.1) w1 u1 (sk 2 (.s (.s .n (.l [6,7] [] [.ow 3 1 46 .c_sClaim,.v 8 .c_i64] .n)) .n)) [K89,g1l,K92] (by kernel_rfl) (by kernel_rfl) (fun _=>rfl) fun x=>by kernel_rfl
def K23:Kn Tryz.prog VV:=mk 23 Tryz.f23 ⟨[.v .c_sLaws,.ls .c_sapi_Fact,.ls .c_sClaim,.v .c_i64],[.bo 130 .c_sdecision_file]⟩ (fun x=>b3y x.1 x.2.1 x.2.2.1 x.2.2.2.1) w1 u1 .n [K44,K45,K46] (by kernel_rfl) (by kernel_rfl) (fun _=>rfl) fun x=>by kernel_rfl
def K24:Kn Tryz.prog VV:=mk 24 Tryz.f24 ⟨[.rp 130 .c_sdecision_file],[.v .c_i64,.v .c_bool]⟩ (fun x=>a6r x.1) w2 u2 (sk 2 (.s (.s .n (.l [0,13,14] [] [.v 4 .c_i64,.v 5 .c_bool,.v 15 .c_i64] .n)) .n)) [K47] (by kernel_rfl) (by kernel_rfl) (fun _=>rfl) fun x=>by kernel_rfl
def K94:Kn Tryz.prog VV:=mk 94 Tryz.f94 ⟨[.v .c_sLaws,.v .c_i64,.v .c_i64],[.v .c_stransition_law]⟩ (fun x=>b0r x.1 x.2.1 x.2.2.1) w1 u1 (sk 3 (.j [] [.bx 3 3 31 .c_sLaws,.bx 6 4 190 .c_stransition_law,.bx 7 5 190 .c_stransition_law,.v 8 .c_i64] (.s .n (.l [1,8,23,24] [] [.bx 3 3 31 .c_sLaws,.bx 6 4 190 .c_stransition_law,.bx 7 5 190 .c_stransition_law,.v 25 .c_i64] .n)) .n)) [K49] (by kernel_rfl) (by kernel_rfl) (fun _=>rfl) fun x=>by kernel_rfl
def K48:Kn Tryz.prog VV:=mk 48 Tryz.f48 ⟨[.v .c_sLaws,.v .c_i64,.v .c_i64,.v .c_i64],[.ow 3 .c_i64]⟩ (fun x=>b5b x.1 x.2.1 x.2.2.1 x.2.2.2.1) w1 u1 (sk 5 (.s (.s .n (.l [1,3] [] [.bx 4 4 31 .c_sLaws,.ow 9 5 3 .c_i64,.bx 10 6 190 .c_stransition_law,.v 11 .c_i64] .n)) .n)) [K94] (by kernel_rfl) (by kernel_rfl) (fun _=>rfl) fun x=>by kernel_rfl
def K287:Kn Tryz.prog VV:=mk 287 Tryz.f287 ⟨[.v .c_sClaim,.v .c_i64],[.v .c_bool]⟩ (fun x=>b36 x.1 x.2.1) w1 u1 .n [K47] (by kernel_rfl) (by kernel_rfl) (fun _=>rfl) fun x=>by kernel_rfl
def K289:Kn Tryz.prog VV:=mk 289 Tryz.f289 ⟨[.v .c_sClaim,.v .c_sClaim],[.v .c_i64]⟩ (fun x=>b3h x.1 x.2.1) w1 u1 .n [K55,K56] (by kernel_rfl) (by kernel_rfl) (fun _=>rfl) fun x=>by kernel_rfl
def e8u:Kn Tryz.prog VV:=mk 240 Tryz.f240 ⟨[.so 46 .c_sClaim,.v .c_i64,.v .c_i64,.cl 289 []],[]⟩ (fun x=>o5 x.1 x.2.1 x.2.2.1) (fun b=>((),(b,()))) (fun p=>p.2.1) (.s .n (.l [1,2,3] [] [.ow 0 0 46 .c_sClaim,.v 8 .c_i64] (.s .n (.s (.s .n (.l [1,2,3,8] [] [.ow 0 0 46 .c_sClaim,.v 9 .c_i64] .n)) .n)))) [K289] (by kernel_rfl) (by kernel_rfl) (fun _=>rfl) fun x=>by kernel_rfl
def f1m:Kn Tryz.prog VV:=mk 391 Tryz.f391 ⟨[.so 46 .c_sClaim,.v .c_i64,.cl 289 []],[]⟩ (fun x=>a0f x.1 x.2.1) (fun b=>((),(b,()))) (fun p=>p.2.1) (sk 2 (.s (.l [1,2,6] [] [.ow 0 0 46 .c_sClaim,.v 7 .c_i64,.v 8 .c_i64] .n) (.s .n (.l [1,2] [] [.ow 0 0 46 .c_sClaim,.v 6 .c_i64] (.s .n (.s .n (.s (.l [1,2,6] [] [.ow 0 0 46 .c_sClaim,.v 7 .c_i64,.v 8 .c_i64] .n) .n))))))) [e8u] (by kernel_rfl) (by kernel_rfl) (fun _=>rfl) fun x=>by kernel_rfl
def e87:Kn Tryz.prog VV:=mk 288 Tryz.f288 ⟨[.so 46 .c_sClaim,.cl 289 []],[]⟩ (fun x=>a0b x.1) (fun b=>((),(b,()))) (fun p=>p.2.1) .n [f1m] (by kernel_rfl) (by kernel_rfl) (fun _=>rfl) fun x=>by kernel_rfl
def K175:Kn Tryz.prog VV:=mk 175 Tryz.f175 ⟨[.ls .c_sClaim,.v .c_i64,.v .c_i64],[.ow 46 .c_sClaim]⟩ (fun x=>b5r x.1 x.2.1 x.2.2.1) w1 u1 (sk 4 (.s (.s .n (.l [1,2,12,13] [] [.ow 7 3 46 .c_sClaim,.bx 8 4 417 .c_A6_bool,.bx 9 5 307 .c_A100_bool,.v 14 .c_i64] .n)) .n)) [K287,e87] (by kernel_rfl) (by kernel_rfl) (fun _=>rfl) fun x=>by kernel_rfl
def g5k:Kn Tryz.prog VV:=mk 107 Tryz.f107 ⟨[.rp 130 .c_sdecision_file,.v .c_i64,.v .c_i64],[.ow 46 .c_sClaim]⟩ (fun x=>a4w x.1 x.2.1 x.2.2.1) w1 u1 (sk 2 (.s (.s .n (.l [1,20] [] [.ow 7 3 46 .c_sClaim,.ow 19 4 46 .c_sClaim,.v 21 .c_i64] .n)) .n)) [K175] (by kernel_rfl) (by kernel_rfl) (fun _=>rfl) fun x=>by kernel_rfl
def K292:Kn Tryz.prog VV:=mk 292 Tryz.f292 ⟨[.v .c_sapi_Fact],[.v .c_bool]⟩ (fun x=>b6d x.1) w1 u1 .n [g41] (by kernel_rfl) (by kernel_rfl) (fun _=>rfl) fun x=>by kernel_rfl
def K290:Kn Tryz.prog VV:=mk 290 Tryz.f290 ⟨[.ls .c_sapi_Fact,.v .c_i64],[.v .c_i64,.v .c_bool]⟩ (fun x=>c5m x.1 x.2.1) w2 u2 (sk 2 (.s (.s .n (.l [1,10,11] [] [.v 6 .c_i64,.v 7 .c_bool,.v 12 .c_i64] .n)) .n)) [K292] (by kernel_rfl) (by kernel_rfl) (fun _=>rfl) fun x=>by kernel_rfl
def K176:Kn Tryz.prog VV:=mk 176 Tryz.f176 ⟨[.ls .c_sapi_Fact],[.v .c_i64,.v .c_bool]⟩ (fun x=>b8y x.1) w2 u2 .n [K290] (by kernel_rfl) (by kernel_rfl) (fun _=>rfl) fun x=>by kernel_rfl
def K108:Kn Tryz.prog VV:=mk 108 Tryz.f108 ⟨[.rp 130 .c_sdecision_file,.v .c_i64],[.v .c_bool]⟩ (fun x=>b46 x.1 x.2.1) w1 u1 .n [K176] (by kernel_rfl) (by kernel_rfl) (fun _=>rfl) fun x=>by kernel_rfl
def f9t:Kn Tryz.prog VV:=mk 87 Tryz.f87 ⟨[.ls .c_sapi_Fact,.cl 292 []],[.ow 109 .c_sapi_Fact]⟩ (fun x=>a6c x.1) w1 u1 (sk 2 (.s (.s .n (.l [1,8,9] [] [.ow 5 2 109 .c_sapi_Fact,.v 10 .c_i64] .n)) .n)) [K292] (by kernel_rfl) (by kernel_rfl) (fun _=>rfl) fun x=>by kernel_rfl
def K178:Kn Tryz.prog VV:=mk 178 Tryz.f178 ⟨[.ls .c_sapi_Fact],[.ow 109 .c_sapi_Fact]⟩ (fun x=>c0y x.1) w1 u1 .n [f9t] (by kernel_rfl) (by kernel_rfl) (fun _=>rfl) fun x=>by kernel_rfl
def K264:Kn Tryz.prog VV:=mk 264 Tryz.f264 ⟨[.ls .c_sapi_Fact],[.ow 109 .c_sapi_Fact]⟩ (fun x=>c5x x.1) w1 u1 .n [K44,K178] (by kernel_rfl) (by kernel_rfl) (fun _=>rfl) fun x=>by kernel_rfl
def K355:Kn Tryz.prog VV:=mk 355 Tryz.f355 ⟨[.ls .c_sapi_Fact,.v .c_i64,.v .c_i64],[.v .c_bool]⟩ (fun x=>b5s x.1 x.2.1 x.2.2.1) w1 u1 .n [K45,K176] (by kernel_rfl) (by kernel_rfl) (fun _=>rfl) fun x=>by kernel_rfl
def K421:Kn Tryz.prog VV:=mk 421 Tryz.f421 ⟨[.v .c_sapi_Fact,.rp 3 .c_i64,.rp 3 .c_i64],[.v .c_bool]⟩ (fun x=>b9x x.1 x.2.1 x.2.2.1) w1 u1 .n [] (by kernel_rfl) (by kernel_rfl) (fun _=>rfl) fun x=>by kernel_rfl
def e8p:Kn Tryz.prog VV:=mk 291 Tryz.f291 ⟨[.ls .c_sapi_Fact,.cl 421 [.c_i64,.c_i64]],[.v .c_i64]⟩ (fun x=>a1m x.1 x.2.1.1 x.2.1.2.1) w1 u1 (.s .n (.s (.s .n (.l [0,1,7] [] [.v 8 .c_i64] .n)) .n)) [K421] (by kernel_rfl) (by kernel_rfl) (fun _=>rfl) fun x=>by kernel_rfl
def f1k:Kn Tryz.prog VV:=mk 177 Tryz.f177 ⟨[.ls .c_sapi_Fact,.cl 421 [.c_i64,.c_i64]],[.v .c_bool]⟩ (fun x=>a1b x.1 x.2.1.1 x.2.1.2.1) w1 u1 .n [e8p] (by kernel_rfl) (by kernel_rfl) (fun _=>rfl) fun x=>by kernel_rfl
def K356:Kn Tryz.prog VV:=mk 356 Tryz.f356 ⟨[.ls .c_sapi_Fact,.v .c_i64,.v .c_i64],[.v .c_bool]⟩ (fun x=>c2w x.1 x.2.1 x.2.2.1) w1 u1 .n [f1k] (by kernel_rfl) (by kernel_rfl) (fun _=>rfl) fun x=>by kernel_rfl
def K265:Kn Tryz.prog VV:=mk 265 Tryz.f265 ⟨[.ls .c_sapi_Fact,.v .c_i64,.v .c_i64],[.ow 3 .c_i64]⟩ (fun x=>c16 x.1 x.2.1 x.2.2.1) w1 u1 (sk 3 (.s (.s .n (.l [0,1,2] [] [.ow 7 3 3 .c_i64,.v 8 .c_i64] (.s .n (.s (.s (.g [3]) .n) .n)))) .n)) [K45,K355,K356] (by kernel_rfl) (by kernel_rfl) (fun _=>rfl) fun x=>by kernel_rfl
def K189:Kn Tryz.prog VV:=mk 189 Tryz.f189 ⟨[.ls .c_sapi_Fact,.v .c_i64,.v .c_i64],[.ow 3 .c_i64]⟩ (fun x=>c17 x.1 x.2.1 x.2.2.1) w1 u1 .n [K264,K265] (by kernel_rfl) (by kernel_rfl) (fun _=>rfl) fun x=>by kernel_rfl
def K115:Kn Tryz.prog VV:=mk 115 Tryz.f115 ⟨[.ls .c_i64,.v .c_i64],[.v .c_i64]⟩ (fun x=>b4o x.1 x.2.1) w1 u1 (.s .n (.s (.s .n (.l [0,1,7] [] [.v 8 .c_i64] .n)) .n)) [] (by kernel_rfl) (by kernel_rfl) (fun _=>rfl) fun x=>by kernel_rfl
def K53:Kn Tryz.prog VV:=mk 53 Tryz.f53 ⟨[.ls .c_i64,.v .c_i64],[.v .c_bool]⟩ (fun x=>b18 x.1 x.2.1) w1 u1 .n [K115] (by kernel_rfl) (by kernel_rfl) (fun _=>rfl) fun x=>by kernel_rfl
def K114:Kn Tryz.prog VV:=mk 114 Tryz.f114 ⟨[.rp 130 .c_sdecision_file,.v .c_i64,.v .c_i64],[.v .c_bool]⟩ (fun x=>a8v x.1 x.2.1 x.2.2.1) w1 u1 .n [K53,K189] (by kernel_rfl) (by kernel_rfl) (fun _=>rfl) fun x=>by kernel_rfl
def K113:Kn Tryz.prog VV:=mk 113 Tryz.f113 ⟨[.v .c_sClaim,.rp 67 .c_psdecision_file,.rp 3 .c_i64],[.v .c_bool]⟩ (fun x=>a9p x.1 x.2.1 x.2.2.1) w1 u1 .n [K114] (by kernel_rfl) (by kernel_rfl) (fun _=>rfl) fun x=>by kernel_rfl
def f0q:Kn Tryz.prog VV:=mk 188 Tryz.f188 ⟨[.ls .c_sClaim,.cl 113 [.c_psdecision_file,.c_i64]],[.v .c_i64]⟩ (fun x=>a0e x.1 x.2.1.1 x.2.1.2.1) w1 u1 (.s .n (.s (.s .n (.l [0,1,7] [] [.v 8 .c_i64] .n)) .n)) [K113] (by kernel_rfl) (by kernel_rfl) (fun _=>rfl) fun x=>by kernel_rfl
def e9k:Kn Tryz.prog VV:=mk 112 Tryz.f112 ⟨[.ls .c_sClaim,.cl 113 [.c_psdecision_file,.c_i64]],[.v .c_bool]⟩ (fun x=>a06 x.1 x.2.1.1 x.2.1.2.1) w1 u1 .n [f0q] (by kernel_rfl) (by kernel_rfl) (fun _=>rfl) fun x=>by kernel_rfl
def K52:Kn Tryz.prog VV:=mk 52 Tryz.f52 ⟨[.rp 130 .c_sdecision_file,.v .c_i64,.v .c_i64,.v .c_i64],[.v .c_bool]⟩ (fun x=>a4x x.1 x.2.1 x.2.2.1 x.2.2.2.1) w1 u1 .n [g5k,K108,e9k] (by kernel_rfl) (by kernel_rfl) (fun _=>rfl) fun x=>by kernel_rfl
def f2s:Kn Tryz.prog VV:=mk 196 Tryz.f196 ⟨[.v .c_i64,.v .c_i64],[.v .c_bool]⟩ (fun x=>u4 x.1 x.2.1) w1 u1 .n [K116] (by kernel_rfl) (by kernel_rfl) (fun _=>rfl) fun x=>by kernel_rfl
def K190:Kn Tryz.prog VV:=mk 190 Tryz.f190 ⟨[.so 3 .c_i64,.v .c_i64,.v .c_i64],[]⟩ (fun x=>a52 x.1 x.2.1 x.2.2.1) (fun b=>((),(b,()))) (fun p=>p.2.1) (.s .n (.l [1,2] [] [.ow 0 0 3 .c_i64,.v 6 .c_i64] (.s .n (.s (.s .n (.l [1,2,6] [] [.ow 0 0 3 .c_i64,.v 7 .c_i64] .n)) .n)))) [f2s] (by kernel_rfl) (by kernel_rfl) (fun _=>rfl) fun x=>by kernel_rfl
def K297:Kn Tryz.prog VV:=mk 297 Tryz.f297 ⟨[.so 3 .c_i64,.v .c_i64,.v .c_i64,.v .c_i64],[]⟩ (fun x=>a3v x.1 x.2.1 x.2.2.1 x.2.2.2.1) (fun b=>((),(b,()))) (fun p=>p.2.1) (.s .n (.l [2,3] [] [.ow 0 0 3 .c_i64,.v 8 .c_i64] (.s .n (.s .n (.j [] [.ow 0 0 3 .c_i64,.v 2 .c_i64,.v 3 .c_i64,.v 8 .c_i64,.v 9 .c_i64] .n .n))))) [f2s] (by kernel_rfl) (by kernel_rfl) (fun _=>rfl) fun x=>by kernel_rfl
def K191:Kn Tryz.prog VV:=mk 191 Tryz.f191 ⟨[.so 3 .c_i64,.v .c_i64,.v .c_i64],[]⟩ (fun x=>a6s x.1 x.2.1 x.2.2.1) (fun b=>((),(b,()))) (fun p=>p.2.1) (sk 3 (.s (.s .n (.l [6,7,8] [] [.ow 0 0 3 .c_i64,.v 9 .c_i64] .n)) (.s .n (.l [6,7] [] [.ow 0 0 3 .c_i64,.v 10 .c_i64] .n)))) [K297] (by kernel_rfl) (by kernel_rfl) (fun _=>rfl) fun x=>by kernel_rfl
def K192:Kn Tryz.prog VV:=mk 192 Tryz.f192 ⟨[.so 3 .c_i64,.v .c_i64,.v .c_i64],[]⟩ (fun x=>a50 x.1 x.2.1 x.2.2.1) (fun b=>((),(b,()))) (fun p=>p.2.1) (sk 2 (.s (.s .n (.s .n (.s .n (.l [1,6,8] [] [.ow 0 0 3 .c_i64,.bx 7 3 423 .c_u64,.v 9 .c_i64] (.s .n (.s (.s .n (.j [] [.ow 0 0 3 .c_i64,.v 1 .c_i64,.v 6 .c_i64,.bx 7 3 423 .c_u64,.v 8 .c_u64,.v 9 .c_i64,.v 10 .c_i64] .n .n)) .n)))))) .n)) [K298,K299] (by kernel_rfl) (by kernel_rfl) (fun _=>rfl) fun x=>by kernel_rfl
def K393:Kn Tryz.prog VV:=mk 393 Tryz.f393 ⟨[.ls .c_i64,.v .c_i64,.v .c_i64,.io 3 .c_i64],[.v .c_i64,.v .c_i64]⟩ (fun x=>a2a x.1 x.2.1 x.2.2.1 x.2.2.2.1) (fun b=>((b.1,(b.2.1,())),(b.2.2,()))) (fun p=>(p.1.1,p.1.2.1,p.2.1)) .n [f2s] (by kernel_rfl) (by kernel_rfl) (fun _=>rfl) fun x=>by kernel_rfl
def K301:Kn Tryz.prog VV:=mk 301 Tryz.f301 ⟨[.ls .c_i64,.v .c_i64,.v .c_i64,.v .c_i64,.io 3 .c_i64],[.v .c_i64]⟩ (fun x=>a23 x.1 x.2.1 x.2.2.1 x.2.2.2.1 x.2.2.2.2.1) (fun b=>((b.1,()),(b.2,()))) (fun p=>(p.1.1,p.2.1)) .n [K393] (by kernel_rfl) (by kernel_rfl) (fun _=>rfl) fun x=>by kernel_rfl
def K300:Kn Tryz.prog VV:=mk 300 Tryz.f300 ⟨[.ls .c_i64,.v .c_i64,.io 3 .c_i64],[.v .c_i64]⟩ (fun x=>a0d x.1 x.2.1 x.2.2.1) (fun b=>((b.1,()),(b.2,()))) (fun p=>(p.1.1,p.2.1)) .n [K301] (by kernel_rfl) (by kernel_rfl) (fun _=>rfl) fun x=>by kernel_rfl
def K193:Kn Tryz.prog VV:=mk 193 Tryz.f193 ⟨[.ls .c_i64,.v .c_i64,.v .c_i64],[.v .c_i64,.v .c_i64]⟩ (fun x=>a5n x.1 x.2.1 x.2.2.1) w2 u2 (sk 6 (.j [] [.bx 9 3 3 .c_i64,.v 11 .c_i64] .n .n)) [K300,K301] (by kernel_rfl) (by kernel_rfl) (fun _=>rfl) fun x=>by kernel_rfl
def K194:Kn Tryz.prog VV:=mk 194 Tryz.f194 ⟨[.so 3 .c_i64,.v .c_i64,.v .c_i64],[]⟩ (fun x=>a5e x.1 x.2.1 x.2.2.1) (fun b=>((),(b,()))) (fun p=>p.2.1) (sk 2 (.l [] [] [.ow 0 0 3 .c_i64,.v 6 .c_i64,.v 7 .c_i64] .n)) [] (by kernel_rfl) (by kernel_rfl) (fun _=>rfl) fun x=>by kernel_rfl
def K195:Kn Tryz.prog VV:=mk 195 Tryz.f195 ⟨[.so 3 .c_i64,.v .c_i64,.v .c_i64],[.v .c_bool]⟩ (fun x=>a2s x.1 x.2.1 x.2.2.1) (fun b=>((b.1,()),(b.2,()))) (fun p=>(p.1.1,p.2.1)) (sk 2 (.s (.s .n (.l [1,2] [] [.ow 0 0 3 .c_i64,.v 7 .c_i64,.v 8 .c_i64] (.s .n (.s (.s (.l [1,2,8] [] [.ow 0 0 3 .c_i64,.v 7 .c_i64] .n) (.s .n (.s .n (.s .n (.j [] [.ow 0 0 3 .c_i64,.v 1 .c_i64,.v 2 .c_i64,.v 7 .c_i64,.v 8 .c_i64] (.s .n (.s (.s .n (.l [1,2,7,8] [] [.ow 0 0 3 .c_i64,.v 9 .c_i64] .n)) .n)) (.s .n (.s (.s .n (.l [1,2,7,8] [] [.ow 0 0 3 .c_i64,.v 10 .c_i64] .n)) .n))))))) .n)))) .n)) [f2s] (by kernel_rfl) (by kernel_rfl) (fun _=>rfl) fun x=>by kernel_rfl
def K197:Kn Tryz.prog VV:=mk 197 Tryz.f197 ⟨[.so 3 .c_i64,.v .c_i64,.v .c_i64,.v .c_i64],[.v .c_i64]⟩ (fun x=>a4p x.1 x.2.1 x.2.2.1 x.2.2.2.1) (fun b=>((b.1,()),(b.2,()))) (fun p=>(p.1.1,p.2.1)) (sk 3 (.s (.l [1] [] [.ow 0 0 3 .c_i64,.v 9 .c_i64,.v 10 .c_i64] (.s (.l [1,10] [] [.ow 0 0 3 .c_i64,.v 9 .c_i64] .n) (.s (.l [1,9] [] [.ow 0 0 3 .c_i64,.v 10 .c_i64] .n) .n))) .n)) [f2s] (by kernel_rfl) (by kernel_rfl) (fun _=>rfl) fun x=>by kernel_rfl
def K198:Kn Tryz.prog VV:=mk 198 Tryz.f198 ⟨[.so 3 .c_i64,.v .c_i64,.v .c_i64,.v .c_i64],[.v .c_i64,.v .c_bool]⟩ (fun x=>a6b x.1 x.2.1 x.2.2.1 x.2.2.2.1) (fun b=>((b.1,(b.2.1,())),(b.2.2,()))) (fun p=>(p.1.1,p.1.2.1,p.2.1)) (sk 3 (.s (.l [1,11] [] [.ow 0 0 3 .c_i64,.v 10 .c_i64] .n) (.s (.l [1,10] [] [.ow 0 0 3 .c_i64,.v 11 .c_i64] .n) (.s .n (.s .n (.s .n (.s .n (.s (.l [1] [] [.ow 0 0 3 .c_i64,.v 10 .c_i64,.v 11 .c_i64] (.s (.l [1,11] [] [.ow 0 0 3 .c_i64,.v 10 .c_i64] .n) (.s (.l [1,10] [] [.ow 0 0 3 .c_i64,.v 11 .c_i64] .n) .n))) .n)))))))) [f2s] (by kernel_rfl) (by kernel_rfl) (fun _=>rfl) fun x=>by kernel_rfl
def d5g:Sig VV:=⟨[.so 3 .c_i64,.v .c_i64,.v .c_i64,.v .c_i64],[]⟩
def d5n (R:Ring_slices_pdqsortOrdered_of_int):Fent VV:=⟨d5g,List Int,fun x=>R.f_slices_pdqsortOrdered_of_int x.1 x.2.1 x.2.2.1 x.2.2.2.1,fun b=>((),(b,())),none⟩
def g1b:Fent VV:=d5n (o9 FU)
def f2l:Ress VV d5g.rs×Outs VV d5g.ps -> List Int:=fun p=>p.2.1
def f4h:Ann VV.C:=(.s .n (.s .n (.l [] [] [.ow 0 0 3 .c_i64,.v 1 .c_i64,.v 2 .c_i64,.v 3 .c_i64,.v 8 .c_bool,.v 9 .c_bool] (.s .n (.s .n (.s .n (.j [] [.ow 0 0 3 .c_i64,.v 1 .c_i64,.v 2 .c_i64,.v 3 .c_i64,.v 8 .c_bool,.v 9 .c_bool,.v 10 .c_i64] .n (.s .n (.j [] [.ow 0 0 3 .c_i64,.v 1 .c_i64,.v 2 .c_i64,.v 3 .c_i64,.v 8 .c_bool,.v 9 .c_bool,.v 10 .c_i64,.v 11 .c_i64,.v 12 .c_i64] .n (.j [] [.ow 0 0 3 .c_i64,.v 1 .c_i64,.v 2 .c_i64,.v 3 .c_i64,.v 8 .c_bool,.v 9 .c_bool,.v 10 .c_i64,.v 11 .c_i64] .n .n))))))))))
def f4d (R:Ring_slices_pdqsortOrdered_of_int):Phi VV:=fun f ys=>lkF f ys [(117,d5n R),K190.e,K191.e,K192.e,K193.e,K194.e,K195.e,f2s.e,K197.e,K198.e]
theorem f7p (R:Ring_slices_pdqsortOrdered_of_int) (hr117:SX.Spec Tryz.prog 117 (d5n R)):OKΦ Tryz.prog (f4d R):=okl ⟨knS rfl ⟨hr117,fun _ _=>by kernel_rfl⟩,K190.ok,K191.ok,K192.ok,K193.ok,K194.ok,K195.ok,f2s.ok,K197.ok,K198.ok,trivial⟩
theorem g1o (R:Ring_slices_pdqsortOrdered_of_int): ∀x,c9q Tryz.prog (f4d R) d5g f2l Tryz.f117 f4h x=a6a R x.1 x.2.1 x.2.2.1 x.2.2.2.1:=fun x=>by kernel_rfl
theorem f5r:d04 Tryz.f117 d5g=true:=by kernel_rfl
theorem a4g: ∀n,SX.Spec Tryz.prog 117 (d5n (o9 n))
 | 0=>(fun _ _ h=>(by cases (show none=some _ from h)))
 | n+1=>let h117:=a4g n;a79 (fe:=d5n (o9 (n+1))) uok (f7p (o9 n) h117) mixed (fn:=Tryz.f117) (by kernel_rfl) f2l f4h (q8 f5r).1 (q8 f5r).2 (fun _=>rfl) (g1o (o9 n))
def K117:Kn Tryz.prog VV:=⟨117,g1b,knS rfl ⟨(a4g FU),fun _ _=>by kernel_rfl⟩⟩
def K58:Kn Tryz.prog VV:=mk 58 Tryz.f58 ⟨[.so 3 .c_i64],[]⟩ (fun x=>b5k x.1) (fun b=>((),(b,()))) (fun p=>p.2.1) .n [K117,g6r] (by kernel_rfl) (by kernel_rfl) (fun _=>rfl) fun x=>by kernel_rfl
def K59:Kn Tryz.prog VV:=mk 59 Tryz.f59 ⟨[.ow 3 .c_i64],[.ow 3 .c_i64]⟩ (fun x=>b2b x.1) w1 u1 (sk 2 (.s (.s .n (.l [] [] [.ow 0 1 3 .c_i64,.v 3 .c_i64] (.s .n (.s (.s .n (.s (.s (.g [1002]) (.s (.s .n (.l [] [] [.ow 0 1 3 .c_i64,.v 3 .c_i64,.v 5 .c_i64,.vw 4 1 .c_i64] .n)) (.s (.g [1002]) (.s (.g [2002]) .n)))) .n)) .n)))) .n)) [] (by kernel_rfl) (by kernel_rfl) (fun _=>rfl) fun x=>by kernel_rfl
def K99:Kn Tryz.prog VV:=mk 99 Tryz.f99 ⟨[.rp 130 .c_sdecision_file,.v .c_i64,.v .c_i64],[.ow 272 .c_sdecision_item]⟩ (fun x=>b4q x.1 x.2.1 x.2.2.1) w1 u1 (sk 2 (.s (.s .n (.l [0,1,2,17] [] [.ow 7 3 272 .c_sdecision_item,.ow 16 4 3 .c_i64,.v 18 .c_i64] (.s .n (.s .n (.s (.s .n (.s .n (.s .n (.s .n (.j [] [.rp 0 .c_sdecision_file,.v 1 .c_i64,.v 2 .c_i64,.ow 7 3 272 .c_sdecision_item,.v 9 .c_i64,.ls 10 .c_sapi_Fact,.ow 11 4 305 .c_sHeir,.ow 16 5 3 .c_i64,.v 17 .c_i64,.v 18 .c_i64] .n (.s .n (.l [0,1,2,9,10,17,18,58,59] [] [.ow 7 3 272 .c_sdecision_item,.ow 11 4 305 .c_sHeir,.ow 16 5 3 .c_i64,.v 60 .c_i64] .n))))))) .n))))) .n)) [K45,K52,g5k] (by kernel_rfl) (by kernel_rfl) (fun _=>rfl) fun x=>by kernel_rfl
def K98:Kn Tryz.prog VV:=mk 98 Tryz.f98 ⟨[.ls .c_sdecision_item],[.ow 264 .c_sGross]⟩ (fun x=>c19 x.1) w1 u1 (sk 2 (.s (.s .n (.l [6,7] [] [.ow 3 1 264 .c_sGross,.v 8 .c_i64] .n)) .n)) [] (by kernel_rfl) (by kernel_rfl) (fun _=>rfl) fun x=>by kernel_rfl
def K254:Kn Tryz.prog VV:=mk 254 Tryz.f254 ⟨[.ls .c_sGross],[.v .c_bool]⟩ (fun x=>b9r x.1) w1 u1 (sk 2 (.s (.s .n (.l [0,10,11] [] [.v 12 .c_i64] .n)) .n)) [] (by kernel_rfl) (by kernel_rfl) (fun _=>rfl) fun x=>by kernel_rfl
def K156:Kn Tryz.prog VV:=mk 156 Tryz.f156 ⟨[.ls .c_sGross,.ls .c_sRate,.v .c_i64],[.ow 266 .c_sDeduction,.v .c_i64]⟩ (fun x=>b3e x.1 x.2.1 x.2.2.1) w2 u2 (sk 3 (.s (.s .n (.l [0,1,2,38] [] [.ow 8 3 22 .c_li64,.v 39 .c_i64] .n)) (.s .n (.s (.s .n (.l [0,1,2,49,50] [] [.ow 8 3 22 .c_li64,.ow 10 4 266 .c_sDeduction,.v 51 .c_i64] .n)) .n)))) [K43,K254] (by kernel_rfl) (by kernel_rfl) (fun _=>rfl) fun x=>by kernel_rfl
def K97:Kn Tryz.prog VV:=mk 97 Tryz.f97 ⟨[.ls .c_sGross,.ls .c_sRate,.v .c_i64],[.ow 138 .c_sNet,.v .c_i64]⟩ (fun x=>b9f x.1 x.2.1 x.2.2.1) w2 u2 (sk 4 (.s (.s .n (.l [31,32] [] [.ow 8 3 266 .c_sDeduction,.ow 10 4 138 .c_sNet,.v 33 .c_i64] .n)) (.s (.s .n (.l [54] [] [.ow 10 3 138 .c_sNet,.ow 53 4 266 .c_sDeduction,.v 55 .c_i64] .n)) (.s (.s .n (.l [80] [] [.ow 10 3 138 .c_sNet,.v 81 .c_i64] .n)) .n)))) [K156] (by kernel_rfl) (by kernel_rfl) (fun _=>rfl) fun x=>by kernel_rfl
def K160:Kn Tryz.prog VV:=mk 160 Tryz.f160 ⟨[.v .c_sNet,.rp 138 .c_sNet],[.v .c_bool]⟩ (fun x=>b3l x.1 x.2.1) w1 u1 .n [] (by kernel_rfl) (by kernel_rfl) (fun _=>rfl) fun x=>by kernel_rfl
def K162:Kn Tryz.prog VV:=mk 162 Tryz.f162 ⟨[.v .c_sNet,.rp 138 .c_sNet],[.v .c_bool]⟩ (fun x=>b3m x.1 x.2.1) w1 u1 .n [] (by kernel_rfl) (by kernel_rfl) (fun _=>rfl) fun x=>by kernel_rfl
def f1r:Kn Tryz.prog VV:=mk 161 Tryz.f161 ⟨[.ls .c_sNet,.cl 160 [.c_sNet]],[.v .c_i64]⟩ (fun x=>a17 x.1 x.2.1.1) w1 u1 (.s .n (.s (.s .n (.l [0,1,7] [] [.v 8 .c_i64] .n)) .n)) [K160] (by kernel_rfl) (by kernel_rfl) (fun _=>rfl) fun x=>by kernel_rfl
def e98:Kn Tryz.prog VV:=mk 161 Tryz.f161 ⟨[.ls .c_sNet,.cl 162 [.c_sNet]],[.v .c_i64]⟩ (fun x=>a16 x.1 x.2.1.1) w1 u1 (.s .n (.s (.s .n (.l [0,1,7] [] [.v 8 .c_i64] .n)) .n)) [K162] (by kernel_rfl) (by kernel_rfl) (fun _=>rfl) fun x=>by kernel_rfl
def K100:Kn Tryz.prog VV:=mk 100 Tryz.f100 ⟨[.ls .c_sNet],[.ow 138 .c_sNet]⟩ (fun x=>b5g x.1) w1 u1 (sk 3 (.s (.s .n (.l [0,20,21] [] [.ow 3 1 3 .c_i64,.ow 4 2 4 .c_bool,.v 22 .c_i64] .n)) (.s (.s .n (.l [0,33,34] [] [.ow 3 1 3 .c_i64,.ow 4 2 4 .c_bool,.v 35 .c_i64] .n)) (.s .n (.s (.s .n (.l [66,67] [] [.ow 3 1 3 .c_i64,.ow 4 2 4 .c_bool,.ow 11 3 138 .c_sNet,.v 68 .c_i64] .n)) .n))))) [f1r,e98] (by kernel_rfl) (by kernel_rfl) (fun _=>rfl) fun x=>by kernel_rfl
def K101:Kn Tryz.prog VV:=mk 101 Tryz.f101 ⟨[.rp 130 .c_sdecision_file,.v .c_i64,.v .c_i64],[.ow 138 .c_sNet]⟩ (fun x=>b1i x.1 x.2.1 x.2.2.1) w1 u1 (sk 2 (.s (.s .n (.l [0,1,2,20] [] [.ow 7 3 138 .c_sNet,.ow 19 4 46 .c_sClaim,.v 21 .c_i64] .n)) .n)) [g5k,K114] (by kernel_rfl) (by kernel_rfl) (fun _=>rfl) fun x=>by kernel_rfl
def K104:Kn Tryz.prog VV:=mk 104 Tryz.f104 ⟨[.v .c_sNet],[.v .c_bool]⟩ (fun x=>a7p x.1) w1 u1 .n [] (by kernel_rfl) (by kernel_rfl) (fun _=>rfl) fun x=>by kernel_rfl
def K106:Kn Tryz.prog VV:=mk 106 Tryz.f106 ⟨[.v .c_sNet,.v .c_sNet],[.v .c_i64]⟩ (fun x=>b2v x.1 x.2.1) w1 u1 .n [K55,K56] (by kernel_rfl) (by kernel_rfl) (fun _=>rfl) fun x=>by kernel_rfl
def e8n:Kn Tryz.prog VV:=mk 161 Tryz.f161 ⟨[.ls .c_sNet,.cl 104 []],[.v .c_i64]⟩ (fun x=>a0v x.1) w1 u1 (.s .n (.s (.s .n (.l [0,1,7] [] [.v 8 .c_i64] .n)) .n)) [K104] (by kernel_rfl) (by kernel_rfl) (fun _=>rfl) fun x=>by kernel_rfl
def e92:Kn Tryz.prog VV:=mk 103 Tryz.f103 ⟨[.ow 138 .c_sNet,.cl 104 []],[.ow 138 .c_sNet]⟩ (fun x=>u6 x.1) w1 u1 (sk 3 (.s (.s .n (.l [1] [] [.ow 0 2 138 .c_sNet,.v 5 .c_i64,.v 6 .c_i64] .n)) (.s (.g [1002]) (.s (.g [2002]) .n)))) [K104,e8n] (by kernel_rfl) (by kernel_rfl) (fun _=>rfl) fun x=>by kernel_rfl
def e9e:Kn Tryz.prog VV:=mk 285 Tryz.f285 ⟨[.so 138 .c_sNet,.v .c_i64,.v .c_i64,.cl 106 []],[]⟩ (fun x=>p5 x.1 x.2.1 x.2.2.1) (fun b=>((),(b,()))) (fun p=>p.2.1) (.s .n (.l [1,2,3] [] [.ow 0 0 138 .c_sNet,.v 8 .c_i64] (.s .n (.s (.s .n (.l [1,2,3,8] [] [.ow 0 0 138 .c_sNet,.v 9 .c_i64] .n)) .n)))) [K106] (by kernel_rfl) (by kernel_rfl) (fun _=>rfl) fun x=>by kernel_rfl
def e8i:Kn Tryz.prog VV:=mk 174 Tryz.f174 ⟨[.so 138 .c_sNet,.v .c_i64,.cl 106 []],[]⟩ (fun x=>a0h x.1 x.2.1) (fun b=>((),(b,()))) (fun p=>p.2.1) (sk 2 (.s (.l [1,2,6] [] [.ow 0 0 138 .c_sNet,.v 7 .c_i64,.v 8 .c_i64] .n) (.s .n (.l [1,2] [] [.ow 0 0 138 .c_sNet,.v 6 .c_i64] (.s .n (.s .n (.s (.l [1,2,6] [] [.ow 0 0 138 .c_sNet,.v 7 .c_i64,.v 8 .c_i64] .n) .n))))))) [e9e] (by kernel_rfl) (by kernel_rfl) (fun _=>rfl) fun x=>by kernel_rfl
def f1b:Kn Tryz.prog VV:=mk 105 Tryz.f105 ⟨[.so 138 .c_sNet,.cl 106 []],[]⟩ (fun x=>s6 x.1) (fun b=>((),(b,()))) (fun p=>p.2.1) .n [e8i] (by kernel_rfl) (by kernel_rfl) (fun _=>rfl) fun x=>by kernel_rfl
def K50:Kn Tryz.prog VV:=mk 50 Tryz.f50 ⟨[.rp 130 .c_sdecision_file,.v .c_i64,.v .c_i64],[.ow 138 .c_sNet]⟩ (fun x=>b51 x.1 x.2.1 x.2.2.1) w1 u1 (sk 2 (.j [] [.rp 0 .c_sdecision_file,.v 1 .c_i64,.v 2 .c_i64,.ow 7 3 138 .c_sNet] .n (.s .n (.s (.s .n (.s (.s .n (.l [0,1,46,47] [] [.ow 9 3 138 .c_sNet,.v 48 .c_i64] .n)) .n)) .n)))) [K52,K97,K98,K99,K100,K101,e92,f1b] (by kernel_rfl) (by kernel_rfl) (fun _=>rfl) fun x=>by kernel_rfl
def K25:Kn Tryz.prog VV:=mk 25 Tryz.f25 ⟨[.rp 130 .c_sdecision_file,.v .c_i64,.v .c_i64],[.ow 74 .c_A6_lsStage]⟩ (fun x=>c0q x.1 x.2.1 x.2.2.1) w1 u1 (sk 3 (.s (.s .n (.l [0,1,2,40,41] [] [.ow 7 3 74 .c_A6_lsStage,.ow 8 4 22 .c_li64,.v 42 .c_i64] .n)) (.s (.s .n (.l [0,2] [] [.ow 7 3 74 .c_A6_lsStage,.ow 8 4 22 .c_li64,.v 11 .c_i64] (.s .n (.s (.s .n (.s .n (.s .n (.s .n (.l [0,2,11,12] [] [.ow 7 3 74 .c_A6_lsStage,.ow 8 4 22 .c_li64,.v 16 .c_i64] (.s .n (.s (.s .n (.s .n (.s .n (.l [0,2,11,12,16,17,18,94,95] [] [.ow 7 3 74 .c_A6_lsStage,.ow 8 4 22 .c_li64,.v 96 .c_i64] .n)))) .n))))))) .n)))) .n))) [K48,K49,K50,K52] (by kernel_rfl) (by kernel_rfl) (fun _=>rfl) fun x=>by kernel_rfl
def K11:Kn Tryz.prog VV:=mk 11 Tryz.f11 ⟨[.v .c_sLaws,.ls .c_sapi_Fact,.ls .c_sClaim,.v .c_i64,.v .c_i64],[.ow 87 .c_sRow,.v .c_i64]⟩ (fun x=>a4e x.1 x.2.1 x.2.2.1 x.2.2.2.1 x.2.2.2.2.1) w2 u2 .n [K22,K23,K24,K25] (by kernel_rfl) (by kernel_rfl) (fun _=>rfl) fun x=>by kernel_rfl
def K29:Kn Tryz.prog VV:=mk 29 Tryz.f29 ⟨[.v .c_i64],[.v .c_bool]⟩ (fun x=>a58 x.1) w1 u1 .n [] (by kernel_rfl) (by kernel_rfl) (fun _=>rfl) fun x=>by kernel_rfl
def K28:Kn Tryz.prog VV:=mk 28 Tryz.f28 ⟨[.ls .c_sRow],[.v .c_bool]⟩ (fun x=>b27 x.1) w1 u1 (sk 2 (.s (.s .n (.l [0,10,11] [] [.mp 3 1,.v 12 .c_i64] (.s .n (.s .n (.s (.s .n (.s .n (.j [] [.ls 0 .c_sRow,.mp 3 1,.bx 5 2 87 .c_sRow,.ls 10 .c_sRow,.v 11 .c_i64,.v 12 .c_i64] .n .n))) .n))))) .n)) [K29,K55,K56] (by kernel_rfl) (by kernel_rfl) (fun _=>rfl) fun x=>by kernel_rfl
def K57:Kn Tryz.prog VV:=mk 57 Tryz.f57 ⟨[.ls .c_sRow,.v .c_i64,.v .c_i64,.v .c_i64],[.v .c_i64]⟩ (fun x=>b4u x.1 x.2.1 x.2.2.1 x.2.2.2.1) w1 u1 (sk 2 (.s (.s .n (.l [1,2,3,12,13] [] [.v 9 .c_i64,.v 14 .c_i64] .n)) .n)) [] (by kernel_rfl) (by kernel_rfl) (fun _=>rfl) fun x=>by kernel_rfl
def K30:Kn Tryz.prog VV:=mk 30 Tryz.f30 ⟨[.ls .c_sRow,.v .c_i64,.v .c_i64],[.v .c_i64]⟩ (fun x=>b2n x.1 x.2.1 x.2.2.1) w1 u1 (sk 2 (.s (.s .n (.l [0,1,2] [] [.v 7 .c_i64,.v 8 .c_i64] .n)) .n)) [K57] (by kernel_rfl) (by kernel_rfl) (fun _=>rfl) fun x=>by kernel_rfl
def K12:Kn Tryz.prog VV:=mk 12 Tryz.f12 ⟨[.ls .c_sRow,.v .c_i64,.v .c_i64],[.v .c_i64,.v .c_i64]⟩ (fun x=>b5e x.1 x.2.1 x.2.2.1) w2 u2 .n [K28,K29,K30] (by kernel_rfl) (by kernel_rfl) (fun _=>rfl) fun x=>by kernel_rfl
def K6:Kn Tryz.prog VV:=mk 6 Tryz.f6 ⟨[.v .c_sLaws,.ls .c_sapi_Fact,.ls .c_sClaim,.v .c_i64,.v .c_i64,.v .c_i64],[.v .c_i64,.v .c_i64]⟩ (fun x=>a6j x.1 x.2.1 x.2.2.1 x.2.2.2.1 x.2.2.2.2.1 x.2.2.2.2.2.1) w2 u2 .n [K11,K12] (by kernel_rfl) (by kernel_rfl) (fun _=>rfl) fun x=>by kernel_rfl
def K31:Kn Tryz.prog VV:=mk 31 Tryz.f31 ⟨[.v .c_i64,.v .c_i64,.v .c_i64,.ls .c_lsRow],[.ow 3 .c_i64]⟩ (fun x=>b77 x.1 x.2.1 x.2.2.1 x.2.2.2.1) w1 u1 (sk 2 (.s (.s .n (.l [0,1,2,16,17] [] [.ow 9 4 3 .c_i64,.v 18 .c_i64] (.s .n (.s .n (.s (.s .n (.s .n (.l [0,1,2,16,17,18,22,23] [] [.ow 9 4 3 .c_i64,.v 24 .c_i64] .n))) .n))))) .n)) [K58,K59] (by kernel_rfl) (by kernel_rfl) (fun _=>rfl) fun x=>by kernel_rfl
def K13:Kn Tryz.prog VV:=mk 13 Tryz.f13 ⟨[.ls .c_sRow,.v .c_i64,.v .c_i64,.v .c_i64],[.v .c_i64,.v .c_i64]⟩ (fun x=>b6i x.1 x.2.1 x.2.2.1 x.2.2.2.1) w2 u2 (sk 5 (.s (.s .n (.l [0,1,3,38] [(37,4)] [.v 10 .c_i64,.ow 11 4 3 .c_i64,.v 39 .c_i64] (.s .n (.s .n (.s (.s .n (.s .n (.j [(37,4)] [.ls 0 .c_sRow,.v 1 .c_i64,.v 3 .c_i64,.v 10 .c_i64,.ow 11 4 3 .c_i64,.v 13 .c_i64,.v 14 .c_i64,.v 38 .c_i64,.v 39 .c_i64] .n .n))) .n))))) .n)) [K28,K29,K30,K31] (by kernel_rfl) (by kernel_rfl) (fun _=>rfl) fun x=>by kernel_rfl
def K7:Kn Tryz.prog VV:=mk 7 Tryz.f7 ⟨[.v .c_sLaws,.ls .c_sapi_Fact,.ls .c_sClaim,.v .c_i64,.v .c_i64,.v .c_i64],[.v .c_i64,.v .c_i64]⟩ (fun x=>a0u x.1 x.2.1 x.2.2.1 x.2.2.2.1 x.2.2.2.2.1 x.2.2.2.2.2.1) w2 u2 .n [K11,K13] (by kernel_rfl) (by kernel_rfl) (fun _=>rfl) fun x=>by kernel_rfl
def K32:Kn Tryz.prog VV:=mk 32 Tryz.f32 ⟨[.ls .c_sKnowledge],[.v .c_bool]⟩ (fun x=>b92 x.1) w1 u1 (sk 2 (.s (.s .n (.l [0,10,11] [] [.v 12 .c_i64] (.s .n (.s .n (.s (.s .n (.s .n (.s .n (.l [0,10,11,12,31,32] [] [.bx 4 1 95 .c_sKnowledge,.v 33 .c_i64] .n)))) .n))))) .n)) [] (by kernel_rfl) (by kernel_rfl) (fun _=>rfl) fun x=>by kernel_rfl
def K33:Kn Tryz.prog VV:=mk 33 Tryz.f33 ⟨[],[.v .c_nil]⟩ (fun x=>c8a) w1 u1 .n [] (by kernel_rfl) (by kernel_rfl) (fun _=>rfl) fun x=>by kernel_rfl
def K62:Kn Tryz.prog VV:=mk 62 Tryz.f62 ⟨[.v .c_i64],[.v .c_bool]⟩ (fun x=>b9t x.1) w1 u1 .n [] (by kernel_rfl) (by kernel_rfl) (fun _=>rfl) fun x=>by kernel_rfl
def K63:Kn Tryz.prog VV:=mk 63 Tryz.f63 ⟨[.v .c_i64],[.v .c_i64]⟩ (fun x=>c3u x.1) w1 u1 .n [] (by kernel_rfl) (by kernel_rfl) (fun _=>rfl) fun x=>by kernel_rfl
def K36:Kn Tryz.prog VV:=mk 36 Tryz.f36 ⟨[.v .c_i64,.v .c_i64],[.v .c_i64,.v .c_i64]⟩ (fun x=>b31 x.1 x.2.1) w2 u2 .n [K62,K63] (by kernel_rfl) (by kernel_rfl) (fun _=>rfl) fun x=>by kernel_rfl
def K14:Kn Tryz.prog VV:=mk 14 Tryz.f14 ⟨[.v .c_sLaws,.ls .c_sKnowledge,.v .c_i64,.v .c_i64],[.v .c_nil,.v .c_i64]⟩ (fun x=>b38 x.1 x.2.1 x.2.2.1 x.2.2.2.1) w2 u2 .n [K22,K32,K33] (by kernel_rfl) (by kernel_rfl) (fun _=>rfl) fun x=>by kernel_rfl
def K8:Kn Tryz.prog VV:=mk 8 Tryz.f8 ⟨[.v .c_sLaws,.ls .c_sKnowledge,.v .c_i64,.v .c_i64],[.ow 99 .c_sEntry,.v .c_i64]⟩ (fun x=>a99 x.1 x.2.1 x.2.2.1 x.2.2.2.1) w2 u2 .n [K14] (by kernel_rfl) (by kernel_rfl) (fun _=>rfl) fun x=>by kernel_rfl
def K16:Kn Tryz.prog VV:=mk 16 Tryz.f16 ⟨[.v .c_sLaws,.ls .c_sapi_Fact,.ls .c_sClaim,.v .c_i64,.v .c_i64,.v .c_i64,.v .c_i64],[.v .c_i64,.v .c_i64]⟩ (fun x=>a24 x.1 x.2.1 x.2.2.1 x.2.2.2.1 x.2.2.2.2.1 x.2.2.2.2.2.1 x.2.2.2.2.2.2.1) w2 u2 (sk 3 (.l [1,2,3,4,5] [] [.v 6 .c_i64,.bx 7 7 31 .c_sLaws,.v 16 .c_i64] .n)) [K6,K36] (by kernel_rfl) (by kernel_rfl) (fun _=>rfl) fun x=>by kernel_rfl
def K9:Kn Tryz.prog VV:=mk 9 Tryz.f9 ⟨[],[.v .c_bool]⟩ (fun x=>a7g) w1 u1 .n [K7,K10,K16] (by kernel_rfl) (by kernel_rfl) (fun _=>rfl) fun x=>by kernel_rfl
def f9v:Sig VV:=⟨[.v .c_spensionlaw26_Seeds,.v .c_i64],[.v .c_bool]⟩
def fe_3:Fent VV:=⟨f9v,Bool,fun x=>a3r x.1 x.2.1,fun b=>((b,()),()),none⟩
def un_3:Ress VV f9v.rs×Outs VV f9v.ps -> Bool:=fun p=>p.1.1
def an_3:Ann VV.C:= .n
theorem ok_3:SX.Spec Tryz.prog 3 fe_3:=a79 (fe:=fe_3) uok (okl (g4d [K4,K5,K6,K7,K8,K9])) mixed (fn:=Tryz.f3) (by kernel_rfl) un_3 an_3 (q8 (s:=f9v) (by kernel_rfl)).1 (q8 (s:=f9v) (by kernel_rfl)).2 (fun _=>rfl) fun x=>by kernel_rfl
end
end Go.PL
