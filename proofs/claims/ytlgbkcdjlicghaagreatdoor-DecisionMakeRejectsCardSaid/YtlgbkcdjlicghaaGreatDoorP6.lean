/- Texts of the proof, joined. -/
import Derived.Test.YtlgbkcdjlicghaaGreatDoorP5
import Derived.Test.YtlgbkcdjlicghaaGreatDoorProg
import Derived.KernelRfl
import Derived.Shelf.Strconv.Itoa3
import Derived.RangeFuncLeaves
import Derived.RangeFuncBox
import Derived.Shelf.Abstract
import Derived.WalkKit
import Derived.OwnWalkIn
import Derived.TacticsInMore
import Derived.LoopNIn
import Derived.LoopIn
set_option linter.unusedVariables false
set_option linter.unusedSimpArgs false
set_option maxRecDepth 100000
namespace Go.PL
open Go Go.SX
inductive TyC where
  | c_u8
  | c_i64
  | c_str
  | c_bool
  | c_sSpan
  | c_sapi_Fact
  | c_spensionhand_Fact
  | c_A3_str
  | c_sToken
  | c_spensionref5_reader
  | c_u64
  | c_spensionref1_wide
  | c_sFraction
  | c_sExpr
  | c_sRounding
  | c_sCredit
  | c_sIndex
  | c_sLet
  | c_sGrant
  | c_sReduce
  | c_sVersion
  | c_sStatute
  | c_sState
  | c_sRules
  | c_sRate
  | c_sLaws
  | c_spensionhand_Claim
  | c_sClaim
  | c_spensionlaw26_Seeds
  | c_ssyntax_entry
  | c_A2_i64
  | c_sBinding
  | c_A12_i64
  | c_u32
  | c_sdecision_file
  | c_A6_bool
  | c_A100_bool
  | c_sHeir
  | c_psdecision_file
  | c_sRow
deriving DecidableEq
@[reducible] def TyC.T : TyC -> Type
  | .c_u8 => Int
  | .c_i64 => Int
  | .c_str => ByteArray
  | .c_bool => Bool
  | .c_sSpan => Span
  | .c_sapi_Fact => api_Fact
  | .c_spensionhand_Fact => pensionhand_Fact
  | .c_A3_str => Ar 3 ByteArray
  | .c_sToken => Token
  | .c_spensionref5_reader => pensionref5_reader
  | .c_u64 => Int
  | .c_spensionref1_wide => pensionref1_wide
  | .c_sFraction => Fraction
  | .c_sExpr => Expr
  | .c_sRounding => Rounding
  | .c_sCredit => Credit
  | .c_sIndex => Index
  | .c_sLet => Let
  | .c_sGrant => Grant
  | .c_sReduce => Reduce
  | .c_sVersion => Version
  | .c_sStatute => Statute
  | .c_sState => State
  | .c_sRules => Rules
  | .c_sRate => Rate
  | .c_sLaws => Laws
  | .c_spensionhand_Claim => pensionhand_Claim
  | .c_sClaim => Claim
  | .c_spensionlaw26_Seeds => pensionlaw26_Seeds
  | .c_ssyntax_entry => syntax_entry
  | .c_A2_i64 => Ar 2 Int
  | .c_sBinding => Binding
  | .c_A12_i64 => Ar 12 Int
  | .c_u32 => Int
  | .c_sdecision_file => decision_file
  | .c_A6_bool => Ar 6 Bool
  | .c_A100_bool => Ar 100 Bool
  | .c_sHeir => Heir
  | .c_psdecision_file => decision_file
  | .c_sRow => Row
abbrev VA := AV TyC TyC.T
def dT : DecidableEq TyC := inferInstance
def f2x : Int -> List VA := fun x => [.int .u8 x]
def f2w : List VA -> Option Int := mkS (gI .u8) fun x0 => mkE x0
def e63 : Int -> List VA := fun x => [.int .i64 x]
def e6t : List VA -> Option Int := mkS (gI .i64) fun x0 => mkE x0
def e67 : ByteArray -> List VA := fun x => [.str x]
def e6u : List VA -> Option ByteArray := mkS (gS) fun x0 => mkE x0
def d8v : Bool -> List VA := fun x => [.bool x]
def d84 : List VA -> Option Bool := mkS (gB) fun x0 => mkE x0
def d3w : Span -> List VA := fun x => [.int .i64 x.From, .int .i64 x.To]
def d3g : List VA -> Option Span := mkS (gI .i64) fun x0 => mkS (gI .i64) fun x1 => mkE (⟨x0, x1⟩ : Span)
def c0s : api_Fact -> List VA := fun x => [.int .i64 x.Issuer, .int .i64 x.Number, .int .i64 x.Version, .bool x.Withdrawn, .int .i64 x.Person, .int .i64 x.Kind, .int .i64 x.State, .val .c_sSpan x.Span, .int .i64 x.Seat, .int .i64 x.Share, .int .i64 x.Currency, .int .i64 x.Amount, .int .i64 x.Ref]
def c0x : List VA -> Option api_Fact := mkS (gI .i64) fun x0 => mkS (gI .i64) fun x1 => mkS (gI .i64) fun x2 => mkS (gB) fun x3 => mkS (gI .i64) fun x4 => mkS (gI .i64) fun x5 => mkS (gI .i64) fun x6 => mkS (gV dT .c_sSpan) fun x7 => mkS (gI .i64) fun x8 => mkS (gI .i64) fun x9 => mkS (gI .i64) fun x10 => mkS (gI .i64) fun x11 => mkS (gI .i64) fun x12 => mkE (⟨x0, x1, x2, x3, x4, x5, x6, x7, x8, x9, x10, x11, x12⟩ : api_Fact)
def b1c : pensionhand_Fact -> List VA := fun x => [.int .i64 x.Issuer, .int .i64 x.Number, .int .i64 x.Version, .bool x.Withdrawn, .int .i64 x.Person, .int .i64 x.Kind, .int .i64 x.State, .int .i64 x.Seat, .int .i64 x.From, .int .i64 x.Length, .int .i64 x.Share, .int .i64 x.Amount, .int .i64 x.Ref]
def b1b : List VA -> Option pensionhand_Fact := mkS (gI .i64) fun x0 => mkS (gI .i64) fun x1 => mkS (gI .i64) fun x2 => mkS (gB) fun x3 => mkS (gI .i64) fun x4 => mkS (gI .i64) fun x5 => mkS (gI .i64) fun x6 => mkS (gI .i64) fun x7 => mkS (gI .i64) fun x8 => mkS (gI .i64) fun x9 => mkS (gI .i64) fun x10 => mkS (gI .i64) fun x11 => mkS (gI .i64) fun x12 => mkE (⟨x0, x1, x2, x3, x4, x5, x6, x7, x8, x9, x10, x11, x12⟩ : pensionhand_Fact)
def c8m : Ar 3 ByteArray -> List VA := fun x => x.l.map fun y => .str y
def d0d : List VA -> Option (Ar 3 ByteArray) := mkA (gS) 3
def c96 : Token -> List VA := fun x => [.int .i64 x.Kind, .str x.Text, .int .i64 x.At]
def c9s : List VA -> Option Token := mkS (gI .i64) fun x0 => mkS (gS) fun x1 => mkS (gI .i64) fun x2 => mkE (⟨x0, x1, x2⟩ : Token)
def a94 : pensionref5_reader -> List VA := fun x => [.list .c_sToken x.l, .int .i64 x.at_, .int .i64 x.end_, .bool x.bad]
def a92 : List VA -> Option pensionref5_reader := mkS (SX.gL dT .c_sToken) fun x0 => mkS (gI .i64) fun x1 => mkS (gI .i64) fun x2 => mkS (gB) fun x3 => mkE (⟨x0, x1, x2, x3⟩ : pensionref5_reader)
def e72 : Int -> List VA := fun x => [.int .u64 x]
def e5o : List VA -> Option Int := mkS (gI .u64) fun x0 => mkE x0
def b1e : pensionref1_wide -> List VA := fun x => [.int .u64 x.hi, .int .u64 x.lo]
def b0y : List VA -> Option pensionref1_wide := mkS (gI .u64) fun x0 => mkS (gI .u64) fun x1 => mkE (⟨x0, x1⟩ : pensionref1_wide)
def c18 : Fraction -> List VA := fun x => [.int .i64 x.Num, .int .i64 x.Den]
def c17 : List VA -> Option Fraction := mkS (gI .i64) fun x0 => mkS (gI .i64) fun x1 => mkE (⟨x0, x1⟩ : Fraction)
def d2y : Expr -> List VA := fun x => [.int .i64 x.Op, .val .c_sFraction x.Value, .int .i64 x.Dim, .str x.Name, .list .c_sExpr x.Args]
def d2n : List VA -> Option Expr := mkS (gI .i64) fun x0 => mkS (gV dT .c_sFraction) fun x1 => mkS (gI .i64) fun x2 => mkS (gS) fun x3 => mkS (SX.gL dT .c_sExpr) fun x4 => mkE (⟨x0, x1, x2, x3, x4⟩ : Expr)
def c11 : Rounding -> List VA := fun x => [.int .i64 x.Mode, .int .i64 x.Unit]
def c13 : List VA -> Option Rounding := mkS (gI .i64) fun x0 => mkS (gI .i64) fun x1 => mkE (⟨x0, x1⟩ : Rounding)
def c51 : Credit -> List VA := fun x => [.int .i64 x.Kind, .int .i64 x.Limit]
def c4o : List VA -> Option Credit := mkS (gI .i64) fun x0 => mkS (gI .i64) fun x1 => mkE (⟨x0, x1⟩ : Credit)
def c8c : Index -> List VA := fun x => [.int .i64 x.Year, .val .c_sFraction x.Factor]
def c85 : List VA -> Option Index := mkS (gI .i64) fun x0 => mkS (gV dT .c_sFraction) fun x1 => mkE (⟨x0, x1⟩ : Index)
def d7y : Let -> List VA := fun x => [.str x.Name, .val .c_sExpr x.Body]
def d8e : List VA -> Option Let := mkS (gS) fun x0 => mkS (gV dT .c_sExpr) fun x1 => mkE (⟨x0, x1⟩ : Let)
def c9b : Grant -> List VA := fun x => [.int .i64 x.Benefit, .val .c_sExpr x.If, .val .c_sExpr x.Pay]
def c8v : List VA -> Option Grant := mkS (gI .i64) fun x0 => mkS (gV dT .c_sExpr) fun x1 => mkS (gV dT .c_sExpr) fun x2 => mkE (⟨x0, x1, x2⟩ : Grant)
def c5c : Reduce -> List VA := fun x => [.int .i64 x.Benefit, .val .c_sExpr x.By]
def c5m : List VA -> Option Reduce := mkS (gI .i64) fun x0 => mkS (gV dT .c_sExpr) fun x1 => mkE (⟨x0, x1⟩ : Reduce)
def c2r : Version -> List VA := fun x => [.int .i64 x.From, .val .c_sRounding x.Rounding, .list .c_sCredit x.Credits, .list .c_sIndex x.Series, .list .c_sLet x.Lets, .list .c_sGrant x.Grants, .list .c_sReduce x.Reduces]
def c3q : List VA -> Option Version := mkS (gI .i64) fun x0 => mkS (gV dT .c_sRounding) fun x1 => mkS (SX.gL dT .c_sCredit) fun x2 => mkS (SX.gL dT .c_sIndex) fun x3 => mkS (SX.gL dT .c_sLet) fun x4 => mkS (SX.gL dT .c_sGrant) fun x5 => mkS (SX.gL dT .c_sReduce) fun x6 => mkE (⟨x0, x1, x2, x3, x4, x5, x6⟩ : Version)
def c36 : Statute -> List VA := fun x => [.str x.Name, .int .i64 x.Currency, .list .c_sVersion x.Versions]
def c2s : List VA -> Option Statute := mkS (gS) fun x0 => mkS (gI .i64) fun x1 => mkS (SX.gL dT .c_sVersion) fun x2 => mkE (⟨x0, x1, x2⟩ : Statute)
def c7v : State -> List VA := fun x => [.int .i64 x.State, .val .c_sStatute x.Statute]
def c9x : List VA -> Option State := mkS (gI .i64) fun x0 => mkS (gV dT .c_sStatute) fun x1 => mkE (⟨x0, x1⟩ : State)
def d02 : Rules -> List VA := fun x => [.int .i64 x.From, .int .i64 x.MinDays, .int .i64 x.PostingLimit, .int .i64 x.Substantial, .list .c_i64 x.Members]
def c9j : List VA -> Option Rules := mkS (gI .i64) fun x0 => mkS (gI .i64) fun x1 => mkS (gI .i64) fun x2 => mkS (gI .i64) fun x3 => mkS (SX.gL dT .c_i64) fun x4 => mkE (⟨x0, x1, x2, x3, x4⟩ : Rules)
def d2z : Rate -> List VA := fun x => [.int .i64 x.Currency, .int .i64 x.Month, .val .c_sFraction x.Value]
def d3q : List VA -> Option Rate := mkS (gI .i64) fun x0 => mkS (gI .i64) fun x1 => mkS (gV dT .c_sFraction) fun x2 => mkE (⟨x0, x1, x2⟩ : Rate)
def d2q : Laws -> List VA := fun x => [.list .c_sState x.States, .list .c_sRules x.Treaty, .list .c_sRate x.Rates]
def d2p : List VA -> Option Laws := mkS (SX.gL dT .c_sState) fun x0 => mkS (SX.gL dT .c_sRules) fun x1 => mkS (SX.gL dT .c_sRate) fun x2 => mkE (⟨x0, x1, x2⟩ : Laws)
def b04 : pensionhand_Claim -> List VA := fun x => [.int .i64 x.Issuer, .int .i64 x.Number, .int .i64 x.Person, .int .i64 x.Benefit, .int .i64 x.Ref, .int .i64 x.Day]
def b09 : List VA -> Option pensionhand_Claim := mkS (gI .i64) fun x0 => mkS (gI .i64) fun x1 => mkS (gI .i64) fun x2 => mkS (gI .i64) fun x3 => mkS (gI .i64) fun x4 => mkS (gI .i64) fun x5 => mkE (⟨x0, x1, x2, x3, x4, x5⟩ : pensionhand_Claim)
def c8q : Claim -> List VA := fun x => [.int .i64 x.Issuer, .int .i64 x.Number, .int .i64 x.Person, .int .i64 x.Benefit, .int .i64 x.Ref, .int .i64 x.Day]
def c9v : List VA -> Option Claim := mkS (gI .i64) fun x0 => mkS (gI .i64) fun x1 => mkS (gI .i64) fun x2 => mkS (gI .i64) fun x3 => mkS (gI .i64) fun x4 => mkS (gI .i64) fun x5 => mkE (⟨x0, x1, x2, x3, x4, x5⟩ : Claim)
def a93 : pensionlaw26_Seeds -> List VA := fun x => [.list .c_i64 x.Laws, .list .c_i64 x.Lives, .list .c_spensionhand_Fact x.Facts, .list .c_spensionhand_Claim x.Claims, .int .i64 x.Day]
def a8z : List VA -> Option pensionlaw26_Seeds := mkS (SX.gL dT .c_i64) fun x0 => mkS (SX.gL dT .c_i64) fun x1 => mkS (SX.gL dT .c_spensionhand_Fact) fun x2 => mkS (SX.gL dT .c_spensionhand_Claim) fun x3 => mkS (gI .i64) fun x4 => mkE (⟨x0, x1, x2, x3, x4⟩ : pensionlaw26_Seeds)
def b5g : syntax_entry -> List VA := fun x => [.str x.name, .int .i64 x.number]
def b5c : List VA -> Option syntax_entry := mkS (gS) fun x0 => mkS (gI .i64) fun x1 => mkE (⟨x0, x1⟩ : syntax_entry)
def d0i : Ar 2 Int -> List VA := fun x => x.l.map fun y => .int .i64 y
def d0k : List VA -> Option (Ar 2 Int) := mkA (gI .i64) 2
def c23 : Binding -> List VA := fun x => [.str x.Name, .int .i64 x.Dim]
def c2z : List VA -> Option Binding := mkS (gS) fun x0 => mkS (gI .i64) fun x1 => mkE (⟨x0, x1⟩ : Binding)
def c4r : Ar 12 Int -> List VA := fun x => x.l.map fun y => .int .i64 y
def c4p : List VA -> Option (Ar 12 Int) := mkA (gI .i64) 12
def e5z : Int -> List VA := fun x => [.int .u32 x]
def e61 : List VA -> Option Int := mkS (gI .u32) fun x0 => mkE x0
def b3w : decision_file -> List VA := fun x => [.val .c_sLaws x.x, .list .c_sapi_Fact x.facts, .list .c_sapi_Fact x.own, .list .c_sClaim x.claims, .int .i64 x.person]
def b3y : List VA -> Option decision_file := mkS (gV dT .c_sLaws) fun x0 => mkS (SX.gL dT .c_sapi_Fact) fun x1 => mkS (SX.gL dT .c_sapi_Fact) fun x2 => mkS (SX.gL dT .c_sClaim) fun x3 => mkS (gI .i64) fun x4 => mkE (⟨x0, x1, x2, x3, x4⟩ : decision_file)
def c4x : Ar 6 Bool -> List VA := fun x => x.l.map fun y => .bool y
def c52 : List VA -> Option (Ar 6 Bool) := mkA (gB) 6
def c10 : Ar 100 Bool -> List VA := fun x => x.l.map fun y => .bool y
def c15 : List VA -> Option (Ar 100 Bool) := mkA (gB) 100
def d30 : Heir -> List VA := fun x => [.int .i64 x.Person, .int .i64 x.Kind, .int .i64 x.Days]
def d2f : List VA -> Option Heir := mkS (gI .i64) fun x0 => mkS (gI .i64) fun x1 => mkS (gI .i64) fun x2 => mkE (⟨x0, x1, x2⟩ : Heir)
def b2r : decision_file -> List VA := fun x => [.rp (.val .c_sdecision_file x)]
def b2y : List VA -> Option decision_file := mkS (gP dT .c_sdecision_file) fun x0 => mkE x0
def d7e : Row -> List VA := fun x => [.int .i64 x.State, .int .i64 x.Benefit, .int .i64 x.Month, .int .i64 x.Currency, .int .i64 x.Amount, .bool x.Protected]
def e0g : List VA -> Option Row := mkS (gI .i64) fun x0 => mkS (gI .i64) fun x1 => mkS (gI .i64) fun x2 => mkS (gI .i64) fun x3 => mkS (gI .i64) fun x4 => mkS (gB) fun x5 => mkE (⟨x0, x1, x2, x3, x4, x5⟩ : Row)
def cdT (n : Nat) : Option TyC := bif Nat.blt n 130 then (bif Nat.blt n 73 then (bif Nat.blt n 25 then (bif Nat.blt n 6 then (bif Nat.blt n 4 then (bif Nat.blt n 3 then (bif Nat.beq n 2 then some .c_i64 else none) else (bif Nat.beq n 3 then some .c_i64 else none)) else (bif Nat.blt n 5 then (bif Nat.beq n 4 then some .c_bool else none) else (bif Nat.beq n 5 then some .c_u8 else none))) else (bif Nat.blt n 10 then (bif Nat.blt n 9 then (bif Nat.beq n 6 then some .c_u8 else none) else (bif Nat.beq n 9 then some .c_str else none)) else (bif Nat.blt n 11 then (bif Nat.beq n 10 then some .c_str else none) else (bif Nat.blt n 12 then (bif Nat.beq n 11 then some .c_str else none) else (bif Nat.beq n 12 then some .c_u64 else none))))) else (bif Nat.blt n 52 then (bif Nat.blt n 30 then (bif Nat.blt n 26 then (bif Nat.beq n 25 then some .c_spensionlaw26_Seeds else none) else (bif Nat.beq n 26 then some .c_spensionlaw26_Seeds else none)) else (bif Nat.blt n 31 then (bif Nat.beq n 30 then some .c_sLaws else none) else (bif Nat.blt n 40 then (bif Nat.beq n 31 then some .c_sLaws else none) else (bif Nat.beq n 40 then some .c_i64 else none)))) else (bif Nat.blt n 64 then (bif Nat.blt n 63 then (bif Nat.beq n 52 then some .c_sClaim else none) else (bif Nat.beq n 63 then some .c_sStatute else none)) else (bif Nat.blt n 65 then (bif Nat.beq n 64 then some .c_sStatute else none) else (bif Nat.blt n 66 then (bif Nat.beq n 65 then some .c_sState else none) else (bif Nat.beq n 66 then some .c_sState else none)))))) else (bif Nat.blt n 88 then (bif Nat.blt n 82 then (bif Nat.blt n 79 then (bif Nat.blt n 74 then (bif Nat.beq n 73 then some .c_sRow else none) else (bif Nat.beq n 74 then some .c_sRow else none)) else (bif Nat.blt n 80 then (bif Nat.beq n 79 then some .c_sSpan else none) else (bif Nat.blt n 81 then (bif Nat.beq n 80 then some .c_sSpan else none) else (bif Nat.beq n 81 then some .c_sapi_Fact else none)))) else (bif Nat.blt n 85 then (bif Nat.blt n 84 then (bif Nat.beq n 82 then some .c_sapi_Fact else none) else (bif Nat.beq n 84 then some .c_spensionhand_Fact else none)) else (bif Nat.blt n 86 then (bif Nat.beq n 85 then some .c_spensionhand_Fact else none) else (bif Nat.blt n 87 then (bif Nat.beq n 86 then some .c_sFraction else none) else (bif Nat.beq n 87 then some .c_sFraction else none))))) else (bif Nat.blt n 106 then (bif Nat.blt n 93 then (bif Nat.blt n 89 then (bif Nat.beq n 88 then some .c_sRate else none) else (bif Nat.beq n 89 then some .c_sRate else none)) else (bif Nat.blt n 94 then (bif Nat.beq n 93 then some .c_sRules else none) else (bif Nat.blt n 95 then (bif Nat.beq n 94 then some .c_sRules else none) else (bif Nat.beq n 95 then some .c_spensionhand_Claim else none)))) else (bif Nat.blt n 126 then (bif Nat.blt n 107 then (bif Nat.beq n 106 then some .c_sdecision_file else none) else (bif Nat.beq n 107 then some .c_sdecision_file else none)) else (bif Nat.blt n 127 then (bif Nat.beq n 126 then some .c_spensionref5_reader else none) else (bif Nat.blt n 129 then (bif Nat.beq n 127 then some .c_spensionref5_reader else none) else (bif Nat.beq n 129 then some .c_sRounding else none))))))) else (bif Nat.blt n 222 then (bif Nat.blt n 199 then (bif Nat.blt n 181 then (bif Nat.blt n 137 then (bif Nat.blt n 136 then (bif Nat.beq n 130 then some .c_sRounding else none) else (bif Nat.beq n 136 then some .c_sVersion else none)) else (bif Nat.blt n 141 then (bif Nat.beq n 137 then some .c_sVersion else none) else (bif Nat.blt n 178 then (bif Nat.beq n 141 then some .c_A3_str else none) else (bif Nat.beq n 178 then some .c_A12_i64 else none)))) else (bif Nat.blt n 187 then (bif Nat.blt n 182 then (bif Nat.beq n 181 then some .c_A6_bool else none) else (bif Nat.beq n 182 then some .c_A100_bool else none)) else (bif Nat.blt n 188 then (bif Nat.beq n 187 then some .c_sToken else none) else (bif Nat.blt n 198 then (bif Nat.beq n 188 then some .c_sToken else none) else (bif Nat.beq n 198 then some .c_sCredit else none))))) else (bif Nat.blt n 207 then (bif Nat.blt n 203 then (bif Nat.blt n 202 then (bif Nat.beq n 199 then some .c_sCredit else none) else (bif Nat.beq n 202 then some .c_sIndex else none)) else (bif Nat.blt n 205 then (bif Nat.beq n 203 then some .c_sIndex else none) else (bif Nat.blt n 206 then (bif Nat.beq n 205 then some .c_sExpr else none) else (bif Nat.beq n 206 then some .c_sExpr else none)))) else (bif Nat.blt n 212 then (bif Nat.blt n 208 then (bif Nat.beq n 207 then some .c_sGrant else none) else (bif Nat.beq n 208 then some .c_sGrant else none)) else (bif Nat.blt n 213 then (bif Nat.beq n 212 then some .c_sReduce else none) else (bif Nat.blt n 216 then (bif Nat.beq n 213 then some .c_sReduce else none) else (bif Nat.beq n 216 then some .c_u64 else none)))))) else (bif Nat.blt n 387 then (bif Nat.blt n 302 then (bif Nat.blt n 271 then (bif Nat.blt n 270 then (bif Nat.beq n 222 then some .c_u64 else none) else (bif Nat.beq n 270 then some .c_sHeir else none)) else (bif Nat.blt n 289 then (bif Nat.beq n 271 then some .c_sHeir else none) else (bif Nat.blt n 290 then (bif Nat.beq n 289 then some .c_sLet else none) else (bif Nat.beq n 290 then some .c_sLet else none)))) else (bif Nat.blt n 316 then (bif Nat.blt n 303 then (bif Nat.beq n 302 then some .c_sBinding else none) else (bif Nat.beq n 303 then some .c_sBinding else none)) else (bif Nat.blt n 323 then (bif Nat.beq n 316 then some .c_i64 else none) else (bif Nat.blt n 386 then (bif Nat.beq n 323 then some .c_u32 else none) else (bif Nat.beq n 386 then some .c_spensionref1_wide else none))))) else (bif Nat.blt n 547 then (bif Nat.blt n 393 then (bif Nat.blt n 392 then (bif Nat.beq n 387 then some .c_spensionref1_wide else none) else (bif Nat.beq n 392 then some .c_ssyntax_entry else none)) else (bif Nat.blt n 398 then (bif Nat.beq n 393 then some .c_ssyntax_entry else none) else (bif Nat.blt n 527 then (bif Nat.beq n 398 then some .c_u64 else none) else (bif Nat.beq n 527 then some .c_A2_i64 else none)))) else (bif Nat.blt n 648 then (bif Nat.blt n 614 then (bif Nat.beq n 547 then some .c_u64 else none) else (bif Nat.beq n 614 then some .c_i64 else none)) else (bif Nat.blt n 684 then (bif Nat.beq n 648 then some .c_u64 else none) else (bif Nat.blt n 685 then (bif Nat.beq n 684 then some .c_u8 else none) else (bif Nat.beq n 685 then some .c_u8 else none)))))))
def VV : Uni where
  C := TyC
  T := TyC.T
  dec := dT
  c0 := .c_u8
  n := fun c => match c with
    | .c_u8 => 1
    | .c_i64 => 1
    | .c_str => 1
    | .c_bool => 1
    | .c_sSpan => 2
    | .c_sapi_Fact => 14
    | .c_spensionhand_Fact => 13
    | .c_A3_str => 3
    | .c_sToken => 3
    | .c_spensionref5_reader => 4
    | .c_u64 => 1
    | .c_spensionref1_wide => 2
    | .c_sFraction => 2
    | .c_sExpr => 6
    | .c_sRounding => 2
    | .c_sCredit => 2
    | .c_sIndex => 3
    | .c_sLet => 7
    | .c_sGrant => 13
    | .c_sReduce => 7
    | .c_sVersion => 8
    | .c_sStatute => 3
    | .c_sState => 4
    | .c_sRules => 5
    | .c_sRate => 4
    | .c_sLaws => 3
    | .c_spensionhand_Claim => 6
    | .c_sClaim => 6
    | .c_spensionlaw26_Seeds => 5
    | .c_ssyntax_entry => 2
    | .c_A2_i64 => 2
    | .c_sBinding => 2
    | .c_A12_i64 => 12
    | .c_u32 => 1
    | .c_sdecision_file => 7
    | .c_A6_bool => 6
    | .c_A100_bool => 100
    | .c_sHeir => 3
    | .c_psdecision_file => 1
    | .c_sRow => 6
  ag := fun c => match c with
    | .c_u8 => false
    | .c_i64 => false
    | .c_str => false
    | .c_bool => false
    | .c_sSpan => true
    | .c_sapi_Fact => true
    | .c_spensionhand_Fact => true
    | .c_A3_str => true
    | .c_sToken => true
    | .c_spensionref5_reader => true
    | .c_u64 => false
    | .c_spensionref1_wide => true
    | .c_sFraction => true
    | .c_sExpr => true
    | .c_sRounding => true
    | .c_sCredit => true
    | .c_sIndex => true
    | .c_sLet => true
    | .c_sGrant => true
    | .c_sReduce => true
    | .c_sVersion => true
    | .c_sStatute => true
    | .c_sState => true
    | .c_sRules => true
    | .c_sRate => true
    | .c_sLaws => true
    | .c_spensionhand_Claim => true
    | .c_sClaim => true
    | .c_spensionlaw26_Seeds => true
    | .c_ssyntax_entry => true
    | .c_A2_i64 => true
    | .c_sBinding => true
    | .c_A12_i64 => true
    | .c_u32 => false
    | .c_sdecision_file => true
    | .c_A6_bool => true
    | .c_A100_bool => true
    | .c_sHeir => true
    | .c_psdecision_file => false
    | .c_sRow => true
  lay := fun c => match c with
    | .c_u8 => [none]
    | .c_i64 => [none]
    | .c_str => [none]
    | .c_bool => [none]
    | .c_sSpan => [none, none]
    | .c_sapi_Fact => [none, none, none, none, none, none, none, some .c_sSpan, none, none, none, none, none]
    | .c_spensionhand_Fact => [none, none, none, none, none, none, none, none, none, none, none, none, none]
    | .c_A3_str => List.replicate 3 (none)
    | .c_sToken => [none, none, none]
    | .c_spensionref5_reader => [none, none, none, none]
    | .c_u64 => [none]
    | .c_spensionref1_wide => [none, none]
    | .c_sFraction => [none, none]
    | .c_sExpr => [none, some .c_sFraction, none, none, none]
    | .c_sRounding => [none, none]
    | .c_sCredit => [none, none]
    | .c_sIndex => [none, some .c_sFraction]
    | .c_sLet => [none, some .c_sExpr]
    | .c_sGrant => [none, some .c_sExpr, some .c_sExpr]
    | .c_sReduce => [none, some .c_sExpr]
    | .c_sVersion => [none, some .c_sRounding, none, none, none, none, none]
    | .c_sStatute => [none, none, none]
    | .c_sState => [none, some .c_sStatute]
    | .c_sRules => [none, none, none, none, none]
    | .c_sRate => [none, none, some .c_sFraction]
    | .c_sLaws => [none, none, none]
    | .c_spensionhand_Claim => [none, none, none, none, none, none]
    | .c_sClaim => [none, none, none, none, none, none]
    | .c_spensionlaw26_Seeds => [none, none, none, none, none]
    | .c_ssyntax_entry => [none, none]
    | .c_A2_i64 => List.replicate 2 (none)
    | .c_sBinding => [none, none]
    | .c_A12_i64 => List.replicate 12 (none)
    | .c_u32 => [none]
    | .c_sdecision_file => [some .c_sLaws, none, none, none, none]
    | .c_A6_bool => List.replicate 6 (none)
    | .c_A100_bool => List.replicate 100 (none)
    | .c_sHeir => [none, none, none]
    | .c_psdecision_file => [none]
    | .c_sRow => [none, none, none, none, none, none]
  flds := fun c => match c with
    | .c_u8 => f2x
    | .c_i64 => e63
    | .c_str => e67
    | .c_bool => d8v
    | .c_sSpan => d3w
    | .c_sapi_Fact => c0s
    | .c_spensionhand_Fact => b1c
    | .c_A3_str => c8m
    | .c_sToken => c96
    | .c_spensionref5_reader => a94
    | .c_u64 => e72
    | .c_spensionref1_wide => b1e
    | .c_sFraction => c18
    | .c_sExpr => d2y
    | .c_sRounding => c11
    | .c_sCredit => c51
    | .c_sIndex => c8c
    | .c_sLet => d7y
    | .c_sGrant => c9b
    | .c_sReduce => c5c
    | .c_sVersion => c2r
    | .c_sStatute => c36
    | .c_sState => c7v
    | .c_sRules => d02
    | .c_sRate => d2z
    | .c_sLaws => d2q
    | .c_spensionhand_Claim => b04
    | .c_sClaim => c8q
    | .c_spensionlaw26_Seeds => a93
    | .c_ssyntax_entry => b5g
    | .c_A2_i64 => d0i
    | .c_sBinding => c23
    | .c_A12_i64 => c4r
    | .c_u32 => e5z
    | .c_sdecision_file => b3w
    | .c_A6_bool => c4x
    | .c_A100_bool => c10
    | .c_sHeir => d30
    | .c_psdecision_file => b2r
    | .c_sRow => d7e
  mkv := fun c => match c with
    | .c_u8 => f2w
    | .c_i64 => e6t
    | .c_str => e6u
    | .c_bool => d84
    | .c_sSpan => d3g
    | .c_sapi_Fact => c0x
    | .c_spensionhand_Fact => b1b
    | .c_A3_str => d0d
    | .c_sToken => c9s
    | .c_spensionref5_reader => a92
    | .c_u64 => e5o
    | .c_spensionref1_wide => b0y
    | .c_sFraction => c17
    | .c_sExpr => d2n
    | .c_sRounding => c13
    | .c_sCredit => c4o
    | .c_sIndex => c85
    | .c_sLet => d8e
    | .c_sGrant => c8v
    | .c_sReduce => c5m
    | .c_sVersion => c3q
    | .c_sStatute => c2s
    | .c_sState => c9x
    | .c_sRules => c9j
    | .c_sRate => d3q
    | .c_sLaws => d2p
    | .c_spensionhand_Claim => b09
    | .c_sClaim => c9v
    | .c_spensionlaw26_Seeds => a8z
    | .c_ssyntax_entry => b5c
    | .c_A2_i64 => d0k
    | .c_sBinding => c2z
    | .c_A12_i64 => c4p
    | .c_u32 => e61
    | .c_sdecision_file => b3y
    | .c_A6_bool => c52
    | .c_A100_bool => c15
    | .c_sHeir => d2f
    | .c_psdecision_file => b2y
    | .c_sRow => e0g
  cd := cdT
  flat := fun c => match c with
    | .c_u8 => true
    | .c_i64 => true
    | .c_str => true
    | .c_bool => true
    | .c_sSpan => true
    | .c_sapi_Fact => true
    | .c_spensionhand_Fact => true
    | .c_A3_str => true
    | .c_sToken => true
    | .c_spensionref5_reader => false
    | .c_u64 => true
    | .c_spensionref1_wide => true
    | .c_sFraction => true
    | .c_sExpr => false
    | .c_sRounding => true
    | .c_sCredit => true
    | .c_sIndex => true
    | .c_sLet => false
    | .c_sGrant => false
    | .c_sReduce => false
    | .c_sVersion => false
    | .c_sStatute => false
    | .c_sState => false
    | .c_sRules => false
    | .c_sRate => true
    | .c_sLaws => false
    | .c_spensionhand_Claim => true
    | .c_sClaim => true
    | .c_spensionlaw26_Seeds => false
    | .c_ssyntax_entry => true
    | .c_A2_i64 => true
    | .c_sBinding => true
    | .c_A12_i64 => true
    | .c_u32 => true
    | .c_sdecision_file => false
    | .c_A6_bool => true
    | .c_A100_bool => true
    | .c_sHeir => true
    | .c_psdecision_file => false
    | .c_sRow => true
  isA := fun c => match c with
    | .c_u8 => false
    | .c_i64 => false
    | .c_str => false
    | .c_bool => false
    | .c_sSpan => false
    | .c_sapi_Fact => false
    | .c_spensionhand_Fact => false
    | .c_A3_str => true
    | .c_sToken => false
    | .c_spensionref5_reader => false
    | .c_u64 => false
    | .c_spensionref1_wide => false
    | .c_sFraction => false
    | .c_sExpr => false
    | .c_sRounding => false
    | .c_sCredit => false
    | .c_sIndex => false
    | .c_sLet => false
    | .c_sGrant => false
    | .c_sReduce => false
    | .c_sVersion => false
    | .c_sStatute => false
    | .c_sState => false
    | .c_sRules => false
    | .c_sRate => false
    | .c_sLaws => false
    | .c_spensionhand_Claim => false
    | .c_sClaim => false
    | .c_spensionlaw26_Seeds => false
    | .c_ssyntax_entry => false
    | .c_A2_i64 => true
    | .c_sBinding => false
    | .c_A12_i64 => true
    | .c_u32 => false
    | .c_sdecision_file => false
    | .c_A6_bool => true
    | .c_A100_bool => true
    | .c_sHeir => false
    | .c_psdecision_file => false
    | .c_sRow => false
  ae := fun c => match c with
    | .c_u8 => .c_u8
    | .c_i64 => .c_i64
    | .c_str => .c_str
    | .c_bool => .c_bool
    | .c_sSpan => .c_sSpan
    | .c_sapi_Fact => .c_sapi_Fact
    | .c_spensionhand_Fact => .c_spensionhand_Fact
    | .c_A3_str => .c_str
    | .c_sToken => .c_sToken
    | .c_spensionref5_reader => .c_spensionref5_reader
    | .c_u64 => .c_u64
    | .c_spensionref1_wide => .c_spensionref1_wide
    | .c_sFraction => .c_sFraction
    | .c_sExpr => .c_sExpr
    | .c_sRounding => .c_sRounding
    | .c_sCredit => .c_sCredit
    | .c_sIndex => .c_sIndex
    | .c_sLet => .c_sLet
    | .c_sGrant => .c_sGrant
    | .c_sReduce => .c_sReduce
    | .c_sVersion => .c_sVersion
    | .c_sStatute => .c_sStatute
    | .c_sState => .c_sState
    | .c_sRules => .c_sRules
    | .c_sRate => .c_sRate
    | .c_sLaws => .c_sLaws
    | .c_spensionhand_Claim => .c_spensionhand_Claim
    | .c_sClaim => .c_sClaim
    | .c_spensionlaw26_Seeds => .c_spensionlaw26_Seeds
    | .c_ssyntax_entry => .c_ssyntax_entry
    | .c_A2_i64 => .c_i64
    | .c_sBinding => .c_sBinding
    | .c_A12_i64 => .c_i64
    | .c_u32 => .c_u32
    | .c_sdecision_file => .c_sdecision_file
    | .c_A6_bool => .c_bool
    | .c_A100_bool => .c_bool
    | .c_sHeir => .c_sHeir
    | .c_psdecision_file => .c_psdecision_file
    | .c_sRow => .c_sRow
  an := fun c => match c with
    | .c_u8 => 0
    | .c_i64 => 0
    | .c_str => 0
    | .c_bool => 0
    | .c_sSpan => 0
    | .c_sapi_Fact => 0
    | .c_spensionhand_Fact => 0
    | .c_A3_str => 3
    | .c_sToken => 0
    | .c_spensionref5_reader => 0
    | .c_u64 => 0
    | .c_spensionref1_wide => 0
    | .c_sFraction => 0
    | .c_sExpr => 0
    | .c_sRounding => 0
    | .c_sCredit => 0
    | .c_sIndex => 0
    | .c_sLet => 0
    | .c_sGrant => 0
    | .c_sReduce => 0
    | .c_sVersion => 0
    | .c_sStatute => 0
    | .c_sState => 0
    | .c_sRules => 0
    | .c_sRate => 0
    | .c_sLaws => 0
    | .c_spensionhand_Claim => 0
    | .c_sClaim => 0
    | .c_spensionlaw26_Seeds => 0
    | .c_ssyntax_entry => 0
    | .c_A2_i64 => 2
    | .c_sBinding => 0
    | .c_A12_i64 => 12
    | .c_u32 => 0
    | .c_sdecision_file => 0
    | .c_A6_bool => 6
    | .c_A100_bool => 100
    | .c_sHeir => 0
    | .c_psdecision_file => 0
    | .c_sRow => 0
  al := fun c => match c with
    | .c_u8 => fun _ => []
    | .c_i64 => fun _ => []
    | .c_str => fun _ => []
    | .c_bool => fun _ => []
    | .c_sSpan => fun _ => []
    | .c_sapi_Fact => fun _ => []
    | .c_spensionhand_Fact => fun _ => []
    | .c_A3_str => fun x => x.l
    | .c_sToken => fun _ => []
    | .c_spensionref5_reader => fun _ => []
    | .c_u64 => fun _ => []
    | .c_spensionref1_wide => fun _ => []
    | .c_sFraction => fun _ => []
    | .c_sExpr => fun _ => []
    | .c_sRounding => fun _ => []
    | .c_sCredit => fun _ => []
    | .c_sIndex => fun _ => []
    | .c_sLet => fun _ => []
    | .c_sGrant => fun _ => []
    | .c_sReduce => fun _ => []
    | .c_sVersion => fun _ => []
    | .c_sStatute => fun _ => []
    | .c_sState => fun _ => []
    | .c_sRules => fun _ => []
    | .c_sRate => fun _ => []
    | .c_sLaws => fun _ => []
    | .c_spensionhand_Claim => fun _ => []
    | .c_sClaim => fun _ => []
    | .c_spensionlaw26_Seeds => fun _ => []
    | .c_ssyntax_entry => fun _ => []
    | .c_A2_i64 => fun x => x.l
    | .c_sBinding => fun _ => []
    | .c_A12_i64 => fun x => x.l
    | .c_u32 => fun _ => []
    | .c_sdecision_file => fun _ => []
    | .c_A6_bool => fun x => x.l
    | .c_A100_bool => fun x => x.l
    | .c_sHeir => fun _ => []
    | .c_psdecision_file => fun _ => []
    | .c_sRow => fun _ => []
  «as» := fun c => match c with
    | .c_u8 => fun x _ _ => x
    | .c_i64 => fun x _ _ => x
    | .c_str => fun x _ _ => x
    | .c_bool => fun x _ _ => x
    | .c_sSpan => fun x _ _ => x
    | .c_sapi_Fact => fun x _ _ => x
    | .c_spensionhand_Fact => fun x _ _ => x
    | .c_A3_str => fun x i y => x.set i y
    | .c_sToken => fun x _ _ => x
    | .c_spensionref5_reader => fun x _ _ => x
    | .c_u64 => fun x _ _ => x
    | .c_spensionref1_wide => fun x _ _ => x
    | .c_sFraction => fun x _ _ => x
    | .c_sExpr => fun x _ _ => x
    | .c_sRounding => fun x _ _ => x
    | .c_sCredit => fun x _ _ => x
    | .c_sIndex => fun x _ _ => x
    | .c_sLet => fun x _ _ => x
    | .c_sGrant => fun x _ _ => x
    | .c_sReduce => fun x _ _ => x
    | .c_sVersion => fun x _ _ => x
    | .c_sStatute => fun x _ _ => x
    | .c_sState => fun x _ _ => x
    | .c_sRules => fun x _ _ => x
    | .c_sRate => fun x _ _ => x
    | .c_sLaws => fun x _ _ => x
    | .c_spensionhand_Claim => fun x _ _ => x
    | .c_sClaim => fun x _ _ => x
    | .c_spensionlaw26_Seeds => fun x _ _ => x
    | .c_ssyntax_entry => fun x _ _ => x
    | .c_A2_i64 => fun x i y => x.set i y
    | .c_sBinding => fun x _ _ => x
    | .c_A12_i64 => fun x i y => x.set i y
    | .c_u32 => fun x _ _ => x
    | .c_sdecision_file => fun x _ _ => x
    | .c_A6_bool => fun x i y => x.set i y
    | .c_A100_bool => fun x i y => x.set i y
    | .c_sHeir => fun x _ _ => x
    | .c_psdecision_file => fun x _ _ => x
    | .c_sRow => fun x _ _ => x
  b8 := fun c => match c with
    | .c_u8 => true
    | .c_i64 => false
    | .c_str => false
    | .c_bool => false
    | .c_sSpan => false
    | .c_sapi_Fact => false
    | .c_spensionhand_Fact => false
    | .c_A3_str => false
    | .c_sToken => false
    | .c_spensionref5_reader => false
    | .c_u64 => false
    | .c_spensionref1_wide => false
    | .c_sFraction => false
    | .c_sExpr => false
    | .c_sRounding => false
    | .c_sCredit => false
    | .c_sIndex => false
    | .c_sLet => false
    | .c_sGrant => false
    | .c_sReduce => false
    | .c_sVersion => false
    | .c_sStatute => false
    | .c_sState => false
    | .c_sRules => false
    | .c_sRate => false
    | .c_sLaws => false
    | .c_spensionhand_Claim => false
    | .c_sClaim => false
    | .c_spensionlaw26_Seeds => false
    | .c_ssyntax_entry => false
    | .c_A2_i64 => false
    | .c_sBinding => false
    | .c_A12_i64 => false
    | .c_u32 => false
    | .c_sdecision_file => false
    | .c_A6_bool => false
    | .c_A100_bool => false
    | .c_sHeir => false
    | .c_psdecision_file => false
    | .c_sRow => false
  t8 := fun c => match c with
    | .c_u8 => fun x => x
    | .c_i64 => fun _ => 0
    | .c_str => fun _ => 0
    | .c_bool => fun _ => 0
    | .c_sSpan => fun _ => 0
    | .c_sapi_Fact => fun _ => 0
    | .c_spensionhand_Fact => fun _ => 0
    | .c_A3_str => fun _ => 0
    | .c_sToken => fun _ => 0
    | .c_spensionref5_reader => fun _ => 0
    | .c_u64 => fun _ => 0
    | .c_spensionref1_wide => fun _ => 0
    | .c_sFraction => fun _ => 0
    | .c_sExpr => fun _ => 0
    | .c_sRounding => fun _ => 0
    | .c_sCredit => fun _ => 0
    | .c_sIndex => fun _ => 0
    | .c_sLet => fun _ => 0
    | .c_sGrant => fun _ => 0
    | .c_sReduce => fun _ => 0
    | .c_sVersion => fun _ => 0
    | .c_sStatute => fun _ => 0
    | .c_sState => fun _ => 0
    | .c_sRules => fun _ => 0
    | .c_sRate => fun _ => 0
    | .c_sLaws => fun _ => 0
    | .c_spensionhand_Claim => fun _ => 0
    | .c_sClaim => fun _ => 0
    | .c_spensionlaw26_Seeds => fun _ => 0
    | .c_ssyntax_entry => fun _ => 0
    | .c_A2_i64 => fun _ => 0
    | .c_sBinding => fun _ => 0
    | .c_A12_i64 => fun _ => 0
    | .c_u32 => fun _ => 0
    | .c_sdecision_file => fun _ => 0
    | .c_A6_bool => fun _ => 0
    | .c_A100_bool => fun _ => 0
    | .c_sHeir => fun _ => 0
    | .c_psdecision_file => fun _ => 0
    | .c_sRow => fun _ => 0
  tab := fun w => Lib.TabIs Go.Proofs.Tryz.prog w "internal/strconv.uint64pow10" .u64 Lib.pow10Tab
  tb := fun b => b = 5
theorem f3k : ∀ (zs : List VV.AV) (y : Int), f2w zs = some y -> q9 (AEq (U := VV)) zs (f2x y) := by
  intro zs y h
  obtain ⟨a0, zs, x0, rfl, h0, h⟩ := g7 h; obtain ⟨rfl, rfl⟩ := a2r h; exact ⟨y9 (U := VV) h0, trivial⟩
theorem e8x : ∀ (zs : List VV.AV) (y : Int), e6t zs = some y -> q9 (AEq (U := VV)) zs (e63 y) := by
  intro zs y h
  obtain ⟨a0, zs, x0, rfl, h0, h⟩ := g7 h; obtain ⟨rfl, rfl⟩ := a2r h; exact ⟨y9 (U := VV) h0, trivial⟩
theorem e8i : ∀ (zs : List VV.AV) (y : ByteArray), e6u zs = some y -> q9 (AEq (U := VV)) zs (e67 y) := by
  intro zs y h
  obtain ⟨a0, zs, x0, rfl, h0, h⟩ := g7 h; obtain ⟨rfl, rfl⟩ := a2r h; exact ⟨c9i (U := VV) h0, trivial⟩
theorem e39 : ∀ (zs : List VV.AV) (y : Bool), d84 zs = some y -> q9 (AEq (U := VV)) zs (d8v y) := by
  intro zs y h
  obtain ⟨a0, zs, x0, rfl, h0, h⟩ := g7 h; obtain ⟨rfl, rfl⟩ := a2r h; exact ⟨d0z (U := VV) h0, trivial⟩
theorem e0c : ∀ (zs : List VV.AV) (y : Span), d3g zs = some y -> q9 (AEq (U := VV)) zs (d3w y) := by
  intro zs y h
  obtain ⟨a0, zs, x0, rfl, h0, h⟩ := g7 h; obtain ⟨a1, zs, x1, rfl, h1, h⟩ := g7 h; obtain ⟨rfl, rfl⟩ := a2r h; exact ⟨y9 (U := VV) h0, y9 (U := VV) h1, trivial⟩
theorem c63 : ∀ (zs : List VV.AV) (y : api_Fact), c0x zs = some y -> q9 (AEq (U := VV)) zs (c0s y) := by
  intro zs y h
  obtain ⟨a0, zs, x0, rfl, h0, h⟩ := g7 h; obtain ⟨a1, zs, x1, rfl, h1, h⟩ := g7 h; obtain ⟨a2, zs, x2, rfl, h2, h⟩ := g7 h; obtain ⟨a3, zs, x3, rfl, h3, h⟩ := g7 h; obtain ⟨a4, zs, x4, rfl, h4, h⟩ := g7 h; obtain ⟨a5, zs, x5, rfl, h5, h⟩ := g7 h; obtain ⟨a6, zs, x6, rfl, h6, h⟩ := g7 h; obtain ⟨a7, zs, x7, rfl, h7, h⟩ := g7 h; obtain ⟨a8, zs, x8, rfl, h8, h⟩ := g7 h; obtain ⟨a9, zs, x9, rfl, h9, h⟩ := g7 h; obtain ⟨a10, zs, x10, rfl, h10, h⟩ := g7 h; obtain ⟨a11, zs, x11, rfl, h11, h⟩ := g7 h; obtain ⟨a12, zs, x12, rfl, h12, h⟩ := g7 h; obtain ⟨rfl, rfl⟩ := a2r h; exact ⟨y9 (U := VV) h0, y9 (U := VV) h1, y9 (U := VV) h2, d0z (U := VV) h3, y9 (U := VV) h4, y9 (U := VV) h5, y9 (U := VV) h6, c2l (U := VV) h7, y9 (U := VV) h8, y9 (U := VV) h9, y9 (U := VV) h10, y9 (U := VV) h11, y9 (U := VV) h12, trivial⟩
theorem b5x : ∀ (zs : List VV.AV) (y : pensionhand_Fact), b1b zs = some y -> q9 (AEq (U := VV)) zs (b1c y) := by
  intro zs y h
  obtain ⟨a0, zs, x0, rfl, h0, h⟩ := g7 h; obtain ⟨a1, zs, x1, rfl, h1, h⟩ := g7 h; obtain ⟨a2, zs, x2, rfl, h2, h⟩ := g7 h; obtain ⟨a3, zs, x3, rfl, h3, h⟩ := g7 h; obtain ⟨a4, zs, x4, rfl, h4, h⟩ := g7 h; obtain ⟨a5, zs, x5, rfl, h5, h⟩ := g7 h; obtain ⟨a6, zs, x6, rfl, h6, h⟩ := g7 h; obtain ⟨a7, zs, x7, rfl, h7, h⟩ := g7 h; obtain ⟨a8, zs, x8, rfl, h8, h⟩ := g7 h; obtain ⟨a9, zs, x9, rfl, h9, h⟩ := g7 h; obtain ⟨a10, zs, x10, rfl, h10, h⟩ := g7 h; obtain ⟨a11, zs, x11, rfl, h11, h⟩ := g7 h; obtain ⟨a12, zs, x12, rfl, h12, h⟩ := g7 h; obtain ⟨rfl, rfl⟩ := a2r h; exact ⟨y9 (U := VV) h0, y9 (U := VV) h1, y9 (U := VV) h2, d0z (U := VV) h3, y9 (U := VV) h4, y9 (U := VV) h5, y9 (U := VV) h6, y9 (U := VV) h7, y9 (U := VV) h8, y9 (U := VV) h9, y9 (U := VV) h10, y9 (U := VV) h11, y9 (U := VV) h12, trivial⟩
theorem d5g : ∀ (zs : List VV.AV) (y : Ar 3 ByteArray), d0d zs = some y -> q9 (AEq (U := VV)) zs (c8m y) := fun zs y h => c9o (fun _ _ h => c9i (U := VV) h) h
theorem d58 : ∀ (zs : List VV.AV) (y : Token), c9s zs = some y -> q9 (AEq (U := VV)) zs (c96 y) := by
  intro zs y h
  obtain ⟨a0, zs, x0, rfl, h0, h⟩ := g7 h; obtain ⟨a1, zs, x1, rfl, h1, h⟩ := g7 h; obtain ⟨a2, zs, x2, rfl, h2, h⟩ := g7 h; obtain ⟨rfl, rfl⟩ := a2r h; exact ⟨y9 (U := VV) h0, c9i (U := VV) h1, y9 (U := VV) h2, trivial⟩
theorem b4k : ∀ (zs : List VV.AV) (y : pensionref5_reader), a92 zs = some y -> q9 (AEq (U := VV)) zs (a94 y) := by
  intro zs y h
  obtain ⟨a0, zs, x0, rfl, h0, h⟩ := g7 h; obtain ⟨a1, zs, x1, rfl, h1, h⟩ := g7 h; obtain ⟨a2, zs, x2, rfl, h2, h⟩ := g7 h; obtain ⟨a3, zs, x3, rfl, h3, h⟩ := g7 h; obtain ⟨rfl, rfl⟩ := a2r h; exact ⟨b4f (U := VV) h0, y9 (U := VV) h1, y9 (U := VV) h2, d0z (U := VV) h3, trivial⟩
theorem e8z : ∀ (zs : List VV.AV) (y : Int), e5o zs = some y -> q9 (AEq (U := VV)) zs (e72 y) := by
  intro zs y h
  obtain ⟨a0, zs, x0, rfl, h0, h⟩ := g7 h; obtain ⟨rfl, rfl⟩ := a2r h; exact ⟨y9 (U := VV) h0, trivial⟩
theorem b6c : ∀ (zs : List VV.AV) (y : pensionref1_wide), b0y zs = some y -> q9 (AEq (U := VV)) zs (b1e y) := by
  intro zs y h
  obtain ⟨a0, zs, x0, rfl, h0, h⟩ := g7 h; obtain ⟨a1, zs, x1, rfl, h1, h⟩ := g7 h; obtain ⟨rfl, rfl⟩ := a2r h; exact ⟨y9 (U := VV) h0, y9 (U := VV) h1, trivial⟩
theorem c6l : ∀ (zs : List VV.AV) (y : Fraction), c17 zs = some y -> q9 (AEq (U := VV)) zs (c18 y) := by
  intro zs y h
  obtain ⟨a0, zs, x0, rfl, h0, h⟩ := g7 h; obtain ⟨a1, zs, x1, rfl, h1, h⟩ := g7 h; obtain ⟨rfl, rfl⟩ := a2r h; exact ⟨y9 (U := VV) h0, y9 (U := VV) h1, trivial⟩
theorem d98 : ∀ (zs : List VV.AV) (y : Expr), d2n zs = some y -> q9 (AEq (U := VV)) zs (d2y y) := by
  intro zs y h
  obtain ⟨a0, zs, x0, rfl, h0, h⟩ := g7 h; obtain ⟨a1, zs, x1, rfl, h1, h⟩ := g7 h; obtain ⟨a2, zs, x2, rfl, h2, h⟩ := g7 h; obtain ⟨a3, zs, x3, rfl, h3, h⟩ := g7 h; obtain ⟨a4, zs, x4, rfl, h4, h⟩ := g7 h; obtain ⟨rfl, rfl⟩ := a2r h; exact ⟨y9 (U := VV) h0, c2l (U := VV) h1, y9 (U := VV) h2, c9i (U := VV) h3, b4f (U := VV) h4, trivial⟩
theorem c72 : ∀ (zs : List VV.AV) (y : Rounding), c13 zs = some y -> q9 (AEq (U := VV)) zs (c11 y) := by
  intro zs y h
  obtain ⟨a0, zs, x0, rfl, h0, h⟩ := g7 h; obtain ⟨a1, zs, x1, rfl, h1, h⟩ := g7 h; obtain ⟨rfl, rfl⟩ := a2r h; exact ⟨y9 (U := VV) h0, y9 (U := VV) h1, trivial⟩
theorem d1o : ∀ (zs : List VV.AV) (y : Credit), c4o zs = some y -> q9 (AEq (U := VV)) zs (c51 y) := by
  intro zs y h
  obtain ⟨a0, zs, x0, rfl, h0, h⟩ := g7 h; obtain ⟨a1, zs, x1, rfl, h1, h⟩ := g7 h; obtain ⟨rfl, rfl⟩ := a2r h; exact ⟨y9 (U := VV) h0, y9 (U := VV) h1, trivial⟩
theorem d4a : ∀ (zs : List VV.AV) (y : Index), c85 zs = some y -> q9 (AEq (U := VV)) zs (c8c y) := by
  intro zs y h
  obtain ⟨a0, zs, x0, rfl, h0, h⟩ := g7 h; obtain ⟨a1, zs, x1, rfl, h1, h⟩ := g7 h; obtain ⟨rfl, rfl⟩ := a2r h; exact ⟨y9 (U := VV) h0, c2l (U := VV) h1, trivial⟩
theorem e3d : ∀ (zs : List VV.AV) (y : Let), d8e zs = some y -> q9 (AEq (U := VV)) zs (d7y y) := by
  intro zs y h
  obtain ⟨a0, zs, x0, rfl, h0, h⟩ := g7 h; obtain ⟨a1, zs, x1, rfl, h1, h⟩ := g7 h; obtain ⟨rfl, rfl⟩ := a2r h; exact ⟨c9i (U := VV) h0, c2l (U := VV) h1, trivial⟩
theorem d5b : ∀ (zs : List VV.AV) (y : Grant), c8v zs = some y -> q9 (AEq (U := VV)) zs (c9b y) := by
  intro zs y h
  obtain ⟨a0, zs, x0, rfl, h0, h⟩ := g7 h; obtain ⟨a1, zs, x1, rfl, h1, h⟩ := g7 h; obtain ⟨a2, zs, x2, rfl, h2, h⟩ := g7 h; obtain ⟨rfl, rfl⟩ := a2r h; exact ⟨y9 (U := VV) h0, c2l (U := VV) h1, c2l (U := VV) h2, trivial⟩
theorem d1t : ∀ (zs : List VV.AV) (y : Reduce), c5m zs = some y -> q9 (AEq (U := VV)) zs (c5c y) := by
  intro zs y h
  obtain ⟨a0, zs, x0, rfl, h0, h⟩ := g7 h; obtain ⟨a1, zs, x1, rfl, h1, h⟩ := g7 h; obtain ⟨rfl, rfl⟩ := a2r h; exact ⟨y9 (U := VV) h0, c2l (U := VV) h1, trivial⟩
theorem d0b : ∀ (zs : List VV.AV) (y : Version), c3q zs = some y -> q9 (AEq (U := VV)) zs (c2r y) := by
  intro zs y h
  obtain ⟨a0, zs, x0, rfl, h0, h⟩ := g7 h; obtain ⟨a1, zs, x1, rfl, h1, h⟩ := g7 h; obtain ⟨a2, zs, x2, rfl, h2, h⟩ := g7 h; obtain ⟨a3, zs, x3, rfl, h3, h⟩ := g7 h; obtain ⟨a4, zs, x4, rfl, h4, h⟩ := g7 h; obtain ⟨a5, zs, x5, rfl, h5, h⟩ := g7 h; obtain ⟨a6, zs, x6, rfl, h6, h⟩ := g7 h; obtain ⟨rfl, rfl⟩ := a2r h; exact ⟨y9 (U := VV) h0, c2l (U := VV) h1, b4f (U := VV) h2, b4f (U := VV) h3, b4f (U := VV) h4, b4f (U := VV) h5, b4f (U := VV) h6, trivial⟩
theorem d0c : ∀ (zs : List VV.AV) (y : Statute), c2s zs = some y -> q9 (AEq (U := VV)) zs (c36 y) := by
  intro zs y h
  obtain ⟨a0, zs, x0, rfl, h0, h⟩ := g7 h; obtain ⟨a1, zs, x1, rfl, h1, h⟩ := g7 h; obtain ⟨a2, zs, x2, rfl, h2, h⟩ := g7 h; obtain ⟨rfl, rfl⟩ := a2r h; exact ⟨c9i (U := VV) h0, y9 (U := VV) h1, b4f (U := VV) h2, trivial⟩
theorem d5h : ∀ (zs : List VV.AV) (y : State), c9x zs = some y -> q9 (AEq (U := VV)) zs (c7v y) := by
  intro zs y h
  obtain ⟨a0, zs, x0, rfl, h0, h⟩ := g7 h; obtain ⟨a1, zs, x1, rfl, h1, h⟩ := g7 h; obtain ⟨rfl, rfl⟩ := a2r h; exact ⟨y9 (U := VV) h0, c2l (U := VV) h1, trivial⟩
theorem d5m : ∀ (zs : List VV.AV) (y : Rules), c9j zs = some y -> q9 (AEq (U := VV)) zs (d02 y) := by
  intro zs y h
  obtain ⟨a0, zs, x0, rfl, h0, h⟩ := g7 h; obtain ⟨a1, zs, x1, rfl, h1, h⟩ := g7 h; obtain ⟨a2, zs, x2, rfl, h2, h⟩ := g7 h; obtain ⟨a3, zs, x3, rfl, h3, h⟩ := g7 h; obtain ⟨a4, zs, x4, rfl, h4, h⟩ := g7 h; obtain ⟨rfl, rfl⟩ := a2r h; exact ⟨y9 (U := VV) h0, y9 (U := VV) h1, y9 (U := VV) h2, y9 (U := VV) h3, b4f (U := VV) h4, trivial⟩
theorem d6o : ∀ (zs : List VV.AV) (y : Rate), d3q zs = some y -> q9 (AEq (U := VV)) zs (d2z y) := by
  intro zs y h
  obtain ⟨a0, zs, x0, rfl, h0, h⟩ := g7 h; obtain ⟨a1, zs, x1, rfl, h1, h⟩ := g7 h; obtain ⟨a2, zs, x2, rfl, h2, h⟩ := g7 h; obtain ⟨rfl, rfl⟩ := a2r h; exact ⟨y9 (U := VV) h0, y9 (U := VV) h1, c2l (U := VV) h2, trivial⟩
theorem d70 : ∀ (zs : List VV.AV) (y : Laws), d2p zs = some y -> q9 (AEq (U := VV)) zs (d2q y) := by
  intro zs y h
  obtain ⟨a0, zs, x0, rfl, h0, h⟩ := g7 h; obtain ⟨a1, zs, x1, rfl, h1, h⟩ := g7 h; obtain ⟨a2, zs, x2, rfl, h2, h⟩ := g7 h; obtain ⟨rfl, rfl⟩ := a2r h; exact ⟨b4f (U := VV) h0, b4f (U := VV) h1, b4f (U := VV) h2, trivial⟩
theorem b5k : ∀ (zs : List VV.AV) (y : pensionhand_Claim), b09 zs = some y -> q9 (AEq (U := VV)) zs (b04 y) := by
  intro zs y h
  obtain ⟨a0, zs, x0, rfl, h0, h⟩ := g7 h; obtain ⟨a1, zs, x1, rfl, h1, h⟩ := g7 h; obtain ⟨a2, zs, x2, rfl, h2, h⟩ := g7 h; obtain ⟨a3, zs, x3, rfl, h3, h⟩ := g7 h; obtain ⟨a4, zs, x4, rfl, h4, h⟩ := g7 h; obtain ⟨a5, zs, x5, rfl, h5, h⟩ := g7 h; obtain ⟨rfl, rfl⟩ := a2r h; exact ⟨y9 (U := VV) h0, y9 (U := VV) h1, y9 (U := VV) h2, y9 (U := VV) h3, y9 (U := VV) h4, y9 (U := VV) h5, trivial⟩
theorem d5s : ∀ (zs : List VV.AV) (y : Claim), c9v zs = some y -> q9 (AEq (U := VV)) zs (c8q y) := by
  intro zs y h
  obtain ⟨a0, zs, x0, rfl, h0, h⟩ := g7 h; obtain ⟨a1, zs, x1, rfl, h1, h⟩ := g7 h; obtain ⟨a2, zs, x2, rfl, h2, h⟩ := g7 h; obtain ⟨a3, zs, x3, rfl, h3, h⟩ := g7 h; obtain ⟨a4, zs, x4, rfl, h4, h⟩ := g7 h; obtain ⟨a5, zs, x5, rfl, h5, h⟩ := g7 h; obtain ⟨rfl, rfl⟩ := a2r h; exact ⟨y9 (U := VV) h0, y9 (U := VV) h1, y9 (U := VV) h2, y9 (U := VV) h3, y9 (U := VV) h4, y9 (U := VV) h5, trivial⟩
theorem b4i : ∀ (zs : List VV.AV) (y : pensionlaw26_Seeds), a8z zs = some y -> q9 (AEq (U := VV)) zs (a93 y) := by
  intro zs y h
  obtain ⟨a0, zs, x0, rfl, h0, h⟩ := g7 h; obtain ⟨a1, zs, x1, rfl, h1, h⟩ := g7 h; obtain ⟨a2, zs, x2, rfl, h2, h⟩ := g7 h; obtain ⟨a3, zs, x3, rfl, h3, h⟩ := g7 h; obtain ⟨a4, zs, x4, rfl, h4, h⟩ := g7 h; obtain ⟨rfl, rfl⟩ := a2r h; exact ⟨b4f (U := VV) h0, b4f (U := VV) h1, b4f (U := VV) h2, b4f (U := VV) h3, y9 (U := VV) h4, trivial⟩
theorem c0m : ∀ (zs : List VV.AV) (y : syntax_entry), b5c zs = some y -> q9 (AEq (U := VV)) zs (b5g y) := by
  intro zs y h
  obtain ⟨a0, zs, x0, rfl, h0, h⟩ := g7 h; obtain ⟨a1, zs, x1, rfl, h1, h⟩ := g7 h; obtain ⟨rfl, rfl⟩ := a2r h; exact ⟨c9i (U := VV) h0, y9 (U := VV) h1, trivial⟩
theorem d4c : ∀ (zs : List VV.AV) (y : Ar 2 Int), d0k zs = some y -> q9 (AEq (U := VV)) zs (d0i y) := fun zs y h => c9o (fun _ _ h => y9 (U := VV) h) h
theorem c97 : ∀ (zs : List VV.AV) (y : Binding), c2z zs = some y -> q9 (AEq (U := VV)) zs (c23 y) := by
  intro zs y h
  obtain ⟨a0, zs, x0, rfl, h0, h⟩ := g7 h; obtain ⟨a1, zs, x1, rfl, h1, h⟩ := g7 h; obtain ⟨rfl, rfl⟩ := a2r h; exact ⟨c9i (U := VV) h0, y9 (U := VV) h1, trivial⟩
theorem d13 : ∀ (zs : List VV.AV) (y : Ar 12 Int), c4p zs = some y -> q9 (AEq (U := VV)) zs (c4r y) := fun zs y h => c9o (fun _ _ h => y9 (U := VV) h) h
theorem e8w : ∀ (zs : List VV.AV) (y : Int), e61 zs = some y -> q9 (AEq (U := VV)) zs (e5z y) := by
  intro zs y h
  obtain ⟨a0, zs, x0, rfl, h0, h⟩ := g7 h; obtain ⟨rfl, rfl⟩ := a2r h; exact ⟨y9 (U := VV) h0, trivial⟩
theorem b9n : ∀ (zs : List VV.AV) (y : decision_file), b3y zs = some y -> q9 (AEq (U := VV)) zs (b3w y) := by
  intro zs y h
  obtain ⟨a0, zs, x0, rfl, h0, h⟩ := g7 h; obtain ⟨a1, zs, x1, rfl, h1, h⟩ := g7 h; obtain ⟨a2, zs, x2, rfl, h2, h⟩ := g7 h; obtain ⟨a3, zs, x3, rfl, h3, h⟩ := g7 h; obtain ⟨a4, zs, x4, rfl, h4, h⟩ := g7 h; obtain ⟨rfl, rfl⟩ := a2r h; exact ⟨c2l (U := VV) h0, b4f (U := VV) h1, b4f (U := VV) h2, b4f (U := VV) h3, y9 (U := VV) h4, trivial⟩
theorem d1a : ∀ (zs : List VV.AV) (y : Ar 6 Bool), c52 zs = some y -> q9 (AEq (U := VV)) zs (c4x y) := fun zs y h => c9o (fun _ _ h => d0z (U := VV) h) h
theorem c7d : ∀ (zs : List VV.AV) (y : Ar 100 Bool), c15 zs = some y -> q9 (AEq (U := VV)) zs (c10 y) := fun zs y h => c9o (fun _ _ h => d0z (U := VV) h) h
theorem d8o : ∀ (zs : List VV.AV) (y : Heir), d2f zs = some y -> q9 (AEq (U := VV)) zs (d30 y) := by
  intro zs y h
  obtain ⟨a0, zs, x0, rfl, h0, h⟩ := g7 h; obtain ⟨a1, zs, x1, rfl, h1, h⟩ := g7 h; obtain ⟨a2, zs, x2, rfl, h2, h⟩ := g7 h; obtain ⟨rfl, rfl⟩ := a2r h; exact ⟨y9 (U := VV) h0, y9 (U := VV) h1, y9 (U := VV) h2, trivial⟩
theorem b7w : ∀ (zs : List VV.AV) (y : decision_file), b2y zs = some y -> q9 (AEq (U := VV)) zs (b2r y) := by
  intro zs y h
  obtain ⟨a0, zs, x0, rfl, h0, h⟩ := g7 h; obtain ⟨rfl, rfl⟩ := a2r h; exact ⟨f85 (U := VV) h0, trivial⟩
theorem e4z : ∀ (zs : List VV.AV) (y : Row), e0g zs = some y -> q9 (AEq (U := VV)) zs (d7e y) := by
  intro zs y h
  obtain ⟨a0, zs, x0, rfl, h0, h⟩ := g7 h; obtain ⟨a1, zs, x1, rfl, h1, h⟩ := g7 h; obtain ⟨a2, zs, x2, rfl, h2, h⟩ := g7 h; obtain ⟨a3, zs, x3, rfl, h3, h⟩ := g7 h; obtain ⟨a4, zs, x4, rfl, h4, h⟩ := g7 h; obtain ⟨a5, zs, x5, rfl, h5, h⟩ := g7 h; obtain ⟨rfl, rfl⟩ := a2r h; exact ⟨y9 (U := VV) h0, y9 (U := VV) h1, y9 (U := VV) h2, y9 (U := VV) h3, y9 (U := VV) h4, d0z (U := VV) h5, trivial⟩
theorem uok : UOK VV where
  lay := fun c x => match c, x with
    | .c_u8, x => rfl
    | .c_i64, x => rfl
    | .c_str, x => rfl
    | .c_bool, x => rfl
    | .c_sSpan, x => rfl
    | .c_sapi_Fact, x => rfl
    | .c_spensionhand_Fact, x => rfl
    | .c_A3_str, x => c2x (U := VV) x fun _ => rfl
    | .c_sToken, x => rfl
    | .c_spensionref5_reader, x => rfl
    | .c_u64, x => rfl
    | .c_spensionref1_wide, x => rfl
    | .c_sFraction, x => rfl
    | .c_sExpr, x => rfl
    | .c_sRounding, x => rfl
    | .c_sCredit, x => rfl
    | .c_sIndex, x => rfl
    | .c_sLet, x => rfl
    | .c_sGrant, x => rfl
    | .c_sReduce, x => rfl
    | .c_sVersion, x => rfl
    | .c_sStatute, x => rfl
    | .c_sState, x => rfl
    | .c_sRules, x => rfl
    | .c_sRate, x => rfl
    | .c_sLaws, x => rfl
    | .c_spensionhand_Claim, x => rfl
    | .c_sClaim, x => rfl
    | .c_spensionlaw26_Seeds, x => rfl
    | .c_ssyntax_entry, x => rfl
    | .c_A2_i64, x => c2x (U := VV) x fun _ => rfl
    | .c_sBinding, x => rfl
    | .c_A12_i64, x => c2x (U := VV) x fun _ => rfl
    | .c_u32, x => rfl
    | .c_sdecision_file, x => rfl
    | .c_A6_bool, x => c2x (U := VV) x fun _ => rfl
    | .c_A100_bool, x => c2x (U := VV) x fun _ => rfl
    | .c_sHeir, x => rfl
    | .c_psdecision_file, x => rfl
    | .c_sRow, x => rfl
  kind := fun c x => match c, x with
    | .c_u8, x => rfl
    | .c_i64, x => rfl
    | .c_str, x => rfl
    | .c_bool, x => rfl
    | .c_sSpan, x => rfl
    | .c_sapi_Fact, x => rfl
    | .c_spensionhand_Fact, x => rfl
    | .c_A3_str, x => b3k (U := VV) x fun _ => rfl
    | .c_sToken, x => rfl
    | .c_spensionref5_reader, x => rfl
    | .c_u64, x => rfl
    | .c_spensionref1_wide, x => rfl
    | .c_sFraction, x => rfl
    | .c_sExpr, x => rfl
    | .c_sRounding, x => rfl
    | .c_sCredit, x => rfl
    | .c_sIndex, x => rfl
    | .c_sLet, x => rfl
    | .c_sGrant, x => rfl
    | .c_sReduce, x => rfl
    | .c_sVersion, x => rfl
    | .c_sStatute, x => rfl
    | .c_sState, x => rfl
    | .c_sRules, x => rfl
    | .c_sRate, x => rfl
    | .c_sLaws, x => rfl
    | .c_spensionhand_Claim, x => rfl
    | .c_sClaim, x => rfl
    | .c_spensionlaw26_Seeds, x => rfl
    | .c_ssyntax_entry, x => rfl
    | .c_A2_i64, x => b3k (U := VV) x fun _ => rfl
    | .c_sBinding, x => rfl
    | .c_A12_i64, x => b3k (U := VV) x fun _ => rfl
    | .c_u32, x => rfl
    | .c_sdecision_file, x => rfl
    | .c_A6_bool, x => b3k (U := VV) x fun _ => rfl
    | .c_A100_bool, x => b3k (U := VV) x fun _ => rfl
    | .c_sHeir, x => rfl
    | .c_psdecision_file, x => rfl
    | .c_sRow, x => rfl
  sum := fun c => by cases c <;> rfl
  sc := fun c h => by cases c <;> first | rfl | cases h
  mkl := fun c zs y h => match c, y, h with
    | .c_u8, y, h => f3k zs y h
    | .c_i64, y, h => e8x zs y h
    | .c_str, y, h => e8i zs y h
    | .c_bool, y, h => e39 zs y h
    | .c_sSpan, y, h => e0c zs y h
    | .c_sapi_Fact, y, h => c63 zs y h
    | .c_spensionhand_Fact, y, h => b5x zs y h
    | .c_A3_str, y, h => d5g zs y h
    | .c_sToken, y, h => d58 zs y h
    | .c_spensionref5_reader, y, h => b4k zs y h
    | .c_u64, y, h => e8z zs y h
    | .c_spensionref1_wide, y, h => b6c zs y h
    | .c_sFraction, y, h => c6l zs y h
    | .c_sExpr, y, h => d98 zs y h
    | .c_sRounding, y, h => c72 zs y h
    | .c_sCredit, y, h => d1o zs y h
    | .c_sIndex, y, h => d4a zs y h
    | .c_sLet, y, h => e3d zs y h
    | .c_sGrant, y, h => d5b zs y h
    | .c_sReduce, y, h => d1t zs y h
    | .c_sVersion, y, h => d0b zs y h
    | .c_sStatute, y, h => d0c zs y h
    | .c_sState, y, h => d5h zs y h
    | .c_sRules, y, h => d5m zs y h
    | .c_sRate, y, h => d6o zs y h
    | .c_sLaws, y, h => d70 zs y h
    | .c_spensionhand_Claim, y, h => b5k zs y h
    | .c_sClaim, y, h => d5s zs y h
    | .c_spensionlaw26_Seeds, y, h => b4i zs y h
    | .c_ssyntax_entry, y, h => c0m zs y h
    | .c_A2_i64, y, h => d4c zs y h
    | .c_sBinding, y, h => c97 zs y h
    | .c_A12_i64, y, h => d13 zs y h
    | .c_u32, y, h => e8w zs y h
    | .c_sdecision_file, y, h => b9n zs y h
    | .c_A6_bool, y, h => d1a zs y h
    | .c_A100_bool, y, h => c7d zs y h
    | .c_sHeir, y, h => d8o zs y h
    | .c_psdecision_file, y, h => b7w zs y h
    | .c_sRow, y, h => e4z zs y h
  flat := fun c x h => match c, x, h with
    | .c_u8, x, h => rfl
    | .c_i64, x, h => rfl
    | .c_str, x, h => rfl
    | .c_bool, x, h => rfl
    | .c_sSpan, x, h => rfl
    | .c_sapi_Fact, x, h => rfl
    | .c_spensionhand_Fact, x, h => rfl
    | .c_A3_str, x, h => b3k (U := VV) x fun _ => rfl
    | .c_sToken, x, h => rfl
    | .c_spensionref5_reader, x, h => Bool.noConfusion (show false = true from h)
    | .c_u64, x, h => rfl
    | .c_spensionref1_wide, x, h => rfl
    | .c_sFraction, x, h => rfl
    | .c_sExpr, x, h => Bool.noConfusion (show false = true from h)
    | .c_sRounding, x, h => rfl
    | .c_sCredit, x, h => rfl
    | .c_sIndex, x, h => rfl
    | .c_sLet, x, h => Bool.noConfusion (show false = true from h)
    | .c_sGrant, x, h => Bool.noConfusion (show false = true from h)
    | .c_sReduce, x, h => Bool.noConfusion (show false = true from h)
    | .c_sVersion, x, h => Bool.noConfusion (show false = true from h)
    | .c_sStatute, x, h => Bool.noConfusion (show false = true from h)
    | .c_sState, x, h => Bool.noConfusion (show false = true from h)
    | .c_sRules, x, h => Bool.noConfusion (show false = true from h)
    | .c_sRate, x, h => rfl
    | .c_sLaws, x, h => Bool.noConfusion (show false = true from h)
    | .c_spensionhand_Claim, x, h => rfl
    | .c_sClaim, x, h => rfl
    | .c_spensionlaw26_Seeds, x, h => Bool.noConfusion (show false = true from h)
    | .c_ssyntax_entry, x, h => rfl
    | .c_A2_i64, x, h => b3k (U := VV) x fun _ => rfl
    | .c_sBinding, x, h => rfl
    | .c_A12_i64, x, h => b3k (U := VV) x fun _ => rfl
    | .c_u32, x, h => rfl
    | .c_sdecision_file, x, h => Bool.noConfusion (show false = true from h)
    | .c_A6_bool, x, h => b3k (U := VV) x fun _ => rfl
    | .c_A100_bool, x, h => b3k (U := VV) x fun _ => rfl
    | .c_sHeir, x, h => rfl
    | .c_psdecision_file, x, h => Bool.noConfusion (show false = true from h)
    | .c_sRow, x, h => rfl
  arr := fun c x h => match c, x, h with
    | .c_u8, x, h => Bool.noConfusion (show false = true from h)
    | .c_i64, x, h => Bool.noConfusion (show false = true from h)
    | .c_str, x, h => Bool.noConfusion (show false = true from h)
    | .c_bool, x, h => Bool.noConfusion (show false = true from h)
    | .c_sSpan, x, h => Bool.noConfusion (show false = true from h)
    | .c_sapi_Fact, x, h => Bool.noConfusion (show false = true from h)
    | .c_spensionhand_Fact, x, h => Bool.noConfusion (show false = true from h)
    | .c_A3_str, x, h => ⟨rfl, x.h⟩
    | .c_sToken, x, h => Bool.noConfusion (show false = true from h)
    | .c_spensionref5_reader, x, h => Bool.noConfusion (show false = true from h)
    | .c_u64, x, h => Bool.noConfusion (show false = true from h)
    | .c_spensionref1_wide, x, h => Bool.noConfusion (show false = true from h)
    | .c_sFraction, x, h => Bool.noConfusion (show false = true from h)
    | .c_sExpr, x, h => Bool.noConfusion (show false = true from h)
    | .c_sRounding, x, h => Bool.noConfusion (show false = true from h)
    | .c_sCredit, x, h => Bool.noConfusion (show false = true from h)
    | .c_sIndex, x, h => Bool.noConfusion (show false = true from h)
    | .c_sLet, x, h => Bool.noConfusion (show false = true from h)
    | .c_sGrant, x, h => Bool.noConfusion (show false = true from h)
    | .c_sReduce, x, h => Bool.noConfusion (show false = true from h)
    | .c_sVersion, x, h => Bool.noConfusion (show false = true from h)
    | .c_sStatute, x, h => Bool.noConfusion (show false = true from h)
    | .c_sState, x, h => Bool.noConfusion (show false = true from h)
    | .c_sRules, x, h => Bool.noConfusion (show false = true from h)
    | .c_sRate, x, h => Bool.noConfusion (show false = true from h)
    | .c_sLaws, x, h => Bool.noConfusion (show false = true from h)
    | .c_spensionhand_Claim, x, h => Bool.noConfusion (show false = true from h)
    | .c_sClaim, x, h => Bool.noConfusion (show false = true from h)
    | .c_spensionlaw26_Seeds, x, h => Bool.noConfusion (show false = true from h)
    | .c_ssyntax_entry, x, h => Bool.noConfusion (show false = true from h)
    | .c_A2_i64, x, h => ⟨rfl, x.h⟩
    | .c_sBinding, x, h => Bool.noConfusion (show false = true from h)
    | .c_A12_i64, x, h => ⟨rfl, x.h⟩
    | .c_u32, x, h => Bool.noConfusion (show false = true from h)
    | .c_sdecision_file, x, h => Bool.noConfusion (show false = true from h)
    | .c_A6_bool, x, h => ⟨rfl, x.h⟩
    | .c_A100_bool, x, h => ⟨rfl, x.h⟩
    | .c_sHeir, x, h => Bool.noConfusion (show false = true from h)
    | .c_psdecision_file, x, h => Bool.noConfusion (show false = true from h)
    | .c_sRow, x, h => Bool.noConfusion (show false = true from h)
  ars := fun c x i y h => match c, x, y, h with
    | .c_u8, x, y, h => Bool.noConfusion (show false = true from h)
    | .c_i64, x, y, h => Bool.noConfusion (show false = true from h)
    | .c_str, x, y, h => Bool.noConfusion (show false = true from h)
    | .c_bool, x, y, h => Bool.noConfusion (show false = true from h)
    | .c_sSpan, x, y, h => Bool.noConfusion (show false = true from h)
    | .c_sapi_Fact, x, y, h => Bool.noConfusion (show false = true from h)
    | .c_spensionhand_Fact, x, y, h => Bool.noConfusion (show false = true from h)
    | .c_A3_str, x, y, h => rfl
    | .c_sToken, x, y, h => Bool.noConfusion (show false = true from h)
    | .c_spensionref5_reader, x, y, h => Bool.noConfusion (show false = true from h)
    | .c_u64, x, y, h => Bool.noConfusion (show false = true from h)
    | .c_spensionref1_wide, x, y, h => Bool.noConfusion (show false = true from h)
    | .c_sFraction, x, y, h => Bool.noConfusion (show false = true from h)
    | .c_sExpr, x, y, h => Bool.noConfusion (show false = true from h)
    | .c_sRounding, x, y, h => Bool.noConfusion (show false = true from h)
    | .c_sCredit, x, y, h => Bool.noConfusion (show false = true from h)
    | .c_sIndex, x, y, h => Bool.noConfusion (show false = true from h)
    | .c_sLet, x, y, h => Bool.noConfusion (show false = true from h)
    | .c_sGrant, x, y, h => Bool.noConfusion (show false = true from h)
    | .c_sReduce, x, y, h => Bool.noConfusion (show false = true from h)
    | .c_sVersion, x, y, h => Bool.noConfusion (show false = true from h)
    | .c_sStatute, x, y, h => Bool.noConfusion (show false = true from h)
    | .c_sState, x, y, h => Bool.noConfusion (show false = true from h)
    | .c_sRules, x, y, h => Bool.noConfusion (show false = true from h)
    | .c_sRate, x, y, h => Bool.noConfusion (show false = true from h)
    | .c_sLaws, x, y, h => Bool.noConfusion (show false = true from h)
    | .c_spensionhand_Claim, x, y, h => Bool.noConfusion (show false = true from h)
    | .c_sClaim, x, y, h => Bool.noConfusion (show false = true from h)
    | .c_spensionlaw26_Seeds, x, y, h => Bool.noConfusion (show false = true from h)
    | .c_ssyntax_entry, x, y, h => Bool.noConfusion (show false = true from h)
    | .c_A2_i64, x, y, h => rfl
    | .c_sBinding, x, y, h => Bool.noConfusion (show false = true from h)
    | .c_A12_i64, x, y, h => rfl
    | .c_u32, x, y, h => Bool.noConfusion (show false = true from h)
    | .c_sdecision_file, x, y, h => Bool.noConfusion (show false = true from h)
    | .c_A6_bool, x, y, h => rfl
    | .c_A100_bool, x, y, h => rfl
    | .c_sHeir, x, y, h => Bool.noConfusion (show false = true from h)
    | .c_psdecision_file, x, y, h => Bool.noConfusion (show false = true from h)
    | .c_sRow, x, y, h => Bool.noConfusion (show false = true from h)
  by8 := fun c x h => match c, x, h with
    | .c_u8, x, h => rfl
    | .c_i64, x, h => Bool.noConfusion (show false = true from h)
    | .c_str, x, h => Bool.noConfusion (show false = true from h)
    | .c_bool, x, h => Bool.noConfusion (show false = true from h)
    | .c_sSpan, x, h => Bool.noConfusion (show false = true from h)
    | .c_sapi_Fact, x, h => Bool.noConfusion (show false = true from h)
    | .c_spensionhand_Fact, x, h => Bool.noConfusion (show false = true from h)
    | .c_A3_str, x, h => Bool.noConfusion (show false = true from h)
    | .c_sToken, x, h => Bool.noConfusion (show false = true from h)
    | .c_spensionref5_reader, x, h => Bool.noConfusion (show false = true from h)
    | .c_u64, x, h => Bool.noConfusion (show false = true from h)
    | .c_spensionref1_wide, x, h => Bool.noConfusion (show false = true from h)
    | .c_sFraction, x, h => Bool.noConfusion (show false = true from h)
    | .c_sExpr, x, h => Bool.noConfusion (show false = true from h)
    | .c_sRounding, x, h => Bool.noConfusion (show false = true from h)
    | .c_sCredit, x, h => Bool.noConfusion (show false = true from h)
    | .c_sIndex, x, h => Bool.noConfusion (show false = true from h)
    | .c_sLet, x, h => Bool.noConfusion (show false = true from h)
    | .c_sGrant, x, h => Bool.noConfusion (show false = true from h)
    | .c_sReduce, x, h => Bool.noConfusion (show false = true from h)
    | .c_sVersion, x, h => Bool.noConfusion (show false = true from h)
    | .c_sStatute, x, h => Bool.noConfusion (show false = true from h)
    | .c_sState, x, h => Bool.noConfusion (show false = true from h)
    | .c_sRules, x, h => Bool.noConfusion (show false = true from h)
    | .c_sRate, x, h => Bool.noConfusion (show false = true from h)
    | .c_sLaws, x, h => Bool.noConfusion (show false = true from h)
    | .c_spensionhand_Claim, x, h => Bool.noConfusion (show false = true from h)
    | .c_sClaim, x, h => Bool.noConfusion (show false = true from h)
    | .c_spensionlaw26_Seeds, x, h => Bool.noConfusion (show false = true from h)
    | .c_ssyntax_entry, x, h => Bool.noConfusion (show false = true from h)
    | .c_A2_i64, x, h => Bool.noConfusion (show false = true from h)
    | .c_sBinding, x, h => Bool.noConfusion (show false = true from h)
    | .c_A12_i64, x, h => Bool.noConfusion (show false = true from h)
    | .c_u32, x, h => Bool.noConfusion (show false = true from h)
    | .c_sdecision_file, x, h => Bool.noConfusion (show false = true from h)
    | .c_A6_bool, x, h => Bool.noConfusion (show false = true from h)
    | .c_A100_bool, x, h => Bool.noConfusion (show false = true from h)
    | .c_sHeir, x, h => Bool.noConfusion (show false = true from h)
    | .c_psdecision_file, x, h => Bool.noConfusion (show false = true from h)
    | .c_sRow, x, h => Bool.noConfusion (show false = true from h)
  tabK := fun w w2 h hb => e2p (g := 5) (show Go.Proofs.Tryz.prog.globalNamed "internal/strconv.uint64pow10" = some 5 by kernel_rfl) h (hb 5 rfl)
end Go.PL
namespace Go.Proofs
open Go.Shelf
def Tryz.laysItoa_ren : Go.Shelf.Ren := ⟨fun | 171 => 374 | 243 => 426 | 246 => 489 | 283 => 544 | 284 => 545 | 285 => 546 | 286 => 547 | 129 => 227 | 317 => 578 | 318 => 579 | 319 => 580 | 320 => 581 | 337 => 590 | 338 => 591 | n => n, fun | 3 => 3 | 9 => 9 | 2 => 2 | 4 => 4 | 171 => 642 | 0 => 0 | 53 => 216 | 37 => 313 | 5 => 5 | 173 => 644 | 212 => 667 | 51 => 323 | 20 => 20 | 213 => 668 | 46 => 222 | 232 => 676 | 233 => 677 | n => n, fun | 17 => 5 | 18 => 6 | 19 => 7 | n => n⟩
theorem Tryz.laysItoa : Go.Proofs.LaysM.n171 Tryz.prog Tryz.laysItoa_ren := {
  mixed := by kernel_rfl
  f129 := Tryz.func227.trans (congrArg some (by kernel_rfl))
  f171 := Tryz.func374.trans (congrArg some (by kernel_rfl))
  f243 := Tryz.func426.trans (congrArg some (by kernel_rfl))
  f246 := Tryz.func489.trans (congrArg some (by kernel_rfl))
  f283 := Tryz.func544.trans (congrArg some (by kernel_rfl))
  f284 := Tryz.func545.trans (congrArg some (by kernel_rfl))
  f285 := Tryz.func546.trans (congrArg some (by kernel_rfl))
  f286 := Tryz.func547.trans (congrArg some (by kernel_rfl))
  f317 := Tryz.func578.trans (congrArg some (by kernel_rfl))
  f318 := Tryz.func579.trans (congrArg some (by kernel_rfl))
  f319 := Tryz.func580.trans (congrArg some (by kernel_rfl))
  f320 := Tryz.func581.trans (congrArg some (by kernel_rfl))
  f337 := Tryz.func590.trans (congrArg some (by kernel_rfl))
  f338 := Tryz.func591.trans (congrArg some (by kernel_rfl))
  t0 := Tryz.underlying0
  a0 := Tryz.isAgg0
  z0 := Tryz.sizeOf0
  v0 := Tryz.zeroValue0
  t2 := Tryz.underlying2
  a2 := Tryz.isAgg2
  z2 := Tryz.sizeOf2
  v2 := Tryz.zeroValue2
  t3 := Tryz.underlying3
  a3 := Tryz.isAgg3
  z3 := Tryz.sizeOf3
  v3 := Tryz.zeroValue3
  t4 := Tryz.underlying4
  a4 := Tryz.isAgg4
  z4 := Tryz.sizeOf4
  v4 := Tryz.zeroValue4
  t5 := Tryz.underlying5
  a5 := Tryz.isAgg5
  z5 := Tryz.sizeOf5
  v5 := Tryz.zeroValue5
  t9 := Tryz.underlying9
  a9 := Tryz.isAgg9
  z9 := Tryz.sizeOf9
  v9 := Tryz.zeroValue9
  t20 := Tryz.underlying20
  a20 := Tryz.isAgg20
  z20 := Tryz.sizeOf20
  v20 := Tryz.zeroValue20
  t37 := Tryz.underlying313
  a37 := Tryz.isAgg313
  z37 := Tryz.sizeOf313
  v37 := Tryz.zeroValue313
  t46 := Tryz.underlying222
  a46 := Tryz.isAgg222
  z46 := Tryz.sizeOf222
  v46 := Tryz.zeroValue222
  t51 := Tryz.underlying323
  a51 := Tryz.isAgg323
  z51 := Tryz.sizeOf323
  v51 := Tryz.zeroValue323
  t53 := Tryz.underlying216
  a53 := Tryz.isAgg216
  z53 := Tryz.sizeOf216
  v53 := Tryz.zeroValue216
  t171 := Tryz.underlying642
  a171 := Tryz.isAgg642
  z171 := Tryz.sizeOf642
  v171 := Tryz.zeroValue642
  t173 := Tryz.underlying644
  a173 := Tryz.isAgg644
  z173 := Tryz.sizeOf644
  v173 := Tryz.zeroValue644
  t212 := Tryz.underlying667
  a212 := Tryz.isAgg667
  z212 := Tryz.sizeOf667
  v212 := Tryz.zeroValue667
  t213 := Tryz.underlying668
  a213 := Tryz.isAgg668
  z213 := Tryz.sizeOf668
  t232 := Tryz.underlying676
  a232 := Tryz.isAgg676
  z232 := Tryz.sizeOf676
  v232 := Tryz.zeroValue676
  t233 := Tryz.underlying677
  a233 := Tryz.isAgg677
  z233 := Tryz.sizeOf677
  v233 := Tryz.zeroValue677
  g17 := by kernel_rfl
  g18 := by kernel_rfl
  g19 := by kernel_rfl
  i0 := by kernel_rfl
  i2 := by kernel_rfl
  i3 := by kernel_rfl
  i4 := by kernel_rfl
  i5 := by kernel_rfl
  i9 := by kernel_rfl
  i20 := by kernel_rfl
  i37 := by kernel_rfl
  i46 := by kernel_rfl
  i51 := by kernel_rfl
  i53 := by kernel_rfl
  i171 := by kernel_rfl
  i173 := by kernel_rfl
  i212 := by kernel_rfl
  i232 := by kernel_rfl
  i233 := by kernel_rfl
  m17 := by kernel_rfl
  m18 := by kernel_rfl
  m19 := by kernel_rfl }
end Go.Proofs
namespace Go.Proofs
open Go.RowKit Go.Shelf Go.PL Go.SX
attribute [local go_sem] Oper.semAt_some
def f1f (len : Nat) (f : Nat -> ByteArray × Int) (k : Nat) : Array Value := #[.int .i64 ((len - 1 - k : Nat) : Int), .agg #[.string (f (len - 1 - k)).1, .int .i64 (f (len - 1 - k)).2]]
set_option maxRecDepth 100000 in
set_option maxHeartbeats 2000000 in
theorem f3f (F : Fence) (n : Nat) (h7 : F.fn 491) (hro : F.round = none) (hn : 1 <= n) (l Bs n₀ b off len cap : Nat) (f : Nat -> ByteArray × Int) (hlen : len <= 9223372036854775807) (hb : b < n₀) (J Jx : Nat -> World -> Prop)
    (hY : ∀ k W1, J k W1 -> k < len -> YieldAt F (n - 1) Tryz.prog l (f1f len f k) W1 fun e W' => (e = .returned (.bool true) /\ J (k + 1) W' /\ Below n₀ W1 W') \/ (e = .returned (.bool false) /\ Jx (k + 1) W'))
    (W : World) (hBs : W.cell? ⟨Bs, 0, none⟩ = some (.slice (some ⟨b, off, none⟩) len cap)) (hBn : Bs < n₀)
    (hc : ∀ j, j < len -> W.cell? ⟨b, off + j * 2, none⟩ = some (.string (f j).1) /\ W.cell? ⟨b, off + j * 2 + 1, none⟩ = some (.int .i64 (f j).2)) (h0 : J 0 W) :
    CallsIn F n Tryz.prog 491 #[.func (.yield l) #[] #[], .pointer (some ⟨Bs, 0, none⟩)] W fun e W' => (∃ v, e = .returned v) /\ (J len W' \/ ∃ k, k <= len /\ Jx k W') := by
  refine callsIn_of_wp Tryz.func491 rfl h7 ?_ hro
  simp only [Tryz.ntmps491, List.size_toArray, List.length_cons, List.length_nil, Nat.reduceAdd, Nat.reduceSub, Array.replicate_succ, Array.replicate_zero, List.push_toArray, List.append_toArray, List.nil_append, List.cons_append]
  gi_wp2
  gi_loopw [3] (fun i wr => ∃ k r : Nat, k + r = len /\ i = .int .i64 ((r : Int) - 1) /\ J k wr /\ Below n₀ W wr) (fun i _ => (intOf i + 1).toNat)
  case atStart => exact ⟨0, len, by omega, rfl, h0, Below.refl _ _⟩
  case round =>
    obtain ⟨k, r, hk, rfl, hJs, hnx⟩ := hrel
    have hBs' : wr.cell? ⟨Bs, 0, none⟩ = some (.slice (some ⟨b, off, none⟩) len cap) := (hnx.cell (p := ⟨Bs, 0, none⟩) hBn).trans hBs
    cases r with
    | succ m =>
      have hc1 : wr.cell? ⟨b, off + m * 2, none⟩ = some (.string (f m).1) := (hnx.cell (p := ⟨b, off + m * 2, none⟩) hb).trans (hc m (by omega)).1
      have hc2 : wr.cell? ⟨b, off + m * 2 + 1, none⟩ = some (.int .i64 (f m).2) := (hnx.cell (p := ⟨b, off + m * 2 + 1, none⟩) hb).trans (hc m (by omega)).2
      have hm : len - 1 - k = m := by omega
      obtain ⟨fn, tmps, assign, body, hy, hR⟩ := hY k wr hJs (by omega)
      unfold f1f at hy
      rw [hm] at hy
      have e1 : ((m + 1 : Nat) : Int) - 1 = (m : Int) := by omega
      rw [e1]
      gi_wp2
      refine hR.mono ?_
      rintro e W3 (⟨rfl, hJ3, hk3⟩ | ⟨rfl, hJx3⟩)
      . gi_wp2
        go_roundw
        case rel => exact ⟨k + 1, m, by omega, rfl, hJ3, hnx.trans hk3⟩
        case measure => simp [intOf]
      . gi_wp2
        refine bodyPost_ret (results_none rfl _ _ _) rfl ?_
        exact ⟨⟨_, rfl⟩, .inr ⟨k + 1, by omega, hJx3⟩⟩
    | zero =>
      obtain rfl : k = len := by omega
      gi_wp2
      go_end0
      exact ⟨⟨_, rfl⟩, .inl hJs⟩
set_option maxRecDepth 100000 in
set_option maxHeartbeats 1000000 in
theorem d5i (F : Fence) (n : Nat) (h7 : F.fn 491) (hro : F.round = none) (l Bs : Nat) (a : Option Addr) (cap : Nat) (J : Nat -> World -> Prop) (W : World) (hBs : W.cell? ⟨Bs, 0, none⟩ = some (.slice a 0 cap)) (h0 : J 0 W) :
    CallsIn F n Tryz.prog 491 #[.func (.yield l) #[] #[], .pointer (some ⟨Bs, 0, none⟩)] W fun e W' => (∃ v, e = .returned v) /\ J 0 W' := by
  refine callsIn_of_wp Tryz.func491 rfl h7 ?_ hro
  simp only [Tryz.ntmps491, List.size_toArray, List.length_cons, List.length_nil, Nat.reduceAdd, Nat.reduceSub, Array.replicate_succ, Array.replicate_zero, List.push_toArray, List.append_toArray, List.nil_append, List.cons_append]
  gi_wp2
  gi_loopw [3] (fun i wr => i = .int .i64 (-1) /\ J 0 wr) (fun _ _ => 0)
  case atStart => exact ⟨rfl, h0⟩
  case round =>
    obtain ⟨rfl, hJs⟩ := hrel
    gi_wp2
    go_end0
    exact ⟨⟨_, rfl⟩, hJs⟩
set_option maxHeartbeats 1000000 in
theorem f8j (F : Fence) (n : Nat) (h5 : F.fn 431) (hro : F.round = none) (a : Option Addr) (len cap : Nat) (w : World) :
    CallsIn F n Tryz.prog 431 #[.slice a len cap] w fun e w' => e = .returned (.func (.func 491) #[] #[.pointer (some ⟨w.heap.size, 0, none⟩)]) /\ w' = w.alloc (.cells #[.slice a len cap] 195) := by
  refine callsIn_of_wp Tryz.func431 rfl h5 ?_ hro
  simp only [Tryz.ntmps431, List.size_toArray, List.length_cons, List.length_nil, Nat.reduceAdd, Nat.reduceSub, Array.replicate_succ, Array.replicate_zero, List.push_toArray, List.append_toArray, List.nil_append, List.cons_append]
  gi_wp2
  go_ret
  exact ⟨rfl, rfl⟩
def e9i (n₀ : Nat) (W : World) (sv : Value) (len : Nat) (f : Nat -> ByteArray × Int) : Prop :=
  (∃ a cap, sv = .slice a 0 cap /\ len = 0) \/ ∃ b off cap, sv = .slice (some ⟨b, off, none⟩) len cap /\ b < n₀ /\ ∀ j, j < len -> W.cell? ⟨b, off + j * 2, none⟩ = some (.string (f j).1) /\ W.cell? ⟨b, off + j * 2 + 1, none⟩ = some (.int .i64 (f j).2)
theorem e9i.below {n₀ n : Nat} (hn : n₀ <= n) {A B : World} {sv : Value} {len : Nat} {f : Nat -> ByteArray × Int} (h : Below n A B) : e9i n₀ A sv len f -> e9i n B sv len f
  | .inl e => .inl e
  | .inr ⟨b, off, cap, e, hb, hc⟩ => .inr ⟨b, off, cap, e, by omega, fun j hj => ⟨(h.cell (p := ⟨b, off + j * 2, none⟩) (by show b < n; omega)).trans (hc j hj).1, (h.cell (p := ⟨b, off + j * 2 + 1, none⟩) (by show b < n; omega)).trans (hc j hj).2⟩⟩
theorem f4w (F : Fence) (n : Nat) (h7 : F.fn 491) (hro : F.round = none) (hn : 1 <= n) (n₀ Bs len : Nat) (f : Nat -> ByteArray × Int) (hlen : len <= 9223372036854775807) (sv : Value) (w : World) (hb : Bs < n₀) (hBs : w.cell? ⟨Bs, 0, none⟩ = some sv) (hI : e9i n₀ w sv len f)
    (l : Nat) (J Jx : Nat -> World -> Prop) (W : World) (hW : Below n₀ w W)
    (hY : ∀ k W1, J k W1 -> k < len -> YieldAt F (n - 1) Tryz.prog l (f1f len f k) W1 fun e W' => (e = .returned (.bool true) /\ J (k + 1) W' /\ Below n₀ W1 W') \/ (e = .returned (.bool false) /\ Jx (k + 1) W'))
    (h0 : J 0 W) : CallsIn F n Tryz.prog 491 (#[.func (.yield l) #[] #[]] ++ #[.pointer (some ⟨Bs, 0, none⟩)]) W fun e W' => (∃ v, e = .returned v) /\ (J len W' \/ ∃ k, k <= len /\ Jx k W') := by
  have hc' := (hW.cell (p := ⟨Bs, 0, none⟩) hb).trans hBs
  rcases hI.below (Nat.le_refl _) hW with ⟨a, cap, rfl, rfl⟩ | ⟨b, off, cap, rfl, hbb, hcs⟩
  . exact (d5i F n h7 hro l Bs a cap J W hc' h0).mono fun e W' ⟨he, hj⟩ => ⟨he, .inl hj⟩
  . exact f3f F n h7 hro hn l Bs n₀ b off len cap f hlen hbb J Jx hY W hc' hb hcs h0
def lkA (nm : ByteArray) (len : Nat) (f : Nat -> ByteArray × Int) (r : Int × Bool) : Prop :=
  (r = (0, false) /\ ∀ j, j < len -> ((f j).1.toList == nm.toList) = false) \/ ∃ k, k < len /\ ((f k).1.toList == nm.toList) = true /\ r = ((f k).2, true) /\ ∀ j, k < j -> j < len -> ((f j).1.toList == nm.toList) = false
theorem f8m {tmps : Array Value} {A B : Nat} {x : Int} {b : Bool} {W : World} (hA : tmps[4]?.getD undef = .pointer (some ⟨A, 0, none⟩)) (hB : tmps[5]?.getD undef = .pointer (some ⟨B, 0, none⟩)) (cA : W.cell? ⟨A, 0, none⟩ = some (.int .i64 x)) (cB : W.cell? ⟨B, 0, none⟩ = some (.bool b)) :
    (results Tryz.f379 tmps).run Tryz.prog W = .ok (.tuple #[.int .i64 x, .bool b]) W := by
  have e : Tryz.f379.results = #[.cell 4 3, .cell 5 4] := by kernel_rfl
  have a3 := Tryz.isAgg3
  have a4 := Tryz.isAgg4
  simp only [results, e]
  simp [Sem.run_bind, Result.andThen, hA, hB, asAddr, loadVar, go_sem, cA, cB, a3, a4]
set_option maxRecDepth 100000 in
set_option maxHeartbeats 4000000 in
theorem c7r (nm : ByteArray) (d : Int) (len : Nat) (f : Nat -> ByteArray × Int) (hlen : len <= 9223372036854775807) (sv : Value) (w : World) (ok : Bool)
    (hI : ∀ w0, Below w.heap.size w w0 -> Calls Tryz.prog 202 #[.string nm] w0 fun e w' => e = .returned (.tuple #[.int .i64 d, .bool ok]) /\ Ext noG w0 w') (hB : e9i w.heap.size w sv len f) :
    Calls Tryz.prog 379 #[.string nm, sv] w fun e w' => ∃ r : Int × Bool, e = .returned (.tuple #[.int .i64 r.1, .bool r.2]) /\ (ok = true -> r = (d, true)) /\ (ok = false -> lkA nm len f r) /\ Below w.heap.size w w' /\ w.drawn <= w'.drawn := by
  obtain ⟨a, cap, rfl⟩ : ∃ a cap, sv = .slice a len cap := by
    rcases hB with ⟨a, cap, rfl, rfl⟩ | ⟨b, off, cap, rfl, _⟩
    . exact ⟨_, _, rfl⟩
    . exact ⟨_, _, rfl⟩
  refine (callsIn_wide (n := 9)).1 ?_
  refine callsIn_of_wp_marks Tryz.func379 rfl trivial ?_ rfl
  simp only [Tryz.ntmps379, List.size_toArray, List.length_cons, List.length_nil, Nat.reduceAdd, Nat.reduceSub, Array.replicate_succ, Array.replicate_zero, List.push_toArray, List.append_toArray, List.nil_append, List.cons_append]
  have bN := ((Boxed.new w 9 (.string nm)).alloc (.cells #[.int .i64 0] 3)).alloc (.cells #[.bool false] 4)
  have bD := (Boxed.new (w.alloc (.cells #[.string nm] 9)) 3 (.int .i64 0)).alloc (.cells #[.bool false] 4)
  have bO := Boxed.new ((w.alloc (.cells #[.string nm] 9)).alloc (.cells #[.int .i64 0] 3)) 4 (.bool false)
  simp only [World.size_alloc] at bD bO
  have hB0 : Below w.heap.size w (((w.alloc (.cells #[.string nm] 9)).alloc (.cells #[.int .i64 0] 3)).alloc (.cells #[.bool false] 4)) := (((Below.refl _ w).alloc (Nat.le_refl _) _).alloc (by simp) _).alloc (by simp; omega) _
  cases ok with
  | true =>
    gi_wp2_with (refine ⟨trivial, ?_⟩; gi_at_call 202; refine (callsIn_wide.2 (hI _ hB0)).mono ?_; rintro e w1 ⟨rfl, hE⟩; have hN1 := Boxed.ex hE bN; have hD1 := Boxed.ex hE bD; have hO1 := Boxed.ex hE bO; have cD := hD1.cell; have fD := hD1.frozen; have cO := hO1.cell; have fO := hO1.frozen)
    have hD2 := (hD1.set (.int .i64 d)).other (B' := w.heap.size + 1 + 1) (by omega) (.bool true)
    have hO2 := (hO1.other (B' := w.heap.size + 1) (by omega) (.int .i64 d)).set (.bool true)
    refine ⟨_, f8m rfl rfl hD2.cell hO2.cell, d, rfl, rfl, ?_, ?_⟩
    . exact ((hB0.trans (hE.below.mono (by simp; omega))).setCell (p := ⟨w.heap.size + 1, 0, none⟩) (by simp) _).setCell (p := ⟨w.heap.size + 1 + 1, 0, none⟩) (by simp; omega) _
    . simpa using hE.drawn
  | false =>
    gi_wp2_with (refine ⟨trivial, ?_⟩; first | (gi_at_call 202; refine (callsIn_wide.2 (hI _ hB0)).mono ?_; rintro e w1 ⟨rfl, hE⟩; have hN1 := Boxed.ex hE bN; have hD1 := Boxed.ex hE bD; have hO1 := Boxed.ex hE bO; have cD := hD1.cell; have fD := hD1.frozen; have cO := hO1.cell; have fO := hO1.frozen; have cN := hN1.cell) | (gi_at_call 431; refine (f8j Fence.wide _ trivial rfl _ _ _ _).mono ?_; rintro e w2 ⟨rfl, rfl⟩))
    have hW1 : w.heap.size + 1 + 1 < w1.heap.size := hO1.lt
    have hbl1 : Below w.heap.size w w1 := hB0.trans (hE.below.mono (by simp; omega))
    have hsz : (w1.alloc (.cells #[.slice a len cap] 195)).heap.size = w1.heap.size + 1 := by simp
    have hbs := Boxed.new w1 195 (.slice a len cap)
    have hN2 := hN1.alloc (.cells #[.slice a len cap] 195)
    have hD2 := hD1.alloc (.cells #[.slice a len cap] 195)
    have hO2 := hO1.alloc (.cells #[.slice a len cap] 195)
    have hbl2 : Below w.heap.size w (w1.alloc (.cells #[.slice a len cap] 195)) := hbl1.alloc (by omega) _
    have hdr2 : w.drawn <= (w1.alloc (.cells #[.slice a len cap] 195)).drawn := by simpa using hE.drawn
    have hB2 := hB.below (Nat.le_of_lt (Nat.lt_of_lt_of_le (Nat.lt_succ_of_lt (Nat.lt_succ_of_lt (Nat.lt_of_le_of_lt (Nat.le_refl _) (Nat.lt_succ_self _)))) (Nat.le_refl _)) ) (Below.refl (w.heap.size + 1 + 1 + 1) w)
    clear hB2
    obtain ⟨W0, hW0⟩ : ∃ W0, w1.alloc (.cells #[.slice a len cap] 195) = W0 := ⟨_, rfl⟩
    rw [hW0] at hsz hbs hN2 hD2 hO2 hbl2 hdr2 ⊢
    have hB3 : e9i W0.heap.size W0 (.slice a len cap) len f := by
      rcases hB with h | ⟨b, off, c, e, hb, hc⟩
      . exact .inl h
      . exact .inr ⟨b, off, c, e, by omega, fun j hj => ⟨(hbl2.cell (p := ⟨b, off + j * 2, none⟩) hb).trans (hc j hj).1, (hbl2.cell (p := ⟨b, off + j * 2 + 1, none⟩) hb).trans (hc j hj).2⟩⟩
    clear hW0
    refine f1z (F := Fence.wide) rfl (by omega) (gf := 491) (lb := #[.pointer (some ⟨w1.heap.size, 0, none⟩)]) rfl trivial (enters_of Tryz.func491 (by kernel_rfl) rfl)
      (f1f len f) len (Below W0.heap.size) (fun l J Jx W hW hY h0 => f4w Fence.wide _ trivial rfl (by omega) W0.heap.size w1.heap.size len f hlen _ W0 (by omega) hbs.cell hB3 l J Jx W hW hY h0)
      (fun _ _ _ h k => h.trans k) (fun W l o o' hl ho _ _ => ⟨rfl, rfl, rfl, by simp, fun k hk => World.putObj_heap_other (by omega)⟩) (fun _ => rfl)
      (fun k W => (Boxed W w.heap.size 9 (.string nm) /\ Boxed W (w.heap.size + 1) 3 (.int .i64 0) /\ Boxed W (w.heap.size + 1 + 1) 4 (.bool false)) /\ (∀ j, len <= j + k -> j < len -> ((f j).1.toList == nm.toList) = false) /\ W0.heap.size <= W.heap.size /\ Below w.heap.size w W /\ w.drawn <= W.drawn)
      (fun k c W => c = .ret /\ ∃ r : Int × Bool, lkA nm len f r /\ (Boxed W (w.heap.size + 1) 3 (.int .i64 r.1) /\ Boxed W (w.heap.size + 1 + 1) 4 (.bool r.2)) /\ Below w.heap.size w W /\ w.drawn <= W.drawn)
      (fun k a' W => ∃ Bx, (w.heap.size + 1 + 1 < Bx /\ a' = { tmps := #[.string nm, .slice a len cap, .pointer (some ⟨w.heap.size, 0, none⟩), undef, .pointer (some ⟨w.heap.size + 1, 0, none⟩), .pointer (some ⟨w.heap.size + 1 + 1, 0, none⟩), .int .i64 d, .bool false,
          undef, .pointer (some ⟨Bx, 0, none⟩), .tuple #[.int .i64 d, .bool false], .string nm, .tuple #[.int .i64 d, .bool false], .int .i64 d, .bool false, .bool false, undef, .slice a len cap,
          .func (.func 491) #[] #[.pointer (some ⟨w1.heap.size, 0, none⟩)], .int .i64 ((len - 1 - k : Nat) : Int), .agg #[.string (f (len - 1 - k)).1, .int .i64 (f (len - 1 - k)).2], undef, undef, undef, undef, undef, undef], defers := [] }) /\ d26 Bx 0 (.string (f (len - 1 - k)).1) W /\ d26 Bx 1 (.int .i64 (f (len - 1 - k)).2) W)
      (fun k => (a71.and (a71.and a71)).and (b9j.and (d5t.and (c4l (Nat.le_refl _) (by omega)))))
      (fun k c => b9j.and (StillR.ex fun r => b9j.and ((a71.and a71).and (c4l (Nat.le_refl _) (by omega)))))
      (fun k a' => StillR.ex fun Bx => b9j.and (c21.and c21))
      ⟨⟨hN2, hD2, hO2⟩, fun j h1 h2 => by omega, Nat.le_refl _, hbl2, hdr2⟩ ?assign ?body ?done ?stop
    case assign =>
      rintro l k W K ⟨⟨b1, b2, b3⟩, hno, hsw, hbw, hdw⟩ hK
      simp only [f1f]
      gi_wp2
      exact hK _ _ ((KeepsOthers.alloc _ _).from _) ((Below.refl _ W).alloc hsw _) ⟨⟨b1.alloc _, b2.alloc _, b3.alloc _⟩, hno, (by simp; omega), hbw.alloc (by omega) _, hdw⟩ ⟨W.heap.size, ⟨b3.lt, rfl⟩, c8o _ _ _ rfl, c8o _ _ _ rfl⟩
    case body =>
      rintro l k a' W ⟨⟨b1, b2, b3⟩, hno, hsw, hbw, hdw⟩ ⟨Bx, ⟨hBx, rfl⟩, c0, c1⟩ hk
      have x0 := c0.1
      have x1 := c1.1
      have n0 := b1.cell
      have d0 := b2.cell
      have d1 := b2.frozen
      have o0 := b3.cell
      have o1 := b3.frozen
      gi_wp2
      . rename_i hx
        have g2 := (b2.set (.int .i64 (f (len - 1 - k)).2)).other (B' := w.heap.size + 1 + 1) (by omega) (.bool true)
        have g3 := (b3.other (B' := w.heap.size + 1) (by omega) (.int .i64 (f (len - 1 - k)).2)).set (.bool true)
        refine ⟨((KeepsOthers.setCell _ _ _).trans (KeepsOthers.setCell _ _ _)).from _, rfl, ((f (len - 1 - k)).2, true), .inr ⟨len - 1 - k, by omega, hx, rfl, fun j h1 h2 => hno j (by omega) h2⟩, ⟨g2, g3⟩, ?_, hdw⟩
        exact (hbw.setCell (p := ⟨w.heap.size + 1, 0, none⟩) (by simp) _).setCell (p := ⟨w.heap.size + 1 + 1, 0, none⟩) (by simp; omega) _
      . rename_i hx
        refine ⟨KeepsFrom.refl _ _, Below.refl _ _, ⟨b1, b2, b3⟩, fun j h1 h2 => ?_, hsw, hbw, hdw⟩
        by_cases hj : j = len - 1 - k
        . subst hj; simpa using hx
        . exact hno j (by omega) h2
    case done =>
      rintro D W hD ⟨⟨b1, b2, b3⟩, hno, hsw, hbw, hdw⟩ hKD
      have d0 := b2.cell
      have d1 := b2.frozen
      have o0 := b3.cell
      have o1 := b3.frozen
      gi_wp2
      have g2 := (b2.set (.int .i64 0)).other (B' := w.heap.size + 1 + 1) (by omega) (.bool false)
      have g3 := (b3.other (B' := w.heap.size + 1) (by omega) (.int .i64 0)).set (.bool false)
      have hK2 := ((KeepsOthers.setCell W ⟨w.heap.size + 1, 0, none⟩ (.int .i64 0)).trans (KeepsOthers.setCell _ ⟨w.heap.size + 1 + 1, 0, none⟩ (.bool false))).same _ _ hKD rfl
      have h4 := a71.pu (B := w.heap.size) _ D _ (.deferred none) (by omega) hK2 rfl g2
      have h5 := a71.pu (B := w.heap.size) _ D _ (.deferred none) (by omega) hK2 rfl g3
      refine ⟨by simp, .inl ⟨_, _, rfl, run_takeDeferred hK2, ⟨_, f8m rfl rfl h4.cell h5.cell, 0, .inl ⟨rfl, .inl ⟨rfl, fun j hj => hno j (by omega) hj⟩, ?_, hdw⟩⟩⟩⟩
      exact ((hbw.setCell (p := ⟨w.heap.size + 1, 0, none⟩) (by simp) _).setCell (p := ⟨w.heap.size + 1 + 1, 0, none⟩) (by simp; omega) _).trans ⟨rfl, rfl, rfl, by simp, fun k hk => World.putObj_heap_other (by omega)⟩
    case stop =>
      rintro D k c W hD hk ⟨rfl, r, hr, ⟨b2, b3⟩, hbw, hdw⟩ hKD
      gi_wp2
      have h4 := a71.pu (B := w.heap.size) _ D _ (.deferred none) (by omega) hKD rfl b2
      have h5 := a71.pu (B := w.heap.size) _ D _ (.deferred none) (by omega) hKD rfl b3
      refine ⟨by simp, .inl ⟨_, _, rfl, run_takeDeferred hKD, ⟨_, f8m rfl rfl h4.cell h5.cell, ?_⟩⟩⟩
      obtain ⟨r1, r2⟩ := r
      have hb' : Below w.heap.size w (W.putObj D (.deferred none)) := hbw.trans ⟨rfl, rfl, rfl, by simp, fun k hk => World.putObj_heap_other (by omega)⟩
      cases r2 with
      | true => exact ⟨r1, .inr ⟨rfl, hr, hb', hdw⟩⟩
      | false => exact ⟨r1, .inl ⟨rfl, hr, hb', hdw⟩⟩
theorem e92 {l : List Binding} {nm : ByteArray} {f : Nat -> ByteArray × Int} (hf : ∀ j (b : Binding), l[j]? = some b -> f j = (b.Name, b.Dim)) {r : Int × Bool} (h : lkA nm l.length f r) :
    r = (match l.reverse.find? fun b => b.Name.toList == nm.toList with | some b => (b.Dim, true) | none => (0, false)) := by
  have none_of : ∀ (m : List Binding), (∀ b ∈ m, (b.Name.toList == nm.toList) = false) -> m.find? (fun b => b.Name.toList == nm.toList) = none := fun m hm => List.find?_eq_none.2 fun b hb => by rw [hm b hb]; decide
  rcases h with ⟨rfl, h⟩ | ⟨k, hk, hp, rfl, h⟩
  . rw [none_of _ fun b hb => by
      obtain ⟨j, hj⟩ := List.getElem?_of_mem (List.mem_reverse.1 hb)
      have h1 := h j (List.getElem?_eq_some_iff.1 hj).1
      rw [hf j b hj] at h1
      exact h1]
  . have e : l = l.take k ++ l[k] :: l.drop (k + 1) := by rw [<- List.drop_eq_getElem_cons hk, List.take_append_drop]
    have hk' : l[k]? = some l[k] := List.getElem?_eq_getElem hk
    have hfk := hf k _ hk'
    have e2 : l.reverse = (l.drop (k + 1)).reverse ++ (l[k] :: (l.take k).reverse) := by
      conv => lhs; rw [e]
      simp
    rw [e2, List.find?_append, none_of _ fun b hb => by
      obtain ⟨j, hj⟩ := List.getElem?_of_mem (List.mem_reverse.1 hb)
      rw [List.getElem?_drop] at hj
      have h1 := h (k + 1 + j) (by omega) (List.getElem?_eq_some_iff.1 hj).1
      rw [hf _ b hj] at h1
      exact h1]
    rw [hfk] at hp ⊢
    have hp : (l[k].Name.toList == nm.toList) = true := hp
    simp [List.find?_cons, hp]
theorem d1b (h : SX.Spec Tryz.prog 202 (⟨⟨[.v .c_str], [.v .c_i64, .v .c_bool]⟩, Int × Bool, fun x => a6d x.1, w2⟩ : Fent VV)) :
    SX.Spec Tryz.prog 379 (⟨⟨[.v .c_str, .ls .c_sBinding], [.v .c_i64, .v .c_bool]⟩, Int × Bool, fun x => a55 x.1 x.2.1, fun b => ((b.1, b.2, ()), ())⟩ : Fent VV) := by
  intro xs r hr Z G w us hl hR
  match us, hl with
  | [u1, u2], _ =>
    have s0 : u1 = .string xs.1 := hR.slot 0
    have s1 : s7 (Rp (U := VV) .c_sBinding) (cx Z (c4k [u1, u2]) (a0o (U := VV) 0 [PK.v .c_str, PK.ls .c_sBinding] xs) w).G w u2 xs.2.1 := hR.slot 1
    have hr : a55 xs.1 xs.2.1 = some r := hr
    unfold a55 at hr
    cases hi : a6d xs.1 with
    | none => rw [hi] at hr; cases hr
    | some v =>
      obtain ⟨d, ok⟩ := v
      rw [hi, Option.bind_some] at hr
      have htb : ∀ w0, Below w.heap.size w w0 -> VV.tab w0 /\ ∀ b, VV.tb b -> b < w0.heap.size := fun w0 hb => ⟨uok.tabK _ _ hR.tab.1 fun b h1 => hb.block b (hR.tab.2 b h1).1, fun b h1 => Nat.lt_of_lt_of_le (hR.tab.2 b h1).1 hb.size⟩
      have hI : ∀ w0, Below w.heap.size w w0 -> Calls Tryz.prog 202 #[.string xs.1] w0 fun e w' => e = .returned (.tuple #[.int .i64 d, .bool ok]) /\ Ext noG w0 w' := fun w0 hb => by
        refine (c4u uok h (xs := (xs.1, ())) (b := (d, ok)) hi (htb w0 hb) (us := [.string xs.1]) rfl (by kernel_rfl) [[]] (by simp) (fun Z' hz => ⟨⟨rfl, rfl⟩, trivial⟩)).mono ?_
        rintro e w' ⟨vs, Z', he, hE, hRR⟩
        match vs, hRR with
        | [v1, v2], ⟨h1, h2, _⟩ =>
          have h1 : v1 = .int .i64 d := h1
          have h2 : v2 = .bool ok := h2
          exact ⟨by rw [he, h1, h2]; rfl, hE⟩
      let f : Nat -> ByteArray × Int := fun j => match xs.2.1[j]? with | some b => (b.Name, b.Dim) | none => (⟨#[]⟩, 0)
      have hf : ∀ j (b : Binding), xs.2.1[j]? = some b -> f j = (b.Name, b.Dim) := fun j b hj => by simp only [f]; erw [hj]
      have hlen : xs.2.1.length <= 9223372036854775807 := by
        rcases s1 with ⟨_, e⟩ | ⟨_, cap, _, h1, h2, _⟩
        . rw [e]; decide
        . have : maxLen = 9223372036854775807 := by decide
          omega
      have hB : e9i w.heap.size w u2 xs.2.1.length f := by
        rcases s1 with ⟨e1, e2⟩ | ⟨a, cap, e1, h1, h2, h3⟩
        . exact .inl ⟨none, 0, e1, by rw [e2]; rfl⟩
        . rcases Nat.eq_zero_or_pos xs.2.1.length with h0 | h0
          . exact .inl ⟨some a, cap, by rw [e1, h0], h0⟩
          . have key : ∀ j, j < xs.2.1.length -> a.block < w.heap.size /\ w.cell? (a.add (j * 2)) = some (.string (f j).1) /\ w.cell? (a.add (j * 2 + 1)) = some (.int .i64 (f j).2) := by
              intro j hj
              obtain ⟨cs, hrep, hb, _, hca⟩ := h3 j _ (List.getElem?_eq_getElem hj)
              obtain ⟨_, css, rfl, hall⟩ := b5a.1 hrep
              rw [hf j _ (List.getElem?_eq_getElem hj)]
              match css, hall with
              | [c0, c1], ⟨g0, g1, _⟩ =>
                have g0 : c0 = [.string xs.2.1[j].Name] := g0
                have g1 : c1 = [.int .i64 xs.2.1[j].Dim] := g1
                subst g0; subst g1
                have x0 := hca 0 _ rfl
                have x1 := hca 1 _ rfl
                rw [Deep.add_add] at x0 x1
                exact ⟨hb, x0, x1⟩
            have hsp : a.spot = none := by
              have h9 := (key 0 h0).2.1
              cases hs : a.spot with
              | none => rfl
              | some q =>
                exfalso; revert h9; simp [World.cell?, Addr.add, hs]
                split <;> simp
            obtain ⟨ab, ao, ap⟩ := a
            cases hsp
            exact .inr ⟨ab, ao, cap, e1, (key 0 h0).1, fun j hj => (by
              have h := (key j hj).2
              have e : ∀ n, (⟨ab, ao, none⟩ : Addr).add n = ⟨ab, ao + n, none⟩ := fun n => by
                unfold Addr.add
                split
                . rename_i h0; rw [show n = 0 from by simpa using h0]; rfl
                . rfl
              rw [e, e] at h
              exact h)⟩
      subst s0
      show Calls Tryz.prog 379 #[.string xs.1, u2] w _
      refine (c7r xs.1 d xs.2.1.length f hlen u2 w ok hI hB).mono ?_
      rintro e w' ⟨q, he, hq1, hq2, hbe, hdr⟩
      have hqr : q = r := by
        cases ok with
        | true => rw [if_pos rfl] at hr; exact (hq1 rfl).trans (Option.some.inj hr)
        | false => rw [if_neg (fun h : false = true => by cases h)] at hr; exact (e92 hf (hq2 rfl)).trans (Option.some.inj hr)
      subst hqr
      exact ⟨_, he, ⟨Z, [.int .i64 q.1, .bool q.2], [.string xs.1, u2], rfl, fun _ h => h, fun _ h => .inl h, ⟨hbe.os, hbe.tape, hbe.output, hbe.size, fun b hb _ => hbe.block b hb, hdr⟩, rfl, fun _ _ _ _ => rfl, ⟨rfl, rfl, trivial⟩, trivial, (fun v hv => by cases hv), (fun i j v v' b _ hv => by cases hv)⟩⟩
end Go.Proofs
namespace Go.PL
open Go Go.SX Go.Proofs
theorem mixed : Tryz.prog.follows .mixedOrders = true := by kernel_rfl
noncomputable section
def e7g : Fent VV := ⟨⟨[.ls .c_u8, .ls .c_u8], [.v .c_i64]⟩, Int, fun x => b1z x.1 x.2.1, fun n => ((n, ()), ())⟩
theorem f2z : d7i Tryz.prog 302 e7g := e3m (U := VV) (a := .c_u8) (c := .c_i64) uok (fn := Tryz.f302) (by kernel_rfl) (by kernel_rfl) (by kernel_rfl) (by kernel_rfl) (by kernel_rfl) rfl (fun n => n) (fun _ => rfl)
def e62 : Fent VV := ⟨⟨[.v .c_str, .v .c_u8], [.v .c_i64]⟩, Int, fun x => a5d x.1 x.2.1, fun n => ((n, ()), ())⟩
theorem f2b : d7i Tryz.prog 492 e62 := e2w (U := VV) (a := .c_str) (b := .c_u8) (c := .c_i64) (fn := Tryz.f492) (by kernel_rfl) (by kernel_rfl) (by kernel_rfl) (by kernel_rfl) (by kernel_rfl) (fun x => x) (fun x => x) (fun n => n) (fun _ => rfl) (fun _ => rfl) (fun _ => rfl)
def e6e : Fent VV := ⟨⟨[.v .c_i64], [.v .c_str]⟩, ByteArray, fun x => strconv_Itoa x.1, fun b => ((b, ()), ())⟩
theorem f1h : SX.Spec Tryz.prog 374 e6e := e0y (U := VV) (a := .c_i64) (c := .c_str) Tryz.laysItoa (fun _ h => h) (fun x => x) (fun _ => rfl) (fun x => x) (fun _ => rfl)
def K374 : Kn Tryz.prog VV := ⟨374, e6e, .inl ⟨f1h, fun _ _ => by kernel_rfl⟩⟩
def K302 : Kn Tryz.prog VV := ⟨302, e7g, .inr f2z⟩
def K492 : Kn Tryz.prog VV := ⟨492, e62, .inr f2b⟩
abbrev mk := @kn Tryz.prog VV uok mixed
def K5 : Kn Tryz.prog VV := mk 5 Tryz.f5 ⟨[.v .c_i64, .v .c_i64], [.v .c_i64]⟩ (fun x => b6 x.1 x.2.1) w1 u1 .n [] (by kernel_rfl) (by kernel_rfl) (fun _ => rfl) fun x => by kernel_rfl
def K27 : Kn Tryz.prog VV := mk 27 Tryz.f27 ⟨[.ls .c_i64, .v .c_i64], [.v .c_i64]⟩ (fun x => c8 x.1 x.2.1) w1 u1 .n [K5] (by kernel_rfl) (by kernel_rfl) (fun _ => rfl) fun x => by kernel_rfl
def K9 : Kn Tryz.prog VV := mk 9 Tryz.f9 ⟨[.ls .c_i64], [.ow 82 .c_sapi_Fact]⟩ (fun x => a72 x.1) w1 u1 (sk 2 (.s (.s .n (.l [0] [] [.ow 3 1 82 .c_sapi_Fact, .v 4 .c_i64] .n)) .n)) [K5, K27] (by kernel_rfl) (by kernel_rfl) (fun _ => rfl) fun x => by kernel_rfl
def K51 : Kn Tryz.prog VV := mk 51 Tryz.f51 ⟨[.v .c_i64], [.v .c_i64]⟩ (fun x => a64 x.1) w1 u1 .n [K5] (by kernel_rfl) (by kernel_rfl) (fun _ => rfl) fun x => by kernel_rfl
def K52 : Kn Tryz.prog VV := mk 52 Tryz.f52 ⟨[.v .c_i64], [.v .c_str]⟩ (fun x => a4t x.1) w1 u1 .n [] (by kernel_rfl) (by kernel_rfl) (fun _ => rfl) fun x => by kernel_rfl
def K28 : Kn Tryz.prog VV := mk 28 Tryz.f28 ⟨[.v .c_spensionhand_Fact], [.v .c_sapi_Fact]⟩ (fun x => a7s x.1) w1 u1 (sk 5 (.j [] [.bx 1 1 85 .c_spensionhand_Fact, .bx 2 2 82 .c_sapi_Fact, .bx 3 3 82 .c_sapi_Fact, .v 4 .c_i64, .v 5 .c_i64] .n (.s .n (.s (.s .n (.l [4, 5, 6] [] [.bx 1 1 85 .c_spensionhand_Fact, .bx 2 2 82 .c_sapi_Fact, .bx 3 3 82 .c_sapi_Fact, .v 7 .c_i64] .n)) .n)))) [K5, K51, K52] (by kernel_rfl) (by kernel_rfl) (fun _ => rfl) fun x => by kernel_rfl
def K10 : Kn Tryz.prog VV := mk 10 Tryz.f10 ⟨[.ls .c_spensionhand_Fact], [.ow 82 .c_sapi_Fact]⟩ (fun x => a70 x.1) w1 u1 (sk 2 (.s (.s .n (.l [0] [] [.ow 3 1 82 .c_sapi_Fact, .v 4 .c_i64] .n)) .n)) [K28] (by kernel_rfl) (by kernel_rfl) (fun _ => rfl) fun x => by kernel_rfl
def K61 : Kn Tryz.prog VV := mk 61 Tryz.f61 ⟨[.v .c_i64], [.v .c_str]⟩ (fun x => k6 x.1) w1 u1 (sk 2 (.s (.l [] [] [.v 0 .c_i64, .v 3 .c_str] .n) .n)) [] (by kernel_rfl) (by kernel_rfl) (fun _ => rfl) fun x => by kernel_rfl
def K120 : Kn Tryz.prog VV := mk 120 Tryz.f120 ⟨[.v .c_i64], [.v .c_str]⟩ (fun x => q6 x.1) w1 u1 .n [K61] (by kernel_rfl) (by kernel_rfl) (fun _ => rfl) fun x => by kernel_rfl
def K62 : Kn Tryz.prog VV := mk 62 Tryz.f62 ⟨[.v .c_str, .ls .c_i64, .v .c_i64], [.v .c_str]⟩ (fun x => a0i x.1 x.2.1 x.2.2.1) w1 u1 (sk 3 (.j [] [.ls 1 .c_i64, .v 2 .c_i64, .v 7 .c_str, .v 8 .c_str] .n (.s .n (.j [] [.ls 1 .c_i64, .v 2 .c_i64, .v 7 .c_str, .v 8 .c_str] .n (.j [] [.ls 1 .c_i64, .v 2 .c_i64, .v 7 .c_str, .v 8 .c_str] .n (.s .n (.s .n (.s .n (.s .n (.j [] [.ls 1 .c_i64, .v 2 .c_i64, .v 8 .c_str] .n (.s .n (.s .n (.j [] [.ls 1 .c_i64, .v 2 .c_i64, .v 8 .c_str] .n .n))))))))))))) [K5, K27, K61, K120] (by kernel_rfl) (by kernel_rfl) (fun _ => rfl) fun x => by kernel_rfl
def K30 : Kn Tryz.prog VV := mk 30 Tryz.f30 ⟨[.v .c_i64, .ls .c_i64], [.v .c_str]⟩ (fun x => a0m x.1 x.2.1) w1 u1 (sk 3 (.j [] [.v 0 .c_i64, .ls 1 .c_i64, .v 6 .c_str] .n .n)) [K5, K27, K61, K62] (by kernel_rfl) (by kernel_rfl) (fun _ => rfl) fun x => by kernel_rfl
def K273 : Kn Tryz.prog VV := mk 273 Tryz.f273 ⟨[.v .c_str, .v .c_i64], [.v .c_i64]⟩ (fun x => a5l x.1 x.2.1) w1 u1 (sk 2 (.s (.l [0] [] [.v 1 .c_i64, .v 5 .c_bool] .n) .n)) [] (by kernel_rfl) (by kernel_rfl) (fun _ => rfl) fun x => by kernel_rfl
def f7g : Kn Tryz.prog VV := mk 274 Tryz.f274 ⟨[.v .c_u8], [.v .c_bool]⟩ (fun x => a2w x.1) w1 u1 .n [] (by kernel_rfl) (by kernel_rfl) (fun _ => rfl) fun x => by kernel_rfl
def f5m : Kn Tryz.prog VV := mk 276 Tryz.f276 ⟨[.v .c_u8], [.v .c_bool]⟩ (fun x => a2g x.1) w1 u1 .n [] (by kernel_rfl) (by kernel_rfl) (fun _ => rfl) fun x => by kernel_rfl
def K275 : Kn Tryz.prog VV := mk 275 Tryz.f275 ⟨[.v .c_str, .v .c_i64, .v .c_bool], [.v .c_i64]⟩ (fun x => a3r x.1 x.2.1 x.2.2.1) w1 u1 (sk 2 (.s (.l [0, 1, 2] [] [.v 7 .c_i64] .n) .n)) [f7g, f5m] (by kernel_rfl) (by kernel_rfl) (fun _ => rfl) fun x => by kernel_rfl
def K182 : Kn Tryz.prog VV := mk 182 Tryz.f182 ⟨[.v .c_str], [.v .c_str, .v .c_str, .v .c_i64, .v .c_bool]⟩ (fun x => a0a x.1) (fun b => ((b.1, (b.2.1, (b.2.2.1, (b.2.2.2, ())))), ())) (fun p => (p.1.1, p.1.2.1, p.1.2.2.1, p.1.2.2.2.1)) (sk 2 (.j [] [.v 0 .c_str, .v 6 .c_i64] .n (.s .n (.s (.s .n (.l [0, 6] [] [.v 8 .c_i64, .v 9 .c_i64] .n)) (.s .n (.j [] [.v 6 .c_i64, .v 10 .c_str, .v 11 .c_str] .n (.s (.s .n (.l [6, 10, 11] [] [.v 12 .c_i64] .n)) .n))))))) [f5m] (by kernel_rfl) (by kernel_rfl) (fun _ => rfl) fun x => by kernel_rfl
def K280 : Kn Tryz.prog VV := mk 280 Tryz.f280 ⟨[.v .c_str], [.v .c_i64, .v .c_bool]⟩ (fun x => a6s x.1) w2 u2 (sk 2 (.s (.s .n (.l [0] [] [.v 4 .c_i64, .v 5 .c_i64] .n)) .n)) [] (by kernel_rfl) (by kernel_rfl) (fun _ => rfl) fun x => by kernel_rfl
def K193 : Kn Tryz.prog VV := mk 193 Tryz.f193 ⟨[.v .c_i64], [.v .c_bool]⟩ (fun x => b0r x.1) w1 u1 .n [] (by kernel_rfl) (by kernel_rfl) (fun _ => rfl) fun x => by kernel_rfl
def f86 : Kn Tryz.prog VV := mk 121 Tryz.f121 ⟨[.v .c_i64, .v .c_i64], [.v .c_i64]⟩ (fun x => a1s x.1 x.2.1) w1 u1 .n [K193] (by kernel_rfl) (by kernel_rfl) (fun _ => rfl) fun x => by kernel_rfl
def K65 : Kn Tryz.prog VV := mk 65 Tryz.f65 ⟨[.v .c_i64], [.v .c_i64]⟩ (fun x => a3m x.1) w1 u1 (sk 2 (.s (.s .n (.l [0] [] [.v 3 .c_i64, .v 4 .c_i64] .n)) .n)) [f86] (by kernel_rfl) (by kernel_rfl) (fun _ => rfl) fun x => by kernel_rfl
def K281 : Kn Tryz.prog VV := mk 281 Tryz.f281 ⟨[.v .c_i64, .v .c_i64, .v .c_i64], [.v .c_i64, .v .c_bool]⟩ (fun x => b5u x.1 x.2.1 x.2.2.1) w2 u2 .n [K65, f86] (by kernel_rfl) (by kernel_rfl) (fun _ => rfl) fun x => by kernel_rfl
def K184 : Kn Tryz.prog VV := mk 184 Tryz.f184 ⟨[.v .c_str], [.v .c_i64, .v .c_bool]⟩ (fun x => a1x x.1) w2 u2 .n [K280, K281] (by kernel_rfl) (by kernel_rfl) (fun _ => rfl) fun x => by kernel_rfl
def K277 : Kn Tryz.prog VV := mk 277 Tryz.f277 ⟨[.v .c_str, .v .c_i64], [.v .c_i64]⟩ (fun x => a2z x.1 x.2.1) w1 u1 (.s .n (.j [] [.v 0 .c_str, .v 1 .c_i64] .n .n)) [] (by kernel_rfl) (by kernel_rfl) (fun _ => rfl) fun x => by kernel_rfl
def K179 : Kn Tryz.prog VV := mk 179 Tryz.f179 ⟨[.v .c_str, .v .c_i64], [.v .c_sToken, .v .c_i64, .v .c_i64]⟩ (fun x => a45 x.1 x.2.1) (fun b => ((b.1, (b.2.1, (b.2.2, ()))), ())) (fun p => (p.1.1, p.1.2.1, p.1.2.2.1)) (sk 5 (.j [] [.v 0 .c_str, .v 1 .c_i64, .bx 4 2 188 .c_sToken, .v 7 .c_i64, .v 8 .c_i64, .v 9 .c_bool] .n .n)) [K182, K184, K273, f7g, K275, f5m, K277] (by kernel_rfl) (by kernel_rfl) (fun _ => rfl) fun x => by kernel_rfl
def K110 : Kn Tryz.prog VV := mk 110 Tryz.f110 ⟨[.v .c_str], [.ow 188 .c_sToken, .v .c_i64, .v .c_i64]⟩ (fun x => a6e x.1) (fun b => ((b.1, (b.2.1, (b.2.2, ()))), ())) (fun p => (p.1.1, p.1.2.1, p.1.2.2.1)) (sk 4 (.l [0] [] [.ow 5 1 188 .c_sToken, .v 6 .c_i64] .n)) [K179] (by kernel_rfl) (by kernel_rfl) (fun _ => rfl) fun x => by kernel_rfl
def K53 : Kn Tryz.prog VV := mk 53 Tryz.f53 ⟨[.v .c_str], [.bo 127 .c_spensionref5_reader, .v .c_i64, .v .c_i64]⟩ (fun x => a9r x.1) (fun b => ((b.1, (b.2.1, (b.2.2, ()))), ())) (fun p => (p.1.1, p.1.2.1, p.1.2.2.1)) .n [K110] (by kernel_rfl) (by kernel_rfl) (fun _ => rfl) fun x => by kernel_rfl
def f5x : Kn Tryz.prog VV := mk 115 Tryz.f115 ⟨[.rp 127 .c_spensionref5_reader, .v .c_str], [.v .c_bool]⟩ (fun x => a03 x.1 x.2.1) w1 u1 .n [] (by kernel_rfl) (by kernel_rfl) (fun _ => rfl) fun x => by kernel_rfl
def K57 : Kn Tryz.prog VV := mk 57 Tryz.f57 ⟨[.io 127 .c_spensionref5_reader, .v .c_str], [.v .c_bool]⟩ (fun x => d8 x.1 x.2.1) (fun b => ((b.1, ()), (b.2, ()))) (fun p => (p.1.1, p.2.1)) .n [f5x] (by kernel_rfl) (by kernel_rfl) (fun _ => rfl) fun x => by kernel_rfl
def f0q : Kn Tryz.prog VV := mk 111 Tryz.f111 ⟨[.io 127 .c_spensionref5_reader], []⟩ (fun x => p9 x.1) (fun b => ((), (b, ()))) (fun p => p.2.1) .n [] (by kernel_rfl) (by kernel_rfl) (fun _ => rfl) fun x => by kernel_rfl
def K54 : Kn Tryz.prog VV := mk 54 Tryz.f54 ⟨[.io 127 .c_spensionref5_reader, .v .c_str], []⟩ (fun x => c6 x.1 x.2.1) (fun b => ((), (b, ()))) (fun p => p.2.1) .n [K57, f0q] (by kernel_rfl) (by kernel_rfl) (fun _ => rfl) fun x => by kernel_rfl
def e9t : Kn Tryz.prog VV := mk 112 Tryz.f112 ⟨[.rp 127 .c_spensionref5_reader, .v .c_i64], [.v .c_bool]⟩ (fun x => s3 x.1 x.2.1) w1 u1 .n [] (by kernel_rfl) (by kernel_rfl) (fun _ => rfl) fun x => by kernel_rfl
def K180 : Kn Tryz.prog VV := mk 180 Tryz.f180 ⟨[.v .c_str], [.v .c_bool]⟩ (fun x => b37 x.1) w1 u1 (.s .n (.s (.s .n (.l [0] [] [.v 3 .c_i64] .n)) .n)) [f7g, f5m] (by kernel_rfl) (by kernel_rfl) (fun _ => rfl) fun x => by kernel_rfl
def K181 : Kn Tryz.prog VV := mk 181 Tryz.f181 ⟨[.v .c_str], [.v .c_bool]⟩ (fun x => b2a x.1) w1 u1 .n [] (by kernel_rfl) (by kernel_rfl) (fun _ => rfl) fun x => by kernel_rfl
def f1n : Kn Tryz.prog VV := mk 113 Tryz.f113 ⟨[.v .c_str], [.v .c_bool]⟩ (fun x => s5 x.1) w1 u1 .n [K180, K181] (by kernel_rfl) (by kernel_rfl) (fun _ => rfl) fun x => by kernel_rfl
def K55 : Kn Tryz.prog VV := mk 55 Tryz.f55 ⟨[.io 127 .c_spensionref5_reader], [.v .c_str]⟩ (fun x => a0r x.1) (fun b => ((b.1, ()), (b.2, ()))) (fun p => (p.1.1, p.2.1)) .n [f0q, e9t, f1n] (by kernel_rfl) (by kernel_rfl) (fun _ => rfl) fun x => by kernel_rfl
def f6b : Kn Tryz.prog VV := mk 279 Tryz.f279 ⟨[.v .c_i64], [.v .c_u64]⟩ (fun x => a22 x.1) w1 u1 .n [] (by kernel_rfl) (by kernel_rfl) (fun _ => rfl) fun x => by kernel_rfl
def K227 : Kn Tryz.prog VV := mk 227 Tryz.f227 ⟨[.v .c_u64], [.v .c_i64]⟩ (fun x => c08 x.1) w1 u1 (.s .n (.j [] [.v 0 .c_u64, .v 2 .c_i64] .n (.j [] [.v 0 .c_u64, .v 2 .c_i64] .n .n))) [] (by kernel_rfl) (by kernel_rfl) (fun _ => rfl) fun x => by kernel_rfl
def K423 : Kn Tryz.prog VV := mk 423 Tryz.f423 ⟨[.v .c_u64], [.v .c_i64]⟩ (fun x => b21 x.1) w1 u1 .n [K227] (by kernel_rfl) (by kernel_rfl) (fun _ => rfl) fun x => by kernel_rfl
def K362 : Kn Tryz.prog VV := mk 362 Tryz.f362 ⟨[.v .c_u64, .v .c_u64, .v .c_u64], [.v .c_u64, .v .c_u64]⟩ (fun x => b6t x.1 x.2.1 x.2.2.1) w2 u2 (.s .n (.j [] [.v 0 .c_u64, .v 1 .c_u64, .v 2 .c_u64] .n (.j [] [.v 0 .c_u64, .v 1 .c_u64, .v 2 .c_u64] .n (.s .n (.s .n (.s .n (.s .n (.s .n (.s .n (.s .n (.s .n (.s .n (.s .n (.s .n (.j [] [.v 2 .c_u64, .v 8 .c_u64, .v 9 .c_u64, .v 10 .c_u64, .v 11 .c_u64, .v 13 .c_u64, .v 14 .c_u64, .v 15 .c_u64] (.l [2, 8, 9, 10, 11, 13, 14] [] [.v 15 .c_u64, .v 16 .c_u64] .n) (.s .n (.s .n (.s .n (.j [] [.v 2 .c_u64, .v 8 .c_u64, .v 14 .c_u64, .v 15 .c_u64, .v 17 .c_u64, .v 18 .c_u64] (.l [2, 8, 9, 10, 14, 15, 17] [] [.v 16 .c_u64, .v 18 .c_u64] .n) .n))))))))))))))))))) [K423] (by kernel_rfl) (by kernel_rfl) (fun _ => rfl) fun x => by kernel_rfl
def K366 : Kn Tryz.prog VV := mk 366 Tryz.f366 ⟨[.v .c_spensionref1_wide, .v .c_u64], [.v .c_spensionref1_wide, .v .c_u64]⟩ (fun x => a2t x.1 x.2.1) w2 u2 .n [K362] (by kernel_rfl) (by kernel_rfl) (fun _ => rfl) fun x => by kernel_rfl
def K367 : Kn Tryz.prog VV := mk 367 Tryz.f367 ⟨[.v .c_u64, .v .c_u64], [.v .c_u64]⟩ (fun x => a1m x.1 x.2.1) w1 u1 (.s .n (.s (.l [] [] [.v 0 .c_u64, .v 1 .c_u64] .n) .n)) [] (by kernel_rfl) (by kernel_rfl) (fun _ => rfl) fun x => by kernel_rfl
def K278 : Kn Tryz.prog VV := mk 278 Tryz.f278 ⟨[.v .c_bool, .v .c_spensionref1_wide, .v .c_u64], [.v .c_sFraction, .v .c_i64]⟩ (fun x => a8k x.1 x.2.1 x.2.2.1) w2 u2 .n [K366, K367] (by kernel_rfl) (by kernel_rfl) (fun _ => rfl) fun x => by kernel_rfl
def K183 : Kn Tryz.prog VV := mk 183 Tryz.f183 ⟨[.v .c_i64, .v .c_i64], [.v .c_sFraction, .v .c_i64]⟩ (fun x => a2y x.1 x.2.1) w2 u2 .n [K278, f6b] (by kernel_rfl) (by kernel_rfl) (fun _ => rfl) fun x => by kernel_rfl
def f5j : Kn Tryz.prog VV := mk 114 Tryz.f114 ⟨[.v .c_str], [.v .c_sFraction, .v .c_i64, .v .c_bool]⟩ (fun x => s6 x.1) (fun b => ((b.1, (b.2.1, (b.2.2, ()))), ())) (fun p => (p.1.1, p.1.2.1, p.1.2.2.1)) (sk 4 (.s (.s .n (.l [5, 6, 7] [] [.bx 2 1 87 .c_sFraction, .v 9 .c_i64, .v 10 .c_i64, .v 11 .c_i64] .n)) .n)) [K182, K183] (by kernel_rfl) (by kernel_rfl) (fun _ => rfl) fun x => by kernel_rfl
def K56 : Kn Tryz.prog VV := mk 56 Tryz.f56 ⟨[.io 127 .c_spensionref5_reader, .v .c_i64, .v .c_i64], [.v .c_i64]⟩ (fun x => s9 x.1 x.2.1 x.2.2.1) (fun b => ((b.1, ()), (b.2, ()))) (fun p => (p.1.1, p.2.1)) .n [f0q, e9t, f5j] (by kernel_rfl) (by kernel_rfl) (fun _ => rfl) fun x => by kernel_rfl
def K116 : Kn Tryz.prog VV := mk 116 Tryz.f116 ⟨[.v .c_str], [.v .c_i64]⟩ (fun x => a4s x.1) w1 u1 .n [K184] (by kernel_rfl) (by kernel_rfl) (fun _ => rfl) fun x => by kernel_rfl
def K185 : Kn Tryz.prog VV := mk 185 Tryz.f185 ⟨[.v .c_str], [.v .c_i64]⟩ (fun x => a7p x.1) w1 u1 .n [] (by kernel_rfl) (by kernel_rfl) (fun _ => rfl) fun x => by kernel_rfl
def K186 : Kn Tryz.prog VV := mk 186 Tryz.f186 ⟨[.v .c_str], [.v .c_i64]⟩ (fun x => a59 x.1) w1 u1 .n [] (by kernel_rfl) (by kernel_rfl) (fun _ => rfl) fun x => by kernel_rfl
def K187 : Kn Tryz.prog VV := mk 187 Tryz.f187 ⟨[.v .c_str], [.v .c_i64]⟩ (fun x => a7r x.1) w1 u1 .n [] (by kernel_rfl) (by kernel_rfl) (fun _ => rfl) fun x => by kernel_rfl
def K117 : Kn Tryz.prog VV := mk 117 Tryz.f117 ⟨[.io 127 .c_spensionref5_reader, .v .c_i64], [.v .c_i64]⟩ (fun x => a0e x.1 x.2.1) (fun b => ((b.1, ()), (b.2, ()))) (fun p => (p.1.1, p.2.1)) .n [f0q, e9t, K185, K186, K187] (by kernel_rfl) (by kernel_rfl) (fun _ => rfl) fun x => by kernel_rfl
def f5k : Kn Tryz.prog VV := mk 372 Tryz.f372 ⟨[.v .c_i64], [.v .c_i64]⟩ (fun x => a0k x.1) w1 u1 .n [] (by kernel_rfl) (by kernel_rfl) (fun _ => rfl) fun x => by kernel_rfl
def K369 : Kn Tryz.prog VV := mk 369 Tryz.f369 ⟨[.v .c_i64], [.v .c_i64]⟩ (fun x => a9k x.1) w1 u1 (.s .n (.s (.s .n (.s .n (.s .n (.s .n (.s .n (.s .n (.s .n (.s .n (.s .n (.j [] [.v 3 .c_i64, .v 12 .c_bool] .n (.s .n (.j [] [.v 3 .c_i64, .v 19 .c_bool] .n .n)))))))))))) .n)) [] (by kernel_rfl) (by kernel_rfl) (fun _ => rfl) fun x => by kernel_rfl
def K370 : Kn Tryz.prog VV := mk 370 Tryz.f370 ⟨[.v .c_i64], [.v .c_str]⟩ (fun x => a8o x.1) w1 u1 .n [] (by kernel_rfl) (by kernel_rfl) (fun _ => rfl) fun x => by kernel_rfl
def K283 : Kn Tryz.prog VV := mk 283 Tryz.f283 ⟨[.rp 127 .c_spensionref5_reader, .v .c_i64], [.v .c_i64]⟩ (fun x => a2p x.1 x.2.1) w1 u1 (.s .n (.s (.s .n (.l [0, 1] [] [.v 5 .c_i64] .n)) .n)) [f5x, K369, K370] (by kernel_rfl) (by kernel_rfl) (fun _ => rfl) fun x => by kernel_rfl
def c99 : Sig VV := ⟨[.io 127 .c_spensionref5_reader, .v .c_i64], [.v .c_sExpr]⟩
def b9b (R : Ring_pensionref5_reader_expr) : Fent VV := ⟨c99, Expr × pensionref5_reader, fun x => R.f_pensionref5_reader_expr x.1 x.2.1, fun b => ((b.1, ()), (b.2, ()))⟩
def f1w : Fent VV := b9b (c9 FU)
def e6o : Ress VV c99.rs × Outs VV c99.ps -> Expr × pensionref5_reader := fun p => (p.1.1, p.2.1)
def e7a : Ann VV.C := (.s .n (.s .n (.s .n (.s .n (.s (.l [1] [] [.bx 0 0 127 .c_spensionref5_reader, .of 4 4 3 206 .c_sExpr, .bm 4 2 206 .c_sExpr [(4, 3)], .bx 8 4 206 .c_sExpr] .n) .n)))))
def c8y : Sig VV := ⟨[.io 127 .c_spensionref5_reader], [.v .c_sExpr]⟩
def d46 (R : Ring_pensionref5_reader_expr) : Fent VV := ⟨c8y, Expr × pensionref5_reader, fun x => R.f_pensionref5_reader_factor x.1, fun b => ((b.1, ()), (b.2, ()))⟩
def e5i : Ress VV c8y.rs × Outs VV c8y.ps -> Expr × pensionref5_reader := fun p => (p.1.1, p.2.1)
def e7n : Ann VV.C := .n
def d0e : Sig VV := ⟨[.io 127 .c_spensionref5_reader, .v .c_i64], [.v .c_sExpr]⟩
def d2o (R : Ring_pensionref5_reader_expr) : Fent VV := ⟨d0e, Expr × pensionref5_reader, fun x => R.f_pensionref5_reader_call x.1 x.2.1, fun b => ((b.1, ()), (b.2, ()))⟩
def e5v : Ress VV d0e.rs × Outs VV d0e.ps -> Expr × pensionref5_reader := fun p => (p.1.1, p.2.1)
def e68 : Ann VV.C := .n
def e7p (R : Ring_pensionref5_reader_expr) : Phi VV := fun f ys => lkF f ys [K54.e, K57.e, (188, b9b R), (282, d46 R), K283.e]
theorem e8p (R : Ring_pensionref5_reader_expr) (hr188 : SX.Spec Tryz.prog 188 (b9b R)) (hr282 : SX.Spec Tryz.prog 282 (d46 R)) : OKΦ Tryz.prog (e7p R) := okl ⟨K54.ok, K57.ok, .inl ⟨hr188, fun _ _ => by kernel_rfl⟩, .inl ⟨hr282, fun _ _ => by kernel_rfl⟩, K283.ok, trivial⟩
theorem f2f (R : Ring_pensionref5_reader_expr) : ∀ x, c71 Tryz.prog (e7p R) c99 e6o Tryz.f188 e7a x = k9 R x.1 x.2.1 := fun x => by kernel_rfl
theorem e6p : c6y Tryz.f188 c99 = true := by kernel_rfl
def e6d (R : Ring_pensionref5_reader_expr) : Phi VV := fun f ys => lkF f ys [K54.e, K55.e, K56.e, K57.e, e9t.e, f5j.e, f5x.e, (188, b9b R), (368, d2o R)]
theorem e84 (R : Ring_pensionref5_reader_expr) (hr188 : SX.Spec Tryz.prog 188 (b9b R)) (hr368 : SX.Spec Tryz.prog 368 (d2o R)) : OKΦ Tryz.prog (e6d R) := okl ⟨K54.ok, K55.ok, K56.ok, K57.ok, e9t.ok, f5j.ok, f5x.ok, .inl ⟨hr188, fun _ _ => by kernel_rfl⟩, .inl ⟨hr368, fun _ _ => by kernel_rfl⟩, trivial⟩
theorem f1p (R : Ring_pensionref5_reader_expr) : ∀ x, c71 Tryz.prog (e6d R) c8y e5i Tryz.f282 e7n x = k7 R x.1 := fun x => by kernel_rfl
theorem e71 : c6y Tryz.f282 c8y = true := by kernel_rfl
def e7o (R : Ring_pensionref5_reader_expr) : Phi VV := fun f ys => lkF f ys [K54.e, (188, b9b R), f5k.e]
theorem e9h (R : Ring_pensionref5_reader_expr) (hr188 : SX.Spec Tryz.prog 188 (b9b R)) : OKΦ Tryz.prog (e7o R) := okl ⟨K54.ok, .inl ⟨hr188, fun _ _ => by kernel_rfl⟩, f5k.ok, trivial⟩
theorem f4h (R : Ring_pensionref5_reader_expr) : ∀ x, c71 Tryz.prog (e7o R) d0e e5v Tryz.f368 e68 x = a2o R x.1 x.2.1 := fun x => by kernel_rfl
theorem e5h : c6y Tryz.f368 d0e = true := by kernel_rfl
theorem a4z : ∀ n, SX.Spec Tryz.prog 188 (b9b (c9 n)) /\ SX.Spec Tryz.prog 282 (d46 (c9 n)) /\ SX.Spec Tryz.prog 368 (d2o (c9 n))
  | 0 => ⟨(fun _ _ h => (by cases (show none = some _ from h))), (fun _ _ h => (by cases (show none = some _ from h))), (fun _ _ h => (by cases (show none = some _ from h)))⟩
  | n + 1 => let ⟨h188, h282, h368⟩ := a4z n; ⟨a6m (fe := b9b (c9 (n + 1))) uok (e8p (c9 n) h188 h282) mixed (fn := Tryz.f188) (by kernel_rfl) e6o e7a (q0 e6p).1 (q0 e6p).2 (fun _ => rfl) (f2f (c9 n)), a6m (fe := d46 (c9 (n + 1))) uok (e84 (c9 n) h188 h368) mixed (fn := Tryz.f282) (by kernel_rfl) e5i e7n (q0 e71).1 (q0 e71).2 (fun _ => rfl) (f1p (c9 n)), a6m (fe := d2o (c9 (n + 1))) uok (e9h (c9 n) h188) mixed (fn := Tryz.f368) (by kernel_rfl) e5v e68 (q0 e5h).1 (q0 e5h).2 (fun _ => rfl) (f4h (c9 n))⟩
def K188 : Kn Tryz.prog VV := ⟨188, f1w, .inl ⟨(a4z FU).1, fun _ _ => by kernel_rfl⟩⟩
def K118 : Kn Tryz.prog VV := mk 118 Tryz.f118 ⟨[.io 127 .c_spensionref5_reader, .im 137 .c_sVersion [(2, 2), (3, 3), (4, 4), (5, 5), (6, 6)], .po 1 2 199 .c_sCredit, .po 1 3 203 .c_sIndex, .po 1 4 290 .c_sLet, .po 1 5 208 .c_sGrant, .po 1 6 213 .c_sReduce], []⟩ (fun x => a2l x.1 x.2.1 x.2.2.1 x.2.2.2.1 x.2.2.2.2.1 x.2.2.2.2.2.1 x.2.2.2.2.2.2.1) (fun b => ((), (b.1, (b.2.1, (b.2.2.1, (b.2.2.2.1, (b.2.2.2.2.1, (b.2.2.2.2.2.1, (b.2.2.2.2.2.2, ()))))))))) (fun p => (p.2.1, p.2.2.1, p.2.2.2.1, p.2.2.2.2.1, p.2.2.2.2.2.1, p.2.2.2.2.2.2.1, p.2.2.2.2.2.2.2.1)) (.s (.s .n (.s (.s .n (.j [] [.bx 0 0 127 .c_spensionref5_reader, .of 1 2 7 199 .c_sCredit, .of 1 3 8 203 .c_sIndex, .of 1 4 9 290 .c_sLet, .of 1 5 10 208 .c_sGrant, .of 1 6 11 213 .c_sReduce, .bm 1 1 137 .c_sVersion [(2, 7), (3, 8), (4, 9), (5, 10), (6, 11)], .bx 4 12 199 .c_sCredit] .n .n)) (.s .n (.s (.s .n (.j [] [.bx 0 0 127 .c_spensionref5_reader, .of 1 2 7 199 .c_sCredit, .of 1 3 8 203 .c_sIndex, .of 1 4 9 290 .c_sLet, .of 1 5 10 208 .c_sGrant, .of 1 6 11 213 .c_sReduce, .bm 1 1 137 .c_sVersion [(2, 7), (3, 8), (4, 9), (5, 10), (6, 11)], .bx 6 12 203 .c_sIndex] .n (.j [] [.bx 0 0 127 .c_spensionref5_reader, .of 1 2 7 199 .c_sCredit, .of 1 3 8 203 .c_sIndex, .of 1 4 9 290 .c_sLet, .of 1 5 10 208 .c_sGrant, .of 1 6 11 213 .c_sReduce, .bm 1 1 137 .c_sVersion [(2, 7), (3, 8), (4, 9), (5, 10), (6, 11)], .bx 6 12 203 .c_sIndex] .n .n))) .n)))) .n) [K54, K55, K56, K57, f0q, e9t, f5j, K117, K188] (by kernel_rfl) (by kernel_rfl) (fun _ => rfl) fun x => by kernel_rfl
def K58 : Kn Tryz.prog VV := mk 58 Tryz.f58 ⟨[.io 127 .c_spensionref5_reader], [.v .c_sVersion]⟩ (fun x => a26 x.1) (fun b => ((b.1, ()), (b.2, ()))) (fun p => (p.1.1, p.2.1)) (sk 3 (.j [] [.bx 0 0 127 .c_spensionref5_reader, .of 2 2 2 199 .c_sCredit, .of 2 3 3 203 .c_sIndex, .of 2 4 4 290 .c_sLet, .of 2 5 5 208 .c_sGrant, .of 2 6 6 213 .c_sReduce, .bm 2 1 137 .c_sVersion [(2, 2), (3, 3), (4, 4), (5, 5), (6, 6)], .of 3 2 8 199 .c_sCredit, .of 3 3 9 203 .c_sIndex, .of 3 4 10 290 .c_sLet, .of 3 5 11 208 .c_sGrant, .of 3 6 12 213 .c_sReduce, .bm 3 7 137 .c_sVersion [(2, 8), (3, 9), (4, 10), (5, 11), (6, 12)]] .n (.s .n (.s .n (.s .n (.s .n (.s .n (.s (.l [] [] [.bx 0 0 127 .c_spensionref5_reader, .of 2 2 2 199 .c_sCredit, .of 2 3 3 203 .c_sIndex, .of 2 4 4 290 .c_sLet, .of 2 5 5 208 .c_sGrant, .of 2 6 6 213 .c_sReduce, .bm 2 1 137 .c_sVersion [(2, 2), (3, 3), (4, 4), (5, 5), (6, 6)], .of 3 2 8 199 .c_sCredit, .of 3 3 9 203 .c_sIndex, .of 3 4 10 290 .c_sLet, .of 3 5 11 208 .c_sGrant, .of 3 6 12 213 .c_sReduce, .bm 3 7 137 .c_sVersion [(2, 8), (3, 9), (4, 10), (5, 11), (6, 12)]] (.s (.s (.g [5]) .n) .n)) .n)))))))) [K54, K56, K57, f0q, e9t, K116, K117, K118] (by kernel_rfl) (by kernel_rfl) (fun _ => rfl) fun x => by kernel_rfl
def K59 : Kn Tryz.prog VV := mk 59 Tryz.f59 ⟨[.rp 127 .c_spensionref5_reader], [.v .c_i64]⟩ (fun x => a7z x.1) w1 u1 .n [] (by kernel_rfl) (by kernel_rfl) (fun _ => rfl) fun x => by kernel_rfl
def K63 : Kn Tryz.prog VV := mk 63 Tryz.f63 ⟨[.v .c_i64], [.v .c_bool]⟩ (fun x => a1v x.1) w1 u1 .n [] (by kernel_rfl) (by kernel_rfl) (fun _ => rfl) fun x => by kernel_rfl
def K189 : Kn Tryz.prog VV := mk 189 Tryz.f189 ⟨[.v .c_sRounding], [.v .c_bool]⟩ (fun x => a4m x.1) w1 u1 .n [] (by kernel_rfl) (by kernel_rfl) (fun _ => rfl) fun x => by kernel_rfl
def K190 : Kn Tryz.prog VV := mk 190 Tryz.f190 ⟨[.v .c_i64, .v .c_i64], [.v .c_str]⟩ (fun x => a2v x.1 x.2.1) w1 u1 (sk 2 (.s (.s .n (.l [0, 1] [] [.ow 5 2 9 .c_str, .v 6 .c_i64] .n)) .n)) [K185, K186, K187] (by kernel_rfl) (by kernel_rfl) (fun _ => rfl) fun x => by kernel_rfl
def K284 : Kn Tryz.prog VV := mk 284 Tryz.f284 ⟨[.v .c_sFraction], [.v .c_bool]⟩ (fun x => w8 x.1) w1 u1 .n [f6b, K367] (by kernel_rfl) (by kernel_rfl) (fun _ => rfl) fun x => by kernel_rfl
def K371 : Kn Tryz.prog VV := mk 371 Tryz.f371 ⟨[.v .c_i64, .v .c_i64], [.v .c_str]⟩ (fun x => a4c x.1 x.2.1) w1 u1 (sk 2 (.s (.l [1] [] [.v 0 .c_i64, .v 5 .c_str] .n) .n)) [] (by kernel_rfl) (by kernel_rfl) (fun _ => rfl) fun x => by kernel_rfl
def K285 : Kn Tryz.prog VV := mk 285 Tryz.f285 ⟨[.v .c_sFraction], [.v .c_str]⟩ (fun x => a25 x.1) w1 u1 (sk 3 (.j [] [.bx 1 1 87 .c_sFraction, .v 3 .c_str] .n .n)) [f6b, K284, K371] (by kernel_rfl) (by kernel_rfl) (fun _ => rfl) fun x => by kernel_rfl
def f7i : Kn Tryz.prog VV := mk 191 Tryz.f191 ⟨[.v .c_sFraction, .v .c_i64], [.v .c_str, .v .c_bool]⟩ (fun x => p8 x.1 x.2.1) w2 u2 (sk 6 (.j [] [.v 1 .c_i64, .v 7 .c_str, .v 8 .c_i64] .n (.s (.s .n (.l [1] [] [.v 7 .c_str, .v 8 .c_i64, .v 9 .c_i64] .n)) .n))) [K284, K285] (by kernel_rfl) (by kernel_rfl) (fun _ => rfl) fun x => by kernel_rfl
def c8u : Sig VV := ⟨[.v .c_sExpr], [.v .c_i64]⟩
def c9d (R : Ring_pensionref5_Depth) : Fent VV := ⟨c8u, Int, fun x => R.f_pensionref5_Depth x.1, fun b => ((b, ()), ())⟩
def f43 : Fent VV := c9d (y4 FU)
def e69 : Ress VV c8u.rs × Outs VV c8u.ps -> Int := fun p => p.1.1
def e6n : Ann VV.C := (.s .n (.s .n (.s (.s .n (.l [] [] [.bx 1 1 206 .c_sExpr, .v 3 .c_i64, .v 4 .c_i64] .n)) .n)))
def e50 (R : Ring_pensionref5_Depth) : Phi VV := fun f ys => lkF f ys [(286, c9d R)]
theorem f04 (R : Ring_pensionref5_Depth) (hr286 : SX.Spec Tryz.prog 286 (c9d R)) : OKΦ Tryz.prog (e50 R) := okl ⟨.inl ⟨hr286, fun _ _ => by kernel_rfl⟩, trivial⟩
theorem f2h (R : Ring_pensionref5_Depth) : ∀ x, c71 Tryz.prog (e50 R) c8u e69 Tryz.f286 e6n x = a57 R x.1 := fun x => by kernel_rfl
theorem e5f : c6y Tryz.f286 c8u = true := by kernel_rfl
theorem a7i : ∀ n, SX.Spec Tryz.prog 286 (c9d (y4 n))
  | 0 => (fun _ _ h => (by cases (show none = some _ from h)))
  | n + 1 => let h286 := a7i n; a6m (fe := c9d (y4 (n + 1))) uok (f04 (y4 n) h286) mixed (fn := Tryz.f286) (by kernel_rfl) e69 e6n (q0 e5f).1 (q0 e5f).2 (fun _ => rfl) (f2h (y4 n))
def K286 : Kn Tryz.prog VV := ⟨286, f43, .inl ⟨(a7i FU), fun _ _ => by kernel_rfl⟩⟩
def d0g : Sig VV := ⟨[.v .c_sExpr], [.v .c_i64]⟩
def c8b (R : Ring_pensionref5_Size) : Fent VV := ⟨d0g, Int, fun x => R.f_pensionref5_Size x.1, fun b => ((b, ()), ())⟩
def f1v : Fent VV := c8b (a01 FU)
def e7l : Ress VV d0g.rs × Outs VV d0g.ps -> Int := fun p => p.1.1
def e74 : Ann VV.C := (.s .n (.s .n (.s (.s .n (.l [] [] [.bx 1 1 206 .c_sExpr, .v 3 .c_i64, .v 4 .c_i64] .n)) .n)))
def e5x (R : Ring_pensionref5_Size) : Phi VV := fun f ys => lkF f ys [(287, c8b R)]
theorem e81 (R : Ring_pensionref5_Size) (hr287 : SX.Spec Tryz.prog 287 (c8b R)) : OKΦ Tryz.prog (e5x R) := okl ⟨.inl ⟨hr287, fun _ _ => by kernel_rfl⟩, trivial⟩
theorem f4b (R : Ring_pensionref5_Size) : ∀ x, c71 Tryz.prog (e5x R) d0g e7l Tryz.f287 e74 x = a66 R x.1 := fun x => by kernel_rfl
theorem e6x : c6y Tryz.f287 d0g = true := by kernel_rfl
theorem a82 : ∀ n, SX.Spec Tryz.prog 287 (c8b (a01 n))
  | 0 => (fun _ _ h => (by cases (show none = some _ from h)))
  | n + 1 => let h287 := a82 n; a6m (fe := c8b (a01 (n + 1))) uok (e81 (a01 n) h287) mixed (fn := Tryz.f287) (by kernel_rfl) e7l e74 (q0 e6x).1 (q0 e6x).2 (fun _ => rfl) (f4b (a01 n))
def K287 : Kn Tryz.prog VV := ⟨287, f1v, .inl ⟨(a82 FU), fun _ _ => by kernel_rfl⟩⟩
def c8h : Sig VV := ⟨[.v .c_sExpr], [.v .c_bool]⟩
def d0j (R : Ring_pensionref5_formed) : Fent VV := ⟨c8h, Bool, fun x => R.f_pensionref5_formed x.1, fun b => ((b, ()), ())⟩
def f4o : Fent VV := d0j (i7 FU)
def e7c : Ress VV c8h.rs × Outs VV c8h.ps -> Bool := fun p => p.1.1
def e5q : Ann VV.C := (.s .n (.s .n (.s .n (.s .n (.s (.s .n (.l [3] [] [.bx 1 1 206 .c_sExpr, .v 6 .c_i64] .n)) .n)))))
def e5e (R : Ring_pensionref5_formed) : Phi VV := fun f ys => lkF f ys [f1n.e, f7i.e, (288, d0j R), f5k.e]
theorem e8c (R : Ring_pensionref5_formed) (hr288 : SX.Spec Tryz.prog 288 (d0j R)) : OKΦ Tryz.prog (e5e R) := okl ⟨f1n.ok, f7i.ok, .inl ⟨hr288, fun _ _ => by kernel_rfl⟩, f5k.ok, trivial⟩
theorem f3y (R : Ring_pensionref5_formed) : ∀ x, c71 Tryz.prog (e5e R) c8h e7c Tryz.f288 e5q x = p3 R x.1 := fun x => by kernel_rfl
theorem e53 : c6y Tryz.f288 c8h = true := by kernel_rfl
theorem a77 : ∀ n, SX.Spec Tryz.prog 288 (d0j (i7 n))
  | 0 => (fun _ _ h => (by cases (show none = some _ from h)))
  | n + 1 => let h288 := a77 n; a6m (fe := d0j (i7 (n + 1))) uok (e8c (i7 n) h288) mixed (fn := Tryz.f288) (by kernel_rfl) e7c e5q (q0 e53).1 (q0 e53).2 (fun _ => rfl) (f3y (i7 n))
def K288 : Kn Tryz.prog VV := ⟨288, f4o, .inl ⟨(a77 FU), fun _ _ => by kernel_rfl⟩⟩
def K192 : Kn Tryz.prog VV := mk 192 Tryz.f192 ⟨[.v .c_sExpr], [.v .c_bool]⟩ (fun x => u9 x.1) w1 u1 .n [K286, K287, K288] (by kernel_rfl) (by kernel_rfl) (fun _ => rfl) fun x => by kernel_rfl
def K119 : Kn Tryz.prog VV := mk 119 Tryz.f119 ⟨[.v .c_sVersion], [.v .c_bool]⟩ (fun x => a2x x.1) w1 u1 (sk 2 (.s (.s .n (.l [] [] [.bx 1 1 137 .c_sVersion, .v 3 .c_i64] .n)) (.s (.s .n (.l [] [] [.bx 1 1 137 .c_sVersion, .v 4 .c_i64] .n)) (.s (.s .n (.l [] [] [.bx 1 1 137 .c_sVersion, .v 7 .c_i64] .n)) (.s (.s .n (.l [] [] [.bx 1 1 137 .c_sVersion, .v 8 .c_i64] .n)) (.s (.s .n (.l [] [] [.bx 1 1 137 .c_sVersion, .v 9 .c_i64] .n)) .n)))))) [K63, f1n, K189, K190, f7i, K192] (by kernel_rfl) (by kernel_rfl) (fun _ => rfl) fun x => by kernel_rfl
def K60 : Kn Tryz.prog VV := mk 60 Tryz.f60 ⟨[.v .c_sStatute], [.v .c_bool]⟩ (fun x => a3o x.1) w1 u1 (sk 2 (.s (.s .n (.l [] [] [.bx 1 1 64 .c_sStatute, .v 3 .c_i64] .n)) .n)) [f1n, K119] (by kernel_rfl) (by kernel_rfl) (fun _ => rfl) fun x => by kernel_rfl
def K29 : Kn Tryz.prog VV := mk 29 Tryz.f29 ⟨[.v .c_str], [.v .c_sStatute, .v .c_i64, .v .c_i64]⟩ (fun x => a2d x.1) (fun b => ((b.1, (b.2.1, (b.2.2, ()))), ())) (fun p => (p.1.1, p.1.2.1, p.1.2.2.1)) (sk 8 (.j [] [.of 2 2 2 137 .c_sVersion, .bm 2 1 64 .c_sStatute [(2, 2)], .bx 5 3 127 .c_spensionref5_reader, .of 8 2 5 137 .c_sVersion, .bm 8 4 64 .c_sStatute [(2, 5)]] (.s .n (.l [] [] [.of 2 2 2 137 .c_sVersion, .bm 2 1 64 .c_sStatute [(2, 2)], .bx 5 3 127 .c_spensionref5_reader, .of 8 2 5 137 .c_sVersion, .bm 8 4 64 .c_sStatute [(2, 5)], .v 9 .c_bool] (.j [] [.of 2 2 2 137 .c_sVersion, .bm 2 1 64 .c_sStatute [(2, 2)], .bx 5 3 127 .c_spensionref5_reader, .of 8 2 5 137 .c_sVersion, .bm 8 4 64 .c_sStatute [(2, 5)]] (.s (.g [5, 7]) .n) .n))) .n)) [K53, K54, K55, K56, K57, K58, K59, K60] (by kernel_rfl) (by kernel_rfl) (fun _ => rfl) fun x => by kernel_rfl
def K11 : Kn Tryz.prog VV := mk 11 Tryz.f11 ⟨[.ls .c_i64], [.v .c_sLaws]⟩ (fun x => a7m x.1) w1 u1 (sk 2 (.s (.s .n (.l [0] [] [.of 2 0 2 66 .c_sState, .of 2 1 3 94 .c_sRules, .of 2 2 4 89 .c_sRate, .bm 2 1 31 .c_sLaws [(0, 2), (1, 3), (2, 4)], .of 3 0 6 66 .c_sState, .of 3 1 7 94 .c_sRules, .bm 3 5 31 .c_sLaws [(0, 6), (1, 7)], .v 4 .c_i64] .n)) .n)) [K5, K27, K29, K30] (by kernel_rfl) (by kernel_rfl) (fun _ => rfl) fun x => by kernel_rfl
def K12 : Kn Tryz.prog VV := mk 12 Tryz.f12 ⟨[.ls .c_spensionhand_Claim], [.ow 52 .c_sClaim]⟩ (fun x => a61 x.1) w1 u1 (sk 2 (.s (.s .n (.l [0] [] [.ow 3 1 52 .c_sClaim, .v 4 .c_i64] .n)) .n)) [K5] (by kernel_rfl) (by kernel_rfl) (fun _ => rfl) fun x => by kernel_rfl
def K13 : Kn Tryz.prog VV := mk 13 Tryz.f13 ⟨[.v .c_i64], [.ow 52 .c_sClaim]⟩ (fun x => a4r x.1) w1 u1 .n [K5] (by kernel_rfl) (by kernel_rfl) (fun _ => rfl) fun x => by kernel_rfl
def K4 : Kn Tryz.prog VV := mk 4 Tryz.f4 ⟨[.v .c_spensionlaw26_Seeds], [.v .c_sLaws, .ow 82 .c_sapi_Fact, .ow 52 .c_sClaim]⟩ (fun x => a6o x.1) (fun b => ((b.1, (b.2.1, (b.2.2, ()))), ())) (fun p => (p.1.1, p.1.2.1, p.1.2.2.1)) .n [K9, K10, K11, K12, K13] (by kernel_rfl) (by kernel_rfl) (fun _ => rfl) fun x => by kernel_rfl
def K64 : Kn Tryz.prog VV := mk 64 Tryz.f64 ⟨[.v .c_i64], [.v .c_i64, .v .c_i64]⟩ (fun x => a3t x.1) w2 u2 (sk 2 (.l [] [] [.v 0 .c_i64, .v 4 .c_i64] .n)) [f86] (by kernel_rfl) (by kernel_rfl) (fun _ => rfl) fun x => by kernel_rfl
def K31 : Kn Tryz.prog VV := mk 31 Tryz.f31 ⟨[.v .c_i64], [.v .c_i64]⟩ (fun x => a4y x.1) w1 u1 .n [K63, K64] (by kernel_rfl) (by kernel_rfl) (fun _ => rfl) fun x => by kernel_rfl
def K33 : Kn Tryz.prog VV := mk 33 Tryz.f33 ⟨[.v .c_i64], [.v .c_bool]⟩ (fun x => a0w x.1) w1 u1 .n [] (by kernel_rfl) (by kernel_rfl) (fun _ => rfl) fun x => by kernel_rfl
def K32 : Kn Tryz.prog VV := mk 32 Tryz.f32 ⟨[.v .c_i64], [.v .c_i64, .v .c_bool]⟩ (fun x => a42 x.1) w2 u2 .n [K33, K65] (by kernel_rfl) (by kernel_rfl) (fun _ => rfl) fun x => by kernel_rfl
def K14 : Kn Tryz.prog VV := mk 14 Tryz.f14 ⟨[.v .c_sClaim], [.v .c_i64, .v .c_bool]⟩ (fun x => a0u x.1) w2 u2 (sk 4 (.j [] [.v 4 .c_i64] .n .n)) [K31, K32, K33] (by kernel_rfl) (by kernel_rfl) (fun _ => rfl) fun x => by kernel_rfl
def K15 : Kn Tryz.prog VV := mk 15 Tryz.f15 ⟨[.v .c_sClaim], [.v .c_bool]⟩ (fun x => a4a x.1) w1 u1 .n [K14] (by kernel_rfl) (by kernel_rfl) (fun _ => rfl) fun x => by kernel_rfl
def K6 : Kn Tryz.prog VV := mk 6 Tryz.f6 ⟨[.ls .c_sClaim, .v .c_i64], [.v .c_i64, .v .c_bool]⟩ (fun x => a49 x.1 x.2.1) w2 u2 (sk 2 (.s (.s .n (.l [0, 1] [] [.v 6 .c_i64, .v 7 .c_bool, .v 8 .c_i64] .n)) .n)) [K14, K15] (by kernel_rfl) (by kernel_rfl) (fun _ => rfl) fun x => by kernel_rfl
def K289 : Kn Tryz.prog VV := mk 289 Tryz.f289 ⟨[.v .c_u8], [.v .c_bool]⟩ (fun x => b88 x.1) w1 u1 .n [] (by kernel_rfl) (by kernel_rfl) (fun _ => rfl) fun x => by kernel_rfl
def K373 : Kn Tryz.prog VV := mk 373 Tryz.f373 ⟨[.v .c_u8], [.v .c_bool]⟩ (fun x => b4v x.1) w1 u1 .n [] (by kernel_rfl) (by kernel_rfl) (fun _ => rfl) fun x => by kernel_rfl
def K290 : Kn Tryz.prog VV := mk 290 Tryz.f290 ⟨[.v .c_u8], [.v .c_bool]⟩ (fun x => c1c x.1) w1 u1 .n [K289, K373] (by kernel_rfl) (by kernel_rfl) (fun _ => rfl) fun x => by kernel_rfl
def K194 : Kn Tryz.prog VV := mk 194 Tryz.f194 ⟨[.v .c_str], [.v .c_bool]⟩ (fun x => c0p x.1) w1 u1 (sk 2 (.s (.s .n (.l [0] [] [.v 3 .c_i64] .n)) .n)) [K289, K290] (by kernel_rfl) (by kernel_rfl) (fun _ => rfl) fun x => by kernel_rfl
def K195 : Kn Tryz.prog VV := mk 195 Tryz.f195 ⟨[.v .c_str], [.v .c_bool]⟩ (fun x => b74 x.1) w1 u1 .n [] (by kernel_rfl) (by kernel_rfl) (fun _ => rfl) fun x => by kernel_rfl
def f7h : Kn Tryz.prog VV := mk 122 Tryz.f122 ⟨[.v .c_str], [.v .c_bool]⟩ (fun x => a4b x.1) w1 u1 .n [K194, K195] (by kernel_rfl) (by kernel_rfl) (fun _ => rfl) fun x => by kernel_rfl
def f7k : Kn Tryz.prog VV := mk 132 Tryz.f132 ⟨[.v .c_i64], [.v .c_bool]⟩ (fun x => a3h x.1) w1 u1 .n [] (by kernel_rfl) (by kernel_rfl) (fun _ => rfl) fun x => by kernel_rfl
def K197 : Kn Tryz.prog VV := mk 197 Tryz.f197 ⟨[], [.ow 393 .c_ssyntax_entry]⟩ (fun x => b2l) w1 u1 .n [] (by kernel_rfl) (by kernel_rfl) (fun _ => rfl) fun x => by kernel_rfl
def K292 : Kn Tryz.prog VV := mk 292 Tryz.f292 ⟨[.v .c_ssyntax_entry, .rp 3 .c_i64], [.v .c_bool]⟩ (fun x => b3x x.1 x.2.1) w1 u1 .n [] (by kernel_rfl) (by kernel_rfl) (fun _ => rfl) fun x => by kernel_rfl
def e4p : Kn Tryz.prog VV := mk 291 Tryz.f291 ⟨[.ls .c_ssyntax_entry, .cl 292 [.c_i64]], [.v .c_i64]⟩ (fun x => a0d x.1 x.2.1.1) w1 u1 (.s .n (.s (.s .n (.l [0, 1, 7] [] [.v 8 .c_i64] .n)) .n)) [K292] (by kernel_rfl) (by kernel_rfl) (fun _ => rfl) fun x => by kernel_rfl
def K196 : Kn Tryz.prog VV := mk 196 Tryz.f196 ⟨[.ls .c_ssyntax_entry, .v .c_i64], [.v .c_str]⟩ (fun x => a13 x.1 x.2.1) w1 u1 .n [e4p] (by kernel_rfl) (by kernel_rfl) (fun _ => rfl) fun x => by kernel_rfl
def K198 : Kn Tryz.prog VV := mk 198 Tryz.f198 ⟨[], [.ow 393 .c_ssyntax_entry]⟩ (fun x => b2v) w1 u1 .n [] (by kernel_rfl) (by kernel_rfl) (fun _ => rfl) fun x => by kernel_rfl
def K432 : Kn Tryz.prog VV := mk 432 Tryz.f432 ⟨[.v .c_str, .v .c_u8], [.v .c_i64]⟩ (fun x => a6i x.1 x.2.1) w1 u1 .n [K492] (by kernel_rfl) (by kernel_rfl) (fun _ => rfl) fun x => by kernel_rfl
def K381 : Kn Tryz.prog VV := mk 381 Tryz.f381 ⟨[.v .c_str, .v .c_str], [.v .c_i64]⟩ (fun x => a4w x.1 x.2.1) w1 u1 .n [K432] (by kernel_rfl) (by kernel_rfl) (fun _ => rfl) fun x => by kernel_rfl
def K490 : Kn Tryz.prog VV := mk 490 Tryz.f490 ⟨[.v .c_str, .v .c_str], [.v .c_str, .v .c_str, .v .c_bool]⟩ (fun x => b1u x.1 x.2.1) (fun b => ((b.1, (b.2.1, (b.2.2, ()))), ())) (fun p => (p.1.1, p.1.2.1, p.1.2.2.1)) .n [K381] (by kernel_rfl) (by kernel_rfl) (fun _ => rfl) fun x => by kernel_rfl
def K427 : Kn Tryz.prog VV := mk 427 Tryz.f427 ⟨[.v .c_str, .v .c_str], [.v .c_str, .v .c_str, .v .c_bool]⟩ (fun x => b4p x.1 x.2.1) (fun b => ((b.1, (b.2.1, (b.2.2, ()))), ())) (fun p => (p.1.1, p.1.2.1, p.1.2.2.1)) .n [K490] (by kernel_rfl) (by kernel_rfl) (fun _ => rfl) fun x => by kernel_rfl
def K428 : Kn Tryz.prog VV := mk 428 Tryz.f428 ⟨[.v .c_str], [.v .c_i64, .v .c_bool]⟩ (fun x => a5b x.1) w2 u2 (.s .n (.s (.s .n (.l [0] [] [.v 2 .c_i64, .v 4 .c_i64] .n)) .n)) [K373] (by kernel_rfl) (by kernel_rfl) (fun _ => rfl) fun x => by kernel_rfl
def K375 : Kn Tryz.prog VV := mk 375 Tryz.f375 ⟨[.v .c_str], [.v .c_sFraction, .v .c_i64, .v .c_bool]⟩ (fun x => b1k x.1) (fun b => ((b.1, (b.2.1, (b.2.2, ()))), ())) (fun p => (p.1.1, p.1.2.1, p.1.2.2.1)) (sk 2 (.j [] [.v 0 .c_str, .bx 2 1 87 .c_sFraction, .v 3 .c_i64] .n (.s .n (.s .n (.s .n (.s .n (.s .n (.s .n (.j [] [.bx 2 1 87 .c_sFraction, .v 3 .c_i64, .v 9 .c_i64, .v 11 .c_i64] (.s .n (.l [3, 11] [] [.bx 2 1 87 .c_sFraction, .v 9 .c_i64, .it 100 2] .n)) (.s .n (.s (.s .n (.l [3, 113] [] [.bx 2 1 87 .c_sFraction, .v 114 .c_i64] (.s .n (.s .n (.s (.s .n (.l [3, 14, 113, 114] [] [.bx 2 1 87 .c_sFraction] .n)) .n))))) .n))))))))))) [K427, K428] (by kernel_rfl) (by kernel_rfl) (fun _ => rfl) fun x => by kernel_rfl
def K293 : Kn Tryz.prog VV := mk 293 Tryz.f293 ⟨[.v .c_sFraction, .v .c_i64], [.v .c_str, .v .c_bool]⟩ (fun x => a04 x.1 x.2.1) w2 u2 (sk 4 (.s (.s .n (.l [1] [] [.bx 2 2 87 .c_sFraction, .v 6 .c_str, .v 7 .c_i64, .v 8 .c_i64] (.s .n (.s (.j [] [.v 1 .c_i64, .bx 2 2 87 .c_sFraction, .v 6 .c_str, .v 7 .c_i64, .v 8 .c_i64] .n .n) .n)))) (.j [] [.v 1 .c_i64, .bx 2 2 87 .c_sFraction, .v 6 .c_str] .n .n))) [K374, K375] (by kernel_rfl) (by kernel_rfl) (fun _ => rfl) fun x => by kernel_rfl
def K294 : Kn Tryz.prog VV := mk 294 Tryz.f294 ⟨[.v .c_i64], [.v .c_bool]⟩ (fun x => b0t x.1) w1 u1 .n [] (by kernel_rfl) (by kernel_rfl) (fun _ => rfl) fun x => by kernel_rfl
def K199 : Kn Tryz.prog VV := mk 199 Tryz.f199 ⟨[.v .c_sIndex], [.v .c_bool]⟩ (fun x => a9q x.1) w1 u1 .n [K293, K294] (by kernel_rfl) (by kernel_rfl) (fun _ => rfl) fun x => by kernel_rfl
def c8i : Sig VV := ⟨[.v .c_sExpr], [.v .c_i64]⟩
def c7s (R : Ring_syntax_Depth) : Fent VV := ⟨c8i, Int, fun x => R.f_syntax_Depth x.1, fun b => ((b, ()), ())⟩
def f2i : Fent VV := c7s (a1b FU)
def e78 : Ress VV c8i.rs × Outs VV c8i.ps -> Int := fun p => p.1.1
def e79 : Ann VV.C := (.s .n (.s .n (.s (.s .n (.l [7, 8] [] [.v 3 .c_i64, .v 9 .c_i64] .n)) .n)))
def e5m (R : Ring_syntax_Depth) : Phi VV := fun f ys => lkF f ys [(295, c7s R)]
theorem f0d (R : Ring_syntax_Depth) (hr295 : SX.Spec Tryz.prog 295 (c7s R)) : OKΦ Tryz.prog (e5m R) := okl ⟨.inl ⟨hr295, fun _ _ => by kernel_rfl⟩, trivial⟩
theorem f4j (R : Ring_syntax_Depth) : ∀ x, c71 Tryz.prog (e5m R) c8i e78 Tryz.f295 e79 x = b00 R x.1 := fun x => by kernel_rfl
theorem e7j : c6y Tryz.f295 c8i = true := by kernel_rfl
theorem b18 : ∀ n, SX.Spec Tryz.prog 295 (c7s (a1b n))
  | 0 => (fun _ _ h => (by cases (show none = some _ from h)))
  | n + 1 => let h295 := b18 n; a6m (fe := c7s (a1b (n + 1))) uok (f0d (a1b n) h295) mixed (fn := Tryz.f295) (by kernel_rfl) e78 e79 (q0 e7j).1 (q0 e7j).2 (fun _ => rfl) (f4j (a1b n))
def K295 : Kn Tryz.prog VV := ⟨295, f2i, .inl ⟨(b18 FU), fun _ _ => by kernel_rfl⟩⟩
def c8k : Sig VV := ⟨[.v .c_sExpr], [.v .c_i64]⟩
def c8x (R : Ring_syntax_Size) : Fent VV := ⟨c8k, Int, fun x => R.f_syntax_Size x.1, fun b => ((b, ()), ())⟩
def f3m : Fent VV := c8x (a21 FU)
def e5w : Ress VV c8k.rs × Outs VV c8k.ps -> Int := fun p => p.1.1
def e6c : Ann VV.C := (.s .n (.s .n (.s (.s .n (.l [7, 8] [] [.v 3 .c_i64, .v 9 .c_i64] .n)) .n)))
def e5n (R : Ring_syntax_Size) : Phi VV := fun f ys => lkF f ys [(296, c8x R)]
theorem e94 (R : Ring_syntax_Size) (hr296 : SX.Spec Tryz.prog 296 (c8x R)) : OKΦ Tryz.prog (e5n R) := okl ⟨.inl ⟨hr296, fun _ _ => by kernel_rfl⟩, trivial⟩
theorem f1t (R : Ring_syntax_Size) : ∀ x, c71 Tryz.prog (e5n R) c8k e5w Tryz.f296 e6c x = b1m R x.1 := fun x => by kernel_rfl
theorem e65 : c6y Tryz.f296 c8k = true := by kernel_rfl
theorem b2h : ∀ n, SX.Spec Tryz.prog 296 (c8x (a21 n))
  | 0 => (fun _ _ h => (by cases (show none = some _ from h)))
  | n + 1 => let h296 := b2h n; a6m (fe := c8x (a21 (n + 1))) uok (e94 (a21 n) h296) mixed (fn := Tryz.f296) (by kernel_rfl) e5w e6c (q0 e65).1 (q0 e65).2 (fun _ => rfl) (f1t (a21 n))
def K296 : Kn Tryz.prog VV := ⟨296, f3m, .inl ⟨(b2h FU), fun _ _ => by kernel_rfl⟩⟩
def K429 : Kn Tryz.prog VV := mk 429 Tryz.f429 ⟨[.v .c_i64], [.v .c_i64]⟩ (fun x => a50 x.1) w1 u1 .n [] (by kernel_rfl) (by kernel_rfl) (fun _ => rfl) fun x => by kernel_rfl
def K376 : Kn Tryz.prog VV := mk 376 Tryz.f376 ⟨[.v .c_sExpr], [.v .c_bool]⟩ (fun x => a2c x.1) w1 u1 .n [f7h, K293, K429] (by kernel_rfl) (by kernel_rfl) (fun _ => rfl) fun x => by kernel_rfl
def c9m : Sig VV := ⟨[.v .c_sExpr], [.v .c_bool]⟩
def c9c (R : Ring_syntax_form) : Fent VV := ⟨c9m, Bool, fun x => R.f_syntax_form x.1, fun b => ((b, ()), ())⟩
def f4m : Fent VV := c9c (d7 FU)
def e51 : Ress VV c9m.rs × Outs VV c9m.ps -> Bool := fun p => p.1.1
def e7b : Ann VV.C := .n
def c7n : Sig VV := ⟨[.v .c_sExpr], [.v .c_bool]⟩
def d2t (R : Ring_syntax_form) : Fent VV := ⟨c7n, Bool, fun x => R.f_syntax_form_1 x.1, fun b => ((b, ()), ())⟩
def e5j : Ress VV c7n.rs × Outs VV c7n.ps -> Bool := fun p => p.1.1
def e5y : Ann VV.C := .n
def b47 : Sig VV := ⟨[.ls .c_sExpr, .cl 378 []], [.v .c_bool]⟩
def b6o (R : Ring_syntax_form) : Fent VV := ⟨b47, Bool, fun x => R.f_slices_ContainsFunc_of_api_Expr x.1, fun b => ((b, ()), ())⟩
def c4g : Ress VV b47.rs × Outs VV b47.ps -> Bool := fun p => p.1.1
def c55 : Ann VV.C := .n
def b41 : Sig VV := ⟨[.ls .c_sExpr, .cl 378 []], [.v .c_i64]⟩
def b6v (R : Ring_syntax_form) : Fent VV := ⟨b41, Int, fun x => R.f_slices_IndexFunc_of_api_Expr x.1, fun b => ((b, ()), ())⟩
def c5e : Ress VV b41.rs × Outs VV b41.ps -> Int := fun p => p.1.1
def c5g : Ann VV.C := (.s .n (.s (.s .n (.l [0, 1, 7] [] [.v 8 .c_i64] .n)) .n))
def e6l (R : Ring_syntax_form) : Phi VV := fun f ys => lkF f ys [K376.e, (377, b6o R)]
theorem e8q (R : Ring_syntax_form) (hr377 : SX.Spec Tryz.prog 377 (b6o R)) : OKΦ Tryz.prog (e6l R) := okl ⟨K376.ok, .inl ⟨hr377, fun _ _ => by kernel_rfl⟩, trivial⟩
theorem f1e (R : Ring_syntax_form) : ∀ x, c71 Tryz.prog (e6l R) c9m e51 Tryz.f297 e7b x = b1l R x.1 := fun x => by kernel_rfl
theorem e73 : c6y Tryz.f297 c9m = true := by kernel_rfl
def e5u (R : Ring_syntax_form) : Phi VV := fun f ys => lkF f ys [(297, c9c R)]
theorem e8s (R : Ring_syntax_form) (hr297 : SX.Spec Tryz.prog 297 (c9c R)) : OKΦ Tryz.prog (e5u R) := okl ⟨.inl ⟨hr297, fun _ _ => by kernel_rfl⟩, trivial⟩
theorem f4d (R : Ring_syntax_form) : ∀ x, c71 Tryz.prog (e5u R) c7n e5j Tryz.f378 e5y x = a8p R x.1 := fun x => by kernel_rfl
theorem e5a : c6y Tryz.f378 c7n = true := by kernel_rfl
def c5h (R : Ring_syntax_form) : Phi VV := fun f ys => lkF f ys [(430, b6v R)]
theorem d1r (R : Ring_syntax_form) (hr430 : SX.Spec Tryz.prog 430 (b6v R)) : OKΦ Tryz.prog (c5h R) := okl ⟨.inl ⟨hr430, fun _ _ => by kernel_rfl⟩, trivial⟩
theorem d4w (R : Ring_syntax_form) : ∀ x, c71 Tryz.prog (c5h R) b47 c4g Tryz.f377 c55 x = p5 R x.1 := fun x => by kernel_rfl
theorem c53 : c6y Tryz.f377 b47 = true := by kernel_rfl
def c4v (R : Ring_syntax_form) : Phi VV := fun f ys => lkF f ys [(378, d2t R)]
theorem d15 (R : Ring_syntax_form) (hr378 : SX.Spec Tryz.prog 378 (d2t R)) : OKΦ Tryz.prog (c4v R) := okl ⟨.inl ⟨hr378, fun _ _ => by kernel_rfl⟩, trivial⟩
theorem d5v (R : Ring_syntax_form) : ∀ x, c71 Tryz.prog (c4v R) b41 c5e Tryz.f430 c5g x = m6 R x.1 := fun x => by kernel_rfl
theorem c5n : c6y Tryz.f430 b41 = true := by kernel_rfl
theorem b1r : ∀ n, SX.Spec Tryz.prog 297 (c9c (d7 n)) /\ SX.Spec Tryz.prog 378 (d2t (d7 n)) /\ SX.Spec Tryz.prog 377 (b6o (d7 n)) /\ SX.Spec Tryz.prog 430 (b6v (d7 n))
  | 0 => ⟨(fun _ _ h => (by cases (show none = some _ from h))), (fun _ _ h => (by cases (show none = some _ from h))), (fun _ _ h => (by cases (show none = some _ from h))), (fun _ _ h => (by cases (show none = some _ from h)))⟩
  | n + 1 => let ⟨h297, h378, h377, h430⟩ := b1r n; ⟨a6m (fe := c9c (d7 (n + 1))) uok (e8q (d7 n) h377) mixed (fn := Tryz.f297) (by kernel_rfl) e51 e7b (q0 e73).1 (q0 e73).2 (fun _ => rfl) (f1e (d7 n)), a6m (fe := d2t (d7 (n + 1))) uok (e8s (d7 n) h297) mixed (fn := Tryz.f378) (by kernel_rfl) e5j e5y (q0 e5a).1 (q0 e5a).2 (fun _ => rfl) (f4d (d7 n)), a6m (fe := b6o (d7 (n + 1))) uok (d1r (d7 n) h430) mixed (fn := Tryz.f377) (by kernel_rfl) c4g c55 (q0 c53).1 (q0 c53).2 (fun _ => rfl) (d4w (d7 n)), a6m (fe := b6v (d7 (n + 1))) uok (d15 (d7 n) h378) mixed (fn := Tryz.f430) (by kernel_rfl) c5e c5g (q0 c5n).1 (q0 c5n).2 (fun _ => rfl) (d5v (d7 n))⟩
def K297 : Kn Tryz.prog VV := ⟨297, f4m, .inl ⟨(b1r FU).1, fun _ _ => by kernel_rfl⟩⟩
def f8f : Kn Tryz.prog VV := mk 200 Tryz.f200 ⟨[.v .c_sExpr], [.v .c_bool]⟩ (fun x => a09 x.1) w1 u1 .n [K295, K296, K297] (by kernel_rfl) (by kernel_rfl) (fun _ => rfl) fun x => by kernel_rfl
def K201 : Kn Tryz.prog VV := mk 201 Tryz.f201 ⟨[], [.ow 393 .c_ssyntax_entry]⟩ (fun x => a6l) w1 u1 .n [] (by kernel_rfl) (by kernel_rfl) (fun _ => rfl) fun x => by kernel_rfl
def K123 : Kn Tryz.prog VV := mk 123 Tryz.f123 ⟨[.v .c_sVersion], [.v .c_bool]⟩ (fun x => a5e x.1) w1 u1 (.s .n (.j [] [.bx 1 1 137 .c_sVersion] (.s (.g [4]) .n) (.s .n (.j [] [.bx 1 1 137 .c_sVersion] (.s .n (.l [66, 67] [] [.bx 1 1 137 .c_sVersion, .v 68 .c_i64] .n)) (.j [] [.bx 1 1 137 .c_sVersion] (.s .n (.l [89, 90] [] [.bx 1 1 137 .c_sVersion, .v 91 .c_i64] .n)) (.j [] [.bx 1 1 137 .c_sVersion] (.s .n (.l [100, 101] [] [.bx 1 1 137 .c_sVersion, .v 102 .c_i64] .n)) (.j [] [.bx 1 1 137 .c_sVersion] (.s .n (.l [118, 119] [] [.bx 1 1 137 .c_sVersion, .v 120 .c_i64] .n)) (.s (.s .n (.l [143, 144] [] [.v 145 .c_i64] .n)) .n)))))))) [f7h, f7k, K196, K197, K198, K199, f8f, K201] (by kernel_rfl) (by kernel_rfl) (fun _ => rfl) fun x => by kernel_rfl
def K66 : Kn Tryz.prog VV := mk 66 Tryz.f66 ⟨[.v .c_sStatute], [.v .c_bool]⟩ (fun x => b2u x.1) w1 u1 (sk 2 (.s (.s .n (.l [32, 33] [] [.v 34 .c_i64] .n)) .n)) [f7h, K123] (by kernel_rfl) (by kernel_rfl) (fun _ => rfl) fun x => by kernel_rfl
def c95 : Sig VV := ⟨[.v .c_str], [.v .c_i64, .v .c_bool]⟩
def e08 : Fent VV := ⟨c95, Int × Bool, fun x => a6d x.1, fun b => ((b.1, (b.2, ())), ())⟩
def f46 : Ress VV c95.rs × Outs VV c95.ps -> Int × Bool := fun p => (p.1.1, p.1.2.1)
def f2j : Ann VV.C := (.s .n (.s (.s .n (.j [] [.v 4 .c_str, .v 5 .c_bool] .n (.s .n (.j [] [.v 4 .c_str, .v 9 .c_bool] .n .n)))) .n))
theorem e77 : SX.Spec Tryz.prog 202 e08 := a6m (fe := e08) uok (okl (f5u [])) mixed (fn := Tryz.f202) (by kernel_rfl) f46 f2j (q0 (s := c95) (by kernel_rfl)).1 (q0 (s := c95) (by kernel_rfl)).2 (fun _ => rfl) fun x => by kernel_rfl
def K202 : Kn Tryz.prog VV := ⟨202, e08, .inl ⟨e77, fun _ _ => by kernel_rfl⟩⟩
def e70 : Fent VV := ⟨⟨[.v .c_str, .ls .c_sBinding], [.v .c_i64, .v .c_bool]⟩, Int × Bool, fun x => a55 x.1 x.2.1, fun b => ((b.1, b.2, ()), ())⟩
theorem f3z : SX.Spec Tryz.prog 379 e70 := d1b e77
def K379 : Kn Tryz.prog VV := ⟨379, e70, .inl ⟨f3z, fun _ _ => by kernel_rfl⟩⟩
def K203 : Kn Tryz.prog VV := mk 203 Tryz.f203 ⟨[.v .c_str], [.v .c_bool]⟩ (fun x => b1j x.1) w1 u1 .n [f8f] (by kernel_rfl) (by kernel_rfl) (fun _ => rfl) fun x => by kernel_rfl
def K205 : Kn Tryz.prog VV := mk 205 Tryz.f205 ⟨[.v .c_sBinding, .rp 290 .c_sLet], [.v .c_bool]⟩ (fun x => b9g x.1 x.2.1) w1 u1 .n [] (by kernel_rfl) (by kernel_rfl) (fun _ => rfl) fun x => by kernel_rfl
def K299 : Kn Tryz.prog VV := mk 299 Tryz.f299 ⟨[.v .c_sBinding], [.v .c_bool]⟩ (fun x => b3f x.1) w1 u1 .n [] (by kernel_rfl) (by kernel_rfl) (fun _ => rfl) fun x => by kernel_rfl
def K380 : Kn Tryz.prog VV := mk 380 Tryz.f380 ⟨[.v .c_i64, .ls .c_i64], [.v .c_i64, .v .c_bool]⟩ (fun x => a89 x.1 x.2.1) w2 u2 (.s .n (.s (.s .n (.j [] [.ls 1 .c_i64, .v 6 .c_i64, .v 7 .c_bool] .n (.s .n (.s .n (.s .n (.j [] [.ls 1 .c_i64, .v 6 .c_i64, .v 23 .c_bool] .n (.s .n (.s .n (.s .n (.s .n (.s .n (.j [] [.ls 1 .c_i64, .v 6 .c_i64, .v 96 .c_bool] .n (.s .n (.j [] [.ls 1 .c_i64, .v 6 .c_i64, .v 116 .c_bool] .n .n)))))))))))))) .n)) [] (by kernel_rfl) (by kernel_rfl) (fun _ => rfl) fun x => by kernel_rfl
def c9p : Sig VV := ⟨[.v .c_sExpr, .ls .c_sBinding], [.v .c_i64, .v .c_i64]⟩
def d09 (R : Ring_typing_infer) : Fent VV := ⟨c9p, Int × Int, fun x => R.f_typing_infer x.1 x.2.1, fun b => ((b.1, (b.2, ())), ())⟩
def f0x : Fent VV := d09 (s4 FU)
def e76 : Ress VV c9p.rs × Outs VV c9p.ps -> Int × Int := fun p => (p.1.1, p.1.2.1)
def e59 : Ann VV.C := (.s .n (.s .n (.s .n (.s (.s .n (.l [1, 36, 37] [] [.bx 2 2 206 .c_sExpr, .ow 8 3 3 .c_i64, .v 38 .c_i64] .n)) .n))))
def e6y (R : Ring_typing_infer) : Phi VV := fun f ys => lkF f ys [(300, d09 R), K379.e, K380.e]
theorem e8n (R : Ring_typing_infer) (hr300 : SX.Spec Tryz.prog 300 (d09 R)) : OKΦ Tryz.prog (e6y R) := okl ⟨.inl ⟨hr300, fun _ _ => by kernel_rfl⟩, K379.ok, K380.ok, trivial⟩
theorem f3r (R : Ring_typing_infer) : ∀ x, c71 Tryz.prog (e6y R) c9p e76 Tryz.f300 e59 x = a2m R x.1 x.2.1 := fun x => by kernel_rfl
theorem e6j : c6y Tryz.f300 c9p = true := by kernel_rfl
theorem b15 : ∀ n, SX.Spec Tryz.prog 300 (d09 (s4 n))
  | 0 => (fun _ _ h => (by cases (show none = some _ from h)))
  | n + 1 => let h300 := b15 n; a6m (fe := d09 (s4 (n + 1))) uok (e8n (s4 n) h300) mixed (fn := Tryz.f300) (by kernel_rfl) e76 e59 (q0 e6j).1 (q0 e6j).2 (fun _ => rfl) (f3r (s4 n))
def K300 : Kn Tryz.prog VV := ⟨300, f0x, .inl ⟨(b15 FU), fun _ _ => by kernel_rfl⟩⟩
def e30 : Kn Tryz.prog VV := mk 298 Tryz.f298 ⟨[.ls .c_sBinding, .cl 299 []], [.v .c_i64]⟩ (fun x => w6 x.1) w1 u1 (.s .n (.s (.s .n (.l [0, 1, 7] [] [.v 8 .c_i64] .n)) .n)) [K299] (by kernel_rfl) (by kernel_rfl) (fun _ => rfl) fun x => by kernel_rfl
def e41 : Kn Tryz.prog VV := mk 204 Tryz.f204 ⟨[.ls .c_sBinding, .cl 299 []], [.v .c_bool]⟩ (fun x => o4 x.1) w1 u1 .n [e30] (by kernel_rfl) (by kernel_rfl) (fun _ => rfl) fun x => by kernel_rfl
def K206 : Kn Tryz.prog VV := mk 206 Tryz.f206 ⟨[.v .c_sExpr, .ls .c_sBinding], [.v .c_i64, .v .c_i64]⟩ (fun x => b0f x.1 x.2.1) w2 u2 .n [f8f, e41, K300] (by kernel_rfl) (by kernel_rfl) (fun _ => rfl) fun x => by kernel_rfl
def e2i : Kn Tryz.prog VV := mk 298 Tryz.f298 ⟨[.ls .c_sBinding, .cl 205 [.c_sLet]], [.v .c_i64]⟩ (fun x => a15 x.1 x.2.1.1) w1 u1 (.s .n (.s (.s .n (.l [0, 1, 7] [] [.v 8 .c_i64] .n)) .n)) [K205] (by kernel_rfl) (by kernel_rfl) (fun _ => rfl) fun x => by kernel_rfl
def e27 : Kn Tryz.prog VV := mk 204 Tryz.f204 ⟨[.ls .c_sBinding, .cl 205 [.c_sLet]], [.v .c_bool]⟩ (fun x => p4 x.1 x.2.1.1) w1 u1 .n [e2i] (by kernel_rfl) (by kernel_rfl) (fun _ => rfl) fun x => by kernel_rfl
def K124 : Kn Tryz.prog VV := mk 124 Tryz.f124 ⟨[.ls .c_sLet], [.ow 303 .c_sBinding, .v .c_i64]⟩ (fun x => b2c x.1) w2 u2 (sk 3 (.s (.s .n (.l [14, 15] [] [.ow 4 1 303 .c_sBinding, .v 16 .c_i64] .n)) .n)) [K202, K203, e27, K206] (by kernel_rfl) (by kernel_rfl) (fun _ => rfl) fun x => by kernel_rfl
def K126 : Kn Tryz.prog VV := mk 126 Tryz.f126 ⟨[.v .c_sCredit, .rp 199 .c_sCredit], [.v .c_bool]⟩ (fun x => b0p x.1 x.2.1) w1 u1 .n [] (by kernel_rfl) (by kernel_rfl) (fun _ => rfl) fun x => by kernel_rfl
def K128 : Kn Tryz.prog VV := mk 128 Tryz.f128 ⟨[.v .c_sGrant, .rp 208 .c_sGrant], [.v .c_bool]⟩ (fun x => b0v x.1 x.2.1) w1 u1 .n [] (by kernel_rfl) (by kernel_rfl) (fun _ => rfl) fun x => by kernel_rfl
def K129 : Kn Tryz.prog VV := mk 129 Tryz.f129 ⟨[.v .c_sExpr, .ls .c_sBinding, .v .c_i64], [.v .c_i64]⟩ (fun x => b24 x.1 x.2.1 x.2.2.1) w1 u1 .n [K206] (by kernel_rfl) (by kernel_rfl) (fun _ => rfl) fun x => by kernel_rfl
def K131 : Kn Tryz.prog VV := mk 131 Tryz.f131 ⟨[.v .c_sReduce, .rp 213 .c_sReduce], [.v .c_bool]⟩ (fun x => b0u x.1 x.2.1) w1 u1 .n [] (by kernel_rfl) (by kernel_rfl) (fun _ => rfl) fun x => by kernel_rfl
def e2q : Kn Tryz.prog VV := mk 207 Tryz.f207 ⟨[.ls .c_sCredit, .cl 126 [.c_sCredit]], [.v .c_i64]⟩ (fun x => u4 x.1 x.2.1.1) w1 u1 (.s .n (.s (.s .n (.l [0, 1, 7] [] [.v 8 .c_i64] .n)) .n)) [K126] (by kernel_rfl) (by kernel_rfl) (fun _ => rfl) fun x => by kernel_rfl
def e48 : Kn Tryz.prog VV := mk 125 Tryz.f125 ⟨[.ls .c_sCredit, .cl 126 [.c_sCredit]], [.v .c_bool]⟩ (fun x => n6 x.1 x.2.1.1) w1 u1 .n [e2q] (by kernel_rfl) (by kernel_rfl) (fun _ => rfl) fun x => by kernel_rfl
def e2v : Kn Tryz.prog VV := mk 208 Tryz.f208 ⟨[.ls .c_sGrant, .cl 128 [.c_sGrant]], [.v .c_i64]⟩ (fun x => w7 x.1 x.2.1.1) w1 u1 (.s .n (.s (.s .n (.l [0, 1, 7] [] [.v 8 .c_i64] .n)) .n)) [K128] (by kernel_rfl) (by kernel_rfl) (fun _ => rfl) fun x => by kernel_rfl
def e42 : Kn Tryz.prog VV := mk 127 Tryz.f127 ⟨[.ls .c_sGrant, .cl 128 [.c_sGrant]], [.v .c_bool]⟩ (fun x => o8 x.1 x.2.1.1) w1 u1 .n [e2v] (by kernel_rfl) (by kernel_rfl) (fun _ => rfl) fun x => by kernel_rfl
def e3c : Kn Tryz.prog VV := mk 209 Tryz.f209 ⟨[.ls .c_sReduce, .cl 131 [.c_sReduce]], [.v .c_i64]⟩ (fun x => u6 x.1 x.2.1.1) w1 u1 (.s .n (.s (.s .n (.l [0, 1, 7] [] [.v 8 .c_i64] .n)) .n)) [K131] (by kernel_rfl) (by kernel_rfl) (fun _ => rfl) fun x => by kernel_rfl
def e3f : Kn Tryz.prog VV := mk 130 Tryz.f130 ⟨[.ls .c_sReduce, .cl 131 [.c_sReduce]], [.v .c_bool]⟩ (fun x => n8 x.1 x.2.1.1) w1 u1 .n [e3c] (by kernel_rfl) (by kernel_rfl) (fun _ => rfl) fun x => by kernel_rfl
def K67 : Kn Tryz.prog VV := mk 67 Tryz.f67 ⟨[.v .c_sVersion], [.v .c_i64]⟩ (fun x => a9u x.1) w1 u1 (sk 3 (.s (.s .n (.l [26, 27] [] [.bx 1 1 137 .c_sVersion, .ow 3 2 303 .c_sBinding, .v 28 .c_i64] .n)) (.s (.s .n (.l [41, 42] [] [.bx 1 1 137 .c_sVersion, .ow 3 2 303 .c_sBinding, .v 43 .c_i64] .n)) (.s (.s .n (.l [64, 65] [] [.bx 1 1 137 .c_sVersion, .ow 3 2 303 .c_sBinding, .v 66 .c_i64] .n)) (.s (.s .n (.l [93, 94] [] [.bx 1 1 137 .c_sVersion, .ow 3 2 303 .c_sBinding, .v 95 .c_i64] .n)) .n))))) [K124, e48, e42, K129, e3f] (by kernel_rfl) (by kernel_rfl) (fun _ => rfl) fun x => by kernel_rfl
def K34 : Kn Tryz.prog VV := mk 34 Tryz.f34 ⟨[.v .c_sStatute], [.v .c_i64, .v .c_i64]⟩ (fun x => a4n x.1) w2 u2 (sk 2 (.s (.s .n (.l [11, 12] [] [.bx 1 1 64 .c_sStatute, .v 13 .c_i64] .n)) .n)) [K66, K67] (by kernel_rfl) (by kernel_rfl) (fun _ => rfl) fun x => by kernel_rfl
def K133 : Kn Tryz.prog VV := mk 133 Tryz.f133 ⟨[.v .c_i64, .v .c_i64], [.v .c_bool]⟩ (fun x => a6w x.1 x.2.1) w1 u1 .n [] (by kernel_rfl) (by kernel_rfl) (fun _ => rfl) fun x => by kernel_rfl
def K68 : Kn Tryz.prog VV := mk 68 Tryz.f68 ⟨[.v .c_sRules], [.v .c_bool]⟩ (fun x => a4k x.1) w1 u1 (sk 2 (.s (.s .n (.l [28, 29] [] [.bx 1 1 94 .c_sRules, .v 30 .c_i64] .n)) .n)) [f7k, K133] (by kernel_rfl) (by kernel_rfl) (fun _ => rfl) fun x => by kernel_rfl
def K35 : Kn Tryz.prog VV := mk 35 Tryz.f35 ⟨[.ls .c_sRules], [.v .c_i64]⟩ (fun x => b0e x.1) w1 u1 (sk 3 (.s (.s .n (.l [0, 18, 19] [] [.v 20 .c_i64] .n)) .n)) [K68] (by kernel_rfl) (by kernel_rfl) (fun _ => rfl) fun x => by kernel_rfl
def K69 : Kn Tryz.prog VV := mk 69 Tryz.f69 ⟨[.v .c_i64], [.v .c_bool]⟩ (fun x => b77 x.1) w1 u1 .n [] (by kernel_rfl) (by kernel_rfl) (fun _ => rfl) fun x => by kernel_rfl
def K83 : Kn Tryz.prog VV := mk 83 Tryz.f83 ⟨[.v .c_i64], [.v .c_bool]⟩ (fun x => a3s x.1) w1 u1 .n [] (by kernel_rfl) (by kernel_rfl) (fun _ => rfl) fun x => by kernel_rfl
def K105 : Kn Tryz.prog VV := mk 105 Tryz.f105 ⟨[.v .c_i64], [.v .c_bool]⟩ (fun x => b1i x.1) w1 u1 .n [] (by kernel_rfl) (by kernel_rfl) (fun _ => rfl) fun x => by kernel_rfl
def K47 : Kn Tryz.prog VV := mk 47 Tryz.f47 ⟨[.v .c_i64, .v .c_i64], [.v .c_i64]⟩ (fun x => y6 x.1 x.2.1) w1 u1 .n [K105] (by kernel_rfl) (by kernel_rfl) (fun _ => rfl) fun x => by kernel_rfl
def K134 : Kn Tryz.prog VV := mk 134 Tryz.f134 ⟨[.v .c_i64], [.v .c_i64]⟩ (fun x => b2m x.1) w1 u1 .n [K47, K83] (by kernel_rfl) (by kernel_rfl) (fun _ => rfl) fun x => by kernel_rfl
def K70 : Kn Tryz.prog VV := mk 70 Tryz.f70 ⟨[.v .c_i64], [.v .c_bool]⟩ (fun x => c30 x.1) w1 u1 .n [K134] (by kernel_rfl) (by kernel_rfl) (fun _ => rfl) fun x => by kernel_rfl
def K136 : Kn Tryz.prog VV := mk 136 Tryz.f136 ⟨[.v .c_i64], [.v .c_u64]⟩ (fun x => b52 x.1) w1 u1 .n [] (by kernel_rfl) (by kernel_rfl) (fun _ => rfl) fun x => by kernel_rfl
def K135 : Kn Tryz.prog VV := mk 135 Tryz.f135 ⟨[.v .c_u64, .v .c_u64], [.v .c_u64]⟩ (fun x => c0w x.1 x.2.1) w1 u1 (.s .n (.s (.l [] [] [.v 0 .c_u64, .v 1 .c_u64] .n) .n)) [] (by kernel_rfl) (by kernel_rfl) (fun _ => rfl) fun x => by kernel_rfl
def K71 : Kn Tryz.prog VV := mk 71 Tryz.f71 ⟨[.v .c_sFraction], [.v .c_bool]⟩ (fun x => b75 x.1) w1 u1 .n [K135, K136] (by kernel_rfl) (by kernel_rfl) (fun _ => rfl) fun x => by kernel_rfl
def K72 : Kn Tryz.prog VV := mk 72 Tryz.f72 ⟨[.v .c_i64], [.v .c_bool]⟩ (fun x => b7s x.1) w1 u1 .n [] (by kernel_rfl) (by kernel_rfl) (fun _ => rfl) fun x => by kernel_rfl
def K36 : Kn Tryz.prog VV := mk 36 Tryz.f36 ⟨[.ls .c_sRate], [.v .c_i64]⟩ (fun x => a7n x.1) w1 u1 (sk 2 (.s (.s .n (.l [0, 8, 9] [] [.v 10 .c_i64] .n)) .n)) [K69, K70, K71, K72] (by kernel_rfl) (by kernel_rfl) (fun _ => rfl) fun x => by kernel_rfl
def K16 : Kn Tryz.prog VV := mk 16 Tryz.f16 ⟨[.v .c_sLaws], [.v .c_i64]⟩ (fun x => a9s x.1) w1 u1 (.s .n (.s (.s .n (.l [11, 12] [] [.bx 1 1 31 .c_sLaws, .v 13 .c_i64] .n)) (.s (.s .n (.l [44, 45] [] [.bx 1 1 31 .c_sLaws, .v 46 .c_i64] .n)) .n))) [K34, K35, K36] (by kernel_rfl) (by kernel_rfl) (fun _ => rfl) fun x => by kernel_rfl
def K210 : Kn Tryz.prog VV := mk 210 Tryz.f210 ⟨[.v .c_i64], [.v .c_str]⟩ (fun x => a8u x.1) w1 u1 (.s .n (.s (.s .n (.s .n (.s .n (.j [] [.v 3 .c_i64, .v 6 .c_bool] .n (.s .n (.s .n (.s .n (.j [] [.v 3 .c_i64, .v 11 .c_bool] .n (.s .n (.s .n (.s .n (.s .n (.s .n (.j [] [.v 3 .c_i64, .v 20 .c_bool] .n .n)))))))))))))) .n)) [] (by kernel_rfl) (by kernel_rfl) (fun _ => rfl) fun x => by kernel_rfl
def K301 : Kn Tryz.prog VV := mk 301 Tryz.f301 ⟨[.v .c_str, .v .c_str], [.v .c_i64]⟩ (fun x => b8t x.1 x.2.1) w1 u1 .n [K381] (by kernel_rfl) (by kernel_rfl) (fun _ => rfl) fun x => by kernel_rfl
def K212 : Kn Tryz.prog VV := mk 212 Tryz.f212 ⟨[.v .c_str, .v .c_str], [.v .c_bool]⟩ (fun x => b5b x.1 x.2.1) w1 u1 .n [K301] (by kernel_rfl) (by kernel_rfl) (fun _ => rfl) fun x => by kernel_rfl
def K211 : Kn Tryz.prog VV := mk 211 Tryz.f211 ⟨[.v .c_str, .rp 9 .c_str], [.v .c_bool]⟩ (fun x => a0f x.1 x.2.1) w1 u1 .n [K212] (by kernel_rfl) (by kernel_rfl) (fun _ => rfl) fun x => by kernel_rfl
def K213 : Kn Tryz.prog VV := mk 213 Tryz.f213 ⟨[.v .c_i64, .v .c_i64, .v .c_i64], [.v .c_bool]⟩ (fun x => a69 x.1 x.2.1 x.2.2.1) w1 u1 .n [] (by kernel_rfl) (by kernel_rfl) (fun _ => rfl) fun x => by kernel_rfl
def K214 : Kn Tryz.prog VV := mk 214 Tryz.f214 ⟨[.v .c_bool, .v .c_i64, .v .c_i64, .v .c_i64], [.v .c_bool]⟩ (fun x => a6u x.1 x.2.1 x.2.2.1 x.2.2.2.1) w1 u1 .n [K213] (by kernel_rfl) (by kernel_rfl) (fun _ => rfl) fun x => by kernel_rfl
def K215 : Kn Tryz.prog VV := mk 215 Tryz.f215 ⟨[.v .c_sSpan], [.v .c_bool]⟩ (fun x => b3g x.1) w1 u1 .n [] (by kernel_rfl) (by kernel_rfl) (fun _ => rfl) fun x => by kernel_rfl
def f5f : Kn Tryz.prog VV := mk 137 Tryz.f137 ⟨[.v .c_sapi_Fact], [.v .c_bool]⟩ (fun x => a4u x.1) w1 u1 (sk 4 (.s (.s .n (.s .n (.s .n (.j [] [.bx 1 1 82 .c_sapi_Fact, .v 89 .c_i64, .v 97 .c_bool] .n (.s .n (.j [] [.bx 1 1 82 .c_sapi_Fact, .v 108 .c_bool] .n .n)))))) .n)) [K210, K211, K213, K214, K215] (by kernel_rfl) (by kernel_rfl) (fun _ => rfl) fun x => by kernel_rfl
def K162 : Kn Tryz.prog VV := mk 162 Tryz.f162 ⟨[.v .c_i64], [.v .c_bool]⟩ (fun x => a5i x.1) w1 u1 .n [] (by kernel_rfl) (by kernel_rfl) (fun _ => rfl) fun x => by kernel_rfl
def K95 : Kn Tryz.prog VV := mk 95 Tryz.f95 ⟨[.v .c_i64, .v .c_i64], [.v .c_i64]⟩ (fun x => o6 x.1 x.2.1) w1 u1 .n [K162] (by kernel_rfl) (by kernel_rfl) (fun _ => rfl) fun x => by kernel_rfl
def K94 : Kn Tryz.prog VV := mk 94 Tryz.f94 ⟨[.ls .c_i64], [.v .c_i64]⟩ (fun x => a4f x.1) w1 u1 (sk 2 (.s (.s .n (.l [3, 6, 7] [] [.v 8 .c_i64] .n)) .n)) [] (by kernel_rfl) (by kernel_rfl) (fun _ => rfl) fun x => by kernel_rfl
def K75 : Kn Tryz.prog VV := mk 75 Tryz.f75 ⟨[.v .c_sapi_Fact, .v .c_sapi_Fact], [.v .c_i64]⟩ (fun x => a6v x.1 x.2.1) w1 u1 .n [K94, K95] (by kernel_rfl) (by kernel_rfl) (fun _ => rfl) fun x => by kernel_rfl
def K303 : Kn Tryz.prog VV := mk 303 Tryz.f303 ⟨[.ow 5 .c_u8, .v .c_i64, .ls .c_i64], [.ow 5 .c_u8]⟩ (fun x => l6 x.1 x.2.1 x.2.2.1) w1 u1 (.s .n (.s (.s .n (.l [1, 10, 11] [] [.ow 0 3 5 .c_u8, .v 12 .c_i64] (.s .n (.s .n (.s (.s .n (.s .n (.l [1, 8, 10, 11, 12] [] [.ow 0 3 5 .c_u8, .v 9 .c_i64] .n))) .n))))) .n)) [] (by kernel_rfl) (by kernel_rfl) (fun _ => rfl) fun x => by kernel_rfl
def K217 : Kn Tryz.prog VV := mk 217 Tryz.f217 ⟨[.v .c_sapi_Fact], [.ow 5 .c_u8]⟩ (fun x => b3q x.1) w1 u1 (sk 3 (.j [] [.bx 1 1 82 .c_sapi_Fact, .v 3 .c_i64] .n (.s .n (.s .n (.s .n (.s (.s .n (.l [] [] [.bx 1 1 82 .c_sapi_Fact, .ow 4 2 5 .c_u8, .it 34 3] .n)) .n)))))) [f5f, K210, K303] (by kernel_rfl) (by kernel_rfl) (fun _ => rfl) fun x => by kernel_rfl
def K216 : Kn Tryz.prog VV := mk 216 Tryz.f216 ⟨[.ls .c_u8, .ls .c_u8], [.v .c_i64]⟩ (fun x => b53 x.1 x.2.1) w1 u1 .n [K302] (by kernel_rfl) (by kernel_rfl) (fun _ => rfl) fun x => by kernel_rfl
def K138 : Kn Tryz.prog VV := mk 138 Tryz.f138 ⟨[.v .c_sapi_Fact, .v .c_sapi_Fact], [.v .c_bool]⟩ (fun x => b8v x.1 x.2.1) w1 u1 .n [f5f, K216, K217] (by kernel_rfl) (by kernel_rfl) (fun _ => rfl) fun x => by kernel_rfl
def K76 : Kn Tryz.prog VV := mk 76 Tryz.f76 ⟨[.v .c_sapi_Fact, .v .c_sapi_Fact], [.v .c_sapi_Fact]⟩ (fun x => a9v x.1 x.2.1) w1 u1 .n [K138] (by kernel_rfl) (by kernel_rfl) (fun _ => rfl) fun x => by kernel_rfl
def c84 : Kn Tryz.prog VV := mk 73 Tryz.f73 ⟨[.ls .c_sapi_Fact, .ls .c_sapi_Fact, .cl 75 [], .cl 76 []], [.ow 82 .c_sapi_Fact]⟩ (fun x => g9 x.1 x.2.1) w1 u1 (sk 2 (.s (.l [2, 3] [] [.ls 0 .c_sapi_Fact, .ls 1 .c_sapi_Fact, .ow 9 4 82 .c_sapi_Fact] .n) .n)) [K75, K76] (by kernel_rfl) (by kernel_rfl) (fun _ => rfl) fun x => by kernel_rfl
def K74 : Kn Tryz.prog VV := mk 74 Tryz.f74 ⟨[.ls .c_sapi_Fact], [.ow 82 .c_sapi_Fact]⟩ (fun x => a5j x.1) w1 u1 (sk 2 (.s (.s .n (.l [6, 7] [] [.ow 3 1 82 .c_sapi_Fact, .v 8 .c_i64] .n)) .n)) [c84, f5f] (by kernel_rfl) (by kernel_rfl) (fun _ => rfl) fun x => by kernel_rfl
def K37 : Kn Tryz.prog VV := mk 37 Tryz.f37 ⟨[.ls .c_sapi_Fact, .ls .c_sapi_Fact], [.ow 82 .c_sapi_Fact]⟩ (fun x => b0j x.1 x.2.1) w1 u1 .n [c84, K74] (by kernel_rfl) (by kernel_rfl) (fun _ => rfl) fun x => by kernel_rfl
def K78 : Kn Tryz.prog VV := mk 78 Tryz.f78 ⟨[.v .c_sapi_Fact, .rp 3 .c_i64], [.v .c_bool]⟩ (fun x => b82 x.1 x.2.1) w1 u1 .n [] (by kernel_rfl) (by kernel_rfl) (fun _ => rfl) fun x => by kernel_rfl
def f2q : Kn Tryz.prog VV := mk 77 Tryz.f77 ⟨[.ls .c_sapi_Fact, .cl 78 [.c_i64]], [.ow 82 .c_sapi_Fact]⟩ (fun x => a3q x.1 x.2.1.1) w1 u1 (sk 2 (.s (.s .n (.l [1, 8, 9] [] [.ow 5 2 82 .c_sapi_Fact, .v 10 .c_i64] .n)) .n)) [K78] (by kernel_rfl) (by kernel_rfl) (fun _ => rfl) fun x => by kernel_rfl
def K38 : Kn Tryz.prog VV := mk 38 Tryz.f38 ⟨[.ls .c_sapi_Fact, .v .c_i64], [.ow 82 .c_sapi_Fact]⟩ (fun x => b3t x.1 x.2.1) w1 u1 .n [f2q] (by kernel_rfl) (by kernel_rfl) (fun _ => rfl) fun x => by kernel_rfl
def K48 : Kn Tryz.prog VV := mk 48 Tryz.f48 ⟨[.v .c_i64], [.v .c_i64]⟩ (fun x => a1j x.1) w1 u1 .n [] (by kernel_rfl) (by kernel_rfl) (fun _ => rfl) fun x => by kernel_rfl
def K177 : Kn Tryz.prog VV := mk 177 Tryz.f177 ⟨[.v .c_i64], [.v .c_i64]⟩ (fun x => a3v x.1) w1 u1 .n [K105] (by kernel_rfl) (by kernel_rfl) (fun _ => rfl) fun x => by kernel_rfl
def K106 : Kn Tryz.prog VV := mk 106 Tryz.f106 ⟨[.v .c_i64], [.v .c_i64, .v .c_i64, .v .c_i64, .v .c_bool]⟩ (fun x => a8s x.1) (fun b => ((b.1, (b.2.1, (b.2.2.1, (b.2.2.2, ())))), ())) (fun p => (p.1.1, p.1.2.1, p.1.2.2.1, p.1.2.2.2.1)) (sk 3 (.s (.l [0] [] [.v 2 .c_i64] .n) (.s .n (.s .n (.s (.l [2] [] [.v 3 .c_i64, .v 6 .c_i64] .n) .n))))) [K47, K48, f7k, K177] (by kernel_rfl) (by kernel_rfl) (fun _ => rfl) fun x => by kernel_rfl
def K49 : Kn Tryz.prog VV := mk 49 Tryz.f49 ⟨[.v .c_i64], [.v .c_i64]⟩ (fun x => a5o x.1) w1 u1 .n [K106] (by kernel_rfl) (by kernel_rfl) (fun _ => rfl) fun x => by kernel_rfl
def K22 : Kn Tryz.prog VV := mk 22 Tryz.f22 ⟨[.v .c_i64, .v .c_i64, .v .c_i64], [.v .c_i64, .v .c_bool]⟩ (fun x => a6j x.1 x.2.1 x.2.2.1) w2 u2 (sk 3 (.s (.s .n (.l [0, 1] [] [.v 8 .c_i64, .v 9 .c_i64] .n)) .n)) [K47, K48] (by kernel_rfl) (by kernel_rfl) (fun _ => rfl) fun x => by kernel_rfl
def K41 : Kn Tryz.prog VV := mk 41 Tryz.f41 ⟨[.v .c_i64], [.v .c_i64, .v .c_bool]⟩ (fun x => a3u x.1) w2 u2 .n [K22, K83] (by kernel_rfl) (by kernel_rfl) (fun _ => rfl) fun x => by kernel_rfl
def K23 : Kn Tryz.prog VV := mk 23 Tryz.f23 ⟨[.v .c_sClaim], [.v .c_i64, .v .c_bool]⟩ (fun x => a0l x.1) w2 u2 (sk 3 (.j [] [.v 4 .c_i64] .n .n)) [K41, K49] (by kernel_rfl) (by kernel_rfl) (fun _ => rfl) fun x => by kernel_rfl
def K25 : Kn Tryz.prog VV := mk 25 Tryz.f25 ⟨[.v .c_sClaim], [.v .c_bool]⟩ (fun x => a2n x.1) w1 u1 (sk 2 (.j [] [.bx 1 1 52 .c_sClaim] (.s .n (.j [] [.bx 1 1 52 .c_sClaim, .v 34 .c_i64, .v 35 .c_bool] .n (.s .n (.j [] [.bx 1 1 52 .c_sClaim, .v 53 .c_bool] .n .n)))) .n)) [K23] (by kernel_rfl) (by kernel_rfl) (fun _ => rfl) fun x => by kernel_rfl
def K140 : Kn Tryz.prog VV := mk 140 Tryz.f140 ⟨[.v .c_u64], [.v .c_i64]⟩ (fun x => c1n x.1) w1 u1 .n [K227] (by kernel_rfl) (by kernel_rfl) (fun _ => rfl) fun x => by kernel_rfl
def K80 : Kn Tryz.prog VV := mk 80 Tryz.f80 ⟨[.v .c_sClaim, .v .c_sClaim], [.v .c_i64]⟩ (fun x => a34 x.1 x.2.1) w1 u1 .n [K94, K95] (by kernel_rfl) (by kernel_rfl) (fun _ => rfl) fun x => by kernel_rfl
def K81 : Kn Tryz.prog VV := mk 81 Tryz.f81 ⟨[.ow 52 .c_sClaim], [.ow 52 .c_sClaim]⟩ (fun x => a1o x.1) w1 u1 (sk 2 (.s (.s .n (.l [] [] [.ow 0 1 52 .c_sClaim, .v 3 .c_i64] (.s .n (.s (.s .n (.s (.s (.g [1002]) (.s (.s .n (.l [] [] [.ow 0 1 52 .c_sClaim, .v 3 .c_i64, .v 5 .c_i64, .vw 4 1 .c_sClaim] .n)) (.s (.g [1002]) (.s (.g [2002]) .n)))) .n)) .n)))) .n)) [] (by kernel_rfl) (by kernel_rfl) (fun _ => rfl) fun x => by kernel_rfl
def d9s : Kn Tryz.prog VV := mk 218 Tryz.f218 ⟨[.so 52 .c_sClaim, .v .c_i64, .v .c_i64, .cl 80 []], []⟩ (fun x => p7 x.1 x.2.1 x.2.2.1) (fun b => ((), (b, ()))) (fun p => p.2.1) (.s .n (.l [1, 2, 3] [] [.ow 0 0 52 .c_sClaim, .v 8 .c_i64] (.s .n (.s (.s .n (.l [1, 2, 3, 8] [] [.ow 0 0 52 .c_sClaim, .v 9 .c_i64] .n)) .n)))) [K80] (by kernel_rfl) (by kernel_rfl) (fun _ => rfl) fun x => by kernel_rfl
def b6e : Sig VV := ⟨[.so 52 .c_sClaim, .v .c_i64, .v .c_i64, .v .c_i64, .cl 80 []], []⟩
def c3g (R : Ring_slices_pdqsortCmpFunc_of_api_Claim_c_decision_compare) : Fent VV := ⟨b6e, List Claim, fun x => R.f_slices_pdqsortCmpFunc_of_api_Claim x.1 x.2.1 x.2.2.1 x.2.2.2.1, fun b => ((), (b, ()))⟩
def e0v : Fent VV := c3g (c7 FU)
def d08 : Ress VV b6e.rs × Outs VV b6e.ps -> List Claim := fun p => p.2.1
def c8w : Ann VV.C := (.s .n (.s .n (.l [4] [] [.ow 0 0 52 .c_sClaim, .v 1 .c_i64, .v 2 .c_i64, .v 3 .c_i64, .v 10 .c_bool, .v 11 .c_bool] (.s .n (.s .n (.s .n (.j [] [.ow 0 0 52 .c_sClaim, .v 1 .c_i64, .v 2 .c_i64, .v 3 .c_i64, .cl 4 80 [], .v 10 .c_bool, .v 11 .c_bool, .v 12 .c_i64] .n .n)))))))
def c7t (R : Ring_slices_pdqsortCmpFunc_of_api_Claim_c_decision_compare) : Phi VV := fun f ys => lkF f ys [d9s.e]
theorem d61 (R : Ring_slices_pdqsortCmpFunc_of_api_Claim_c_decision_compare) : OKΦ Tryz.prog (c7t R) := okl ⟨d9s.ok, trivial⟩
theorem d6y (R : Ring_slices_pdqsortCmpFunc_of_api_Claim_c_decision_compare) : ∀ x, c71 Tryz.prog (c7t R) b6e d08 Tryz.f139 c8w x = m5 R x.1 x.2.1 x.2.2.1 x.2.2.2.1 := fun x => by kernel_rfl
theorem c87 : c6y Tryz.f139 b6e = true := by kernel_rfl
theorem y3 : ∀ n, SX.Spec Tryz.prog 139 (c3g (c7 n))
  | 0 => (fun _ _ h => (by cases (show none = some _ from h)))
  | n + 1 => let h139 := y3 n; a6m (fe := c3g (c7 (n + 1))) uok (d61 (c7 n)) mixed (fn := Tryz.f139) (by kernel_rfl) d08 c8w (q0 c87).1 (q0 c87).2 (fun _ => rfl) (d6y (c7 n))
def e7s : Kn Tryz.prog VV := ⟨139, e0v, .inl ⟨(y3 FU), fun _ _ => by kernel_rfl⟩⟩
def f4g : Kn Tryz.prog VV := mk 79 Tryz.f79 ⟨[.so 52 .c_sClaim, .cl 80 []], []⟩ (fun x => m4 x.1) (fun b => ((), (b, ()))) (fun p => p.2.1) .n [e7s, K140] (by kernel_rfl) (by kernel_rfl) (fun _ => rfl) fun x => by kernel_rfl
def K39 : Kn Tryz.prog VV := mk 39 Tryz.f39 ⟨[.ls .c_sClaim], [.ow 52 .c_sClaim]⟩ (fun x => a6b x.1) w1 u1 (sk 2 (.s (.s .n (.l [6, 7] [] [.ow 3 1 52 .c_sClaim, .v 8 .c_i64] .n)) .n)) [K25, f4g, K81] (by kernel_rfl) (by kernel_rfl) (fun _ => rfl) fun x => by kernel_rfl
def K17 : Kn Tryz.prog VV := mk 17 Tryz.f17 ⟨[.v .c_sLaws, .ls .c_sapi_Fact, .ls .c_sClaim, .v .c_i64], [.bo 107 .c_sdecision_file]⟩ (fun x => a8j x.1 x.2.1 x.2.2.1 x.2.2.2.1) w1 u1 .n [K37, K38, K39] (by kernel_rfl) (by kernel_rfl) (fun _ => rfl) fun x => by kernel_rfl
def K18 : Kn Tryz.prog VV := mk 18 Tryz.f18 ⟨[.rp 107 .c_sdecision_file], [.v .c_i64, .v .c_bool]⟩ (fun x => a5a x.1) w2 u2 (sk 2 (.s (.s .n (.l [0, 13, 14] [] [.v 4 .c_i64, .v 5 .c_bool, .v 15 .c_i64] .n)) .n)) [K23] (by kernel_rfl) (by kernel_rfl) (fun _ => rfl) fun x => by kernel_rfl
def K107 : Kn Tryz.prog VV := mk 107 Tryz.f107 ⟨[.v .c_sClaim, .v .c_i64], [.v .c_bool]⟩ (fun x => b0m x.1 x.2.1) w1 u1 .n [K23] (by kernel_rfl) (by kernel_rfl) (fun _ => rfl) fun x => by kernel_rfl
def K109 : Kn Tryz.prog VV := mk 109 Tryz.f109 ⟨[.v .c_sClaim, .v .c_sClaim], [.v .c_i64]⟩ (fun x => b0z x.1 x.2.1) w1 u1 .n [K94, K95] (by kernel_rfl) (by kernel_rfl) (fun _ => rfl) fun x => by kernel_rfl
def e44 : Kn Tryz.prog VV := mk 218 Tryz.f218 ⟨[.so 52 .c_sClaim, .v .c_i64, .v .c_i64, .cl 109 []], []⟩ (fun x => o9 x.1 x.2.1 x.2.2.1) (fun b => ((), (b, ()))) (fun p => p.2.1) (.s .n (.l [1, 2, 3] [] [.ow 0 0 52 .c_sClaim, .v 8 .c_i64] (.s .n (.s (.s .n (.l [1, 2, 3, 8] [] [.ow 0 0 52 .c_sClaim, .v 9 .c_i64] .n)) .n)))) [K109] (by kernel_rfl) (by kernel_rfl) (fun _ => rfl) fun x => by kernel_rfl
def e2d : Kn Tryz.prog VV := mk 178 Tryz.f178 ⟨[.so 52 .c_sClaim, .v .c_i64, .cl 109 []], []⟩ (fun x => a06 x.1 x.2.1) (fun b => ((), (b, ()))) (fun p => p.2.1) (sk 2 (.s (.l [1, 2, 6] [] [.ow 0 0 52 .c_sClaim, .v 7 .c_i64, .v 8 .c_i64] .n) (.s .n (.l [1, 2] [] [.ow 0 0 52 .c_sClaim, .v 6 .c_i64] (.s .n (.s .n (.s (.l [1, 2, 6] [] [.ow 0 0 52 .c_sClaim, .v 7 .c_i64, .v 8 .c_i64] .n) .n))))))) [e44] (by kernel_rfl) (by kernel_rfl) (fun _ => rfl) fun x => by kernel_rfl
def e4y : Kn Tryz.prog VV := mk 108 Tryz.f108 ⟨[.so 52 .c_sClaim, .cl 109 []], []⟩ (fun x => a00 x.1) (fun b => ((), (b, ()))) (fun p => p.2.1) .n [e2d] (by kernel_rfl) (by kernel_rfl) (fun _ => rfl) fun x => by kernel_rfl
def K50 : Kn Tryz.prog VV := mk 50 Tryz.f50 ⟨[.ls .c_sClaim, .v .c_i64, .v .c_i64], [.ow 52 .c_sClaim]⟩ (fun x => a8m x.1 x.2.1 x.2.2.1) w1 u1 (sk 4 (.s (.s .n (.l [1, 2, 12, 13] [] [.ow 7 3 52 .c_sClaim, .bx 8 4 181 .c_A6_bool, .bx 9 5 182 .c_A100_bool, .v 14 .c_i64] .n)) .n)) [K107, e4y] (by kernel_rfl) (by kernel_rfl) (fun _ => rfl) fun x => by kernel_rfl
def K96 : Kn Tryz.prog VV := mk 96 Tryz.f96 ⟨[.rp 107 .c_sdecision_file, .v .c_i64, .v .c_i64], [.ow 52 .c_sClaim]⟩ (fun x => a9a x.1 x.2.1 x.2.2.1) w1 u1 (sk 2 (.s (.s .n (.l [1, 20] [] [.ow 7 3 52 .c_sClaim, .ow 19 4 52 .c_sClaim, .v 21 .c_i64] .n)) .n)) [K50] (by kernel_rfl) (by kernel_rfl) (fun _ => rfl) fun x => by kernel_rfl
def K267 : Kn Tryz.prog VV := mk 267 Tryz.f267 ⟨[.v .c_sapi_Fact], [.v .c_bool]⟩ (fun x => b3i x.1) w1 u1 .n [f5f] (by kernel_rfl) (by kernel_rfl) (fun _ => rfl) fun x => by kernel_rfl
def K265 : Kn Tryz.prog VV := mk 265 Tryz.f265 ⟨[.ls .c_sapi_Fact, .v .c_i64], [.v .c_i64, .v .c_bool]⟩ (fun x => c16 x.1 x.2.1) w2 u2 (sk 2 (.s (.s .n (.l [1, 10, 11] [] [.v 6 .c_i64, .v 7 .c_bool, .v 12 .c_i64] .n)) .n)) [K267] (by kernel_rfl) (by kernel_rfl) (fun _ => rfl) fun x => by kernel_rfl
def K163 : Kn Tryz.prog VV := mk 163 Tryz.f163 ⟨[.ls .c_sapi_Fact], [.v .c_i64, .v .c_bool]⟩ (fun x => b5w x.1) w2 u2 .n [K265] (by kernel_rfl) (by kernel_rfl) (fun _ => rfl) fun x => by kernel_rfl
def K97 : Kn Tryz.prog VV := mk 97 Tryz.f97 ⟨[.rp 107 .c_sdecision_file, .v .c_i64], [.v .c_bool]⟩ (fun x => b2g x.1 x.2.1) w1 u1 .n [K163] (by kernel_rfl) (by kernel_rfl) (fun _ => rfl) fun x => by kernel_rfl
def e91 : Kn Tryz.prog VV := mk 77 Tryz.f77 ⟨[.ls .c_sapi_Fact, .cl 267 []], [.ow 82 .c_sapi_Fact]⟩ (fun x => a52 x.1) w1 u1 (sk 2 (.s (.s .n (.l [1, 8, 9] [] [.ow 5 2 82 .c_sapi_Fact, .v 10 .c_i64] .n)) .n)) [K267] (by kernel_rfl) (by kernel_rfl) (fun _ => rfl) fun x => by kernel_rfl
def K165 : Kn Tryz.prog VV := mk 165 Tryz.f165 ⟨[.ls .c_sapi_Fact], [.ow 82 .c_sapi_Fact]⟩ (fun x => b73 x.1) w1 u1 .n [e91] (by kernel_rfl) (by kernel_rfl) (fun _ => rfl) fun x => by kernel_rfl
def K242 : Kn Tryz.prog VV := mk 242 Tryz.f242 ⟨[.ls .c_sapi_Fact], [.ow 82 .c_sapi_Fact]⟩ (fun x => c0r x.1) w1 u1 .n [K37, K165] (by kernel_rfl) (by kernel_rfl) (fun _ => rfl) fun x => by kernel_rfl
def K328 : Kn Tryz.prog VV := mk 328 Tryz.f328 ⟨[.ls .c_sapi_Fact, .v .c_i64, .v .c_i64], [.v .c_bool]⟩ (fun x => b2k x.1 x.2.1 x.2.2.1) w1 u1 .n [K38, K163] (by kernel_rfl) (by kernel_rfl) (fun _ => rfl) fun x => by kernel_rfl
def K391 : Kn Tryz.prog VV := mk 391 Tryz.f391 ⟨[.v .c_sapi_Fact, .rp 3 .c_i64, .rp 3 .c_i64], [.v .c_bool]⟩ (fun x => b6b x.1 x.2.1 x.2.2.1) w1 u1 .n [] (by kernel_rfl) (by kernel_rfl) (fun _ => rfl) fun x => by kernel_rfl
def e3q : Kn Tryz.prog VV := mk 266 Tryz.f266 ⟨[.ls .c_sapi_Fact, .cl 391 [.c_i64, .c_i64]], [.v .c_i64]⟩ (fun x => a18 x.1 x.2.1.1 x.2.1.2.1) w1 u1 (.s .n (.s (.s .n (.l [0, 1, 7] [] [.v 8 .c_i64] .n)) .n)) [K391] (by kernel_rfl) (by kernel_rfl) (fun _ => rfl) fun x => by kernel_rfl
def e1r : Kn Tryz.prog VV := mk 164 Tryz.f164 ⟨[.ls .c_sapi_Fact, .cl 391 [.c_i64, .c_i64]], [.v .c_bool]⟩ (fun x => a0s x.1 x.2.1.1 x.2.1.2.1) w1 u1 .n [e3q] (by kernel_rfl) (by kernel_rfl) (fun _ => rfl) fun x => by kernel_rfl
def K329 : Kn Tryz.prog VV := mk 329 Tryz.f329 ⟨[.ls .c_sapi_Fact, .v .c_i64, .v .c_i64], [.v .c_bool]⟩ (fun x => b9s x.1 x.2.1 x.2.2.1) w1 u1 .n [e1r] (by kernel_rfl) (by kernel_rfl) (fun _ => rfl) fun x => by kernel_rfl
def K243 : Kn Tryz.prog VV := mk 243 Tryz.f243 ⟨[.ls .c_sapi_Fact, .v .c_i64, .v .c_i64], [.ow 3 .c_i64]⟩ (fun x => b72 x.1 x.2.1 x.2.2.1) w1 u1 (sk 3 (.s (.s .n (.l [0, 1, 2] [] [.ow 7 3 3 .c_i64, .v 8 .c_i64] (.s .n (.s (.s (.g [3]) .n) .n)))) .n)) [K38, K328, K329] (by kernel_rfl) (by kernel_rfl) (fun _ => rfl) fun x => by kernel_rfl
def K176 : Kn Tryz.prog VV := mk 176 Tryz.f176 ⟨[.ls .c_sapi_Fact, .v .c_i64, .v .c_i64], [.ow 3 .c_i64]⟩ (fun x => b7d x.1 x.2.1 x.2.2.1) w1 u1 .n [K242, K243] (by kernel_rfl) (by kernel_rfl) (fun _ => rfl) fun x => by kernel_rfl
def K104 : Kn Tryz.prog VV := mk 104 Tryz.f104 ⟨[.ls .c_i64, .v .c_i64], [.v .c_i64]⟩ (fun x => b2d x.1 x.2.1) w1 u1 (.s .n (.s (.s .n (.l [0, 1, 7] [] [.v 8 .c_i64] .n)) .n)) [] (by kernel_rfl) (by kernel_rfl) (fun _ => rfl) fun x => by kernel_rfl
def K45 : Kn Tryz.prog VV := mk 45 Tryz.f45 ⟨[.ls .c_i64, .v .c_i64], [.v .c_bool]⟩ (fun x => a97 x.1 x.2.1) w1 u1 .n [K104] (by kernel_rfl) (by kernel_rfl) (fun _ => rfl) fun x => by kernel_rfl
def K103 : Kn Tryz.prog VV := mk 103 Tryz.f103 ⟨[.rp 107 .c_sdecision_file, .v .c_i64, .v .c_i64], [.v .c_bool]⟩ (fun x => b1a x.1 x.2.1 x.2.2.1) w1 u1 .n [K45, K176] (by kernel_rfl) (by kernel_rfl) (fun _ => rfl) fun x => by kernel_rfl
def K102 : Kn Tryz.prog VV := mk 102 Tryz.f102 ⟨[.v .c_sClaim, .rp 55 .c_psdecision_file, .rp 3 .c_i64], [.v .c_bool]⟩ (fun x => a84 x.1 x.2.1 x.2.2.1) w1 u1 .n [K103] (by kernel_rfl) (by kernel_rfl) (fun _ => rfl) fun x => by kernel_rfl
def e1y : Kn Tryz.prog VV := mk 175 Tryz.f175 ⟨[.ls .c_sClaim, .cl 102 [.c_psdecision_file, .c_i64]], [.v .c_i64]⟩ (fun x => a05 x.1 x.2.1.1 x.2.1.2.1) w1 u1 (.s .n (.s (.s .n (.l [0, 1, 7] [] [.v 8 .c_i64] .n)) .n)) [K102] (by kernel_rfl) (by kernel_rfl) (fun _ => rfl) fun x => by kernel_rfl
def e47 : Kn Tryz.prog VV := mk 101 Tryz.f101 ⟨[.ls .c_sClaim, .cl 102 [.c_psdecision_file, .c_i64]], [.v .c_bool]⟩ (fun x => y8 x.1 x.2.1.1 x.2.1.2.1) w1 u1 .n [e1y] (by kernel_rfl) (by kernel_rfl) (fun _ => rfl) fun x => by kernel_rfl
def K44 : Kn Tryz.prog VV := mk 44 Tryz.f44 ⟨[.rp 107 .c_sdecision_file, .v .c_i64, .v .c_i64, .v .c_i64], [.v .c_bool]⟩ (fun x => a95 x.1 x.2.1 x.2.2.1 x.2.2.2.1) w1 u1 .n [K96, K97, e47] (by kernel_rfl) (by kernel_rfl) (fun _ => rfl) fun x => by kernel_rfl
def K7 : Kn Tryz.prog VV := mk 7 Tryz.f7 ⟨[.v .c_sLaws, .ls .c_sapi_Fact, .ls .c_sClaim, .v .c_i64, .v .c_i64], [.ow 74 .c_sRow, .v .c_i64]⟩ (fun x => a16 x.1 x.2.1 x.2.2.1 x.2.2.2.1 x.2.2.2.2.1) w2 u2 .n [K16, K17, K18] (by kernel_rfl) (by kernel_rfl) (fun _ => rfl) fun x => by kernel_rfl
def K24 : Kn Tryz.prog VV := mk 24 Tryz.f24 ⟨[.ls .c_sClaim, .v .c_i64, .v .c_i64], [.ow 52 .c_sClaim]⟩ (fun x => b5o x.1 x.2.1 x.2.2.1) w1 u1 .n [K39, K50] (by kernel_rfl) (by kernel_rfl) (fun _ => rfl) fun x => by kernel_rfl
def K26 : Kn Tryz.prog VV := mk 26 Tryz.f26 ⟨[.ls .c_sapi_Fact, .ls .c_sClaim, .v .c_i64, .v .c_i64, .v .c_i64], [.v .c_bool]⟩ (fun x => a9i x.1 x.2.1 x.2.2.1 x.2.2.2.1 x.2.2.2.2.1) w1 u1 (sk 2 (.s (.g [1]) .n)) [K17, K41, K44] (by kernel_rfl) (by kernel_rfl) (fun _ => rfl) fun x => by kernel_rfl
def K8 : Kn Tryz.prog VV := mk 8 Tryz.f8 ⟨[], [.v .c_bool]⟩ (fun x => a8g) w1 u1 (sk 5 (.s (.g [21, 26]) .n)) [K22, K23, K24, K25, K26] (by kernel_rfl) (by kernel_rfl) (fun _ => rfl) fun x => by kernel_rfl
def f0p : Sig VV := ⟨[.v .c_spensionlaw26_Seeds, .v .c_i64, .v .c_i64, .v .c_i64], [.v .c_bool]⟩
def fe_3 : Fent VV := ⟨f0p, Bool, fun x => a24 x.1 x.2.1 x.2.2.1 x.2.2.2.1, fun b => ((b, ()), ())⟩
def un_3 : Ress VV f0p.rs × Outs VV f0p.ps -> Bool := fun p => p.1.1
def an_3 : Ann VV.C := .n
theorem ok_3 : SX.Spec Tryz.prog 3 fe_3 := a6m (fe := fe_3) uok (okl (f5u [K4, K5, K6, K7, K8])) mixed (fn := Tryz.f3) (by kernel_rfl) un_3 an_3 (q0 (s := f0p) (by kernel_rfl)).1 (q0 (s := f0p) (by kernel_rfl)).2 (fun _ => rfl) fun x => by kernel_rfl
end
end Go.PL
