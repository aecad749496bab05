/- Texts of the proof, joined. -/
import Derived.Test.YtnhmmgnpmjfjoaaGreatDoorP6
import Derived.Test.YtnhmmgnpmjfjoaaGreatDoorProg
import Derived.KernelRfl
import Derived.Shelf.Strconv.Itoa3
import Derived.Shelf.SlSortFuncK.WholeK
import Derived.Shelf.SlSortFuncK.RowK2
import Derived.Shelf.GgSortFunc.Tiny
set_option linter.unusedVariables false
set_option linter.unusedSimpArgs false
set_option maxRecDepth 100000
namespace Go.PL
open Go Go.SX
inductive TyC where
 | z9
 | zw
 | zv
 | zh
 | zk
 | zm
 | yi
 | zj
 | zo
 | zl
 | zt
 | y6
 | z8
 | y5
 | y2
 | zf
 | yl
 | zz
 | z2
 | y3
 | yf
 | yk
 | ye
 | y1
 | y0
 | zs
 | zn
 | yh
 | yj
 | z1
 | z0
 | zc
 | y7
 | z6
 | yd
 | y8
 | ze
 | y9
 | zg
 | z5
 | z4
 | y4
 | zu
 | zi
 | yg
 | yc
 | zx
 | zy
 | zp
 | zr
 | ya
 | yb
 | zb
 | zd
 | z7
 | z3
 | za
 | zq
deriving DecidableEq
@[reducible] def TyC.T:TyC -> Type
  | .z9=>Int
  | .zw=>Rules
  | .zv=>Rounding
  | .zh=>Credit
  | .zk=>Fraction
  | .zm=>Index
  | .yi=>ByteArray
  | .zj=>Expr
  | .zo=>Let
  | .zl=>Grant
  | .zt=>Reduce
  | .y6=>Version
  | .z8=>Bool
  | .y5=>Value
  | .y2=>Step
  | .zf=>Binding
  | .yl=>Int
  | .zz=>Span
  | .z2=>Ar 3 ByteArray
  | .y3=>Token
  | .yf=>pensionref5_reader
  | .yk=>Int
  | .ye=>pensionref1_wide
  | .y1=>Statute
  | .y0=>State
  | .zs=>Rate
  | .zn=>Laws
  | .yh=>syntax_entry
  | .yj=>Int
  | .z1=>Ar 2 Int
  | .z0=>Ar 12 Int
  | .zc=>List Span
  | .y7=>View
  | .z6=>Ar 7 Int
  | .yd=>eval_evaluator
  | .y8=>api_Fact
  | .ze=>Award
  | .y9=>award_bench
  | .zg=>Counted
  | .z5=>Ar 6 Int
  | .z4=>Ar 6 Bool
  | .y4=>Total
  | .zu=>Result
  | .zi=>Earning
  | .yg=>rational_wide
  | .yc=>earnings_income
  | .zx=>Scheme
  | .zy=>Segment
  | .zp=>Period
  | .zr=>Posting
  | .ya=>competence_life
  | .yb=>competence_route
  | .zb=>List Period
  | .zd=>Anon307
  | .z7=>Ar 7 (List Span)
  | .z3=>Ar 6 (Ar 7 (List Span))
  | .za=>List Counted
  | .zq=>Piece
abbrev VA:=AV TyC TyC.T
def dT:DecidableEq TyC:=inferInstance
def e8i:Int -> List VA:=fun x=>[.int .i64 x]
def e9n:List VA -> Option Int:=mkS (gI .i64) fun x0=>mkE x0
def c9m:Rules -> List VA:=fun x=>[.int .i64 x.From,.int .i64 x.MinDays,.int .i64 x.PostingLimit,.int .i64 x.Substantial,.list .z9 x.Members]
def d0m:List VA -> Option Rules:=mkS (gI .i64) fun x0=>mkS (gI .i64) fun x1=>mkS (gI .i64) fun x2=>mkS (gI .i64) fun x3=>mkS (SX.gL dT .z9) fun x4=>mkE (⟨x0,x1,x2,x3,x4⟩:Rules)
def c19:Rounding -> List VA:=fun x=>[.int .i64 x.Mode,.int .i64 x.Unit]
def c0v:List VA -> Option Rounding:=mkS (gI .i64) fun x0=>mkS (gI .i64) fun x1=>mkE (⟨x0,x1⟩:Rounding)
def c6o:Credit -> List VA:=fun x=>[.int .i64 x.Kind,.int .i64 x.Limit]
def c5n:List VA -> Option Credit:=mkS (gI .i64) fun x0=>mkS (gI .i64) fun x1=>mkE (⟨x0,x1⟩:Credit)
def c0w:Fraction -> List VA:=fun x=>[.int .i64 x.Num,.int .i64 x.Den]
def c1d:List VA -> Option Fraction:=mkS (gI .i64) fun x0=>mkS (gI .i64) fun x1=>mkE (⟨x0,x1⟩:Fraction)
def d1h:Index -> List VA:=fun x=>[.int .i64 x.Year,.val .zk x.Factor]
def d0p:List VA -> Option Index:=mkS (gI .i64) fun x0=>mkS (gV dT .zk) fun x1=>mkE (⟨x0,x1⟩:Index)
def e9j:ByteArray -> List VA:=fun x=>[.str x]
def e7i:List VA -> Option ByteArray:=mkS (gS) fun x0=>mkE x0
def d4h:Expr -> List VA:=fun x=>[.int .i64 x.Op,.val .zk x.Value,.int .i64 x.Dim,.str x.Name,.list .zj x.Args]
def d3t:List VA -> Option Expr:=mkS (gI .i64) fun x0=>mkS (gV dT .zk) fun x1=>mkS (gI .i64) fun x2=>mkS (gS) fun x3=>mkS (SX.gL dT .zj) fun x4=>mkE (⟨x0,x1,x2,x3,x4⟩:Expr)
def d9b:Let -> List VA:=fun x=>[.str x.Name,.val .zj x.Body]
def e0u:List VA -> Option Let:=mkS (gS) fun x0=>mkS (gV dT .zj) fun x1=>mkE (⟨x0,x1⟩:Let)
def d1b:Grant -> List VA:=fun x=>[.int .i64 x.Benefit,.val .zj x.If,.val .zj x.Pay]
def c8u:List VA -> Option Grant:=mkS (gI .i64) fun x0=>mkS (gV dT .zj) fun x1=>mkS (gV dT .zj) fun x2=>mkE (⟨x0,x1,x2⟩:Grant)
def c57:Reduce -> List VA:=fun x=>[.int .i64 x.Benefit,.val .zj x.By]
def c6d:List VA -> Option Reduce:=mkS (gI .i64) fun x0=>mkS (gV dT .zj) fun x1=>mkE (⟨x0,x1⟩:Reduce)
def c3v:Version -> List VA:=fun x=>[.int .i64 x.From,.val .zv x.Rounding,.list .zh x.Credits,.list .zm x.Series,.list .zo x.Lets,.list .zl x.Grants,.list .zt x.Reduces]
def c40:List VA -> Option Version:=mkS (gI .i64) fun x0=>mkS (gV dT .zv) fun x1=>mkS (SX.gL dT .zh) fun x2=>mkS (SX.gL dT .zm) fun x3=>mkS (SX.gL dT .zo) fun x4=>mkS (SX.gL dT .zl) fun x5=>mkS (SX.gL dT .zt) fun x6=>mkE (⟨x0,x1,x2,x3,x4,x5,x6⟩:Version)
def e0n:Bool -> List VA:=fun x=>[.bool x]
def e33:List VA -> Option Bool:=mkS (gB) fun x0=>mkE x0
def d1s:Value -> List VA:=fun x=>[.int .i64 x.Dim,.bool x.Yes,.val .zk x.Num]
def c9b:List VA -> Option Value:=mkS (gI .i64) fun x0=>mkS (gB) fun x1=>mkS (gV dT .zk) fun x2=>mkE (⟨x0,x1,x2⟩:Value)
def d4q:Step -> List VA:=fun x=>[.str x.Name,.val .y5 x.Value]
def d5u:List VA -> Option Step:=mkS (gS) fun x0=>mkS (gV dT .y5) fun x1=>mkE (⟨x0,x1⟩:Step)
def c4b:Binding -> List VA:=fun x=>[.str x.Name,.int .i64 x.Dim]
def c41:List VA -> Option Binding:=mkS (gS) fun x0=>mkS (gI .i64) fun x1=>mkE (⟨x0,x1⟩:Binding)
def f6u:Int -> List VA:=fun x=>[.int .u8 x]
def f6e:List VA -> Option Int:=mkS (gI .u8) fun x0=>mkE x0
def d5i:Span -> List VA:=fun x=>[.int .i64 x.From,.int .i64 x.To]
def d45:List VA -> Option Span:=mkS (gI .i64) fun x0=>mkS (gI .i64) fun x1=>mkE (⟨x0,x1⟩:Span)
def c9r:Ar 3 ByteArray -> List VA:=fun x=>x.l.map fun y=> .str y
def d08:List VA -> Option (Ar 3 ByteArray):=mkA (gS) 3
def d13:Token -> List VA:=fun x=>[.int .i64 x.Kind,.str x.Text,.int .i64 x.At]
def c8t:List VA -> Option Token:=mkS (gI .i64) fun x0=>mkS (gS) fun x1=>mkS (gI .i64) fun x2=>mkE (⟨x0,x1,x2⟩:Token)
def a9c:pensionref5_reader -> List VA:=fun x=>[.list .y3 x.l,.int .i64 x.at_,.int .i64 x.end_,.bool x.bad]
def a9g:List VA -> Option pensionref5_reader:=mkS (SX.gL dT .y3) fun x0=>mkS (gI .i64) fun x1=>mkS (gI .i64) fun x2=>mkS (gB) fun x3=>mkE (⟨x0,x1,x2,x3⟩:pensionref5_reader)
def e93:Int -> List VA:=fun x=>[.int .u64 x]
def e8h:List VA -> Option Int:=mkS (gI .u64) fun x0=>mkE x0
def b0w:pensionref1_wide -> List VA:=fun x=>[.int .u64 x.hi,.int .u64 x.lo]
def b0y:List VA -> Option pensionref1_wide:=mkS (gI .u64) fun x0=>mkS (gI .u64) fun x1=>mkE (⟨x0,x1⟩:pensionref1_wide)
def c3g:Statute -> List VA:=fun x=>[.str x.Name,.int .i64 x.Currency,.list .y6 x.Versions]
def c43:List VA -> Option Statute:=mkS (gS) fun x0=>mkS (gI .i64) fun x1=>mkS (SX.gL dT .y6) fun x2=>mkE (⟨x0,x1,x2⟩:Statute)
def c98:State -> List VA:=fun x=>[.int .i64 x.State,.val .y1 x.Statute]
def d0o:List VA -> Option State:=mkS (gI .i64) fun x0=>mkS (gV dT .y1) fun x1=>mkE (⟨x0,x1⟩:State)
def d3s:Rate -> List VA:=fun x=>[.int .i64 x.Currency,.int .i64 x.Month,.val .zk x.Value]
def d4l:List VA -> Option Rate:=mkS (gI .i64) fun x0=>mkS (gI .i64) fun x1=>mkS (gV dT .zk) fun x2=>mkE (⟨x0,x1,x2⟩:Rate)
def d4u:Laws -> List VA:=fun x=>[.list .y0 x.States,.list .zw x.Treaty,.list .zs x.Rates]
def d4z:List VA -> Option Laws:=mkS (SX.gL dT .y0) fun x0=>mkS (SX.gL dT .zw) fun x1=>mkS (SX.gL dT .zs) fun x2=>mkE (⟨x0,x1,x2⟩:Laws)
def b4z:syntax_entry -> List VA:=fun x=>[.str x.name,.int .i64 x.number]
def b4t:List VA -> Option syntax_entry:=mkS (gS) fun x0=>mkS (gI .i64) fun x1=>mkE (⟨x0,x1⟩:syntax_entry)
def e7v:Int -> List VA:=fun x=>[.int .u32 x]
def e8q:List VA -> Option Int:=mkS (gI .u32) fun x0=>mkE x0
def d07:Ar 2 Int -> List VA:=fun x=>x.l.map fun y=> .int .i64 y
def d0e:List VA -> Option (Ar 2 Int):=mkA (gI .i64) 2
def c5v:Ar 12 Int -> List VA:=fun x=>x.l.map fun y=> .int .i64 y
def c67:List VA -> Option (Ar 12 Int):=mkA (gI .i64) 12
def d06:List Span -> List VA:=fun x=>[.list .zz x]
def d1a:List VA -> Option (List Span):=mkS (SX.gL dT .zz) fun x0=>mkE x0
def d5c:View -> List VA:=fun x=>[.int .i64 x.Age,.int .i64 x.Year,.int .i64 x.Children,.int .i64 x.Insured,.int .i64 x.Worked,.int .i64 x.Voluntary,.int .i64 x.Service,.int .i64 x.Equated,.int .i64 x.Raising,.int .i64 x.Resident,.val .zk x.Base,.list .z9 x.Years]
def d3v:List VA -> Option View:=mkS (gI .i64) fun x0=>mkS (gI .i64) fun x1=>mkS (gI .i64) fun x2=>mkS (gI .i64) fun x3=>mkS (gI .i64) fun x4=>mkS (gI .i64) fun x5=>mkS (gI .i64) fun x6=>mkS (gI .i64) fun x7=>mkS (gI .i64) fun x8=>mkS (gI .i64) fun x9=>mkS (gV dT .zk) fun x10=>mkS (SX.gL dT .z9) fun x11=>mkE (⟨x0,x1,x2,x3,x4,x5,x6,x7,x8,x9,x10,x11⟩:View)
def d1j:Ar 7 Int -> List VA:=fun x=>x.l.map fun y=> .int .i64 y
def d11:List VA -> Option (Ar 7 Int):=mkA (gI .i64) 7
def b2g:eval_evaluator -> List VA:=fun x=>[.val .y7 x.view,.list .y2 x.steps]
def b2q:List VA -> Option eval_evaluator:=mkS (gV dT .y7) fun x0=>mkS (SX.gL dT .y2) fun x1=>mkE (⟨x0,x1⟩:eval_evaluator)
def c17:api_Fact -> List VA:=fun x=>[.int .i64 x.Issuer,.int .i64 x.Number,.int .i64 x.Version,.bool x.Withdrawn,.int .i64 x.Person,.int .i64 x.Kind,.int .i64 x.State,.val .zz x.Span,.int .i64 x.Seat,.int .i64 x.Share,.int .i64 x.Currency,.int .i64 x.Amount,.int .i64 x.Ref]
def c18:List VA -> Option api_Fact:=mkS (gI .i64) fun x0=>mkS (gI .i64) fun x1=>mkS (gI .i64) fun x2=>mkS (gB) fun x3=>mkS (gI .i64) fun x4=>mkS (gI .i64) fun x5=>mkS (gI .i64) fun x6=>mkS (gV dT .zz) fun x7=>mkS (gI .i64) fun x8=>mkS (gI .i64) fun x9=>mkS (gI .i64) fun x10=>mkS (gI .i64) fun x11=>mkS (gI .i64) fun x12=>mkE (⟨x0,x1,x2,x3,x4,x5,x6,x7,x8,x9,x10,x11,x12⟩:api_Fact)
def c8z:Award -> List VA:=fun x=>[.int .i64 x.State,.int .i64 x.Benefit,.int .i64 x.Day,.int .i64 x.Code,.bool x.Few,.int .i64 x.Independent,.int .i64 x.Theoretical,.int .i64 x.ProRata,.int .i64 x.Num,.int .i64 x.Den,.int .i64 x.Amount,.list .y2 x.Steps]
def d04:List VA -> Option Award:=mkS (gI .i64) fun x0=>mkS (gI .i64) fun x1=>mkS (gI .i64) fun x2=>mkS (gI .i64) fun x3=>mkS (gB) fun x4=>mkS (gI .i64) fun x5=>mkS (gI .i64) fun x6=>mkS (gI .i64) fun x7=>mkS (gI .i64) fun x8=>mkS (gI .i64) fun x9=>mkS (gI .i64) fun x10=>mkS (SX.gL dT .y2) fun x11=>mkE (⟨x0,x1,x2,x3,x4,x5,x6,x7,x8,x9,x10,x11⟩:Award)
def b5d:award_bench -> List VA:=fun x=>[.val .zn x.laws,.int .i64 x.day,.val .zw x.rules]
def b62:List VA -> Option award_bench:=mkS (gV dT .zn) fun x0=>mkS (gI .i64) fun x1=>mkS (gV dT .zw) fun x2=>mkE (⟨x0,x1,x2⟩:award_bench)
def c4f:Counted -> List VA:=fun x=>[.val .zz x.Span,.int .i64 x.State,.int .i64 x.Rank]
def c3z:List VA -> Option Counted:=mkS (gV dT .zz) fun x0=>mkS (gI .i64) fun x1=>mkS (gI .i64) fun x2=>mkE (⟨x0,x1,x2⟩:Counted)
def d0u:Ar 6 Int -> List VA:=fun x=>x.l.map fun y=> .int .i64 y
def c9e:List VA -> Option (Ar 6 Int):=mkA (gI .i64) 6
def c4y:Ar 6 Bool -> List VA:=fun x=>x.l.map fun y=> .bool y
def c6k:List VA -> Option (Ar 6 Bool):=mkA (gB) 6
def c9z:Total -> List VA:=fun x=>[.val .z5 x.Own,.val .z4 x.Few,.int .i64 x.Sum,.int .i64 x.Base,.int .i64 x.Last]
def d0a:List VA -> Option Total:=mkS (gV dT .z5) fun x0=>mkS (gV dT .z4) fun x1=>mkS (gI .i64) fun x2=>mkS (gI .i64) fun x3=>mkS (gI .i64) fun x4=>mkE (⟨x0,x1,x2,x3,x4⟩:Total)
def c63:Result -> List VA:=fun x=>[.bool x.Holds,.val .zk x.Pay,.list .y2 x.Steps]
def c6c:List VA -> Option Result:=mkS (gB) fun x0=>mkS (gV dT .zk) fun x1=>mkS (SX.gL dT .y2) fun x2=>mkE (⟨x0,x1,x2⟩:Result)
def c2w:Earning -> List VA:=fun x=>[.int .i64 x.Year,.int .i64 x.Amount]
def c2k:List VA -> Option Earning:=mkS (gI .i64) fun x0=>mkS (gI .i64) fun x1=>mkE (⟨x0,x1⟩:Earning)
def b3a:rational_wide -> List VA:=fun x=>[.int .u64 x.hi,.int .u64 x.lo]
def b37:List VA -> Option rational_wide:=mkS (gI .u64) fun x0=>mkS (gI .u64) fun x1=>mkE (⟨x0,x1⟩:rational_wide)
def b21:earnings_income -> List VA:=fun x=>[.val .y8 x.fact,.list .zz x.days]
def b1v:List VA -> Option earnings_income:=mkS (gV dT .y8) fun x0=>mkS (SX.gL dT .zz) fun x1=>mkE (⟨x0,x1⟩:earnings_income)
def c5l:Scheme -> List VA:=fun x=>[.int .i64 x.State,.val .y6 x.Version]
def c5y:List VA -> Option Scheme:=mkS (gI .i64) fun x0=>mkS (gV dT .y6) fun x1=>mkE (⟨x0,x1⟩:Scheme)
def c33:Segment -> List VA:=fun x=>[.val .zz x.Span,.int .i64 x.State,.int .i64 x.Rule]
def c2y:List VA -> Option Segment:=mkS (gV dT .zz) fun x0=>mkS (gI .i64) fun x1=>mkS (gI .i64) fun x2=>mkE (⟨x0,x1,x2⟩:Segment)
def c68:Period -> List VA:=fun x=>[.int .i64 x.State,.int .i64 x.Rank,.val .zz x.Span]
def c5x:List VA -> Option Period:=mkS (gI .i64) fun x0=>mkS (gI .i64) fun x1=>mkS (gV dT .zz) fun x2=>mkE (⟨x0,x1,x2⟩:Period)
def c35:Posting -> List VA:=fun x=>[.int .i64 x.Seat,.int .i64 x.State,.val .zz x.Span]
def c3n:List VA -> Option Posting:=mkS (gI .i64) fun x0=>mkS (gI .i64) fun x1=>mkS (gV dT .zz) fun x2=>mkE (⟨x0,x1,x2⟩:Posting)
def b29:competence_life -> List VA:=fun x=>[.list .y8 x.facts,.val .zz x.span,.list .zr x.postings,.list .zw x.rules]
def b1t:List VA -> Option competence_life:=mkS (SX.gL dT .y8) fun x0=>mkS (gV dT .zz) fun x1=>mkS (SX.gL dT .zr) fun x2=>mkS (SX.gL dT .zw) fun x3=>mkE (⟨x0,x1,x2,x3⟩:competence_life)
def b0p:competence_route -> List VA:=fun x=>[.int .i64 x.seat,.int .i64 x.state]
def b10:List VA -> Option competence_route:=mkS (gI .i64) fun x0=>mkS (gI .i64) fun x1=>mkE (⟨x0,x1⟩:competence_route)
def c4c:List Period -> List VA:=fun x=>[.list .zp x]
def c3y:List VA -> Option (List Period):=mkS (SX.gL dT .zp) fun x0=>mkE x0
def c48:Anon307 -> List VA:=fun x=>[.int .i64 x.kind,.int .i64 x.rank]
def c4o:List VA -> Option Anon307:=mkS (gI .i64) fun x0=>mkS (gI .i64) fun x1=>mkE (⟨x0,x1⟩:Anon307)
def c1b:Ar 7 (List Span) -> List VA:=fun x=>x.l.map fun y=> .list .zz y
def c1a:List VA -> Option (Ar 7 (List Span)):=mkA (SX.gL dT .zz) 7
def b53:Ar 6 (Ar 7 (List Span)) -> List VA:=fun x=>x.l.map fun y=> .val .z7 y
def b5m:List VA -> Option (Ar 6 (Ar 7 (List Span))):=mkA (gV dT .z7) 6
def c1f:List Counted -> List VA:=fun x=>[.list .zg x]
def c1j:List VA -> Option (List Counted):=mkS (SX.gL dT .zg) fun x0=>mkE x0
def d01:Piece -> List VA:=fun x=>[.val .zz x.Span,.list .z9 x.Members]
def d0q:List VA -> Option Piece:=mkS (gV dT .zz) fun x0=>mkS (SX.gL dT .z9) fun x1=>mkE (⟨x0,x1⟩:Piece)
def cdT (n:Nat):Option TyC:=bif Nat.blt n 179 then (bif Nat.blt n 83 then (bif Nat.blt n 47 then (bif Nat.blt n 11 then (bif Nat.blt n 5 then (bif Nat.blt n 3 then (bif Nat.beq n 2 then some .z9 else none) else (bif Nat.blt n 4 then (bif Nat.beq n 3 then some .z9 else none) else (bif Nat.beq n 4 then some .z8 else none))) else (bif Nat.blt n 9 then (bif Nat.blt n 6 then (bif Nat.beq n 5 then some .yl else none) else (bif Nat.beq n 6 then some .yl else none)) else (bif Nat.blt n 10 then (bif Nat.beq n 9 then some .yi else none) else (bif Nat.beq n 10 then some .yi else none)))) else (bif Nat.blt n 27 then (bif Nat.blt n 12 then (bif Nat.beq n 11 then some .yi else none) else (bif Nat.blt n 26 then (bif Nat.beq n 12 then some .yk else none) else (bif Nat.beq n 26 then some .zn else none))) else (bif Nat.blt n 40 then (bif Nat.blt n 30 then (bif Nat.beq n 27 then some .zn else none) else (bif Nat.beq n 30 then some .z9 else none)) else (bif Nat.blt n 41 then (bif Nat.beq n 40 then some .ze else none) else (bif Nat.beq n 41 then some .ze else none))))) else (bif Nat.blt n 57 then (bif Nat.blt n 50 then (bif Nat.blt n 48 then (bif Nat.beq n 47 then some .y1 else none) else (bif Nat.blt n 49 then (bif Nat.beq n 48 then some .y1 else none) else (bif Nat.beq n 49 then some .y0 else none))) else (bif Nat.blt n 55 then (bif Nat.blt n 54 then (bif Nat.beq n 50 then some .y0 else none) else (bif Nat.beq n 54 then some .zz else none)) else (bif Nat.blt n 56 then (bif Nat.beq n 55 then some .zz else none) else (bif Nat.beq n 56 then some .y8 else none)))) else (bif Nat.blt n 62 then (bif Nat.blt n 60 then (bif Nat.beq n 57 then some .y8 else none) else (bif Nat.blt n 61 then (bif Nat.beq n 60 then some .zk else none) else (bif Nat.beq n 61 then some .zk else none))) else (bif Nat.blt n 69 then (bif Nat.blt n 63 then (bif Nat.beq n 62 then some .y7 else none) else (bif Nat.beq n 63 then some .y7 else none)) else (bif Nat.blt n 82 then (bif Nat.beq n 69 then some .za else none) else (bif Nat.beq n 82 then some .zu else none)))))) else (bif Nat.blt n 118 then (bif Nat.blt n 105 then (bif Nat.blt n 96 then (bif Nat.blt n 94 then (bif Nat.beq n 83 then some .zu else none) else (bif Nat.blt n 95 then (bif Nat.beq n 94 then some .zs else none) else (bif Nat.beq n 95 then some .zs else none))) else (bif Nat.blt n 103 then (bif Nat.blt n 97 then (bif Nat.beq n 96 then some .zv else none) else (bif Nat.beq n 97 then some .zv else none)) else (bif Nat.blt n 104 then (bif Nat.beq n 103 then some .y6 else none) else (bif Nat.beq n 104 then some .y6 else none)))) else (bif Nat.blt n 109 then (bif Nat.blt n 106 then (bif Nat.beq n 105 then some .zw else none) else (bif Nat.blt n 108 then (bif Nat.beq n 106 then some .zw else none) else (bif Nat.beq n 108 then some .zj else none))) else (bif Nat.blt n 111 then (bif Nat.blt n 110 then (bif Nat.beq n 109 then some .zj else none) else (bif Nat.beq n 110 then some .zl else none)) else (bif Nat.blt n 117 then (bif Nat.beq n 111 then some .zl else none) else (bif Nat.beq n 117 then some .y9 else none))))) else (bif Nat.blt n 170 then (bif Nat.blt n 140 then (bif Nat.blt n 131 then (bif Nat.beq n 118 then some .y9 else none) else (bif Nat.blt n 138 then (bif Nat.beq n 131 then some .z6 else none) else (bif Nat.beq n 138 then some .yk else none))) else (bif Nat.blt n 151 then (bif Nat.blt n 141 then (bif Nat.beq n 140 then some .ye else none) else (bif Nat.beq n 141 then some .ye else none)) else (bif Nat.blt n 152 then (bif Nat.beq n 151 then some .zg else none) else (bif Nat.beq n 152 then some .zg else none)))) else (bif Nat.blt n 173 then (bif Nat.blt n 171 then (bif Nat.beq n 170 then some .y5 else none) else (bif Nat.blt n 172 then (bif Nat.beq n 171 then some .y5 else none) else (bif Nat.beq n 172 then some .y2 else none))) else (bif Nat.blt n 177 then (bif Nat.blt n 176 then (bif Nat.beq n 173 then some .y2 else none) else (bif Nat.beq n 176 then some .z5 else none)) else (bif Nat.blt n 178 then (bif Nat.beq n 177 then some .z4 else none) else (bif Nat.beq n 178 then some .y4 else none))))))) else (bif Nat.blt n 325 then (bif Nat.blt n 257 then (bif Nat.blt n 232 then (bif Nat.blt n 209 then (bif Nat.blt n 207 then (bif Nat.beq n 179 then some .y4 else none) else (bif Nat.blt n 208 then (bif Nat.beq n 207 then some .zx else none) else (bif Nat.beq n 208 then some .zx else none))) else (bif Nat.blt n 225 then (bif Nat.blt n 224 then (bif Nat.beq n 209 then some .zb else none) else (bif Nat.beq n 224 then some .yd else none)) else (bif Nat.blt n 231 then (bif Nat.beq n 225 then some .yd else none) else (bif Nat.beq n 231 then some .zt else none)))) else (bif Nat.blt n 246 then (bif Nat.blt n 241 then (bif Nat.beq n 232 then some .zt else none) else (bif Nat.blt n 242 then (bif Nat.beq n 241 then some .yf else none) else (bif Nat.beq n 242 then some .yf else none))) else (bif Nat.blt n 253 then (bif Nat.blt n 252 then (bif Nat.beq n 246 then some .z2 else none) else (bif Nat.beq n 252 then some .zh else none)) else (bif Nat.blt n 256 then (bif Nat.beq n 253 then some .zh else none) else (bif Nat.beq n 256 then some .zm else none))))) else (bif Nat.blt n 302 then (bif Nat.blt n 289 then (bif Nat.blt n 271 then (bif Nat.beq n 257 then some .zm else none) else (bif Nat.blt n 288 then (bif Nat.beq n 271 then some .zc else none) else (bif Nat.beq n 288 then some .yc else none))) else (bif Nat.blt n 299 then (bif Nat.blt n 298 then (bif Nat.beq n 289 then some .yc else none) else (bif Nat.beq n 298 then some .zi else none)) else (bif Nat.blt n 301 then (bif Nat.beq n 299 then some .zi else none) else (bif Nat.beq n 301 then some .zp else none)))) else (bif Nat.blt n 314 then (bif Nat.blt n 307 then (bif Nat.beq n 302 then some .zp else none) else (bif Nat.blt n 313 then (bif Nat.beq n 307 then some .zd else none) else (bif Nat.beq n 313 then some .ya else none))) else (bif Nat.blt n 320 then (bif Nat.blt n 319 then (bif Nat.beq n 314 then some .ya else none) else (bif Nat.beq n 319 then some .zy else none)) else (bif Nat.blt n 324 then (bif Nat.beq n 320 then some .zy else none) else (bif Nat.beq n 324 then some .z7 else none)))))) else (bif Nat.blt n 408 then (bif Nat.blt n 349 then (bif Nat.blt n 333 then (bif Nat.blt n 326 then (bif Nat.beq n 325 then some .z3 else none) else (bif Nat.blt n 332 then (bif Nat.beq n 326 then some .z3 else none) else (bif Nat.beq n 332 then some .zq else none))) else (bif Nat.blt n 340 then (bif Nat.blt n 334 then (bif Nat.beq n 333 then some .zq else none) else (bif Nat.beq n 334 then some .yk else none)) else (bif Nat.blt n 341 then (bif Nat.beq n 340 then some .zr else none) else (bif Nat.beq n 341 then some .zr else none)))) else (bif Nat.blt n 363 then (bif Nat.blt n 350 then (bif Nat.beq n 349 then some .zo else none) else (bif Nat.blt n 362 then (bif Nat.beq n 350 then some .zo else none) else (bif Nat.beq n 362 then some .y3 else none))) else (bif Nat.blt n 377 then (bif Nat.blt n 376 then (bif Nat.beq n 363 then some .y3 else none) else (bif Nat.beq n 376 then some .zf else none)) else (bif Nat.blt n 401 then (bif Nat.beq n 377 then some .zf else none) else (bif Nat.beq n 401 then some .z0 else none))))) else (bif Nat.blt n 462 then (bif Nat.blt n 440 then (bif Nat.blt n 409 then (bif Nat.beq n 408 then some .yg else none) else (bif Nat.blt n 439 then (bif Nat.beq n 409 then some .yg else none) else (bif Nat.beq n 439 then some .yh else none))) else (bif Nat.blt n 457 then (bif Nat.blt n 450 then (bif Nat.beq n 440 then some .yh else none) else (bif Nat.beq n 450 then some .z9 else none)) else (bif Nat.blt n 461 then (bif Nat.beq n 457 then some .yj else none) else (bif Nat.beq n 461 then some .yb else none)))) else (bif Nat.blt n 529 then (bif Nat.blt n 499 then (bif Nat.blt n 490 then (bif Nat.beq n 462 then some .yb else none) else (bif Nat.beq n 490 then some .yk else none)) else (bif Nat.blt n 521 then (bif Nat.beq n 499 then some .yk else none) else (bif Nat.beq n 521 then some .z1 else none))) else (bif Nat.blt n 571 then (bif Nat.blt n 548 then (bif Nat.beq n 529 then some .z9 else none) else (bif Nat.beq n 548 then some .yk else none)) else (bif Nat.blt n 572 then (bif Nat.beq n 571 then some .yl else none) else (bif Nat.beq n 572 then some .yl else none)))))))
def VV:Uni where
 C:=TyC
 T:=TyC.T
 dec:=dT
 c0:= .z9
 n:=fun c=>match c with
  | .z9=>1
  | .zw=>5
  | .zm=>3
  | .yi=>1
  | .zj=>6
  | .zo=>7
  | .zl=>13
  | .zt=>7
  | .y6=>8
  | .z8=>1
  | .y5=>4
  | .y2=>5
  | .yl=>1
  | .z2=>3
  | .y3=>3
  | .yf=>4
  | .yk=>1
  | .y1=>3
  | .y0=>4
  | .zs=>4
  | .zn=>3
  | .yj=>1
  | .z0=>12
  | .zc=>1
  | .y7=>13
  | .z6=>7
  | .yd=>14
  | .y8=>14
  | .ze=>12
  | .y9=>9
  | .zg=>4
  | .z5=>6
  | .z4=>6
  | .y4=>15
  | .zu=>4
  | .yc=>15
  | .zx=>9
  | .zy=>4
  | .zp=>4
  | .zr=>4
  | .ya=>5
  | .zb=>1
  | .z7=>7
  | .z3=>42
  | .za=>1
  | .zq=>3
  | _=>2
 ag:=fun c=>match c with
  | .z9=>false
  | .yi=>false
  | .z8=>false
  | .yl=>false
  | .yk=>false
  | .yj=>false
  | .zc=>false
  | .zb=>false
  | .za=>false
  | _=>true
 lay:=fun c=>match c with
  | .z9=>[none]
  | .zw=>[none,none,none,none,none]
  | .zv=>[none,none]
  | .zh=>[none,none]
  | .zk=>[none,none]
  | .zm=>[none,some .zk]
  | .yi=>[none]
  | .zj=>[none,some .zk,none,none,none]
  | .zo=>[none,some .zj]
  | .zl=>[none,some .zj,some .zj]
  | .zt=>[none,some .zj]
  | .y6=>[none,some .zv,none,none,none,none,none]
  | .z8=>[none]
  | .y5=>[none,none,some .zk]
  | .y2=>[none,some .y5]
  | .zf=>[none,none]
  | .yl=>[none]
  | .zz=>[none,none]
  | .z2=>List.replicate 3 (none)
  | .y3=>[none,none,none]
  | .yf=>[none,none,none,none]
  | .yk=>[none]
  | .ye=>[none,none]
  | .y1=>[none,none,none]
  | .y0=>[none,some .y1]
  | .zs=>[none,none,some .zk]
  | .zn=>[none,none,none]
  | .yh=>[none,none]
  | .yj=>[none]
  | .z1=>List.replicate 2 (none)
  | .z0=>List.replicate 12 (none)
  | .zc=>[none]
  | .y7=>[none,none,none,none,none,none,none,none,none,none,some .zk,none]
  | .z6=>List.replicate 7 (none)
  | .yd=>[some .y7,none]
  | .y8=>[none,none,none,none,none,none,none,some .zz,none,none,none,none,none]
  | .ze=>[none,none,none,none,none,none,none,none,none,none,none,none]
  | .y9=>[some .zn,none,some .zw]
  | .zg=>[some .zz,none,none]
  | .z5=>List.replicate 6 (none)
  | .z4=>List.replicate 6 (none)
  | .y4=>[some .z5,some .z4,none,none,none]
  | .zu=>[none,some .zk,none]
  | .zi=>[none,none]
  | .yg=>[none,none]
  | .yc=>[some .y8,none]
  | .zx=>[none,some .y6]
  | .zy=>[some .zz,none,none]
  | .zp=>[none,none,some .zz]
  | .zr=>[none,none,some .zz]
  | .ya=>[none,some .zz,none,none]
  | .yb=>[none,none]
  | .zb=>[none]
  | .zd=>[none,none]
  | .z7=>List.replicate 7 (none)
  | .z3=>List.replicate 6 (some .z7)
  | .za=>[none]
  | .zq=>[some .zz,none]
 flds:=fun c=>match c with
  | .z9=>e8i
  | .zw=>c9m
  | .zv=>c19
  | .zh=>c6o
  | .zk=>c0w
  | .zm=>d1h
  | .yi=>e9j
  | .zj=>d4h
  | .zo=>d9b
  | .zl=>d1b
  | .zt=>c57
  | .y6=>c3v
  | .z8=>e0n
  | .y5=>d1s
  | .y2=>d4q
  | .zf=>c4b
  | .yl=>f6u
  | .zz=>d5i
  | .z2=>c9r
  | .y3=>d13
  | .yf=>a9c
  | .yk=>e93
  | .ye=>b0w
  | .y1=>c3g
  | .y0=>c98
  | .zs=>d3s
  | .zn=>d4u
  | .yh=>b4z
  | .yj=>e7v
  | .z1=>d07
  | .z0=>c5v
  | .zc=>d06
  | .y7=>d5c
  | .z6=>d1j
  | .yd=>b2g
  | .y8=>c17
  | .ze=>c8z
  | .y9=>b5d
  | .zg=>c4f
  | .z5=>d0u
  | .z4=>c4y
  | .y4=>c9z
  | .zu=>c63
  | .zi=>c2w
  | .yg=>b3a
  | .yc=>b21
  | .zx=>c5l
  | .zy=>c33
  | .zp=>c68
  | .zr=>c35
  | .ya=>b29
  | .yb=>b0p
  | .zb=>c4c
  | .zd=>c48
  | .z7=>c1b
  | .z3=>b53
  | .za=>c1f
  | .zq=>d01
 mkv:=fun c=>match c with
  | .z9=>e9n
  | .zw=>d0m
  | .zv=>c0v
  | .zh=>c5n
  | .zk=>c1d
  | .zm=>d0p
  | .yi=>e7i
  | .zj=>d3t
  | .zo=>e0u
  | .zl=>c8u
  | .zt=>c6d
  | .y6=>c40
  | .z8=>e33
  | .y5=>c9b
  | .y2=>d5u
  | .zf=>c41
  | .yl=>f6e
  | .zz=>d45
  | .z2=>d08
  | .y3=>c8t
  | .yf=>a9g
  | .yk=>e8h
  | .ye=>b0y
  | .y1=>c43
  | .y0=>d0o
  | .zs=>d4l
  | .zn=>d4z
  | .yh=>b4t
  | .yj=>e8q
  | .z1=>d0e
  | .z0=>c67
  | .zc=>d1a
  | .y7=>d3v
  | .z6=>d11
  | .yd=>b2q
  | .y8=>c18
  | .ze=>d04
  | .y9=>b62
  | .zg=>c3z
  | .z5=>c9e
  | .z4=>c6k
  | .y4=>d0a
  | .zu=>c6c
  | .zi=>c2k
  | .yg=>b37
  | .yc=>b1v
  | .zx=>c5y
  | .zy=>c2y
  | .zp=>c5x
  | .zr=>c3n
  | .ya=>b1t
  | .yb=>b10
  | .zb=>c3y
  | .zd=>c4o
  | .z7=>c1a
  | .z3=>b5m
  | .za=>c1j
  | .zq=>d0q
 cd:=cdT
 flat:=fun c=>match c with
  | .zw=>false
  | .zj=>false
  | .zo=>false
  | .zl=>false
  | .zt=>false
  | .y6=>false
  | .yf=>false
  | .y1=>false
  | .y0=>false
  | .zn=>false
  | .zc=>false
  | .y7=>false
  | .yd=>false
  | .ze=>false
  | .y9=>false
  | .zu=>false
  | .yc=>false
  | .zx=>false
  | .ya=>false
  | .zb=>false
  | .z7=>false
  | .z3=>false
  | .za=>false
  | .zq=>false
  | _=>true
 isA:=fun c=>match c with
  | .z2=>true
  | .z1=>true
  | .z0=>true
  | .z6=>true
  | .z5=>true
  | .z4=>true
  | .z7=>true
  | .z3=>true
  | _=>false
 ae:=fun c=>match c with
  | .z2=> .yi
  | .z1=> .z9
  | .z0=> .z9
  | .z6=> .z9
  | .z5=> .z9
  | .z4=> .z8
  | .z7=> .zc
  | .z3=> .z7
  | c=>c
 an:=fun c=>match c with
  | .z2=>3
  | .z1=>2
  | .z0=>12
  | .z6=>7
  | .z5=>6
  | .z4=>6
  | .z7=>7
  | .z3=>6
  | _=>0
 al:=fun c=>match c with
  | .z2=>fun x=>x.l
  | .z1=>fun x=>x.l
  | .z0=>fun x=>x.l
  | .z6=>fun x=>x.l
  | .z5=>fun x=>x.l
  | .z4=>fun x=>x.l
  | .z7=>fun x=>x.l
  | .z3=>fun x=>x.l
  | _=>fun _=>[]
 «as» :=fun c=>match c with
  | .z2=>fun x i y=>x.set i y
  | .z1=>fun x i y=>x.set i y
  | .z0=>fun x i y=>x.set i y
  | .z6=>fun x i y=>x.set i y
  | .z5=>fun x i y=>x.set i y
  | .z4=>fun x i y=>x.set i y
  | .z7=>fun x i y=>x.set i y
  | .z3=>fun x i y=>x.set i y
  | _=>fun x _ _=>x
 gt:=fun c=>match c with
  | .z9=>fun x _=>x
  | .zw=>fun x _=>x
  | .zv=>fun x _=>x
  | .zh=>fun x _=>x
  | .zk=>fun x _=>x
  | .zm=>fun x _=>x
  | .yi=>fun x _=>x
  | .zj=>fun x _=>x
  | .zo=>fun x _=>x
  | .zl=>fun x _=>x
  | .zt=>fun x _=>x
  | .y6=>fun x _=>x
  | .z8=>fun x _=>x
  | .y5=>fun x _=>x
  | .y2=>fun x _=>x
  | .zf=>fun x _=>x
  | .yl=>fun x _=>x
  | .zz=>fun x _=>x
  | .z2=>fun x i=>Ar.gt ByteArray.empty x i
  | .y3=>fun x _=>x
  | .yf=>fun x _=>x
  | .yk=>fun x _=>x
  | .ye=>fun x _=>x
  | .y1=>fun x _=>x
  | .y0=>fun x _=>x
  | .zs=>fun x _=>x
  | .zn=>fun x _=>x
  | .yh=>fun x _=>x
  | .yj=>fun x _=>x
  | .z1=>fun x i=>Ar.gt 0 x i
  | .z0=>fun x i=>Ar.gt 0 x i
  | .zc=>fun x _=>x
  | .y7=>fun x _=>x
  | .z6=>fun x i=>Ar.gt 0 x i
  | .yd=>fun x _=>x
  | .y8=>fun x _=>x
  | .ze=>fun x _=>x
  | .y9=>fun x _=>x
  | .zg=>fun x _=>x
  | .z5=>fun x i=>Ar.gt 0 x i
  | .z4=>fun x i=>Ar.gt false x i
  | .y4=>fun x _=>x
  | .zu=>fun x _=>x
  | .zi=>fun x _=>x
  | .yg=>fun x _=>x
  | .yc=>fun x _=>x
  | .zx=>fun x _=>x
  | .zy=>fun x _=>x
  | .zp=>fun x _=>x
  | .zr=>fun x _=>x
  | .ya=>fun x _=>x
  | .yb=>fun x _=>x
  | .zb=>fun x _=>x
  | .zd=>fun x _=>x
  | .z7=>fun x i=>Ar.gt [] x i
  | .z3=>fun x i=>Ar.gt (arZ 7 []) x i
  | .za=>fun x _=>x
  | .zq=>fun x _=>x
 b8:=fun c=>match c with
  | .yl=>true
  | _=>false
 t8:=fun c=>match c with
  | .yl=>fun x=>x
  | _=>fun _=>0
 tab:=fun w=>Lib.TabIs Go.Proofs.Tryz.prog w "internal/strconv.uint64pow10" .u64 Lib.pow10Tab
 tb:=fun b=>b=3
theorem f0y: ∀(zs:List VV.AV) (y:Int),e9n zs=some y -> o8 (AEq (U:=VV)) zs (e8i y):=by
 intro zs y h
 obtain ⟨a0,zs,x0,rfl,h0,h⟩:=c9 h;obtain ⟨rfl,rfl⟩:=a09 h;exact ⟨u5 (U:=VV) h0,trivial⟩
theorem d8a: ∀(zs:List VV.AV) (y:Rules),d0m zs=some y -> o8 (AEq (U:=VV)) zs (c9m y):=by
 intro zs y h
 obtain ⟨a0,zs,x0,rfl,h0,h⟩:=c9 h;obtain ⟨a1,zs,x1,rfl,h1,h⟩:=c9 h;obtain ⟨a2,zs,x2,rfl,h2,h⟩:=c9 h;obtain ⟨a3,zs,x3,rfl,h3,h⟩:=c9 h;obtain ⟨a4,zs,x4,rfl,h4,h⟩:=c9 h;obtain ⟨rfl,rfl⟩:=a09 h;exact ⟨u5 (U:=VV) h0,u5 (U:=VV) h1,u5 (U:=VV) h2,u5 (U:=VV) h3,b0g (U:=VV) h4,trivial⟩
theorem c79: ∀(zs:List VV.AV) (y:Rounding),c0v zs=some y -> o8 (AEq (U:=VV)) zs (c19 y):=by
 intro zs y h
 obtain ⟨a0,zs,x0,rfl,h0,h⟩:=c9 h;obtain ⟨a1,zs,x1,rfl,h1,h⟩:=c9 h;obtain ⟨rfl,rfl⟩:=a09 h;exact ⟨u5 (U:=VV) h0,u5 (U:=VV) h1,trivial⟩
theorem d1w: ∀(zs:List VV.AV) (y:Credit),c5n zs=some y -> o8 (AEq (U:=VV)) zs (c6o y):=by
 intro zs y h
 obtain ⟨a0,zs,x0,rfl,h0,h⟩:=c9 h;obtain ⟨a1,zs,x1,rfl,h1,h⟩:=c9 h;obtain ⟨rfl,rfl⟩:=a09 h;exact ⟨u5 (U:=VV) h0,u5 (U:=VV) h1,trivial⟩
theorem c80: ∀(zs:List VV.AV) (y:Fraction),c1d zs=some y -> o8 (AEq (U:=VV)) zs (c0w y):=by
 intro zs y h
 obtain ⟨a0,zs,x0,rfl,h0,h⟩:=c9 h;obtain ⟨a1,zs,x1,rfl,h1,h⟩:=c9 h;obtain ⟨rfl,rfl⟩:=a09 h;exact ⟨u5 (U:=VV) h0,u5 (U:=VV) h1,trivial⟩
theorem d6x: ∀(zs:List VV.AV) (y:Index),d0p zs=some y -> o8 (AEq (U:=VV)) zs (d1h y):=by
 intro zs y h
 obtain ⟨a0,zs,x0,rfl,h0,h⟩:=c9 h;obtain ⟨a1,zs,x1,rfl,h1,h⟩:=c9 h;obtain ⟨rfl,rfl⟩:=a09 h;exact ⟨u5 (U:=VV) h0,a98 (U:=VV) h1,trivial⟩
theorem e9v: ∀(zs:List VV.AV) (y:ByteArray),e7i zs=some y -> o8 (AEq (U:=VV)) zs (e9j y):=by
 intro zs y h
 obtain ⟨a0,zs,x0,rfl,h0,h⟩:=c9 h;obtain ⟨rfl,rfl⟩:=a09 h;exact ⟨c81 (U:=VV) h0,trivial⟩
theorem e0l: ∀(zs:List VV.AV) (y:Expr),d3t zs=some y -> o8 (AEq (U:=VV)) zs (d4h y):=by
 intro zs y h
 obtain ⟨a0,zs,x0,rfl,h0,h⟩:=c9 h;obtain ⟨a1,zs,x1,rfl,h1,h⟩:=c9 h;obtain ⟨a2,zs,x2,rfl,h2,h⟩:=c9 h;obtain ⟨a3,zs,x3,rfl,h3,h⟩:=c9 h;obtain ⟨a4,zs,x4,rfl,h4,h⟩:=c9 h;obtain ⟨rfl,rfl⟩:=a09 h;exact ⟨u5 (U:=VV) h0,a98 (U:=VV) h1,u5 (U:=VV) h2,c81 (U:=VV) h3,b0g (U:=VV) h4,trivial⟩
theorem e4a: ∀(zs:List VV.AV) (y:Let),e0u zs=some y -> o8 (AEq (U:=VV)) zs (d9b y):=by
 intro zs y h
 obtain ⟨a0,zs,x0,rfl,h0,h⟩:=c9 h;obtain ⟨a1,zs,x1,rfl,h1,h⟩:=c9 h;obtain ⟨rfl,rfl⟩:=a09 h;exact ⟨c81 (U:=VV) h0,a98 (U:=VV) h1,trivial⟩
theorem d70: ∀(zs:List VV.AV) (y:Grant),c8u zs=some y -> o8 (AEq (U:=VV)) zs (d1b y):=by
 intro zs y h
 obtain ⟨a0,zs,x0,rfl,h0,h⟩:=c9 h;obtain ⟨a1,zs,x1,rfl,h1,h⟩:=c9 h;obtain ⟨a2,zs,x2,rfl,h2,h⟩:=c9 h;obtain ⟨rfl,rfl⟩:=a09 h;exact ⟨u5 (U:=VV) h0,a98 (U:=VV) h1,a98 (U:=VV) h2,trivial⟩
theorem d24: ∀(zs:List VV.AV) (y:Reduce),c6d zs=some y -> o8 (AEq (U:=VV)) zs (c57 y):=by
 intro zs y h
 obtain ⟨a0,zs,x0,rfl,h0,h⟩:=c9 h;obtain ⟨a1,zs,x1,rfl,h1,h⟩:=c9 h;obtain ⟨rfl,rfl⟩:=a09 h;exact ⟨u5 (U:=VV) h0,a98 (U:=VV) h1,trivial⟩
theorem d1l: ∀(zs:List VV.AV) (y:Version),c40 zs=some y -> o8 (AEq (U:=VV)) zs (c3v y):=by
 intro zs y h
 obtain ⟨a0,zs,x0,rfl,h0,h⟩:=c9 h;obtain ⟨a1,zs,x1,rfl,h1,h⟩:=c9 h;obtain ⟨a2,zs,x2,rfl,h2,h⟩:=c9 h;obtain ⟨a3,zs,x3,rfl,h3,h⟩:=c9 h;obtain ⟨a4,zs,x4,rfl,h4,h⟩:=c9 h;obtain ⟨a5,zs,x5,rfl,h5,h⟩:=c9 h;obtain ⟨a6,zs,x6,rfl,h6,h⟩:=c9 h;obtain ⟨rfl,rfl⟩:=a09 h;exact ⟨u5 (U:=VV) h0,a98 (U:=VV) h1,b0g (U:=VV) h2,b0g (U:=VV) h3,b0g (U:=VV) h4,b0g (U:=VV) h5,b0g (U:=VV) h6,trivial⟩
theorem e6a: ∀(zs:List VV.AV) (y:Bool),e33 zs=some y -> o8 (AEq (U:=VV)) zs (e0n y):=by
 intro zs y h
 obtain ⟨a0,zs,x0,rfl,h0,h⟩:=c9 h;obtain ⟨rfl,rfl⟩:=a09 h;exact ⟨d2z (U:=VV) h0,trivial⟩
theorem d68: ∀(zs:List VV.AV) (y:Value),c9b zs=some y -> o8 (AEq (U:=VV)) zs (d1s y):=by
 intro zs y h
 obtain ⟨a0,zs,x0,rfl,h0,h⟩:=c9 h;obtain ⟨a1,zs,x1,rfl,h1,h⟩:=c9 h;obtain ⟨a2,zs,x2,rfl,h2,h⟩:=c9 h;obtain ⟨rfl,rfl⟩:=a09 h;exact ⟨u5 (U:=VV) h0,d2z (U:=VV) h1,a98 (U:=VV) h2,trivial⟩
theorem e07: ∀(zs:List VV.AV) (y:Step),d5u zs=some y -> o8 (AEq (U:=VV)) zs (d4q y):=by
 intro zs y h
 obtain ⟨a0,zs,x0,rfl,h0,h⟩:=c9 h;obtain ⟨a1,zs,x1,rfl,h1,h⟩:=c9 h;obtain ⟨rfl,rfl⟩:=a09 h;exact ⟨c81 (U:=VV) h0,a98 (U:=VV) h1,trivial⟩
theorem c99: ∀(zs:List VV.AV) (y:Binding),c41 zs=some y -> o8 (AEq (U:=VV)) zs (c4b y):=by
 intro zs y h
 obtain ⟨a0,zs,x0,rfl,h0,h⟩:=c9 h;obtain ⟨a1,zs,x1,rfl,h1,h⟩:=c9 h;obtain ⟨rfl,rfl⟩:=a09 h;exact ⟨c81 (U:=VV) h0,u5 (U:=VV) h1,trivial⟩
theorem f4x: ∀(zs:List VV.AV) (y:Int),f6e zs=some y -> o8 (AEq (U:=VV)) zs (f6u y):=by
 intro zs y h
 obtain ⟨a0,zs,x0,rfl,h0,h⟩:=c9 h;obtain ⟨rfl,rfl⟩:=a09 h;exact ⟨u5 (U:=VV) h0,trivial⟩
theorem d9o: ∀(zs:List VV.AV) (y:Span),d45 zs=some y -> o8 (AEq (U:=VV)) zs (d5i y):=by
 intro zs y h
 obtain ⟨a0,zs,x0,rfl,h0,h⟩:=c9 h;obtain ⟨a1,zs,x1,rfl,h1,h⟩:=c9 h;obtain ⟨rfl,rfl⟩:=a09 h;exact ⟨u5 (U:=VV) h0,u5 (U:=VV) h1,trivial⟩
theorem d6f: ∀(zs:List VV.AV) (y:Ar 3 ByteArray),d08 zs=some y -> o8 (AEq (U:=VV)) zs (c9r y):=fun zs y h=>c0t (fun _ _ h=>c81 (U:=VV) h) h
theorem d84: ∀(zs:List VV.AV) (y:Token),c8t zs=some y -> o8 (AEq (U:=VV)) zs (d13 y):=by
 intro zs y h
 obtain ⟨a0,zs,x0,rfl,h0,h⟩:=c9 h;obtain ⟨a1,zs,x1,rfl,h1,h⟩:=c9 h;obtain ⟨a2,zs,x2,rfl,h2,h⟩:=c9 h;obtain ⟨rfl,rfl⟩:=a09 h;exact ⟨u5 (U:=VV) h0,c81 (U:=VV) h1,u5 (U:=VV) h2,trivial⟩
theorem b45: ∀(zs:List VV.AV) (y:pensionref5_reader),a9g zs=some y -> o8 (AEq (U:=VV)) zs (a9c y):=by
 intro zs y h
 obtain ⟨a0,zs,x0,rfl,h0,h⟩:=c9 h;obtain ⟨a1,zs,x1,rfl,h1,h⟩:=c9 h;obtain ⟨a2,zs,x2,rfl,h2,h⟩:=c9 h;obtain ⟨a3,zs,x3,rfl,h3,h⟩:=c9 h;obtain ⟨rfl,rfl⟩:=a09 h;exact ⟨b0g (U:=VV) h0,u5 (U:=VV) h1,u5 (U:=VV) h2,d2z (U:=VV) h3,trivial⟩
theorem e9y: ∀(zs:List VV.AV) (y:Int),e8h zs=some y -> o8 (AEq (U:=VV)) zs (e93 y):=by
 intro zs y h
 obtain ⟨a0,zs,x0,rfl,h0,h⟩:=c9 h;obtain ⟨rfl,rfl⟩:=a09 h;exact ⟨u5 (U:=VV) h0,trivial⟩
theorem b5i: ∀(zs:List VV.AV) (y:pensionref1_wide),b0y zs=some y -> o8 (AEq (U:=VV)) zs (b0w y):=by
 intro zs y h
 obtain ⟨a0,zs,x0,rfl,h0,h⟩:=c9 h;obtain ⟨a1,zs,x1,rfl,h1,h⟩:=c9 h;obtain ⟨rfl,rfl⟩:=a09 h;exact ⟨u5 (U:=VV) h0,u5 (U:=VV) h1,trivial⟩
theorem d0j: ∀(zs:List VV.AV) (y:Statute),c43 zs=some y -> o8 (AEq (U:=VV)) zs (c3g y):=by
 intro zs y h
 obtain ⟨a0,zs,x0,rfl,h0,h⟩:=c9 h;obtain ⟨a1,zs,x1,rfl,h1,h⟩:=c9 h;obtain ⟨a2,zs,x2,rfl,h2,h⟩:=c9 h;obtain ⟨rfl,rfl⟩:=a09 h;exact ⟨c81 (U:=VV) h0,u5 (U:=VV) h1,b0g (U:=VV) h2,trivial⟩
theorem d67: ∀(zs:List VV.AV) (y:State),d0o zs=some y -> o8 (AEq (U:=VV)) zs (c98 y):=by
 intro zs y h
 obtain ⟨a0,zs,x0,rfl,h0,h⟩:=c9 h;obtain ⟨a1,zs,x1,rfl,h1,h⟩:=c9 h;obtain ⟨rfl,rfl⟩:=a09 h;exact ⟨u5 (U:=VV) h0,a98 (U:=VV) h1,trivial⟩
theorem d9f: ∀(zs:List VV.AV) (y:Rate),d4l zs=some y -> o8 (AEq (U:=VV)) zs (d3s y):=by
 intro zs y h
 obtain ⟨a0,zs,x0,rfl,h0,h⟩:=c9 h;obtain ⟨a1,zs,x1,rfl,h1,h⟩:=c9 h;obtain ⟨a2,zs,x2,rfl,h2,h⟩:=c9 h;obtain ⟨rfl,rfl⟩:=a09 h;exact ⟨u5 (U:=VV) h0,u5 (U:=VV) h1,a98 (U:=VV) h2,trivial⟩
theorem e26: ∀(zs:List VV.AV) (y:Laws),d4z zs=some y -> o8 (AEq (U:=VV)) zs (d4u y):=by
 intro zs y h
 obtain ⟨a0,zs,x0,rfl,h0,h⟩:=c9 h;obtain ⟨a1,zs,x1,rfl,h1,h⟩:=c9 h;obtain ⟨a2,zs,x2,rfl,h2,h⟩:=c9 h;obtain ⟨rfl,rfl⟩:=a09 h;exact ⟨b0g (U:=VV) h0,b0g (U:=VV) h1,b0g (U:=VV) h2,trivial⟩
theorem c0e: ∀(zs:List VV.AV) (y:syntax_entry),b4t zs=some y -> o8 (AEq (U:=VV)) zs (b4z y):=by
 intro zs y h
 obtain ⟨a0,zs,x0,rfl,h0,h⟩:=c9 h;obtain ⟨a1,zs,x1,rfl,h1,h⟩:=c9 h;obtain ⟨rfl,rfl⟩:=a09 h;exact ⟨c81 (U:=VV) h0,u5 (U:=VV) h1,trivial⟩
theorem e9r: ∀(zs:List VV.AV) (y:Int),e8q zs=some y -> o8 (AEq (U:=VV)) zs (e7v y):=by
 intro zs y h
 obtain ⟨a0,zs,x0,rfl,h0,h⟩:=c9 h;obtain ⟨rfl,rfl⟩:=a09 h;exact ⟨u5 (U:=VV) h0,trivial⟩
theorem d7h: ∀(zs:List VV.AV) (y:Ar 2 Int),d0e zs=some y -> o8 (AEq (U:=VV)) zs (d07 y):=fun zs y h=>c0t (fun _ _ h=>u5 (U:=VV) h) h
theorem d2n: ∀(zs:List VV.AV) (y:Ar 12 Int),c67 zs=some y -> o8 (AEq (U:=VV)) zs (c5v y):=fun zs y h=>c0t (fun _ _ h=>u5 (U:=VV) h) h
theorem d72: ∀(zs:List VV.AV) (y:List Span),d1a zs=some y -> o8 (AEq (U:=VV)) zs (d06 y):=by
 intro zs y h
 obtain ⟨a0,zs,x0,rfl,h0,h⟩:=c9 h;obtain ⟨rfl,rfl⟩:=a09 h;exact ⟨b0g (U:=VV) h0,trivial⟩
theorem e1i: ∀(zs:List VV.AV) (y:View),d3v zs=some y -> o8 (AEq (U:=VV)) zs (d5c y):=by
 intro zs y h
 obtain ⟨a0,zs,x0,rfl,h0,h⟩:=c9 h;obtain ⟨a1,zs,x1,rfl,h1,h⟩:=c9 h;obtain ⟨a2,zs,x2,rfl,h2,h⟩:=c9 h;obtain ⟨a3,zs,x3,rfl,h3,h⟩:=c9 h;obtain ⟨a4,zs,x4,rfl,h4,h⟩:=c9 h;obtain ⟨a5,zs,x5,rfl,h5,h⟩:=c9 h;obtain ⟨a6,zs,x6,rfl,h6,h⟩:=c9 h;obtain ⟨a7,zs,x7,rfl,h7,h⟩:=c9 h;obtain ⟨a8,zs,x8,rfl,h8,h⟩:=c9 h;obtain ⟨a9,zs,x9,rfl,h9,h⟩:=c9 h;obtain ⟨a10,zs,x10,rfl,h10,h⟩:=c9 h;obtain ⟨a11,zs,x11,rfl,h11,h⟩:=c9 h;obtain ⟨rfl,rfl⟩:=a09 h;exact ⟨u5 (U:=VV) h0,u5 (U:=VV) h1,u5 (U:=VV) h2,u5 (U:=VV) h3,u5 (U:=VV) h4,u5 (U:=VV) h5,u5 (U:=VV) h6,u5 (U:=VV) h7,u5 (U:=VV) h8,u5 (U:=VV) h9,a98 (U:=VV) h10,b0g (U:=VV) h11,trivial⟩
theorem d8e: ∀(zs:List VV.AV) (y:Ar 7 Int),d11 zs=some y -> o8 (AEq (U:=VV)) zs (d1j y):=fun zs y h=>c0t (fun _ _ h=>u5 (U:=VV) h) h
theorem b79: ∀(zs:List VV.AV) (y:eval_evaluator),b2q zs=some y -> o8 (AEq (U:=VV)) zs (b2g y):=by
 intro zs y h
 obtain ⟨a0,zs,x0,rfl,h0,h⟩:=c9 h;obtain ⟨a1,zs,x1,rfl,h1,h⟩:=c9 h;obtain ⟨rfl,rfl⟩:=a09 h;exact ⟨a98 (U:=VV) h0,b0g (U:=VV) h1,trivial⟩
theorem c75: ∀(zs:List VV.AV) (y:api_Fact),c18 zs=some y -> o8 (AEq (U:=VV)) zs (c17 y):=by
 intro zs y h
 obtain ⟨a0,zs,x0,rfl,h0,h⟩:=c9 h;obtain ⟨a1,zs,x1,rfl,h1,h⟩:=c9 h;obtain ⟨a2,zs,x2,rfl,h2,h⟩:=c9 h;obtain ⟨a3,zs,x3,rfl,h3,h⟩:=c9 h;obtain ⟨a4,zs,x4,rfl,h4,h⟩:=c9 h;obtain ⟨a5,zs,x5,rfl,h5,h⟩:=c9 h;obtain ⟨a6,zs,x6,rfl,h6,h⟩:=c9 h;obtain ⟨a7,zs,x7,rfl,h7,h⟩:=c9 h;obtain ⟨a8,zs,x8,rfl,h8,h⟩:=c9 h;obtain ⟨a9,zs,x9,rfl,h9,h⟩:=c9 h;obtain ⟨a10,zs,x10,rfl,h10,h⟩:=c9 h;obtain ⟨a11,zs,x11,rfl,h11,h⟩:=c9 h;obtain ⟨a12,zs,x12,rfl,h12,h⟩:=c9 h;obtain ⟨rfl,rfl⟩:=a09 h;exact ⟨u5 (U:=VV) h0,u5 (U:=VV) h1,u5 (U:=VV) h2,d2z (U:=VV) h3,u5 (U:=VV) h4,u5 (U:=VV) h5,u5 (U:=VV) h6,a98 (U:=VV) h7,u5 (U:=VV) h8,u5 (U:=VV) h9,u5 (U:=VV) h10,u5 (U:=VV) h11,u5 (U:=VV) h12,trivial⟩
theorem d7o: ∀(zs:List VV.AV) (y:Award),d04 zs=some y -> o8 (AEq (U:=VV)) zs (c8z y):=by
 intro zs y h
 obtain ⟨a0,zs,x0,rfl,h0,h⟩:=c9 h;obtain ⟨a1,zs,x1,rfl,h1,h⟩:=c9 h;obtain ⟨a2,zs,x2,rfl,h2,h⟩:=c9 h;obtain ⟨a3,zs,x3,rfl,h3,h⟩:=c9 h;obtain ⟨a4,zs,x4,rfl,h4,h⟩:=c9 h;obtain ⟨a5,zs,x5,rfl,h5,h⟩:=c9 h;obtain ⟨a6,zs,x6,rfl,h6,h⟩:=c9 h;obtain ⟨a7,zs,x7,rfl,h7,h⟩:=c9 h;obtain ⟨a8,zs,x8,rfl,h8,h⟩:=c9 h;obtain ⟨a9,zs,x9,rfl,h9,h⟩:=c9 h;obtain ⟨a10,zs,x10,rfl,h10,h⟩:=c9 h;obtain ⟨a11,zs,x11,rfl,h11,h⟩:=c9 h;obtain ⟨rfl,rfl⟩:=a09 h;exact ⟨u5 (U:=VV) h0,u5 (U:=VV) h1,u5 (U:=VV) h2,u5 (U:=VV) h3,d2z (U:=VV) h4,u5 (U:=VV) h5,u5 (U:=VV) h6,u5 (U:=VV) h7,u5 (U:=VV) h8,u5 (U:=VV) h9,u5 (U:=VV) h10,b0g (U:=VV) h11,trivial⟩
theorem c1o: ∀(zs:List VV.AV) (y:award_bench),b62 zs=some y -> o8 (AEq (U:=VV)) zs (b5d y):=by
 intro zs y h
 obtain ⟨a0,zs,x0,rfl,h0,h⟩:=c9 h;obtain ⟨a1,zs,x1,rfl,h1,h⟩:=c9 h;obtain ⟨a2,zs,x2,rfl,h2,h⟩:=c9 h;obtain ⟨rfl,rfl⟩:=a09 h;exact ⟨a98 (U:=VV) h0,u5 (U:=VV) h1,a98 (U:=VV) h2,trivial⟩
theorem d02: ∀(zs:List VV.AV) (y:Counted),c3z zs=some y -> o8 (AEq (U:=VV)) zs (c4f y):=by
 intro zs y h
 obtain ⟨a0,zs,x0,rfl,h0,h⟩:=c9 h;obtain ⟨a1,zs,x1,rfl,h1,h⟩:=c9 h;obtain ⟨a2,zs,x2,rfl,h2,h⟩:=c9 h;obtain ⟨rfl,rfl⟩:=a09 h;exact ⟨a98 (U:=VV) h0,u5 (U:=VV) h1,u5 (U:=VV) h2,trivial⟩
theorem d7p: ∀(zs:List VV.AV) (y:Ar 6 Int),c9e zs=some y -> o8 (AEq (U:=VV)) zs (d0u y):=fun zs y h=>c0t (fun _ _ h=>u5 (U:=VV) h) h
theorem d2r: ∀(zs:List VV.AV) (y:Ar 6 Bool),c6k zs=some y -> o8 (AEq (U:=VV)) zs (c4y y):=fun zs y h=>c0t (fun _ _ h=>d2z (U:=VV) h) h
theorem d7v: ∀(zs:List VV.AV) (y:Total),d0a zs=some y -> o8 (AEq (U:=VV)) zs (c9z y):=by
 intro zs y h
 obtain ⟨a0,zs,x0,rfl,h0,h⟩:=c9 h;obtain ⟨a1,zs,x1,rfl,h1,h⟩:=c9 h;obtain ⟨a2,zs,x2,rfl,h2,h⟩:=c9 h;obtain ⟨a3,zs,x3,rfl,h3,h⟩:=c9 h;obtain ⟨a4,zs,x4,rfl,h4,h⟩:=c9 h;obtain ⟨rfl,rfl⟩:=a09 h;exact ⟨a98 (U:=VV) h0,a98 (U:=VV) h1,u5 (U:=VV) h2,u5 (U:=VV) h3,u5 (U:=VV) h4,trivial⟩
theorem d37: ∀(zs:List VV.AV) (y:Result),c6c zs=some y -> o8 (AEq (U:=VV)) zs (c63 y):=by
 intro zs y h
 obtain ⟨a0,zs,x0,rfl,h0,h⟩:=c9 h;obtain ⟨a1,zs,x1,rfl,h1,h⟩:=c9 h;obtain ⟨a2,zs,x2,rfl,h2,h⟩:=c9 h;obtain ⟨rfl,rfl⟩:=a09 h;exact ⟨d2z (U:=VV) h0,a98 (U:=VV) h1,b0g (U:=VV) h2,trivial⟩
theorem d0b: ∀(zs:List VV.AV) (y:Earning),c2k zs=some y -> o8 (AEq (U:=VV)) zs (c2w y):=by
 intro zs y h
 obtain ⟨a0,zs,x0,rfl,h0,h⟩:=c9 h;obtain ⟨a1,zs,x1,rfl,h1,h⟩:=c9 h;obtain ⟨rfl,rfl⟩:=a09 h;exact ⟨u5 (U:=VV) h0,u5 (U:=VV) h1,trivial⟩
theorem b9k: ∀(zs:List VV.AV) (y:rational_wide),b37 zs=some y -> o8 (AEq (U:=VV)) zs (b3a y):=by
 intro zs y h
 obtain ⟨a0,zs,x0,rfl,h0,h⟩:=c9 h;obtain ⟨a1,zs,x1,rfl,h1,h⟩:=c9 h;obtain ⟨rfl,rfl⟩:=a09 h;exact ⟨u5 (U:=VV) h0,u5 (U:=VV) h1,trivial⟩
theorem b6k: ∀(zs:List VV.AV) (y:earnings_income),b1v zs=some y -> o8 (AEq (U:=VV)) zs (b21 y):=by
 intro zs y h
 obtain ⟨a0,zs,x0,rfl,h0,h⟩:=c9 h;obtain ⟨a1,zs,x1,rfl,h1,h⟩:=c9 h;obtain ⟨rfl,rfl⟩:=a09 h;exact ⟨a98 (U:=VV) h0,b0g (U:=VV) h1,trivial⟩
theorem d2w: ∀(zs:List VV.AV) (y:Scheme),c5y zs=some y -> o8 (AEq (U:=VV)) zs (c5l y):=by
 intro zs y h
 obtain ⟨a0,zs,x0,rfl,h0,h⟩:=c9 h;obtain ⟨a1,zs,x1,rfl,h1,h⟩:=c9 h;obtain ⟨rfl,rfl⟩:=a09 h;exact ⟨u5 (U:=VV) h0,a98 (U:=VV) h1,trivial⟩
theorem d1e: ∀(zs:List VV.AV) (y:Segment),c2y zs=some y -> o8 (AEq (U:=VV)) zs (c33 y):=by
 intro zs y h
 obtain ⟨a0,zs,x0,rfl,h0,h⟩:=c9 h;obtain ⟨a1,zs,x1,rfl,h1,h⟩:=c9 h;obtain ⟨a2,zs,x2,rfl,h2,h⟩:=c9 h;obtain ⟨rfl,rfl⟩:=a09 h;exact ⟨a98 (U:=VV) h0,u5 (U:=VV) h1,u5 (U:=VV) h2,trivial⟩
theorem d2p: ∀(zs:List VV.AV) (y:Period),c5x zs=some y -> o8 (AEq (U:=VV)) zs (c68 y):=by
 intro zs y h
 obtain ⟨a0,zs,x0,rfl,h0,h⟩:=c9 h;obtain ⟨a1,zs,x1,rfl,h1,h⟩:=c9 h;obtain ⟨a2,zs,x2,rfl,h2,h⟩:=c9 h;obtain ⟨rfl,rfl⟩:=a09 h;exact ⟨u5 (U:=VV) h0,u5 (U:=VV) h1,a98 (U:=VV) h2,trivial⟩
theorem c91: ∀(zs:List VV.AV) (y:Posting),c3n zs=some y -> o8 (AEq (U:=VV)) zs (c35 y):=by
 intro zs y h
 obtain ⟨a0,zs,x0,rfl,h0,h⟩:=c9 h;obtain ⟨a1,zs,x1,rfl,h1,h⟩:=c9 h;obtain ⟨a2,zs,x2,rfl,h2,h⟩:=c9 h;obtain ⟨rfl,rfl⟩:=a09 h;exact ⟨u5 (U:=VV) h0,u5 (U:=VV) h1,a98 (U:=VV) h2,trivial⟩
theorem b6i: ∀(zs:List VV.AV) (y:competence_life),b1t zs=some y -> o8 (AEq (U:=VV)) zs (b29 y):=by
 intro zs y h
 obtain ⟨a0,zs,x0,rfl,h0,h⟩:=c9 h;obtain ⟨a1,zs,x1,rfl,h1,h⟩:=c9 h;obtain ⟨a2,zs,x2,rfl,h2,h⟩:=c9 h;obtain ⟨a3,zs,x3,rfl,h3,h⟩:=c9 h;obtain ⟨rfl,rfl⟩:=a09 h;exact ⟨b0g (U:=VV) h0,a98 (U:=VV) h1,b0g (U:=VV) h2,b0g (U:=VV) h3,trivial⟩
theorem b5a: ∀(zs:List VV.AV) (y:competence_route),b10 zs=some y -> o8 (AEq (U:=VV)) zs (b0p y):=by
 intro zs y h
 obtain ⟨a0,zs,x0,rfl,h0,h⟩:=c9 h;obtain ⟨a1,zs,x1,rfl,h1,h⟩:=c9 h;obtain ⟨rfl,rfl⟩:=a09 h;exact ⟨u5 (U:=VV) h0,u5 (U:=VV) h1,trivial⟩
theorem c9j: ∀(zs:List VV.AV) (y:List Period),c3y zs=some y -> o8 (AEq (U:=VV)) zs (c4c y):=by
 intro zs y h
 obtain ⟨a0,zs,x0,rfl,h0,h⟩:=c9 h;obtain ⟨rfl,rfl⟩:=a09 h;exact ⟨b0g (U:=VV) h0,trivial⟩
theorem c9d: ∀(zs:List VV.AV) (y:Anon307),c4o zs=some y -> o8 (AEq (U:=VV)) zs (c48 y):=by
 intro zs y h
 obtain ⟨a0,zs,x0,rfl,h0,h⟩:=c9 h;obtain ⟨a1,zs,x1,rfl,h1,h⟩:=c9 h;obtain ⟨rfl,rfl⟩:=a09 h;exact ⟨u5 (U:=VV) h0,u5 (U:=VV) h1,trivial⟩
theorem c7c: ∀(zs:List VV.AV) (y:Ar 7 (List Span)),c1a zs=some y -> o8 (AEq (U:=VV)) zs (c1b y):=fun zs y h=>c0t (fun _ _ h=>b0g (U:=VV) h) h
theorem c1p: ∀(zs:List VV.AV) (y:Ar 6 (Ar 7 (List Span))),b5m zs=some y -> o8 (AEq (U:=VV)) zs (b53 y):=fun zs y h=>c0t (fun _ _ h=>a98 (U:=VV) h) h
theorem c88: ∀(zs:List VV.AV) (y:List Counted),c1j zs=some y -> o8 (AEq (U:=VV)) zs (c1f y):=by
 intro zs y h
 obtain ⟨a0,zs,x0,rfl,h0,h⟩:=c9 h;obtain ⟨rfl,rfl⟩:=a09 h;exact ⟨b0g (U:=VV) h0,trivial⟩
theorem d6e: ∀(zs:List VV.AV) (y:Piece),d0q zs=some y -> o8 (AEq (U:=VV)) zs (d01 y):=by
 intro zs y h
 obtain ⟨a0,zs,x0,rfl,h0,h⟩:=c9 h;obtain ⟨a1,zs,x1,rfl,h1,h⟩:=c9 h;obtain ⟨rfl,rfl⟩:=a09 h;exact ⟨a98 (U:=VV) h0,b0g (U:=VV) h1,trivial⟩
theorem uok:UOK VV where
 lay:=fun c x=>by cases c<;>first | rfl | exact f0n (U:=VV) x fun _=>rfl
 kind:=fun c x=>by cases c<;>first | rfl | exact e2j (U:=VV) x fun _=>rfl
 sum:=fun c=>by cases c<;>rfl
 sc:=fun c h=>by cases c<;>first | rfl | cases h
 mkl:=fun c zs y h=>match c,y,h with
  | .z9,y,h=>f0y zs y h
  | .zw,y,h=>d8a zs y h
  | .zv,y,h=>c79 zs y h
  | .zh,y,h=>d1w zs y h
  | .zk,y,h=>c80 zs y h
  | .zm,y,h=>d6x zs y h
  | .yi,y,h=>e9v zs y h
  | .zj,y,h=>e0l zs y h
  | .zo,y,h=>e4a zs y h
  | .zl,y,h=>d70 zs y h
  | .zt,y,h=>d24 zs y h
  | .y6,y,h=>d1l zs y h
  | .z8,y,h=>e6a zs y h
  | .y5,y,h=>d68 zs y h
  | .y2,y,h=>e07 zs y h
  | .zf,y,h=>c99 zs y h
  | .yl,y,h=>f4x zs y h
  | .zz,y,h=>d9o zs y h
  | .z2,y,h=>d6f zs y h
  | .y3,y,h=>d84 zs y h
  | .yf,y,h=>b45 zs y h
  | .yk,y,h=>e9y zs y h
  | .ye,y,h=>b5i zs y h
  | .y1,y,h=>d0j zs y h
  | .y0,y,h=>d67 zs y h
  | .zs,y,h=>d9f zs y h
  | .zn,y,h=>e26 zs y h
  | .yh,y,h=>c0e zs y h
  | .yj,y,h=>e9r zs y h
  | .z1,y,h=>d7h zs y h
  | .z0,y,h=>d2n zs y h
  | .zc,y,h=>d72 zs y h
  | .y7,y,h=>e1i zs y h
  | .z6,y,h=>d8e zs y h
  | .yd,y,h=>b79 zs y h
  | .y8,y,h=>c75 zs y h
  | .ze,y,h=>d7o zs y h
  | .y9,y,h=>c1o zs y h
  | .zg,y,h=>d02 zs y h
  | .z5,y,h=>d7p zs y h
  | .z4,y,h=>d2r zs y h
  | .y4,y,h=>d7v zs y h
  | .zu,y,h=>d37 zs y h
  | .zi,y,h=>d0b zs y h
  | .yg,y,h=>b9k zs y h
  | .yc,y,h=>b6k zs y h
  | .zx,y,h=>d2w zs y h
  | .zy,y,h=>d1e zs y h
  | .zp,y,h=>d2p zs y h
  | .zr,y,h=>c91 zs y h
  | .ya,y,h=>b6i zs y h
  | .yb,y,h=>b5a zs y h
  | .zb,y,h=>c9j zs y h
  | .zd,y,h=>c9d zs y h
  | .z7,y,h=>c7c zs y h
  | .z3,y,h=>c1p zs y h
  | .za,y,h=>c88 zs y h
  | .zq,y,h=>d6e zs y h
 flat:=fun c x h=>by cases c<;>first | exact Bool.noConfusion (show false=true from h) | rfl | exact e2j (U:=VV) x fun _=>rfl
 arr:=fun c x h=>by cases c<;>first | exact Bool.noConfusion (show false=true from h) | exact ⟨rfl,x.h⟩
 ars:=fun c x i y h=>by cases c<;>first | exact Bool.noConfusion (show false=true from h) | rfl
 gt:=fun c x i y h=>by cases c<;>first | exact Bool.noConfusion (show false=true from h) | exact fun hg=>Ar.gt_ok hg
 by8:=fun c x h=>by cases c<;>first | exact Bool.noConfusion (show false=true from h) | rfl
 tabK:=fun w w2 h hb=>e4b (g:=3) (show Go.Proofs.Tryz.prog.globalNamed "internal/strconv.uint64pow10" =some 3 by kernel_rfl) h (hb 3 rfl)
end Go.PL
namespace Go.Proofs
open Go.Shelf
def Tryz.laysItoa_ren:Go.Shelf.Ren:=⟨fun | 171=>483 | 243=>531 | 246=>566 | 283=>577 | 284=>578 | 285=>579 | 286=>580 | 129=>439 | 317=>583 | 318=>584 | 319=>585 | 320=>586 | 337=>587 | 338=>588 | n=>n,fun | 3=>3 | 9=>9 | 2=>2 | 4=>4 | 171=>553 | 0=>0 | 53=>138 | 37=>263 | 5=>5 | 173=>555 | 212=>561 | 51=>457 | 20=>20 | 213=>562 | 46=>334 | 232=>563 | 233=>564 | n=>n,fun | 17=>3 | 18=>4 | 19=>5 | n=>n⟩
theorem Tryz.laysItoa:Go.Proofs.LaysM.n171 Tryz.prog Tryz.laysItoa_ren:={
 mixed:=by kernel_rfl
 f129:=Tryz.func439.trans (congrArg some (by kernel_rfl))
 f171:=Tryz.func483.trans (congrArg some (by kernel_rfl))
 f243:=Tryz.func531.trans (congrArg some (by kernel_rfl))
 f246:=Tryz.func566.trans (congrArg some (by kernel_rfl))
 f283:=Tryz.func577.trans (congrArg some (by kernel_rfl))
 f284:=Tryz.func578.trans (congrArg some (by kernel_rfl))
 f285:=Tryz.func579.trans (congrArg some (by kernel_rfl))
 f286:=Tryz.func580.trans (congrArg some (by kernel_rfl))
 f317:=Tryz.func583.trans (congrArg some (by kernel_rfl))
 f318:=Tryz.func584.trans (congrArg some (by kernel_rfl))
 f319:=Tryz.func585.trans (congrArg some (by kernel_rfl))
 f320:=Tryz.func586.trans (congrArg some (by kernel_rfl))
 f337:=Tryz.func587.trans (congrArg some (by kernel_rfl))
 f338:=Tryz.func588.trans (congrArg some (by kernel_rfl))
 t0:=Tryz.underlying0
 a0:=Tryz.isAgg0
 z0:=Tryz.sizeOf0
 v0:=Tryz.zeroValue0
 t2:=Tryz.underlying2
 a2:=Tryz.isAgg2
 z2:=Tryz.sizeOf2
 v2:=Tryz.zeroValue2
 t3:=Tryz.underlying3
 a3:=Tryz.isAgg3
 z3:=Tryz.sizeOf3
 v3:=Tryz.zeroValue3
 t4:=Tryz.underlying4
 a4:=Tryz.isAgg4
 z4:=Tryz.sizeOf4
 v4:=Tryz.zeroValue4
 t5:=Tryz.underlying5
 a5:=Tryz.isAgg5
 z5:=Tryz.sizeOf5
 v5:=Tryz.zeroValue5
 t9:=Tryz.underlying9
 a9:=Tryz.isAgg9
 z9:=Tryz.sizeOf9
 v9:=Tryz.zeroValue9
 t20:=Tryz.underlying20
 a20:=Tryz.isAgg20
 z20:=Tryz.sizeOf20
 v20:=Tryz.zeroValue20
 t37:=Tryz.underlying263
 a37:=Tryz.isAgg263
 z37:=Tryz.sizeOf263
 v37:=Tryz.zeroValue263
 t46:=Tryz.underlying334
 a46:=Tryz.isAgg334
 z46:=Tryz.sizeOf334
 v46:=Tryz.zeroValue334
 t51:=Tryz.underlying457
 a51:=Tryz.isAgg457
 z51:=Tryz.sizeOf457
 v51:=Tryz.zeroValue457
 t53:=Tryz.underlying138
 a53:=Tryz.isAgg138
 z53:=Tryz.sizeOf138
 v53:=Tryz.zeroValue138
 t171:=Tryz.underlying553
 a171:=Tryz.isAgg553
 z171:=Tryz.sizeOf553
 v171:=Tryz.zeroValue553
 t173:=Tryz.underlying555
 a173:=Tryz.isAgg555
 z173:=Tryz.sizeOf555
 v173:=Tryz.zeroValue555
 t212:=Tryz.underlying561
 a212:=Tryz.isAgg561
 z212:=Tryz.sizeOf561
 v212:=Tryz.zeroValue561
 t213:=Tryz.underlying562
 a213:=Tryz.isAgg562
 z213:=Tryz.sizeOf562
 t232:=Tryz.underlying563
 a232:=Tryz.isAgg563
 z232:=Tryz.sizeOf563
 v232:=Tryz.zeroValue563
 t233:=Tryz.underlying564
 a233:=Tryz.isAgg564
 z233:=Tryz.sizeOf564
 v233:=Tryz.zeroValue564
 g17:=by kernel_rfl
 g18:=by kernel_rfl
 g19:=by kernel_rfl
 i0:=by kernel_rfl
 i2:=by kernel_rfl
 i3:=by kernel_rfl
 i4:=by kernel_rfl
 i5:=by kernel_rfl
 i9:=by kernel_rfl
 i20:=by kernel_rfl
 i37:=by kernel_rfl
 i46:=by kernel_rfl
 i51:=by kernel_rfl
 i53:=by kernel_rfl
 i171:=by kernel_rfl
 i173:=by kernel_rfl
 i212:=by kernel_rfl
 i232:=by kernel_rfl
 i233:=by kernel_rfl
 m17:=by kernel_rfl
 m18:=by kernel_rfl
 m19:=by kernel_rfl}
end Go.Proofs
namespace Go.Proofs
open Go.Shelf
def Tryz.sliceLay_ren:Go.Shelf.Ren:=⟨fun | 6=>415 | 10=>492 | 11=>493 | 12=>494 | 13=>332 | 14=>495 | 24=>438 | 25=>439 | 26=>545 | 27=>546 | 28=>547 | 29=>548 | 30=>549 | 31=>550 | 32=>551 | 33=>552 | 34=>569 | 35=>570 | 36=>571 | 37=>572 | 38=>573 | 39=>581 | n=>n,fun | 20=>20 | 26=>261 | 35=>492 | 0=>0 | 37=>329 | 3=>3 | 41=>334 | 44=>497 | 49=>457 | 51=>138 | 4=>4 | 54=>530 | 53=>529 | 58=>194 | 5=>5 | 9=>9 | 60=>548 | 64=>503 | 66=>557 | 67=>181 | 17=>17 | 32=>489 | 33=>490 | 82=>578 | 12=>12 | 75=>571 | 76=>572 | 77=>573 | 78=>574 | 79=>575 | 80=>576 | n=>n,fun | n=>n⟩
theorem Tryz.sliceLay:Go.Proofs.LaysGg.n6 Tryz.prog Tryz.sliceLay_ren:={
 mixed:=by kernel_rfl
 f6:=Tryz.func415.trans (congrArg some (by kernel_rfl))
 f10:=Tryz.func492.trans (congrArg some (by kernel_rfl))
 f11:=Tryz.func493.trans (congrArg some (by kernel_rfl))
 f12:=Tryz.func494.trans (congrArg some (by kernel_rfl))
 f13:=Tryz.func332.trans (congrArg some (by kernel_rfl))
 f14:=Tryz.func495.trans (congrArg some (by kernel_rfl))
 f24:=Tryz.func438.trans (congrArg some (by kernel_rfl))
 f25:=Tryz.func439.trans (congrArg some (by kernel_rfl))
 f26:=Tryz.func545.trans (congrArg some (by kernel_rfl))
 f27:=Tryz.func546.trans (congrArg some (by kernel_rfl))
 f28:=Tryz.func547.trans (congrArg some (by kernel_rfl))
 f29:=Tryz.func548.trans (congrArg some (by kernel_rfl))
 f30:=Tryz.func549.trans (congrArg some (by kernel_rfl))
 f31:=Tryz.func550.trans (congrArg some (by kernel_rfl))
 f32:=Tryz.func551.trans (congrArg some (by kernel_rfl))
 f33:=Tryz.func552.trans (congrArg some (by kernel_rfl))
 f34:=Tryz.func569.trans (congrArg some (by kernel_rfl))
 f35:=Tryz.func570.trans (congrArg some (by kernel_rfl))
 f36:=Tryz.func571.trans (congrArg some (by kernel_rfl))
 f37:=Tryz.func572.trans (congrArg some (by kernel_rfl))
 f38:=Tryz.func573.trans (congrArg some (by kernel_rfl))
 f39:=Tryz.func581.trans (congrArg some (by kernel_rfl))
 t0:=Tryz.underlying0
 a0:=Tryz.isAgg0
 z0:=Tryz.sizeOf0
 v0:=Tryz.zeroValue0
 i0:=by kernel_rfl
 t3:=Tryz.underlying3
 a3:=Tryz.isAgg3
 z3:=Tryz.sizeOf3
 v3:=Tryz.zeroValue3
 i3:=by kernel_rfl
 t4:=Tryz.underlying4
 a4:=Tryz.isAgg4
 z4:=Tryz.sizeOf4
 v4:=Tryz.zeroValue4
 i4:=by kernel_rfl
 t5:=Tryz.underlying5
 a5:=Tryz.isAgg5
 z5:=Tryz.sizeOf5
 v5:=Tryz.zeroValue5
 i5:=by kernel_rfl
 t9:=Tryz.underlying9
 a9:=Tryz.isAgg9
 z9:=Tryz.sizeOf9
 v9:=Tryz.zeroValue9
 i9:=by kernel_rfl
 t12:=Tryz.underlying12
 a12:=Tryz.isAgg12
 z12:=Tryz.sizeOf12
 v12:=Tryz.zeroValue12
 i12:=by kernel_rfl
 t17:=Tryz.underlying17
 a17:=Tryz.isAgg17
 z17:=Tryz.sizeOf17
 v17:=Tryz.zeroValue17
 i17:=by kernel_rfl
 t20:=Tryz.underlying20
 a20:=Tryz.isAgg20
 z20:=Tryz.sizeOf20
 v20:=Tryz.zeroValue20
 i20:=by kernel_rfl
 t26:=Tryz.underlying261
 a26:=Tryz.isAgg261
 z26:=Tryz.sizeOf261
 v26:=Tryz.zeroValue261
 i26:=by kernel_rfl
 t32:=Tryz.underlying489
 a32:=Tryz.isAgg489
 z32:=Tryz.sizeOf489
 v32:=Tryz.zeroValue489
 i32:=by kernel_rfl
 t33:=Tryz.underlying490
 a33:=Tryz.isAgg490
 z33:=Tryz.sizeOf490
 v33:=Tryz.zeroValue490
 i33:=by kernel_rfl
 t35:=Tryz.underlying492
 a35:=Tryz.isAgg492
 z35:=Tryz.sizeOf492
 v35:=Tryz.zeroValue492
 i35:=by kernel_rfl
 t37:=Tryz.underlying329
 a37:=Tryz.isAgg329
 z37:=Tryz.sizeOf329
 v37:=Tryz.zeroValue329
 i37:=by kernel_rfl
 t41:=Tryz.underlying334
 a41:=Tryz.isAgg334
 z41:=Tryz.sizeOf334
 v41:=Tryz.zeroValue334
 i41:=by kernel_rfl
 t44:=Tryz.underlying497
 a44:=Tryz.isAgg497
 z44:=Tryz.sizeOf497
 v44:=Tryz.zeroValue497
 i44:=by kernel_rfl
 t49:=Tryz.underlying457
 a49:=Tryz.isAgg457
 z49:=Tryz.sizeOf457
 v49:=Tryz.zeroValue457
 i49:=by kernel_rfl
 t51:=Tryz.underlying138
 a51:=Tryz.isAgg138
 z51:=Tryz.sizeOf138
 v51:=Tryz.zeroValue138
 i51:=by kernel_rfl
 t53:=Tryz.underlying529
 a53:=Tryz.isAgg529
 z53:=Tryz.sizeOf529
 v53:=Tryz.zeroValue529
 i53:=by kernel_rfl
 t54:=Tryz.underlying530
 a54:=Tryz.isAgg530
 z54:=Tryz.sizeOf530
 v54:=Tryz.zeroValue530
 i54:=by kernel_rfl
 t58:=Tryz.underlying194
 a58:=Tryz.isAgg194
 z58:=Tryz.sizeOf194
 v58:=Tryz.zeroValue194
 i58:=by kernel_rfl
 t60:=Tryz.underlying548
 a60:=Tryz.isAgg548
 z60:=Tryz.sizeOf548
 v60:=Tryz.zeroValue548
 i60:=by kernel_rfl
 t64:=Tryz.underlying503
 a64:=Tryz.isAgg503
 z64:=Tryz.sizeOf503
 v64:=Tryz.zeroValue503
 i64:=by kernel_rfl
 t66:=Tryz.underlying557
 a66:=Tryz.isAgg557
 z66:=Tryz.sizeOf557
 v66:=Tryz.zeroValue557
 i66:=by kernel_rfl
 t67:=Tryz.underlying181
 a67:=Tryz.isAgg181
 z67:=Tryz.sizeOf181
 v67:=Tryz.zeroValue181
 i67:=by kernel_rfl
 t75:=Tryz.underlying571
 a75:=Tryz.isAgg571
 z75:=Tryz.sizeOf571
 v75:=Tryz.zeroValue571
 i75:=by kernel_rfl
 t76:=Tryz.underlying572
 a76:=Tryz.isAgg572
 z76:=Tryz.sizeOf572
 v76:=Tryz.zeroValue572
 i76:=by kernel_rfl
 t77:=Tryz.underlying573
 a77:=Tryz.isAgg573
 z77:=Tryz.sizeOf573
 v77:=Tryz.zeroValue573
 i77:=by kernel_rfl
 t78:=Tryz.underlying574
 a78:=Tryz.isAgg574
 z78:=Tryz.sizeOf574
 v78:=Tryz.zeroValue574
 i78:=by kernel_rfl
 t79:=Tryz.underlying575
 a79:=Tryz.isAgg575
 z79:=Tryz.sizeOf575
 v79:=Tryz.zeroValue575
 i79:=by kernel_rfl
 t80:=Tryz.underlying576
 a80:=Tryz.isAgg576
 z80:=Tryz.sizeOf576
 v80:=Tryz.zeroValue576
 i80:=by kernel_rfl
 t82:=Tryz.underlying578
 a82:=Tryz.isAgg578
 z82:=Tryz.sizeOf578
 v82:=Tryz.zeroValue578
 i82:=by kernel_rfl}
end Go.Proofs
namespace Go.PL
open Go Go.Proofs Go.Sort
theorem c64 {α:Type} [Inhabited α] {cells:α -> List Go.Value} {n:Nat} (hn: ∀x,(cells x).length=n): ∀(l:List α) (t:Nat),t<l.length*n -> (l.flatMap cells)[t]? =(cells (l[t/n]!))[t%n]?
 | [],t,h=>by simp at h
 | x::r,t,h=>by
   have hp:0<n:=by
    rcases Nat.eq_zero_or_pos n with h0 | h0
    ·rw [h0] at h;simp at h
    ·exact h0
   rw [List.flatMap_cons]
   by_cases ht:t<n
   ·rw [List.getElem?_append_left (by rw [hn];exact ht),Nat.div_eq_of_lt ht,Nat.mod_eq_of_lt ht];rfl
   ·have h1:t=(t-n)+n:=by omega
    have h2:t/n=(t-n)/n+1:=by rw [h1,Nat.add_div_right _ hp];simp
    have h3:t%n=(t-n)%n:=by rw [h1,Nat.add_mod_right];simp
    rw [List.getElem?_append_right (by rw [hn];omega),hn,c64 hn r (t-n) (by simp only [List.length_cons,Nat.succ_mul] at h;omega),h2,h3]
    rfl
theorem c1i {α:Type} [Inhabited α] {cells:α -> List Go.Value} {n:Nat} (hn: ∀x,(cells x).length=n) (d:Array α):(flatK cells n d).toList=d.toList.flatMap cells:=by
 apply List.ext_getElem?
 intro t
 by_cases ht:t<d.size*n
 ·rw [c64 hn d.toList t (by simpa using ht)]
  have h1:(flatK cells n d)[t]? =some ((cells (d[t/n]!))[t%n]!):=by
   rw [<- get_flatK cells n d t ht,getElem!_pos (flatK cells n d) t (by rw [size_flatK];exact ht)]
   simp
  have hp:0<n:=by
   rcases Nat.eq_zero_or_pos n with h0 | h0
   ·rw [h0] at ht;simp at ht
   ·exact h0
  have hlt:t%n<(cells (d[t/n]!)).length:=by rw [hn];exact Nat.mod_lt _ hp
  have h2:d.toList[t/n]! =d[t/n]! :=by simp [List.getElem!_eq_getElem?_getD,Array.getElem!_eq_getD,Array.getD_eq_getD_getElem?]
  rw [Array.getElem?_toList,h1,h2,getElem!_pos (cells (d[t/n]!)) (t%n) hlt,List.getElem?_eq_getElem hlt]
 ·rw [List.getElem?_eq_none (by simp;omega),List.getElem?_eq_none (by rw [a0i hn];simp;omega)]
section
variable {α:Type} [Inhabited α] {B:Nat} {E:TypeId} {n:Nat} {cells:α -> List Go.Value} {w w':World} {v:Go.Value} {l:List α}
theorem e38 (hn: ∀x,(cells x).length=n) {g o cap m:Nat} (h:Own B E n cells w (.slice (some ⟨g,o,none⟩) m cap) l):HoldsK cells n w g o l.toArray:=by
 intro j hj
 rw [size_flatK] at hj
 have hk:=c1i hn l.toArray
 have hu:(l.flatMap cells)[j]? =some ((flatK cells n l.toArray)[j]!):=by
  have:(flatK cells n l.toArray).toList[j]? =some ((flatK cells n l.toArray)[j]!):=by
   rw [getElem!_pos (flatK cells n l.toArray) j (by rw [size_flatK];exact hj)]
   simp
  rw [hk] at this
  simpa using this
 refine ⟨?_,?_⟩
 ·have:=h.ca rfl j _ hu
  rwa [Addr.add_lit] at this
 ·rcases h with ⟨hv,_⟩ | ⟨g',o',cap',cur,hv,_,hh,_⟩
  ·cases hv
  ·simp only [Value.slice.injEq,Option.some.injEq,Addr.mk.injEq] at hv
   obtain ⟨⟨rfl,_,_⟩,_,_⟩:=hv
   have hM:Mb w g E cur.toList:=by show _=_;rw [hh]
   exact hM.frozen _
theorem c7v {F cur:Array Go.Value} {m o:Nat} (hF:F.size=m) (hc:o+m <= cur.size):((putCells id o F cur).toList.drop o).take m=F.toList:=by
 apply List.ext_getElem?
 intro t
 by_cases ht:t<m
 ·rw [List.getElem?_take_of_lt ht,List.getElem?_drop,Array.getElem?_toList]
  simp only [putCells,Array.getElem?_mapIdx,id]
  rw [Array.getElem?_eq_getElem (show o+t<cur.size by omega),Option.map_some,if_pos ⟨Nat.le_add_right _ _,by omega⟩,Array.getElem?_toList,Nat.add_sub_cancel_left,getElem!_pos F t (by omega),Array.getElem?_eq_getElem (show t<F.size by omega)]
 ·rw [List.getElem?_eq_none (by simp;omega),List.getElem?_eq_none (by simp;omega)]
theorem f0u (hn: ∀x,(cells x).length=n) {g o cap m q:Nat} {os:Array Obj} {d:Array α} (h:Own B E n cells w (.slice (some ⟨g,o,none⟩) m cap) l) (hd:d.size=l.length):
  Own B E n cells (grow (putRowK cells n (Go.Sort.ahead w q) g o d) os) (.slice (some ⟨g,o,none⟩) m cap) d.toList:=by
 rcases h with ⟨hv,_⟩ | ⟨g',o',cap',cur,hv,hB,hh,hc,hm,hs,ht⟩
 ·cases hv
 ·simp only [Value.slice.injEq,Option.some.injEq,Addr.mk.injEq] at hv
  obtain ⟨⟨rfl,rfl,_⟩,hml,rfl⟩:=hv
  have hlt:g<w.heap.size:=(Array.getElem?_eq_some_iff.1 hh).1
  have hmn:d.size*n <= cap*n:=by rw [hd];exact Nat.mul_le_mul_right _ hc
  refine .inr ⟨g,o,cap,putCells id o (flatK cells n d) cur,by rw [Array.length_toList,hd,hml],hB,?_,by rw [Array.length_toList,hd];exact hc,hm,by simp [putCells,hs],?_⟩
  ·show ((putRowK cells n (Go.Sort.ahead w q) g o d).heap++os)[g]? =_
   rw [Array.getElem?_append_left (by rw [size_putRowK];exact hlt)]
   show (w.heap.modify g _)[g]? =_
   rw [Array.getElem?_modify,if_pos rfl,hh]
   rfl
  ·rw [Array.length_toList,c7v (by rw [size_flatK]) (by omega),c1i hn]
theorem f08 {G:Nat -> Prop} {g o q:Nat} {os:Array Obj} {d:Array α} (hg:G g):Ext G w (grow (putRowK cells n (Go.Sort.ahead w q) g o d) os):=
 ⟨rfl,rfl,rfl,by show _ <= ((putRowK cells n (Go.Sort.ahead w q) g o d).heap++os).size;rw [Array.size_append,size_putRowK];exact Nat.le_add_right _ _,
  fun b hb hn=>by
   show ((putRowK cells n (Go.Sort.ahead w q) g o d).heap++os)[b]? =_
   rw [Array.getElem?_append_left (by rw [size_putRowK];exact hb)]
   show (w.heap.modify g _)[b]? =_
   rw [Array.getElem?_modify,if_neg (fun e:g=b=>hn (e▸hg))]⟩
end
end Go.PL
namespace Go.Proofs
open Go.Shelf Go.RowKit Go.Lib Go.Sort
noncomputable def Tryz.spT:TypeInfo:=(Tryz.prog.info? 271).get (by kernel_rfl)
noncomputable def Tryz.spE:TypeInfo:=(Tryz.prog.info? 55).get (by kernel_rfl)
theorem Tryz.spK (n:Nat) (h2:2 <= n):Lib.swapperK n Tryz.spE 25=9:=by
 have a:Tryz.spE.hasPointers=false:=by kernel_rfl
 have b:Tryz.spE.bytes=16:=by kernel_rfl
 have c:(n==0)=false:=by simp;omega
 have d:(n==1)=false:=by simp;omega
 simp [Lib.swapperK,a,b,c,d]
set_option maxHeartbeats 2000000 in
theorem Tryz.spLess (blk off c Bs size:Nat) (W:World) (G:Nat -> Int) (hs:W.cell? ⟨Bs,0,none⟩=some (.slice (some ⟨blk,off,none⟩) size c))
  (hc: ∀t,t<size -> W.cell? ⟨blk,off+t*2,none⟩=some (.int .i64 (G t))) (i j:Nat) (hi:i<size) (hj:j<size) (_hsz:size<4611686018427387904):
  Calls Tryz.prog 416 #[.int .i64 i,.int .i64 j,.pointer (some ⟨Bs,0,none⟩)] W fun e w'=>e= .returned (.bool (decide (G i<G j))) /\ ∃q,w'=W.drewN q:=by
 have ci:=hc i hi
 have cj:=hc j hj
 go_enter Tryz.func416,Tryz.ntmps416
 go_wp2
 go_quiet (fail)
 go_wp2
 go_ret
 exact ⟨rfl,nq,rfl⟩
end Go.Proofs
namespace Go.PL
open Go Go.Proofs Go.Sort
def Span.cells (x:Span):List Go.Value:=[.int .i64 x.From,.int .i64 x.To]
theorem d49:SWO (fun x y:Span=>decide (x.From<y.From)):=by
 constructor
 ·intro x;simp
 ·intro x y z;simp only [decide_eq_true_eq];omega
 ·intro x y z;simp only [decide_eq_false_iff_not];omega
set_option maxHeartbeats 2000000 in
theorem c0r {w0:World} (l:List Span) {v:Go.Value} {B bc:Nat} (hO:Own B 55 2 Span.cells w0 v l) (hb:Mb w0 bc 271 [v]) (hnb:Go.Value.ownBlock v≠some bc) {r:List Span} (hF:b00 l=some r):
  Calls Tryz.prog 415 #[.iface 271 v,.func (.func 416) #[] #[.pointer (some ⟨bc,0,none⟩)]] w0 fun e w1=>e= .returned (.tuple #[]) /\ Ext (fun b=>Go.Value.ownBlock v=some b) w0 w1 /\ Own B 55 2 Span.cells w1 v r:=by
 unfold b00 e9e at hF
 by_cases h1:l.length <= 1
 ·rw [if_pos h1] at hF
  obtain rfl:=Option.some.inj hF
  obtain ⟨a,cap,hv,_,_⟩:=hO.shape
  have key: ∀n,l.length=n -> Calls Tryz.prog 415 #[.iface 271 (.slice a n cap),.func (.func 416) #[] #[.pointer (some ⟨bc,0,none⟩)]] w0 (fun e w'=>e= .returned (.tuple #[]) /\ ∃os,w'=Go.Sort.grow w0 os) ->
    Calls Tryz.prog 415 #[.iface 271 v,.func (.func 416) #[] #[.pointer (some ⟨bc,0,none⟩)]] w0 fun e w1=>e= .returned (.tuple #[]) /\ Ext (fun b=>Go.Value.ownBlock v=some b) w0 w1 /\ Own B 55 2 Span.cells w1 v l:=by
   intro n hn h
   rw [hn] at hv
   rw [<- hv] at h
   refine Calls.mono h ?_
   rintro e w1 ⟨rfl,os,rfl⟩
   have hE:Ext noG w0 (Go.Sort.grow w0 os):=⟨rfl,rfl,rfl,by show _ <= (w0.heap++os).size;simp,fun b hb _=>by show (w0.heap++os)[b]? =_;rw [Array.getElem?_append_left hb]⟩
   exact ⟨rfl,hE.of_no,hO.exn hE⟩
  rcases (show l.length=0 \/ l.length=1 by omega) with h0 | h0
  ·exact key 0 h0 (Any.sort_Slice_tiny Tryz.sliceLay 271 55 Tryz.spT Tryz.spE (by kernel_rfl) (by kernel_rfl) (by kernel_rfl) (by kernel_rfl) 25 (fun _=>by kernel_rfl) a 0 cap (by omega) 536 (by kernel_rfl) (.func 416) #[] #[.pointer (some ⟨bc,0,none⟩)] w0)
  ·exact key 1 h0 (Any.sort_Slice_tiny Tryz.sliceLay 271 55 Tryz.spT Tryz.spE (by kernel_rfl) (by kernel_rfl) (by kernel_rfl) (by kernel_rfl) 25 (fun _=>by kernel_rfl) a 1 cap (by omega) 537 (by kernel_rfl) (.func 416) #[] #[.pointer (some ⟨bc,0,none⟩)] w0)
 ·rw [if_neg h1] at hF
  split at hF
  case isFalse=>cases hF
  rename_i hsz
  obtain rfl:=Option.some.inj hF
  obtain ⟨a,cap,hv,hlc,hcm⟩:=hO.shape
  cases a with
  | none=>
    exfalso
    rcases hO with ⟨_,h⟩ | ⟨g,o,c',cur,hv',_⟩
    ·rw [h] at h1;simp at h1
    ·rw [hv] at hv';cases hv'
  | some ad=>
    obtain ⟨g,o,hg⟩: ∃g o,ad=⟨g,o,none⟩:=by
     rcases hO with ⟨h,_⟩ | ⟨g,o,c',cur,hv',_⟩
     ·rw [hv] at h;cases h
     ·rw [hv] at hv';cases hv';exact ⟨g,o,rfl⟩
    subst hg
    subst hv
    have hlt:g<w0.heap.size:=(hO.lt rfl).2
    have hbg:bc≠g:=fun e=>hnb (by rw [e];rfl)
    have hcell:w0.cell? ⟨bc,0,none⟩=some (.slice (some ⟨g,o,none⟩) l.toArray.size cap):=hb.ca 0 _ rfl
    have hH:=e38 (n:=2) (cells:=Span.cells) (fun _=>rfl) hO
    have h2:2 <= l.toArray.size:=by rw [List.size_toArray];omega
    have hsz':l.toArray.size<4611686018427387904:=by rw [List.size_toArray];exact hsz
    have hless:LessReadsK Tryz.prog 416 #[.pointer (some ⟨bc,0,none⟩)] Span.cells 2 (fun x y:Span=>decide (x.From<y.From)) g o l.toArray.size w0:=by
     intro m os dk hs i j hi hj
     have e:sortWorldK Span.cells 2 w0 g o m dk os=putRowK Span.cells 2 (grow (Go.Sort.ahead w0 m) os) g o dk:=by
      unfold sortWorldK;rw [putRowK_grow _ _ (Go.Sort.ahead w0 m) _ g o _ hlt]
     have hHg:HoldsK Span.cells 2 (grow (Go.Sort.ahead w0 m) os) g o l.toArray:=holdsK_grow _ _ _ _ g o _ hlt (holdsK_ahead _ _ _ _ _ _ _ hH)
     refine Tryz.spLess g o cap bc l.toArray.size _ (fun t=>dk[t]!.From) ?_ (fun t ht=> ?_) i j hi hj (by omega)
     ·rw [e,cell?_putRowK_other _ _ _ g o dk _ (by exact hbg),cell?_grow _ _ _ (by exact hb.lt)];exact hcell
     ·rw [e];exact ((holdsK_putRowK _ _ _ g o l.toArray dk hHg hs).cell (i:=t) (c:=0) (by omega) (by omega)).1
    have hS:=Any.sort_Slice_cells_eq Tryz.sliceLay 271 55 Tryz.spT Tryz.spE (by kernel_rfl) (by kernel_rfl) (by kernel_rfl) (by kernel_rfl) 25 (fun _=>by kernel_rfl) Span.cells 2 (fun _=>rfl) (by kernel_rfl) (fun _=>by kernel_rfl)
     (fun x u hu=>by simp [Span.cells] at hu;rcases hu with rfl | rfl<;>rfl) (fun x y:Span=>decide (x.From<y.From)) d49 416 _
     (enters_of Tryz.func416 (by kernel_rfl) rfl) g o cap l.toArray h2 hsz' 544 (by rw [Tryz.spK _ h2];kernel_rfl) false
     (fun args W=>run_callFunc_extern Tryz.func544 (by kernel_rfl) (by kernel_rfl) (by kernel_rfl) (e:=Extern.ReflectliteSwapper.swap false) (by kernel_rfl) args W) w0 hless hH hlt
    have hp:=(pdq_sorts (fun x y:Span=>decide (x.From<y.From)) d49 l.toArray 0 l.toArray.size (Lib.bitLen l.toArray.size) true true (Nat.zero_le _) (Nat.le_refl _) (Or.inl rfl)).1.1
    rw [List.size_toArray] at hS hp
    generalize pdq (fun x y:Span=>decide (x.From<y.From)) l.toArray 0 l.length (Lib.bitLen l.length) true true=d at hS hp⊢
    refine Calls.mono hS ?_
    rintro e w1 ⟨rfl,q,os,rfl⟩
    exact ⟨rfl,f08 rfl,f0u (n:=2) (cells:=Span.cells) (fun _=>rfl) hO hp⟩
end Go.PL
namespace Go.PL
open Go Go.SX Go.Proofs
theorem mixed:Tryz.prog.follows .mixedOrders=true:=by kernel_rfl
noncomputable section
def e6k:Fent VV:=⟨⟨[.v .yi,.v .yl],[.v .z9]⟩,Int,fun x=>a50 x.1 x.2.1,fun n=>((n,()),()),none⟩
theorem f3o:d9e Tryz.prog 564 e6k:=e4v (U:=VV) (a:= .yi) (b:= .yl) (c:= .z9) (fn:=Tryz.f564) (by kernel_rfl) (by kernel_rfl) (by kernel_rfl) (by kernel_rfl) (by kernel_rfl) (fun x=>x) (fun x=>x) (fun n=>n) (fun _=>rfl) (fun _=>rfl) (fun _=>rfl)
def e70:Fent VV:=⟨⟨[.v .z9],[.v .yi]⟩,ByteArray,fun x=>strconv_Itoa x.1,fun b=>((b,()),()),none⟩
theorem f7a:SX.Spec Tryz.prog 483 e70:=e0o (U:=VV) (a:= .z9) (c:= .yi) Tryz.laysItoa (fun _ h=>h) (fun x=>x) (fun _=>rfl) (fun x=>x) (fun _=>rfl)
def e79:Fent VV:=⟨⟨[.ls .z9],[.ow 3 .z9]⟩,List Int,fun x=>b28 x.1,w1,none⟩
theorem f68:SX.Spec Tryz.prog 192 e79:=b1g (U:=VV) (c:= .z9) (e:=3) (t:=22) (b:=4) (N:=8) uok mixed (fn:=Tryz.f192) (by kernel_rfl) (by kernel_rfl) rfl rfl (by kernel_rfl) (by kernel_rfl) (by kernel_rfl) (fun l=>by kernel_rfl)
def e6z:Fent VV:=⟨⟨[.ls .zh],[.ow 253 .zh]⟩,List Credit,fun x=>a71 x.1,w1,none⟩
theorem f4b:SX.Spec Tryz.prog 325 e6z:=b1g (U:=VV) (c:= .zh) (e:=253) (t:=98) (b:=4) (N:=16) uok mixed (fn:=Tryz.f325) (by kernel_rfl) (by kernel_rfl) rfl rfl (by kernel_rfl) (by kernel_rfl) (by kernel_rfl) (fun l=>by kernel_rfl)
def e80:Fent VV:=⟨⟨[.ls .zm],[.ow 257 .zm]⟩,List Index,fun x=>a7s x.1,w1,none⟩
theorem f6h:SX.Spec Tryz.prog 326 e80:=b1g (U:=VV) (c:= .zm) (e:=257) (t:=99) (b:=4) (N:=24) uok mixed (fn:=Tryz.f326) (by kernel_rfl) (by kernel_rfl) rfl rfl (by kernel_rfl) (by kernel_rfl) (by kernel_rfl) (fun l=>by kernel_rfl)
def e6o:Fent VV:=⟨⟨[.ls .zo],[.ow 350 .zo]⟩,List Let,fun x=>a92 x.1,w1,none⟩
theorem f5h:SX.Spec Tryz.prog 327 e6o:=b1g (U:=VV) (c:= .zo) (e:=350) (t:=100) (b:=4) (N:=88) uok mixed (fn:=Tryz.f327) (by kernel_rfl) (by kernel_rfl) rfl rfl (by kernel_rfl) (by kernel_rfl) (by kernel_rfl) (fun l=>by kernel_rfl)
def e7p:Fent VV:=⟨⟨[.ls .zl],[.ow 111 .zl]⟩,List Grant,fun x=>a7t x.1,w1,none⟩
theorem f4d:SX.Spec Tryz.prog 328 e7p:=b1g (U:=VV) (c:= .zl) (e:=111) (t:=101) (b:=4) (N:=152) uok mixed (fn:=Tryz.f328) (by kernel_rfl) (by kernel_rfl) rfl rfl (by kernel_rfl) (by kernel_rfl) (by kernel_rfl) (fun l=>by kernel_rfl)
def e91:Fent VV:=⟨⟨[.ls .zt],[.ow 232 .zt]⟩,List Reduce,fun x=>a74 x.1,w1,none⟩
theorem f5i:SX.Spec Tryz.prog 329 e91:=b1g (U:=VV) (c:= .zt) (e:=232) (t:=102) (b:=4) (N:=80) uok mixed (fn:=Tryz.f329) (by kernel_rfl) (by kernel_rfl) rfl rfl (by kernel_rfl) (by kernel_rfl) (by kernel_rfl) (fun l=>by kernel_rfl)
def f3y:Fent VV:=⟨⟨[],[]⟩,Unit,fun _=>none,fun _=>((),()),some (.qy (slQ 271 55 .zz 416 b00))⟩
def K415:Kn Tryz.prog VV:=⟨415,f3y,show d3b Tryz.prog 415 _ from e9w (U:=VV) (c:= .zz) (cells:=Span.cells) (z1 (fn:=Tryz.f415) (by kernel_rfl) (by kernel_rfl) (by kernel_rfl)) (fun G w cs x h=>by
    obtain ⟨_,css,rfl,hh⟩:=b1k.1 h
    match css,hh with
    | [a,b],⟨h1,h2,_⟩=>rw [show a=_ from h1,show b=_ from h2];rfl) (fun G w x=>b1k.2 ⟨rfl,[[.int .i64 x.From],[.int .i64 x.To]],rfl,⟨rfl,rfl,trivial⟩⟩) fun l r w v bc hO hM hne hF=>c0r l hO hM hne hF⟩
def K192:Kn Tryz.prog VV:=⟨192,e79,knS rfl ⟨f68,fun _ _=>by kernel_rfl⟩⟩
def K325:Kn Tryz.prog VV:=⟨325,e6z,knS rfl ⟨f4b,fun _ _=>by kernel_rfl⟩⟩
def K326:Kn Tryz.prog VV:=⟨326,e80,knS rfl ⟨f6h,fun _ _=>by kernel_rfl⟩⟩
def K327:Kn Tryz.prog VV:=⟨327,e6o,knS rfl ⟨f5h,fun _ _=>by kernel_rfl⟩⟩
def K328:Kn Tryz.prog VV:=⟨328,e7p,knS rfl ⟨f4d,fun _ _=>by kernel_rfl⟩⟩
def K329:Kn Tryz.prog VV:=⟨329,e91,knS rfl ⟨f5i,fun _ _=>by kernel_rfl⟩⟩
def K483:Kn Tryz.prog VV:=⟨483,e70,knS rfl ⟨f7a,fun _ _=>by kernel_rfl⟩⟩
def f77:Fent VV:=⟨⟨[],[]⟩,Unit,fun _=>none,fun _=>((),()),some (.seq 310 24 (some .zw))⟩
def K191:Kn Tryz.prog VV:=⟨191,f77,show b47 _ _ _ _ from c07 (tS:=24) (tF:=266) (tG:=265) (p1:= "iter.go:26") (p2:= "iter.go:27") (z1 (fn:=Tryz.f191) (by kernel_rfl) (by kernel_rfl) (by kernel_rfl)) (fn:=Tryz.f191) (by kernel_rfl) (by kernel_rfl) rfl rfl⟩
def f6r:Fent VV:=⟨⟨[],[]⟩,Unit,fun _=>none,fun _=>((),()),some (.seq 324 46 (some .y6))⟩
def K214:Kn Tryz.prog VV:=⟨214,f6r,show b47 _ _ _ _ from c07 (tS:=46) (tF:=278) (tG:=277) (p1:= "iter.go:26") (p2:= "iter.go:27") (z1 (fn:=Tryz.f214) (by kernel_rfl) (by kernel_rfl) (by kernel_rfl)) (fn:=Tryz.f214) (by kernel_rfl) (by kernel_rfl) rfl rfl⟩
def f4l:Fent VV:=⟨⟨[],[]⟩,Unit,fun _=>none,fun _=>((),()),some (.seq 340 287 none)⟩
def K227:Kn Tryz.prog VV:=⟨227,f4l,show b47 _ _ _ _ from c07 (tS:=287) (tF:=292) (tG:=291) (p1:= "iter.go:25") (p2:= "iter.go:26") (z1 (fn:=Tryz.f227) (by kernel_rfl) (by kernel_rfl) (by kernel_rfl)) (fn:=Tryz.f227) (by kernel_rfl) (by kernel_rfl) rfl rfl⟩
def f66:Fent VV:=⟨⟨[],[]⟩,Unit,fun _=>none,fun _=>((),()),some (.seq 509 39 (some .y2))⟩
def K462:Kn Tryz.prog VV:=⟨462,f66,show b47 _ _ _ _ from c07 (tS:=39) (tF:=476) (tG:=475) (p1:= "iter.go:26") (p2:= "iter.go:27") (z1 (fn:=Tryz.f462) (by kernel_rfl) (by kernel_rfl) (by kernel_rfl)) (fn:=Tryz.f462) (by kernel_rfl) (by kernel_rfl) rfl rfl⟩
def f3t:Fent VV:=⟨⟨[],[]⟩,Unit,fun _=>none,fun _=>((),()),some (.seq 510 22 (some .z9))⟩
def K463:Kn Tryz.prog VV:=⟨463,f3t,show b47 _ _ _ _ from c07 (tS:=22) (tF:=292) (tG:=291) (p1:= "iter.go:37") (p2:= "iter.go:38") (z1 (fn:=Tryz.f463) (by kernel_rfl) (by kernel_rfl) (by kernel_rfl)) (fn:=Tryz.f463) (by kernel_rfl) (by kernel_rfl) rfl rfl⟩
def f43:Fent VV:=⟨⟨[],[]⟩,Unit,fun _=>none,fun _=>((),()),some (.seq 568 249 (some .zf))⟩
def K535:Kn Tryz.prog VV:=⟨535,f43,show b47 _ _ _ _ from c07 (tS:=249) (tF:=523) (tG:=522) (p1:= "iter.go:26") (p2:= "iter.go:27") (z1 (fn:=Tryz.f535) (by kernel_rfl) (by kernel_rfl) (by kernel_rfl)) (fn:=Tryz.f535) (by kernel_rfl) (by kernel_rfl) rfl rfl⟩
def bkL:List (Nat×TypeId×TyC×Bool):=[(310,24,.zw,false),(324,46,.y6,false),(509,39,.y2,false),(510,22,.z9,true),(568,249,.zf,false)]
theorem bkA:f7h (U:=VV) Tryz.prog bkL:=⟨⟨106,⟨⟨Tryz.f310,3,4,386,by kernel_rfl,⟨by kernel_rfl,rfl⟩,rfl⟩,fun _ _=>z1 (fn:=Tryz.f310) (by kernel_rfl) (by kernel_rfl) (by kernel_rfl) _ _,by kernel_rfl,by kernel_rfl⟩,fun _=>by kernel_rfl,fun _=>by kernel_rfl⟩,⟨104,⟨⟨Tryz.f324,3,4,391,by kernel_rfl,⟨by kernel_rfl,rfl⟩,rfl⟩,fun _ _=>z1 (fn:=Tryz.f324) (by kernel_rfl) (by kernel_rfl) (by kernel_rfl) _ _,by kernel_rfl,by kernel_rfl⟩,fun _=>by kernel_rfl,fun _=>by kernel_rfl⟩,⟨173,⟨⟨Tryz.f509,3,4,510,by kernel_rfl,⟨by kernel_rfl,rfl⟩,rfl⟩,fun _ _=>z1 (fn:=Tryz.f509) (by kernel_rfl) (by kernel_rfl) (by kernel_rfl) _ _,by kernel_rfl,by kernel_rfl⟩,fun _=>by kernel_rfl,fun _=>by kernel_rfl⟩,⟨3,⟨⟨Tryz.f510,3,4,136,by kernel_rfl,⟨by kernel_rfl,rfl⟩,rfl⟩,fun _ _=>z1 (fn:=Tryz.f510) (by kernel_rfl) (by kernel_rfl) (by kernel_rfl) _ _,by kernel_rfl,by kernel_rfl⟩,fun _=>by kernel_rfl,fun _=>by kernel_rfl⟩,⟨377,⟨⟨Tryz.f568,3,4,547,by kernel_rfl,⟨by kernel_rfl,rfl⟩,rfl⟩,fun _ _=>z1 (fn:=Tryz.f568) (by kernel_rfl) (by kernel_rfl) (by kernel_rfl) _ _,by kernel_rfl,by kernel_rfl⟩,fun _=>by kernel_rfl,fun _=>by kernel_rfl⟩,trivial⟩
abbrev mkR:= @knR Tryz.prog VV uok mixed bkL bkA
def K564:Kn Tryz.prog VV:=⟨564,e6k,knX rfl f3o⟩
abbrev mk:= @kn Tryz.prog VV uok mixed
def f8c:Kn Tryz.prog VV:=mk 168 Tryz.f168 ⟨[.v .z9],[.v .yi]⟩ (fun x=>i6 x.1) w1 u1 (sk 2 (.s (.l [] [] [.v 0 .z9,.v 3 .yi] .n) .n)) [] (by kernel_rfl) (by kernel_rfl) (fun _=>rfl) fun x=>by kernel_rfl
def K59:Kn Tryz.prog VV:=mk 59 Tryz.f59 ⟨[.v .z9,.v .z9],[.v .z9]⟩ (fun x=>d8 x.1 x.2.1) w1 u1 .n [] (by kernel_rfl) (by kernel_rfl) (fun _=>rfl) fun x=>by kernel_rfl
def K89:Kn Tryz.prog VV:=mk 89 Tryz.f89 ⟨[.ls .z9,.v .z9],[.v .z9]⟩ (fun x=>f8 x.1 x.2.1) w1 u1 .n [K59] (by kernel_rfl) (by kernel_rfl) (fun _=>rfl) fun x=>by kernel_rfl
def K285:Kn Tryz.prog VV:=mk 285 Tryz.f285 ⟨[.v .z9],[.v .yi]⟩ (fun x=>p8 x.1) w1 u1 .n [f8c] (by kernel_rfl) (by kernel_rfl) (fun _=>rfl) fun x=>by kernel_rfl
def K169:Kn Tryz.prog VV:=mk 169 Tryz.f169 ⟨[.v .yi,.ls .z9,.v .z9],[.v .yi]⟩ (fun x=>a0e x.1 x.2.1 x.2.2.1) w1 u1 (sk 3 (.j [] [.ls 1 .z9,.v 2 .z9,.v 7 .yi,.v 8 .yi] .n (.s .n (.j [] [.ls 1 .z9,.v 2 .z9,.v 7 .yi,.v 8 .yi] .n (.j [] [.ls 1 .z9,.v 2 .z9,.v 7 .yi,.v 8 .yi] .n (.s .n (.s .n (.s .n (.s .n (.j [] [.ls 1 .z9,.v 2 .z9,.v 8 .yi] .n (.s .n (.s .n (.j [] [.ls 1 .z9,.v 2 .z9,.v 8 .yi] .n .n))))))))))))) [K59,K89,f8c,K285] (by kernel_rfl) (by kernel_rfl) (fun _=>rfl) fun x=>by kernel_rfl
def K95:Kn Tryz.prog VV:=mk 95 Tryz.f95 ⟨[.v .z9,.ls .z9],[.v .yi]⟩ (fun x=>a0k x.1 x.2.1) w1 u1 (sk 3 (.j [] [.v 0 .z9,.ls 1 .z9,.v 6 .yi] .n .n)) [K59,K89,f8c,K169] (by kernel_rfl) (by kernel_rfl) (fun _=>rfl) fun x=>by kernel_rfl
def K476:Kn Tryz.prog VV:=mk 476 Tryz.f476 ⟨[.v .yi,.v .z9],[.v .z9]⟩ (fun x=>a5e x.1 x.2.1) w1 u1 (sk 2 (.s (.l [0] [] [.v 1 .z9,.v 5 .z8] .n) .n)) [] (by kernel_rfl) (by kernel_rfl) (fun _=>rfl) fun x=>by kernel_rfl
def g04:Kn Tryz.prog VV:=mk 407 Tryz.f407 ⟨[.v .yl],[.v .z8]⟩ (fun x=>a2o x.1) w1 u1 .n [] (by kernel_rfl) (by kernel_rfl) (fun _=>rfl) fun x=>by kernel_rfl
def f7i:Kn Tryz.prog VV:=mk 408 Tryz.f408 ⟨[.v .yl],[.v .z8]⟩ (fun x=>a29 x.1) w1 u1 .n [] (by kernel_rfl) (by kernel_rfl) (fun _=>rfl) fun x=>by kernel_rfl
def K477:Kn Tryz.prog VV:=mk 477 Tryz.f477 ⟨[.v .yi,.v .z9,.v .z8],[.v .z9]⟩ (fun x=>a3k x.1 x.2.1 x.2.2.1) w1 u1 (sk 2 (.s (.l [0,1,2] [] [.v 7 .z9] .n) .n)) [g04,f7i] (by kernel_rfl) (by kernel_rfl) (fun _=>rfl) fun x=>by kernel_rfl
def K389:Kn Tryz.prog VV:=mk 389 Tryz.f389 ⟨[.v .yi],[.v .yi,.v .yi,.v .z9,.v .z8]⟩ (fun x=>a07 x.1) (fun b=>((b.1,(b.2.1,(b.2.2.1,(b.2.2.2,())))),())) (fun p=>(p.1.1,p.1.2.1,p.1.2.2.1,p.1.2.2.2.1)) (sk 2 (.j [] [.v 0 .yi,.v 6 .z9] .n (.s .n (.s (.s .n (.l [0,6] [] [.v 8 .z9,.v 9 .z9] .n)) (.s .n (.j [] [.v 6 .z9,.v 10 .yi,.v 11 .yi] .n (.s (.s .n (.l [6,10,11] [] [.v 12 .z9] .n)) .n))))))) [f7i] (by kernel_rfl) (by kernel_rfl) (fun _=>rfl) fun x=>by kernel_rfl
def K479:Kn Tryz.prog VV:=mk 479 Tryz.f479 ⟨[.v .yi],[.v .z9,.v .z8]⟩ (fun x=>a6u x.1) w2 u2 (sk 2 (.s (.s .n (.l [0] [] [.v 4 .z9,.v 5 .z9] .n)) .n)) [] (by kernel_rfl) (by kernel_rfl) (fun _=>rfl) fun x=>by kernel_rfl
def K427:Kn Tryz.prog VV:=mk 427 Tryz.f427 ⟨[.v .z9],[.v .z8]⟩ (fun x=>b4y x.1) w1 u1 .n [] (by kernel_rfl) (by kernel_rfl) (fun _=>rfl) fun x=>by kernel_rfl
def K423:Kn Tryz.prog VV:=mk 423 Tryz.f423 ⟨[.v .z9,.v .z9],[.v .z9]⟩ (fun x=>a8p x.1 x.2.1) w1 u1 .n [K427] (by kernel_rfl) (by kernel_rfl) (fun _=>rfl) fun x=>by kernel_rfl
def K418:Kn Tryz.prog VV:=mk 418 Tryz.f418 ⟨[.v .z9],[.v .z9]⟩ (fun x=>b3h x.1) w1 u1 (sk 2 (.s (.s .n (.l [0] [] [.v 3 .z9,.v 4 .z9] .n)) .n)) [K423] (by kernel_rfl) (by kernel_rfl) (fun _=>rfl) fun x=>by kernel_rfl
def K428:Kn Tryz.prog VV:=mk 428 Tryz.f428 ⟨[.v .z9,.v .z9,.v .z9],[.v .z9,.v .z8]⟩ (fun x=>b5p x.1 x.2.1 x.2.2.1) w2 u2 .n [K418,K423] (by kernel_rfl) (by kernel_rfl) (fun _=>rfl) fun x=>by kernel_rfl
def K390:Kn Tryz.prog VV:=mk 390 Tryz.f390 ⟨[.v .yi],[.v .z9,.v .z8]⟩ (fun x=>a1r x.1) w2 u2 .n [K428,K479] (by kernel_rfl) (by kernel_rfl) (fun _=>rfl) fun x=>by kernel_rfl
def K478:Kn Tryz.prog VV:=mk 478 Tryz.f478 ⟨[.v .yi,.v .z9],[.v .z9]⟩ (fun x=>a2t x.1 x.2.1) w1 u1 (.s .n (.j [] [.v 0 .yi,.v 1 .z9] .n .n)) [] (by kernel_rfl) (by kernel_rfl) (fun _=>rfl) fun x=>by kernel_rfl
def K388:Kn Tryz.prog VV:=mk 388 Tryz.f388 ⟨[.v .yi,.v .z9],[.v .y3,.v .z9,.v .z9]⟩ (fun x=>a3u x.1 x.2.1) (fun b=>((b.1,(b.2.1,(b.2.2,()))),())) (fun p=>(p.1.1,p.1.2.1,p.1.2.2.1)) (sk 5 (.j [] [.v 0 .yi,.v 1 .z9,.bx 4 2 363 .y3,.v 7 .z9,.v 8 .z9,.v 9 .z8] .n .n)) [K389,K390,g04,f7i,K476,K477,K478] (by kernel_rfl) (by kernel_rfl) (fun _=>rfl) fun x=>by kernel_rfl
def K277:Kn Tryz.prog VV:=mk 277 Tryz.f277 ⟨[.v .yi],[.ow 363 .y3,.v .z9,.v .z9]⟩ (fun x=>a68 x.1) (fun b=>((b.1,(b.2.1,(b.2.2,()))),())) (fun p=>(p.1.1,p.1.2.1,p.1.2.2.1)) (sk 4 (.l [0] [] [.ow 5 1 363 .y3,.v 6 .z9] .n)) [K388] (by kernel_rfl) (by kernel_rfl) (fun _=>rfl) fun x=>by kernel_rfl
def K161:Kn Tryz.prog VV:=mk 161 Tryz.f161 ⟨[.v .yi],[.bo 242 .yf,.v .z9,.v .z9]⟩ (fun x=>a9u x.1) (fun b=>((b.1,(b.2.1,(b.2.2,()))),())) (fun p=>(p.1.1,p.1.2.1,p.1.2.2.1)) .n [K277] (by kernel_rfl) (by kernel_rfl) (fun _=>rfl) fun x=>by kernel_rfl
def f7y:Kn Tryz.prog VV:=mk 281 Tryz.f281 ⟨[.rp 242 .yf,.v .yi],[.v .z8]⟩ (fun x=>z7 x.1 x.2.1) w1 u1 .n [] (by kernel_rfl) (by kernel_rfl) (fun _=>rfl) fun x=>by kernel_rfl
def e6s:Kn Tryz.prog VV:=mk 165 Tryz.f165 ⟨[.io 242 .yf,.v .yi],[.v .z8]⟩ (fun x=>d9 x.1 x.2.1) (fun b=>((b.1,()),(b.2,()))) (fun p=>(p.1.1,p.2.1)) .n [f7y] (by kernel_rfl) (by kernel_rfl) (fun _=>rfl) fun x=>by kernel_rfl
def f2z:Kn Tryz.prog VV:=mk 278 Tryz.f278 ⟨[.io 242 .yf],[]⟩ (fun x=>p5 x.1) (fun b=>((),(b,()))) (fun p=>p.2.1) .n [] (by kernel_rfl) (by kernel_rfl) (fun _=>rfl) fun x=>by kernel_rfl
def e60:Kn Tryz.prog VV:=mk 162 Tryz.f162 ⟨[.io 242 .yf,.v .yi],[]⟩ (fun x=>b6 x.1 x.2.1) (fun b=>((),(b,()))) (fun p=>p.2.1) .n [e6s,f2z] (by kernel_rfl) (by kernel_rfl) (fun _=>rfl) fun x=>by kernel_rfl
def f1v:Kn Tryz.prog VV:=mk 279 Tryz.f279 ⟨[.rp 242 .yf,.v .z9],[.v .z8]⟩ (fun x=>q9 x.1 x.2.1) w1 u1 .n [] (by kernel_rfl) (by kernel_rfl) (fun _=>rfl) fun x=>by kernel_rfl
def K301:Kn Tryz.prog VV:=mk 301 Tryz.f301 ⟨[.v .yi],[.v .z8]⟩ (fun x=>b2r x.1) w1 u1 (.s .n (.s (.s .n (.l [0] [] [.v 3 .z9] .n)) .n)) [g04,f7i] (by kernel_rfl) (by kernel_rfl) (fun _=>rfl) fun x=>by kernel_rfl
def K302:Kn Tryz.prog VV:=mk 302 Tryz.f302 ⟨[.v .yi],[.v .z8]⟩ (fun x=>b1r x.1) w1 u1 .n [] (by kernel_rfl) (by kernel_rfl) (fun _=>rfl) fun x=>by kernel_rfl
def f2w:Kn Tryz.prog VV:=mk 185 Tryz.f185 ⟨[.v .yi],[.v .z8]⟩ (fun x=>p7 x.1) w1 u1 .n [K301,K302] (by kernel_rfl) (by kernel_rfl) (fun _=>rfl) fun x=>by kernel_rfl
def f7g:Kn Tryz.prog VV:=mk 163 Tryz.f163 ⟨[.io 242 .yf],[.v .yi]⟩ (fun x=>a0m x.1) (fun b=>((b.1,()),(b.2,()))) (fun p=>(p.1.1,p.2.1)) .n [f2w,f2z,f1v] (by kernel_rfl) (by kernel_rfl) (fun _=>rfl) fun x=>by kernel_rfl
def K73:Kn Tryz.prog VV:=mk 73 Tryz.f73 ⟨[.v .z9],[.v .yk]⟩ (fun x=>a1u x.1) w1 u1 .n [] (by kernel_rfl) (by kernel_rfl) (fun _=>rfl) fun x=>by kernel_rfl
def K439:Kn Tryz.prog VV:=mk 439 Tryz.f439 ⟨[.v .yk],[.v .z9]⟩ (fun x=>c09 x.1) w1 u1 (.s .n (.j [] [.v 0 .yk,.v 2 .z9] .n (.j [] [.v 0 .yk,.v 2 .z9] .n .n))) [] (by kernel_rfl) (by kernel_rfl) (fun _=>rfl) fun x=>by kernel_rfl
def K360:Kn Tryz.prog VV:=mk 360 Tryz.f360 ⟨[.v .yk],[.v .z9]⟩ (fun x=>b20 x.1) w1 u1 .n [K439] (by kernel_rfl) (by kernel_rfl) (fun _=>rfl) fun x=>by kernel_rfl
def K249:Kn Tryz.prog VV:=mk 249 Tryz.f249 ⟨[.v .yk,.v .yk,.v .yk],[.v .yk,.v .yk]⟩ (fun x=>b6d x.1 x.2.1 x.2.2.1) w2 u2 (.s .n (.j [] [.v 0 .yk,.v 1 .yk,.v 2 .yk] .n (.j [] [.v 0 .yk,.v 1 .yk,.v 2 .yk] .n (.s .n (.s .n (.s .n (.s .n (.s .n (.s .n (.s .n (.s .n (.s .n (.s .n (.s .n (.j [] [.v 2 .yk,.v 8 .yk,.v 9 .yk,.v 10 .yk,.v 11 .yk,.v 13 .yk,.v 14 .yk,.v 15 .yk] (.l [2,8,9,10,11,13,14] [] [.v 15 .yk,.v 16 .yk] .n) (.s .n (.s .n (.s .n (.j [] [.v 2 .yk,.v 8 .yk,.v 14 .yk,.v 15 .yk,.v 17 .yk,.v 18 .yk] (.l [2,8,9,10,14,15,17] [] [.v 16 .yk,.v 18 .yk] .n) .n))))))))))))))))))) [K360] (by kernel_rfl) (by kernel_rfl) (fun _=>rfl) fun x=>by kernel_rfl
def K138:Kn Tryz.prog VV:=mk 138 Tryz.f138 ⟨[.v .ye,.v .yk],[.v .ye,.v .yk]⟩ (fun x=>a2n x.1 x.2.1) w2 u2 .n [K249] (by kernel_rfl) (by kernel_rfl) (fun _=>rfl) fun x=>by kernel_rfl
def K139:Kn Tryz.prog VV:=mk 139 Tryz.f139 ⟨[.v .yk,.v .yk],[.v .yk]⟩ (fun x=>a1n x.1 x.2.1) w1 u1 (.s .n (.s (.l [] [] [.v 0 .yk,.v 1 .yk] .n) .n)) [] (by kernel_rfl) (by kernel_rfl) (fun _=>rfl) fun x=>by kernel_rfl
def K72:Kn Tryz.prog VV:=mk 72 Tryz.f72 ⟨[.v .z8,.v .ye,.v .yk],[.v .zk,.v .z9]⟩ (fun x=>a8w x.1 x.2.1 x.2.2.1) w2 u2 .n [K138,K139] (by kernel_rfl) (by kernel_rfl) (fun _=>rfl) fun x=>by kernel_rfl
def K30:Kn Tryz.prog VV:=mk 30 Tryz.f30 ⟨[.v .z9,.v .z9],[.v .zk,.v .z9]⟩ (fun x=>a2r x.1 x.2.1) w2 u2 .n [K72,K73] (by kernel_rfl) (by kernel_rfl) (fun _=>rfl) fun x=>by kernel_rfl
def f7z:Kn Tryz.prog VV:=mk 280 Tryz.f280 ⟨[.v .yi],[.v .zk,.v .z9,.v .z8]⟩ (fun x=>s7 x.1) (fun b=>((b.1,(b.2.1,(b.2.2,()))),())) (fun p=>(p.1.1,p.1.2.1,p.1.2.2.1)) (sk 4 (.s (.s .n (.l [5,6,7] [] [.bx 2 1 61 .zk,.v 9 .z9,.v 10 .z9,.v 11 .z9] .n)) .n)) [K30,K389] (by kernel_rfl) (by kernel_rfl) (fun _=>rfl) fun x=>by kernel_rfl
def f6f:Kn Tryz.prog VV:=mk 164 Tryz.f164 ⟨[.io 242 .yf,.v .z9,.v .z9],[.v .z9]⟩ (fun x=>s9 x.1 x.2.1 x.2.2.1) (fun b=>((b.1,()),(b.2,()))) (fun p=>(p.1.1,p.2.1)) .n [f2z,f1v,f7z] (by kernel_rfl) (by kernel_rfl) (fun _=>rfl) fun x=>by kernel_rfl
def K282:Kn Tryz.prog VV:=mk 282 Tryz.f282 ⟨[.v .yi],[.v .z9]⟩ (fun x=>a4j x.1) w1 u1 .n [K390] (by kernel_rfl) (by kernel_rfl) (fun _=>rfl) fun x=>by kernel_rfl
def K391:Kn Tryz.prog VV:=mk 391 Tryz.f391 ⟨[.v .yi],[.v .z9]⟩ (fun x=>a7z x.1) w1 u1 .n [] (by kernel_rfl) (by kernel_rfl) (fun _=>rfl) fun x=>by kernel_rfl
def K392:Kn Tryz.prog VV:=mk 392 Tryz.f392 ⟨[.v .yi],[.v .z9]⟩ (fun x=>a4t x.1) w1 u1 .n [] (by kernel_rfl) (by kernel_rfl) (fun _=>rfl) fun x=>by kernel_rfl
def K393:Kn Tryz.prog VV:=mk 393 Tryz.f393 ⟨[.v .yi],[.v .z9]⟩ (fun x=>a7w x.1) w1 u1 .n [] (by kernel_rfl) (by kernel_rfl) (fun _=>rfl) fun x=>by kernel_rfl
def K283:Kn Tryz.prog VV:=mk 283 Tryz.f283 ⟨[.io 242 .yf,.v .z9],[.v .z9]⟩ (fun x=>a0f x.1 x.2.1) (fun b=>((b.1,()),(b.2,()))) (fun p=>(p.1.1,p.2.1)) .n [f2z,f1v,K391,K392,K393] (by kernel_rfl) (by kernel_rfl) (fun _=>rfl) fun x=>by kernel_rfl
def f80:Kn Tryz.prog VV:=mk 490 Tryz.f490 ⟨[.v .z9],[.v .z9]⟩ (fun x=>a0j x.1) w1 u1 .n [] (by kernel_rfl) (by kernel_rfl) (fun _=>rfl) fun x=>by kernel_rfl
def K529:Kn Tryz.prog VV:=mk 529 Tryz.f529 ⟨[.v .z9],[.v .z9]⟩ (fun x=>a9m x.1) w1 u1 (.s .n (.s (.s .n (.s .n (.s .n (.s .n (.s .n (.s .n (.s .n (.s .n (.s .n (.j [] [.v 3 .z9,.v 12 .z8] .n (.s .n (.j [] [.v 3 .z9,.v 19 .z8] .n .n)))))))))))) .n)) [] (by kernel_rfl) (by kernel_rfl) (fun _=>rfl) fun x=>by kernel_rfl
def K530:Kn Tryz.prog VV:=mk 530 Tryz.f530 ⟨[.v .z9],[.v .yi]⟩ (fun x=>a8v x.1) w1 u1 .n [] (by kernel_rfl) (by kernel_rfl) (fun _=>rfl) fun x=>by kernel_rfl
def K481:Kn Tryz.prog VV:=mk 481 Tryz.f481 ⟨[.rp 242 .yf,.v .z9],[.v .z9]⟩ (fun x=>a2m x.1 x.2.1) w1 u1 (.s .n (.s (.s .n (.l [0,1] [] [.v 5 .z9] .n)) .n)) [f7y,K529,K530] (by kernel_rfl) (by kernel_rfl) (fun _=>rfl) fun x=>by kernel_rfl
def d12:Sig VV:=⟨[.io 242 .yf,.v .z9],[.v .zj]⟩
def b8k (R:Ring_pensionref5_reader_expr):Fent VV:=⟨d12,Expr×pensionref5_reader,fun x=>R.f_pensionref5_reader_expr x.1 x.2.1,fun b=>((b.1,()),(b.2,())),none⟩
def f76:Fent VV:=b8k (c7 FU)
def e83:Ress VV d12.rs×Outs VV d12.ps -> Expr×pensionref5_reader:=fun p=>(p.1.1,p.2.1)
def e6p:Ann VV.C:=(.s .n (.s .n (.s .n (.s .n (.s (.l [1] [] [.bx 0 0 242 .yf,.of 4 4 3 109 .zj,.bm 4 2 109 .zj [(4,3)],.bx 8 4 109 .zj] .n) .n)))))
def d1o:Sig VV:=⟨[.io 242 .yf],[.v .zj]⟩
def d44 (R:Ring_pensionref5_reader_expr):Fent VV:=⟨d1o,Expr×pensionref5_reader,fun x=>R.f_pensionref5_reader_factor x.1,fun b=>((b.1,()),(b.2,())),none⟩
def e8g:Ress VV d1o.rs×Outs VV d1o.ps -> Expr×pensionref5_reader:=fun p=>(p.1.1,p.2.1)
def e88:Ann VV.C:= .n
def d1m:Sig VV:=⟨[.io 242 .yf,.v .z9],[.v .zj]⟩
def d5l (R:Ring_pensionref5_reader_expr):Fent VV:=⟨d1m,Expr×pensionref5_reader,fun x=>R.f_pensionref5_reader_call x.1 x.2.1,fun b=>((b.1,()),(b.2,())),none⟩
def e7m:Ress VV d1m.rs×Outs VV d1m.ps -> Expr×pensionref5_reader:=fun p=>(p.1.1,p.2.1)
def e6i:Ann VV.C:= .n
def e9i (R:Ring_pensionref5_reader_expr):Phi VV:=fun f ys=>lkF f ys [e60.e,e6s.e,(394,b8k R),(480,d44 R),K481.e]
theorem f0f (R:Ring_pensionref5_reader_expr) (hr394:SX.Spec Tryz.prog 394 (b8k R)) (hr480:SX.Spec Tryz.prog 480 (d44 R)):OKΦ Tryz.prog (e9i R):=okl ⟨e60.ok,e6s.ok,knS rfl ⟨hr394,fun _ _=>by kernel_rfl⟩,knS rfl ⟨hr480,fun _ _=>by kernel_rfl⟩,K481.ok,trivial⟩
theorem f4z (R:Ring_pensionref5_reader_expr): ∀x,c58 Tryz.prog (e9i R) d12 e83 Tryz.f394 e6p x=j8 R x.1 x.2.1:=fun x=>by kernel_rfl
theorem e7f:c5d Tryz.f394 d12=true:=by kernel_rfl
def e73 (R:Ring_pensionref5_reader_expr):Phi VV:=fun f ys=>lkF f ys [e60.e,f7g.e,f6f.e,e6s.e,f1v.e,f7z.e,f7y.e,(394,b8k R),(528,d5l R)]
theorem f1l (R:Ring_pensionref5_reader_expr) (hr394:SX.Spec Tryz.prog 394 (b8k R)) (hr528:SX.Spec Tryz.prog 528 (d5l R)):OKΦ Tryz.prog (e73 R):=okl ⟨e60.ok,f7g.ok,f6f.ok,e6s.ok,f1v.ok,f7z.ok,f7y.ok,knS rfl ⟨hr394,fun _ _=>by kernel_rfl⟩,knS rfl ⟨hr528,fun _ _=>by kernel_rfl⟩,trivial⟩
theorem f5r (R:Ring_pensionref5_reader_expr): ∀x,c58 Tryz.prog (e73 R) d1o e8g Tryz.f480 e88 x=i8 R x.1:=fun x=>by kernel_rfl
theorem e75:c5d Tryz.f480 d1o=true:=by kernel_rfl
def e82 (R:Ring_pensionref5_reader_expr):Phi VV:=fun f ys=>lkF f ys [e60.e,(394,b8k R),f80.e]
theorem f2j (R:Ring_pensionref5_reader_expr) (hr394:SX.Spec Tryz.prog 394 (b8k R)):OKΦ Tryz.prog (e82 R):=okl ⟨e60.ok,knS rfl ⟨hr394,fun _ _=>by kernel_rfl⟩,f80.ok,trivial⟩
theorem f6x (R:Ring_pensionref5_reader_expr): ∀x,c58 Tryz.prog (e82 R) d1m e7m Tryz.f528 e6i x=a2k R x.1 x.2.1:=fun x=>by kernel_rfl
theorem e8m:c5d Tryz.f528 d1m=true:=by kernel_rfl
theorem a4n: ∀n,SX.Spec Tryz.prog 394 (b8k (c7 n)) /\ SX.Spec Tryz.prog 480 (d44 (c7 n)) /\ SX.Spec Tryz.prog 528 (d5l (c7 n))
 | 0=>⟨(fun _ _ h=>(by cases (show none=some _ from h))),(fun _ _ h=>(by cases (show none=some _ from h))),(fun _ _ h=>(by cases (show none=some _ from h)))⟩
 | n+1=>let ⟨h394,h480,h528⟩:=a4n n;⟨a6f (fe:=b8k (c7 (n+1))) uok (f0f (c7 n) h394 h480) mixed (fn:=Tryz.f394) (by kernel_rfl) e83 e6p (p6 e7f).1 (p6 e7f).2 (fun _=>rfl) (f4z (c7 n)),a6f (fe:=d44 (c7 (n+1))) uok (f1l (c7 n) h394 h528) mixed (fn:=Tryz.f480) (by kernel_rfl) e8g e88 (p6 e75).1 (p6 e75).2 (fun _=>rfl) (f5r (c7 n)),a6f (fe:=d5l (c7 (n+1))) uok (f2j (c7 n) h394) mixed (fn:=Tryz.f528) (by kernel_rfl) e7m e6i (p6 e8m).1 (p6 e8m).2 (fun _=>rfl) (f6x (c7 n))⟩
def K394:Kn Tryz.prog VV:=⟨394,f76,knS rfl ⟨(a4n FU).1,fun _ _=>by kernel_rfl⟩⟩
def K284:Kn Tryz.prog VV:=mk 284 Tryz.f284 ⟨[.io 242 .yf,.im 104 .y6 [(2,2),(3,3),(4,4),(5,5),(6,6)],.po 1 2 253 .zh,.po 1 3 257 .zm,.po 1 4 350 .zo,.po 1 5 111 .zl,.po 1 6 232 .zt],[]⟩ (fun x=>a2j x.1 x.2.1 x.2.2.1 x.2.2.2.1 x.2.2.2.2.1 x.2.2.2.2.2.1 x.2.2.2.2.2.2.1) (fun b=>((),(b.1,(b.2.1,(b.2.2.1,(b.2.2.2.1,(b.2.2.2.2.1,(b.2.2.2.2.2.1,(b.2.2.2.2.2.2,()))))))))) (fun p=>(p.2.1,p.2.2.1,p.2.2.2.1,p.2.2.2.2.1,p.2.2.2.2.2.1,p.2.2.2.2.2.2.1,p.2.2.2.2.2.2.2.1)) (.s (.s .n (.s (.s .n (.j [] [.bx 0 0 242 .yf,.of 1 2 7 253 .zh,.of 1 3 8 257 .zm,.of 1 4 9 350 .zo,.of 1 5 10 111 .zl,.of 1 6 11 232 .zt,.bm 1 1 104 .y6 [(2,7),(3,8),(4,9),(5,10),(6,11)],.bx 4 12 253 .zh] .n .n)) (.s .n (.s (.s .n (.j [] [.bx 0 0 242 .yf,.of 1 2 7 253 .zh,.of 1 3 8 257 .zm,.of 1 4 9 350 .zo,.of 1 5 10 111 .zl,.of 1 6 11 232 .zt,.bm 1 1 104 .y6 [(2,7),(3,8),(4,9),(5,10),(6,11)],.bx 6 12 257 .zm] .n (.j [] [.bx 0 0 242 .yf,.of 1 2 7 253 .zh,.of 1 3 8 257 .zm,.of 1 4 9 350 .zo,.of 1 5 10 111 .zl,.of 1 6 11 232 .zt,.bm 1 1 104 .y6 [(2,7),(3,8),(4,9),(5,10),(6,11)],.bx 6 12 257 .zm] .n .n))) .n)))) .n) [e60,f7g,f6f,e6s,f2z,f1v,f7z,K283,K394] (by kernel_rfl) (by kernel_rfl) (fun _=>rfl) fun x=>by kernel_rfl
def K166:Kn Tryz.prog VV:=mk 166 Tryz.f166 ⟨[.io 242 .yf],[.v .y6]⟩ (fun x=>a21 x.1) (fun b=>((b.1,()),(b.2,()))) (fun p=>(p.1.1,p.2.1)) (sk 3 (.j [] [.bx 0 0 242 .yf,.of 2 2 2 253 .zh,.of 2 3 3 257 .zm,.of 2 4 4 350 .zo,.of 2 5 5 111 .zl,.of 2 6 6 232 .zt,.bm 2 1 104 .y6 [(2,2),(3,3),(4,4),(5,5),(6,6)],.of 3 2 8 253 .zh,.of 3 3 9 257 .zm,.of 3 4 10 350 .zo,.of 3 5 11 111 .zl,.of 3 6 12 232 .zt,.bm 3 7 104 .y6 [(2,8),(3,9),(4,10),(5,11),(6,12)]] .n (.s .n (.s .n (.s .n (.s .n (.s .n (.s (.l [] [] [.bx 0 0 242 .yf,.of 2 2 2 253 .zh,.of 2 3 3 257 .zm,.of 2 4 4 350 .zo,.of 2 5 5 111 .zl,.of 2 6 6 232 .zt,.bm 2 1 104 .y6 [(2,2),(3,3),(4,4),(5,5),(6,6)],.of 3 2 8 253 .zh,.of 3 3 9 257 .zm,.of 3 4 10 350 .zo,.of 3 5 11 111 .zl,.of 3 6 12 232 .zt,.bm 3 7 104 .y6 [(2,8),(3,9),(4,10),(5,11),(6,12)]] (.s (.s (.g [5]) .n) .n)) .n)))))))) [e60,f6f,e6s,f2z,f1v,K282,K283,K284] (by kernel_rfl) (by kernel_rfl) (fun _=>rfl) fun x=>by kernel_rfl
def K167:Kn Tryz.prog VV:=mk 167 Tryz.f167 ⟨[.rp 242 .yf],[.v .z9]⟩ (fun x=>a8g x.1) w1 u1 .n [] (by kernel_rfl) (by kernel_rfl) (fun _=>rfl) fun x=>by kernel_rfl
def K105:Kn Tryz.prog VV:=mk 105 Tryz.f105 ⟨[.v .z9],[.v .z8]⟩ (fun x=>a08 x.1) w1 u1 .n [] (by kernel_rfl) (by kernel_rfl) (fun _=>rfl) fun x=>by kernel_rfl
def K212:Kn Tryz.prog VV:=mk 212 Tryz.f212 ⟨[.v .zv],[.v .z8]⟩ (fun x=>a48 x.1) w1 u1 .n [] (by kernel_rfl) (by kernel_rfl) (fun _=>rfl) fun x=>by kernel_rfl
def K303:Kn Tryz.prog VV:=mk 303 Tryz.f303 ⟨[.v .z9,.v .z9],[.v .yi]⟩ (fun x=>a2p x.1 x.2.1) w1 u1 (sk 2 (.s (.s .n (.l [0,1] [] [.ow 5 2 9 .yi,.v 6 .z9] .n)) .n)) [K391,K392,K393] (by kernel_rfl) (by kernel_rfl) (fun _=>rfl) fun x=>by kernel_rfl
def K74:Kn Tryz.prog VV:=mk 74 Tryz.f74 ⟨[.v .zk],[.v .z8]⟩ (fun x=>s5 x.1) w1 u1 .n [K73,K139] (by kernel_rfl) (by kernel_rfl) (fun _=>rfl) fun x=>by kernel_rfl
def K489:Kn Tryz.prog VV:=mk 489 Tryz.f489 ⟨[.v .z9,.v .z9],[.v .yi]⟩ (fun x=>a3w x.1 x.2.1) w1 u1 (sk 2 (.s (.l [1] [] [.v 0 .z9,.v 5 .yi] .n) .n)) [] (by kernel_rfl) (by kernel_rfl) (fun _=>rfl) fun x=>by kernel_rfl
def K409:Kn Tryz.prog VV:=mk 409 Tryz.f409 ⟨[.v .zk],[.v .yi]⟩ (fun x=>a22 x.1) w1 u1 (sk 3 (.j [] [.bx 1 1 61 .zk,.v 3 .yi] .n .n)) [K73,K74,K489] (by kernel_rfl) (by kernel_rfl) (fun _=>rfl) fun x=>by kernel_rfl
def f8f:Kn Tryz.prog VV:=mk 304 Tryz.f304 ⟨[.v .zk,.v .z9],[.v .yi,.v .z8]⟩ (fun x=>p4 x.1 x.2.1) w2 u2 (sk 6 (.j [] [.v 1 .z9,.v 7 .yi,.v 8 .z9] .n (.s (.s .n (.l [1] [] [.v 7 .yi,.v 8 .z9,.v 9 .z9] .n)) .n))) [K74,K409] (by kernel_rfl) (by kernel_rfl) (fun _=>rfl) fun x=>by kernel_rfl
def c8w:Sig VV:=⟨[.v .zj],[.v .z9]⟩
def c8l (R:Ring_pensionref5_Depth):Fent VV:=⟨c8w,Int,fun x=>R.f_pensionref5_Depth x.1,fun b=>((b,()),()),none⟩
def f4p:Fent VV:=c8l (y5 FU)
def e6l:Ress VV c8w.rs×Outs VV c8w.ps -> Int:=fun p=>p.1.1
def e8e:Ann VV.C:=(.s .n (.s .n (.s (.s .n (.l [] [] [.bx 1 1 109 .zj,.v 3 .z9,.v 4 .z9] .n)) .n)))
def e9k (R:Ring_pensionref5_Depth):Phi VV:=fun f ys=>lkF f ys [(410,c8l R)]
theorem e9x (R:Ring_pensionref5_Depth) (hr410:SX.Spec Tryz.prog 410 (c8l R)):OKΦ Tryz.prog (e9k R):=okl ⟨knS rfl ⟨hr410,fun _ _=>by kernel_rfl⟩,trivial⟩
theorem f61 (R:Ring_pensionref5_Depth): ∀x,c58 Tryz.prog (e9k R) c8w e6l Tryz.f410 e8e x=a4x R x.1:=fun x=>by kernel_rfl
theorem e7s:c5d Tryz.f410 c8w=true:=by kernel_rfl
theorem a7o: ∀n,SX.Spec Tryz.prog 410 (c8l (y5 n))
 | 0=>(fun _ _ h=>(by cases (show none=some _ from h)))
 | n+1=>let h410:=a7o n;a6f (fe:=c8l (y5 (n+1))) uok (e9x (y5 n) h410) mixed (fn:=Tryz.f410) (by kernel_rfl) e6l e8e (p6 e7s).1 (p6 e7s).2 (fun _=>rfl) (f61 (y5 n))
def K410:Kn Tryz.prog VV:=⟨410,f4p,knS rfl ⟨(a7o FU),fun _ _=>by kernel_rfl⟩⟩
def c9n:Sig VV:=⟨[.v .zj],[.v .z9]⟩
def c9v (R:Ring_pensionref5_Size):Fent VV:=⟨c9n,Int,fun x=>R.f_pensionref5_Size x.1,fun b=>((b,()),()),none⟩
def f5w:Fent VV:=c9v (z6 FU)
def e7l:Ress VV c9n.rs×Outs VV c9n.ps -> Int:=fun p=>p.1.1
def e7o:Ann VV.C:=(.s .n (.s .n (.s (.s .n (.l [] [] [.bx 1 1 109 .zj,.v 3 .z9,.v 4 .z9] .n)) .n)))
def e99 (R:Ring_pensionref5_Size):Phi VV:=fun f ys=>lkF f ys [(411,c9v R)]
theorem f2n (R:Ring_pensionref5_Size) (hr411:SX.Spec Tryz.prog 411 (c9v R)):OKΦ Tryz.prog (e99 R):=okl ⟨knS rfl ⟨hr411,fun _ _=>by kernel_rfl⟩,trivial⟩
theorem f44 (R:Ring_pensionref5_Size): ∀x,c58 Tryz.prog (e99 R) c9n e7l Tryz.f411 e7o x=a5x R x.1:=fun x=>by kernel_rfl
theorem e74:c5d Tryz.f411 c9n=true:=by kernel_rfl
theorem a8k: ∀n,SX.Spec Tryz.prog 411 (c9v (z6 n))
 | 0=>(fun _ _ h=>(by cases (show none=some _ from h)))
 | n+1=>let h411:=a8k n;a6f (fe:=c9v (z6 (n+1))) uok (f2n (z6 n) h411) mixed (fn:=Tryz.f411) (by kernel_rfl) e7l e7o (p6 e74).1 (p6 e74).2 (fun _=>rfl) (f44 (z6 n))
def K411:Kn Tryz.prog VV:=⟨411,f5w,knS rfl ⟨(a8k FU),fun _ _=>by kernel_rfl⟩⟩
def c9w:Sig VV:=⟨[.v .zj],[.v .z8]⟩
def d0f (R:Ring_pensionref5_formed):Fent VV:=⟨c9w,Bool,fun x=>R.f_pensionref5_formed x.1,fun b=>((b,()),()),none⟩
def f6j:Fent VV:=d0f (f9 FU)
def e8t:Ress VV c9w.rs×Outs VV c9w.ps -> Bool:=fun p=>p.1.1
def e8z:Ann VV.C:=(.s .n (.s .n (.s .n (.s .n (.s (.s .n (.l [3] [] [.bx 1 1 109 .zj,.v 6 .z9] .n)) .n)))))
def e8f (R:Ring_pensionref5_formed):Phi VV:=fun f ys=>lkF f ys [f2w.e,f8f.e,(412,d0f R),f80.e]
theorem f1g (R:Ring_pensionref5_formed) (hr412:SX.Spec Tryz.prog 412 (d0f R)):OKΦ Tryz.prog (e8f R):=okl ⟨f2w.ok,f8f.ok,knS rfl ⟨hr412,fun _ _=>by kernel_rfl⟩,f80.ok,trivial⟩
theorem f5y (R:Ring_pensionref5_formed): ∀x,c58 Tryz.prog (e8f R) c9w e8t Tryz.f412 e8z x=o5 R x.1:=fun x=>by kernel_rfl
theorem e9g:c5d Tryz.f412 c9w=true:=by kernel_rfl
theorem a7a: ∀n,SX.Spec Tryz.prog 412 (d0f (f9 n))
 | 0=>(fun _ _ h=>(by cases (show none=some _ from h)))
 | n+1=>let h412:=a7a n;a6f (fe:=d0f (f9 (n+1))) uok (f1g (f9 n) h412) mixed (fn:=Tryz.f412) (by kernel_rfl) e8t e8z (p6 e9g).1 (p6 e9g).2 (fun _=>rfl) (f5y (f9 n))
def K412:Kn Tryz.prog VV:=⟨412,f6j,knS rfl ⟨(a7a FU),fun _ _=>by kernel_rfl⟩⟩
def K305:Kn Tryz.prog VV:=mk 305 Tryz.f305 ⟨[.v .zj],[.v .z8]⟩ (fun x=>s4 x.1) w1 u1 .n [K410,K411,K412] (by kernel_rfl) (by kernel_rfl) (fun _=>rfl) fun x=>by kernel_rfl
def K186:Kn Tryz.prog VV:=mk 186 Tryz.f186 ⟨[.v .y6],[.v .z8]⟩ (fun x=>a2q x.1) w1 u1 (sk 2 (.s (.s .n (.l [] [] [.bx 1 1 104 .y6,.v 3 .z9] .n)) (.s (.s .n (.l [] [] [.bx 1 1 104 .y6,.v 4 .z9] .n)) (.s (.s .n (.l [] [] [.bx 1 1 104 .y6,.v 7 .z9] .n)) (.s (.s .n (.l [] [] [.bx 1 1 104 .y6,.v 8 .z9] .n)) (.s (.s .n (.l [] [] [.bx 1 1 104 .y6,.v 9 .z9] .n)) .n)))))) [K105,f2w,K212,K303,f8f,K305] (by kernel_rfl) (by kernel_rfl) (fun _=>rfl) fun x=>by kernel_rfl
def K103:Kn Tryz.prog VV:=mk 103 Tryz.f103 ⟨[.v .y1],[.v .z8]⟩ (fun x=>a19 x.1) w1 u1 (sk 2 (.s (.s .n (.l [] [] [.bx 1 1 48 .y1,.v 3 .z9] .n)) .n)) [f2w,K186] (by kernel_rfl) (by kernel_rfl) (fun _=>rfl) fun x=>by kernel_rfl
def K94:Kn Tryz.prog VV:=mk 94 Tryz.f94 ⟨[.v .yi],[.v .y1,.v .z9,.v .z9]⟩ (fun x=>a2a x.1) (fun b=>((b.1,(b.2.1,(b.2.2,()))),())) (fun p=>(p.1.1,p.1.2.1,p.1.2.2.1)) (sk 8 (.j [] [.of 2 2 2 104 .y6,.bm 2 1 48 .y1 [(2,2)],.bx 5 3 242 .yf,.of 8 2 5 104 .y6,.bm 8 4 48 .y1 [(2,5)]] (.s .n (.l [] [] [.of 2 2 2 104 .y6,.bm 2 1 48 .y1 [(2,2)],.bx 5 3 242 .yf,.of 8 2 5 104 .y6,.bm 8 4 48 .y1 [(2,5)],.v 9 .z8] (.j [] [.of 2 2 2 104 .y6,.bm 2 1 48 .y1 [(2,2)],.bx 5 3 242 .yf,.of 8 2 5 104 .y6,.bm 8 4 48 .y1 [(2,5)]] (.s (.g [5,7]) .n) .n))) .n)) [K103,K161,e60,f7g,f6f,e6s,K166,K167] (by kernel_rfl) (by kernel_rfl) (fun _=>rfl) fun x=>by kernel_rfl
def g0b:Fent VV:=⟨⟨[],[]⟩,Unit,fun _=>none,fun _=>((),()),some (.qy (g0f (U:=VV) .z9 .zn [(0,50,.y0),(1,106,.zw)] a5a))⟩
def K45:Kn Tryz.prog VV:=⟨45,g0b,show d3b _ _ _ from e4l (U:=VV) uok mixed (okl (e8a [K59,K89,K94,K95])) (fn:=Tryz.f45) (an:=(.s .n (.s .n (.s (.s .n (.l [0] [] [.of 2 0 2 50 .y0,.of 2 1 3 106 .zw,.of 2 2 4 95 .zs,.bm 2 1 27 .zn [(0,2),(1,3),(2,4)],.of 3 0 6 50 .y0,.of 3 1 7 106 .zw,.bm 3 5 27 .zn [(0,6),(1,7)],.v 4 .z9] .n)) (.s .n (.s .n (.s .n (.s (.g [4000]) .n)))))))) (cp:= .z9) (c:= .zn) (m:=[(0,50,.y0),(1,106,.zw)]) (F:=a5a) (by kernel_rfl) (z1 (fn:=Tryz.f45) (by kernel_rfl) (by kernel_rfl) (by kernel_rfl)) (by kernel_rfl) (fun l b h=>Eq.trans (by kernel_rfl) h) (by kernel_rfl)⟩
def K19:Kn Tryz.prog VV:=mk 19 Tryz.f19 ⟨[.v .z9,.v .z9],[.v .z9]⟩ (fun x=>a84 x.1 x.2.1) w1 u1 .n [] (by kernel_rfl) (by kernel_rfl) (fun _=>rfl) fun x=>by kernel_rfl
def K13:Kn Tryz.prog VV:=mk 13 Tryz.f13 ⟨[.ls .z9,.v .z9],[.v .zn]⟩ (fun x=>a3f x.1 x.2.1) w1 u1 .n [K19,K45] (by kernel_rfl) (by kernel_rfl) (fun _=>rfl) fun x=>by kernel_rfl
def K395:Kn Tryz.prog VV:=mk 395 Tryz.f395 ⟨[.v .yl],[.v .z8]⟩ (fun x=>b6z x.1) w1 u1 .n [] (by kernel_rfl) (by kernel_rfl) (fun _=>rfl) fun x=>by kernel_rfl
def K482:Kn Tryz.prog VV:=mk 482 Tryz.f482 ⟨[.v .yl],[.v .z8]⟩ (fun x=>b4n x.1) w1 u1 .n [] (by kernel_rfl) (by kernel_rfl) (fun _=>rfl) fun x=>by kernel_rfl
def K396:Kn Tryz.prog VV:=mk 396 Tryz.f396 ⟨[.v .yl],[.v .z8]⟩ (fun x=>c1c x.1) w1 u1 .n [K395,K482] (by kernel_rfl) (by kernel_rfl) (fun _=>rfl) fun x=>by kernel_rfl
def K286:Kn Tryz.prog VV:=mk 286 Tryz.f286 ⟨[.v .yi],[.v .z8]⟩ (fun x=>c1e x.1) w1 u1 (sk 2 (.s (.s .n (.l [0] [] [.v 3 .z9] .n)) .n)) [K395,K396] (by kernel_rfl) (by kernel_rfl) (fun _=>rfl) fun x=>by kernel_rfl
def K287:Kn Tryz.prog VV:=mk 287 Tryz.f287 ⟨[.v .yi],[.v .z8]⟩ (fun x=>b6t x.1) w1 u1 .n [] (by kernel_rfl) (by kernel_rfl) (fun _=>rfl) fun x=>by kernel_rfl
def f8h:Kn Tryz.prog VV:=mk 170 Tryz.f170 ⟨[.v .yi],[.v .z8]⟩ (fun x=>a45 x.1) w1 u1 .n [K286,K287] (by kernel_rfl) (by kernel_rfl) (fun _=>rfl) fun x=>by kernel_rfl
def f3s:Kn Tryz.prog VV:=mk 180 Tryz.f180 ⟨[.v .z9],[.v .z8]⟩ (fun x=>a4c x.1) w1 u1 .n [] (by kernel_rfl) (by kernel_rfl) (fun _=>rfl) fun x=>by kernel_rfl
def K289:Kn Tryz.prog VV:=mk 289 Tryz.f289 ⟨[],[.ow 440 .yh]⟩ (fun x=>b2s) w1 u1 .n [] (by kernel_rfl) (by kernel_rfl) (fun _=>rfl) fun x=>by kernel_rfl
def K398:Kn Tryz.prog VV:=mk 398 Tryz.f398 ⟨[.v .yh,.rp 3 .z9],[.v .z8]⟩ (fun x=>b3l x.1 x.2.1) w1 u1 .n [] (by kernel_rfl) (by kernel_rfl) (fun _=>rfl) fun x=>by kernel_rfl
def e5f:Kn Tryz.prog VV:=mk 397 Tryz.f397 ⟨[.ls .yh,.cl 398 [.z9]],[.v .z9]⟩ (fun x=>a0b x.1 x.2.1.1) w1 u1 (.s .n (.s (.s .n (.l [0,1,7] [] [.v 8 .z9] .n)) .n)) [K398] (by kernel_rfl) (by kernel_rfl) (fun _=>rfl) fun x=>by kernel_rfl
def K288:Kn Tryz.prog VV:=mk 288 Tryz.f288 ⟨[.ls .yh,.v .z9],[.v .yi]⟩ (fun x=>a0y x.1 x.2.1) w1 u1 .n [e5f] (by kernel_rfl) (by kernel_rfl) (fun _=>rfl) fun x=>by kernel_rfl
def K290:Kn Tryz.prog VV:=mk 290 Tryz.f290 ⟨[],[.ow 440 .yh]⟩ (fun x=>b2o) w1 u1 .n [] (by kernel_rfl) (by kernel_rfl) (fun _=>rfl) fun x=>by kernel_rfl
def K524:Kn Tryz.prog VV:=mk 524 Tryz.f524 ⟨[.v .yi,.v .yl],[.v .z9]⟩ (fun x=>a6b x.1 x.2.1) w1 u1 .n [K564] (by kernel_rfl) (by kernel_rfl) (fun _=>rfl) fun x=>by kernel_rfl
def K565:Kn Tryz.prog VV:=mk 565 Tryz.f565 ⟨[.v .yi],[.v .yj,.v .yj]⟩ (fun x=>a7r x.1) w2 u2 (sk 2 (.s (.s .n (.l [0] [] [.v 4 .yj,.v 5 .z9] .n)) (.s .n (.s (.s .n (.l [4] [] [.v 6 .yj,.v 7 .yj,.v 8 .z9] .n)) .n)))) [] (by kernel_rfl) (by kernel_rfl) (fun _=>rfl) fun x=>by kernel_rfl
def K527:Kn Tryz.prog VV:=mk 527 Tryz.f527 ⟨[.v .yi,.v .yi],[.v .z9]⟩ (fun x=>a97 x.1 x.2.1) w1 u1 (sk 4 (.s (.s .n (.l [0,1,5,6,7] [] [.v 8 .yj,.v 9 .z9] .n)) (.s .n (.s (.s .n (.l [0,1,5,6,7] [] [.v 8 .yj,.v 10 .z9] .n)) .n)))) [K565] (by kernel_rfl) (by kernel_rfl) (fun _=>rfl) fun x=>by kernel_rfl
def K475:Kn Tryz.prog VV:=mk 475 Tryz.f475 ⟨[.v .yi,.v .yi],[.v .z9]⟩ (fun x=>a6s x.1 x.2.1) w1 u1 .n [K524] (by kernel_rfl) (by kernel_rfl) (fun _=>rfl) fun x=>by kernel_rfl
def K567:Kn Tryz.prog VV:=mk 567 Tryz.f567 ⟨[.v .yi,.v .yi],[.v .yi,.v .yi,.v .z8]⟩ (fun x=>b2b x.1 x.2.1) (fun b=>((b.1,(b.2.1,(b.2.2,()))),())) (fun p=>(p.1.1,p.1.2.1,p.1.2.2.1)) .n [K475] (by kernel_rfl) (by kernel_rfl) (fun _=>rfl) fun x=>by kernel_rfl
def K532:Kn Tryz.prog VV:=mk 532 Tryz.f532 ⟨[.v .yi,.v .yi],[.v .yi,.v .yi,.v .z8]⟩ (fun x=>b4h x.1 x.2.1) (fun b=>((b.1,(b.2.1,(b.2.2,()))),())) (fun p=>(p.1.1,p.1.2.1,p.1.2.2.1)) .n [K567] (by kernel_rfl) (by kernel_rfl) (fun _=>rfl) fun x=>by kernel_rfl
def K533:Kn Tryz.prog VV:=mk 533 Tryz.f533 ⟨[.v .yi],[.v .z9,.v .z8]⟩ (fun x=>a4w x.1) w2 u2 (.s .n (.s (.s .n (.l [0] [] [.v 2 .z9,.v 4 .z9] .n)) .n)) [K482] (by kernel_rfl) (by kernel_rfl) (fun _=>rfl) fun x=>by kernel_rfl
def K484:Kn Tryz.prog VV:=mk 484 Tryz.f484 ⟨[.v .yi],[.v .zk,.v .z9,.v .z8]⟩ (fun x=>b1b x.1) (fun b=>((b.1,(b.2.1,(b.2.2,()))),())) (fun p=>(p.1.1,p.1.2.1,p.1.2.2.1)) (sk 2 (.j [] [.v 0 .yi,.bx 2 1 61 .zk,.v 3 .z9] .n (.s .n (.s .n (.s .n (.s .n (.s .n (.s .n (.j [] [.bx 2 1 61 .zk,.v 3 .z9,.v 9 .z9,.v 11 .z9] (.s .n (.l [3,11] [] [.bx 2 1 61 .zk,.v 9 .z9,.it 100 2] .n)) (.s .n (.s (.s .n (.l [3,113] [] [.bx 2 1 61 .zk,.v 114 .z9] (.s .n (.s .n (.s (.s .n (.l [3,14,113,114] [] [.bx 2 1 61 .zk] .n)) .n))))) .n))))))))))) [K532,K533] (by kernel_rfl) (by kernel_rfl) (fun _=>rfl) fun x=>by kernel_rfl
def K399:Kn Tryz.prog VV:=mk 399 Tryz.f399 ⟨[.v .zk,.v .z9],[.v .yi,.v .z8]⟩ (fun x=>a02 x.1 x.2.1) w2 u2 (sk 4 (.s (.s .n (.l [1] [] [.bx 2 2 61 .zk,.v 6 .yi,.v 7 .z9,.v 8 .z9] (.s .n (.s (.j [] [.v 1 .z9,.bx 2 2 61 .zk,.v 6 .yi,.v 7 .z9,.v 8 .z9] .n .n) .n)))) (.j [] [.v 1 .z9,.bx 2 2 61 .zk,.v 6 .yi] .n .n))) [K483,K484] (by kernel_rfl) (by kernel_rfl) (fun _=>rfl) fun x=>by kernel_rfl
def K400:Kn Tryz.prog VV:=mk 400 Tryz.f400 ⟨[.v .z9],[.v .z8]⟩ (fun x=>b0n x.1) w1 u1 .n [] (by kernel_rfl) (by kernel_rfl) (fun _=>rfl) fun x=>by kernel_rfl
def K291:Kn Tryz.prog VV:=mk 291 Tryz.f291 ⟨[.v .zm],[.v .z8]⟩ (fun x=>a9i x.1) w1 u1 .n [K399,K400] (by kernel_rfl) (by kernel_rfl) (fun _=>rfl) fun x=>by kernel_rfl
def c94:Sig VV:=⟨[.v .zj],[.v .z9]⟩
def c8y (R:Ring_syntax_Depth):Fent VV:=⟨c94,Int,fun x=>R.f_syntax_Depth x.1,fun b=>((b,()),()),none⟩
def f5d:Fent VV:=c8y (a1a FU)
def e78:Ress VV c94.rs×Outs VV c94.ps -> Int:=fun p=>p.1.1
def e85:Ann VV.C:=(.s .n (.s .n (.s (.s .n (.l [7,8] [] [.v 3 .z9,.v 9 .z9] .n)) .n)))
def e6w (R:Ring_syntax_Depth):Phi VV:=fun f ys=>lkF f ys [(401,c8y R)]
theorem f03 (R:Ring_syntax_Depth) (hr401:SX.Spec Tryz.prog 401 (c8y R)):OKΦ Tryz.prog (e6w R):=okl ⟨knS rfl ⟨hr401,fun _ _=>by kernel_rfl⟩,trivial⟩
theorem f75 (R:Ring_syntax_Depth): ∀x,c58 Tryz.prog (e6w R) c94 e78 Tryz.f401 e85 x=a9y R x.1:=fun x=>by kernel_rfl
theorem e6y:c5d Tryz.f401 c94=true:=by kernel_rfl
theorem b0u: ∀n,SX.Spec Tryz.prog 401 (c8y (a1a n))
 | 0=>(fun _ _ h=>(by cases (show none=some _ from h)))
 | n+1=>let h401:=b0u n;a6f (fe:=c8y (a1a (n+1))) uok (f03 (a1a n) h401) mixed (fn:=Tryz.f401) (by kernel_rfl) e78 e85 (p6 e6y).1 (p6 e6y).2 (fun _=>rfl) (f75 (a1a n))
def K401:Kn Tryz.prog VV:=⟨401,f5d,knS rfl ⟨(b0u FU),fun _ _=>by kernel_rfl⟩⟩
def d0l:Sig VV:=⟨[.v .zj],[.v .z9]⟩
def d1q (R:Ring_syntax_Size):Fent VV:=⟨d0l,Int,fun x=>R.f_syntax_Size x.1,fun b=>((b,()),()),none⟩
def f6k:Fent VV:=d1q (a1t FU)
def e9o:Ress VV d0l.rs×Outs VV d0l.ps -> Int:=fun p=>p.1.1
def e6u:Ann VV.C:=(.s .n (.s .n (.s (.s .n (.l [7,8] [] [.v 3 .z9,.v 9 .z9] .n)) .n)))
def e9b (R:Ring_syntax_Size):Phi VV:=fun f ys=>lkF f ys [(402,d1q R)]
theorem f1f (R:Ring_syntax_Size) (hr402:SX.Spec Tryz.prog 402 (d1q R)):OKΦ Tryz.prog (e9b R):=okl ⟨knS rfl ⟨hr402,fun _ _=>by kernel_rfl⟩,trivial⟩
theorem f3l (R:Ring_syntax_Size): ∀x,c58 Tryz.prog (e9b R) d0l e9o Tryz.f402 e6u x=b13 R x.1:=fun x=>by kernel_rfl
theorem e7a:c5d Tryz.f402 d0l=true:=by kernel_rfl
theorem b1i: ∀n,SX.Spec Tryz.prog 402 (d1q (a1t n))
 | 0=>(fun _ _ h=>(by cases (show none=some _ from h)))
 | n+1=>let h402:=b1i n;a6f (fe:=d1q (a1t (n+1))) uok (f1f (a1t n) h402) mixed (fn:=Tryz.f402) (by kernel_rfl) e9o e6u (p6 e7a).1 (p6 e7a).2 (fun _=>rfl) (f3l (a1t n))
def K402:Kn Tryz.prog VV:=⟨402,f6k,knS rfl ⟨(b1i FU),fun _ _=>by kernel_rfl⟩⟩
def K534:Kn Tryz.prog VV:=mk 534 Tryz.f534 ⟨[.v .z9],[.v .z9]⟩ (fun x=>a4s x.1) w1 u1 .n [] (by kernel_rfl) (by kernel_rfl) (fun _=>rfl) fun x=>by kernel_rfl
def K485:Kn Tryz.prog VV:=mk 485 Tryz.f485 ⟨[.v .zj],[.v .z8]⟩ (fun x=>a2g x.1) w1 u1 .n [f8h,K399,K534] (by kernel_rfl) (by kernel_rfl) (fun _=>rfl) fun x=>by kernel_rfl
def c8p:Sig VV:=⟨[.v .zj],[.v .z8]⟩
def c8n (R:Ring_syntax_form):Fent VV:=⟨c8p,Bool,fun x=>R.f_syntax_form x.1,fun b=>((b,()),()),none⟩
def f4h:Fent VV:=c8n (d7 FU)
def e6x:Ress VV c8p.rs×Outs VV c8p.ps -> Bool:=fun p=>p.1.1
def e7k:Ann VV.C:= .n
def c8x:Sig VV:=⟨[.v .zj],[.v .z8]⟩
def d56 (R:Ring_syntax_form):Fent VV:=⟨c8x,Bool,fun x=>R.f_syntax_form_1 x.1,fun b=>((b,()),()),none⟩
def e6j:Ress VV c8x.rs×Outs VV c8x.ps -> Bool:=fun p=>p.1.1
def e8r:Ann VV.C:= .n
def b3k:Sig VV:=⟨[.ls .zj,.cl 486 []],[.v .z8]⟩
def b3o (R:Ring_syntax_form):Fent VV:=⟨b3k,Bool,fun x=>R.f_slices_ContainsFunc_of_api_Expr x.1,fun b=>((b,()),()),none⟩
def d6m:Fent VV:=b3o (d7 FU)
def c6a:Ress VV b3k.rs×Outs VV b3k.ps -> Bool:=fun p=>p.1.1
def c5a:Ann VV.C:= .n
def b39:Sig VV:=⟨[.ls .zj,.cl 486 []],[.v .z9]⟩
def b3j (R:Ring_syntax_form):Fent VV:=⟨b39,Int,fun x=>R.f_slices_IndexFunc_of_api_Expr x.1,fun b=>((b,()),()),none⟩
def d83:Fent VV:=b3j (d7 FU)
def c6l:Ress VV b39.rs×Outs VV b39.ps -> Int:=fun p=>p.1.1
def c61:Ann VV.C:=(.s .n (.s (.s .n (.l [0,1,7] [] [.v 8 .z9] .n)) .n))
def e89 (R:Ring_syntax_form):Phi VV:=fun f ys=>lkF f ys [(459,b3o R),K485.e]
theorem f1d (R:Ring_syntax_form) (hr459:SX.Spec Tryz.prog 459 (b3o R)):OKΦ Tryz.prog (e89 R):=okl ⟨knS rfl ⟨hr459,fun _ _=>by kernel_rfl⟩,K485.ok,trivial⟩
theorem f3j (R:Ring_syntax_form): ∀x,c58 Tryz.prog (e89 R) c8p e6x Tryz.f403 e7k x=b12 R x.1:=fun x=>by kernel_rfl
theorem e95:c5d Tryz.f403 c8p=true:=by kernel_rfl
def e7d (R:Ring_syntax_form):Phi VV:=fun f ys=>lkF f ys [(403,c8n R)]
theorem e9t (R:Ring_syntax_form) (hr403:SX.Spec Tryz.prog 403 (c8n R)):OKΦ Tryz.prog (e7d R):=okl ⟨knS rfl ⟨hr403,fun _ _=>by kernel_rfl⟩,trivial⟩
theorem f5n (R:Ring_syntax_form): ∀x,c58 Tryz.prog (e7d R) c8x e6j Tryz.f486 e8r x=a94 R x.1:=fun x=>by kernel_rfl
theorem e9c:c5d Tryz.f486 c8x=true:=by kernel_rfl
def c5w (R:Ring_syntax_form):Phi VV:=fun f ys=>lkF f ys [(508,b3j R)]
theorem d1y (R:Ring_syntax_form) (hr508:SX.Spec Tryz.prog 508 (b3j R)):OKΦ Tryz.prog (c5w R):=okl ⟨knS rfl ⟨hr508,fun _ _=>by kernel_rfl⟩,trivial⟩
theorem d6p (R:Ring_syntax_form): ∀x,c58 Tryz.prog (c5w R) b3k c6a Tryz.f459 c5a x=o9 R x.1:=fun x=>by kernel_rfl
theorem c5i:c5d Tryz.f459 b3k=true:=by kernel_rfl
def c53 (R:Ring_syntax_form):Phi VV:=fun f ys=>lkF f ys [(486,d56 R)]
theorem d2l (R:Ring_syntax_form) (hr486:SX.Spec Tryz.prog 486 (d56 R)):OKΦ Tryz.prog (c53 R):=okl ⟨knS rfl ⟨hr486,fun _ _=>by kernel_rfl⟩,trivial⟩
theorem d6c (R:Ring_syntax_form): ∀x,c58 Tryz.prog (c53 R) b39 c6l Tryz.f508 c61 x=l8 R x.1:=fun x=>by kernel_rfl
theorem c5g:c5d Tryz.f508 b39=true:=by kernel_rfl
theorem a4v: ∀n,SX.Spec Tryz.prog 403 (c8n (d7 n)) /\ SX.Spec Tryz.prog 486 (d56 (d7 n)) /\ SX.Spec Tryz.prog 459 (b3o (d7 n)) /\ SX.Spec Tryz.prog 508 (b3j (d7 n))
 | 0=>⟨(fun _ _ h=>(by cases (show none=some _ from h))),(fun _ _ h=>(by cases (show none=some _ from h))),(fun _ _ h=>(by cases (show none=some _ from h))),(fun _ _ h=>(by cases (show none=some _ from h)))⟩
 | n+1=>let ⟨h403,h486,h459,h508⟩:=a4v n;⟨a6f (fe:=c8n (d7 (n+1))) uok (f1d (d7 n) h459) mixed (fn:=Tryz.f403) (by kernel_rfl) e6x e7k (p6 e95).1 (p6 e95).2 (fun _=>rfl) (f3j (d7 n)),a6f (fe:=d56 (d7 (n+1))) uok (e9t (d7 n) h403) mixed (fn:=Tryz.f486) (by kernel_rfl) e6j e8r (p6 e9c).1 (p6 e9c).2 (fun _=>rfl) (f5n (d7 n)),a6f (fe:=b3o (d7 (n+1))) uok (d1y (d7 n) h508) mixed (fn:=Tryz.f459) (by kernel_rfl) c6a c5a (p6 c5i).1 (p6 c5i).2 (fun _=>rfl) (d6p (d7 n)),a6f (fe:=b3j (d7 (n+1))) uok (d2l (d7 n) h486) mixed (fn:=Tryz.f508) (by kernel_rfl) c6l c61 (p6 c5g).1 (p6 c5g).2 (fun _=>rfl) (d6c (d7 n))⟩
def K403:Kn Tryz.prog VV:=⟨403,f4h,knS rfl ⟨(a4v FU).1,fun _ _=>by kernel_rfl⟩⟩
def e6d:Kn Tryz.prog VV:=⟨459,d6m,knS rfl ⟨(a4v FU).2.2.1,fun _ _=>by kernel_rfl⟩⟩
def e4m:Kn Tryz.prog VV:=⟨508,d83,knS rfl ⟨(a4v FU).2.2.2,fun _ _=>by kernel_rfl⟩⟩
def f8b:Kn Tryz.prog VV:=mk 292 Tryz.f292 ⟨[.v .zj],[.v .z8]⟩ (fun x=>a06 x.1) w1 u1 .n [K401,K402,K403] (by kernel_rfl) (by kernel_rfl) (fun _=>rfl) fun x=>by kernel_rfl
def K293:Kn Tryz.prog VV:=mk 293 Tryz.f293 ⟨[],[.ow 440 .yh]⟩ (fun x=>a6g) w1 u1 .n [] (by kernel_rfl) (by kernel_rfl) (fun _=>rfl) fun x=>by kernel_rfl
def K171:Kn Tryz.prog VV:=mk 171 Tryz.f171 ⟨[.v .y6],[.v .z8]⟩ (fun x=>a52 x.1) w1 u1 (.s .n (.j [] [.bx 1 1 104 .y6] (.s (.g [4]) .n) (.s .n (.j [] [.bx 1 1 104 .y6] (.s .n (.l [66,67] [] [.bx 1 1 104 .y6,.v 68 .z9] .n)) (.j [] [.bx 1 1 104 .y6] (.s .n (.l [89,90] [] [.bx 1 1 104 .y6,.v 91 .z9] .n)) (.j [] [.bx 1 1 104 .y6] (.s .n (.l [100,101] [] [.bx 1 1 104 .y6,.v 102 .z9] .n)) (.j [] [.bx 1 1 104 .y6] (.s .n (.l [118,119] [] [.bx 1 1 104 .y6,.v 120 .z9] .n)) (.s (.s .n (.l [143,144] [] [.v 145 .z9] .n)) .n)))))))) [f8h,f3s,K288,K289,K290,K291,f8b,K293] (by kernel_rfl) (by kernel_rfl) (fun _=>rfl) fun x=>by kernel_rfl
def K96:Kn Tryz.prog VV:=mk 96 Tryz.f96 ⟨[.v .y1],[.v .z8]⟩ (fun x=>b08 x.1) w1 u1 (sk 2 (.s (.s .n (.l [32,33] [] [.v 34 .z9] .n)) .n)) [f8h,K171] (by kernel_rfl) (by kernel_rfl) (fun _=>rfl) fun x=>by kernel_rfl
def f8d:Kn Tryz.prog VV:=mk 294 Tryz.f294 ⟨[.v .yi],[.v .z9,.v .z8]⟩ (fun x=>a8c x.1) w2 u2 (.s .n (.s (.s .n (.j [] [.v 4 .yi,.v 5 .z8] .n (.s .n (.j [] [.v 4 .yi,.v 9 .z8] .n .n)))) .n)) [] (by kernel_rfl) (by kernel_rfl) (fun _=>rfl) fun x=>by kernel_rfl
def K295:Kn Tryz.prog VV:=mk 295 Tryz.f295 ⟨[.v .yi],[.v .z8]⟩ (fun x=>b14 x.1) w1 u1 .n [f8b] (by kernel_rfl) (by kernel_rfl) (fun _=>rfl) fun x=>by kernel_rfl
def K297:Kn Tryz.prog VV:=mk 297 Tryz.f297 ⟨[.v .zf,.rp 350 .zo],[.v .z8]⟩ (fun x=>b8e x.1 x.2.1) w1 u1 .n [] (by kernel_rfl) (by kernel_rfl) (fun _=>rfl) fun x=>by kernel_rfl
def K405:Kn Tryz.prog VV:=mk 405 Tryz.f405 ⟨[.v .zf],[.v .z8]⟩ (fun x=>b2y x.1) w1 u1 .n [] (by kernel_rfl) (by kernel_rfl) (fun _=>rfl) fun x=>by kernel_rfl
def K487:Kn Tryz.prog VV:=mkR 487 Tryz.f487 ⟨[.v .yi,.ls .zf],[.v .z9,.v .z8]⟩ (fun x=>b1a x.1 x.2.1) w2 u2 (sk 2 (.s (.s .n (.l [] [] [.bx 2 2 9 .yi,.bx 4 3 3 .z9,.bx 5 4 4 .z8] (.s .n .n))) .n)) [f8d,K535] (by kernel_rfl) (by kernel_rfl) (fun _=>rfl) fun x=>by kernel_rfl
def K488:Kn Tryz.prog VV:=mk 488 Tryz.f488 ⟨[.v .z9,.ls .z9],[.v .z9,.v .z8]⟩ (fun x=>a90 x.1 x.2.1) w2 u2 (.s .n (.s (.s .n (.j [] [.ls 1 .z9,.v 6 .z9,.v 7 .z8] .n (.s .n (.s .n (.s .n (.j [] [.ls 1 .z9,.v 6 .z9,.v 23 .z8] .n (.s .n (.s .n (.s .n (.s .n (.s .n (.j [] [.ls 1 .z9,.v 6 .z9,.v 96 .z8] .n (.s .n (.j [] [.ls 1 .z9,.v 6 .z9,.v 116 .z8] .n .n)))))))))))))) .n)) [] (by kernel_rfl) (by kernel_rfl) (fun _=>rfl) fun x=>by kernel_rfl
def d1p:Sig VV:=⟨[.v .zj,.ls .zf],[.v .z9,.v .z9]⟩
def c90 (R:Ring_typing_infer):Fent VV:=⟨d1p,Int×Int,fun x=>R.f_typing_infer x.1 x.2.1,fun b=>((b.1,(b.2,())),()),none⟩
def f3n:Fent VV:=c90 (s6 FU)
def e98:Ress VV d1p.rs×Outs VV d1p.ps -> Int×Int:=fun p=>(p.1.1,p.1.2.1)
def e8d:Ann VV.C:=(.s .n (.s .n (.s .n (.s (.s .n (.l [1,36,37] [] [.bx 2 2 109 .zj,.ow 8 3 3 .z9,.v 38 .z9] .n)) .n))))
def e6h (R:Ring_typing_infer):Phi VV:=fun f ys=>lkF f ys [(406,c90 R),K487.e,K488.e]
theorem f0x (R:Ring_typing_infer) (hr406:SX.Spec Tryz.prog 406 (c90 R)):OKΦ Tryz.prog (e6h R):=okl ⟨knS rfl ⟨hr406,fun _ _=>by kernel_rfl⟩,K487.ok,K488.ok,trivial⟩
theorem f3u (R:Ring_typing_infer): ∀x,c58 Tryz.prog (e6h R) d1p e98 Tryz.f406 e8d x=a2l R x.1 x.2.1:=fun x=>by kernel_rfl
theorem e7h:c5d Tryz.f406 d1p=true:=by kernel_rfl
theorem b0r: ∀n,SX.Spec Tryz.prog 406 (c90 (s6 n))
 | 0=>(fun _ _ h=>(by cases (show none=some _ from h)))
 | n+1=>let h406:=b0r n;a6f (fe:=c90 (s6 (n+1))) uok (f0x (s6 n) h406) mixed (fn:=Tryz.f406) (by kernel_rfl) e98 e8d (p6 e7h).1 (p6 e7h).2 (fun _=>rfl) (f3u (s6 n))
def K406:Kn Tryz.prog VV:=⟨406,f3n,knS rfl ⟨(b0r FU),fun _ _=>by kernel_rfl⟩⟩
def e4t:Kn Tryz.prog VV:=mk 404 Tryz.f404 ⟨[.ls .zf,.cl 405 []],[.v .z9]⟩ (fun x=>w6 x.1) w1 u1 (.s .n (.s (.s .n (.l [0,1,7] [] [.v 8 .z9] .n)) .n)) [K405] (by kernel_rfl) (by kernel_rfl) (fun _=>rfl) fun x=>by kernel_rfl
def e3j:Kn Tryz.prog VV:=mk 296 Tryz.f296 ⟨[.ls .zf,.cl 405 []],[.v .z8]⟩ (fun x=>n9 x.1) w1 u1 .n [e4t] (by kernel_rfl) (by kernel_rfl) (fun _=>rfl) fun x=>by kernel_rfl
def K298:Kn Tryz.prog VV:=mk 298 Tryz.f298 ⟨[.v .zj,.ls .zf],[.v .z9,.v .z9]⟩ (fun x=>b0d x.1 x.2.1) w2 u2 .n [f8b,e3j,K406] (by kernel_rfl) (by kernel_rfl) (fun _=>rfl) fun x=>by kernel_rfl
def e45:Kn Tryz.prog VV:=mk 404 Tryz.f404 ⟨[.ls .zf,.cl 297 [.zo]],[.v .z9]⟩ (fun x=>a0x x.1 x.2.1.1) w1 u1 (.s .n (.s (.s .n (.l [0,1,7] [] [.v 8 .z9] .n)) .n)) [K297] (by kernel_rfl) (by kernel_rfl) (fun _=>rfl) fun x=>by kernel_rfl
def e52:Kn Tryz.prog VV:=mk 296 Tryz.f296 ⟨[.ls .zf,.cl 297 [.zo]],[.v .z8]⟩ (fun x=>o7 x.1 x.2.1.1) w1 u1 .n [e45] (by kernel_rfl) (by kernel_rfl) (fun _=>rfl) fun x=>by kernel_rfl
def K172:Kn Tryz.prog VV:=mk 172 Tryz.f172 ⟨[.ls .zo],[.ow 377 .zf,.v .z9]⟩ (fun x=>b1l x.1) w2 u2 (sk 3 (.s (.s .n (.l [14,15] [] [.ow 4 1 377 .zf,.v 16 .z9] .n)) .n)) [f8d,K295,e52,K298] (by kernel_rfl) (by kernel_rfl) (fun _=>rfl) fun x=>by kernel_rfl
def K174:Kn Tryz.prog VV:=mk 174 Tryz.f174 ⟨[.v .zh,.rp 253 .zh],[.v .z8]⟩ (fun x=>b0k x.1 x.2.1) w1 u1 .n [] (by kernel_rfl) (by kernel_rfl) (fun _=>rfl) fun x=>by kernel_rfl
def K176:Kn Tryz.prog VV:=mk 176 Tryz.f176 ⟨[.v .zl,.rp 111 .zl],[.v .z8]⟩ (fun x=>b0i x.1 x.2.1) w1 u1 .n [] (by kernel_rfl) (by kernel_rfl) (fun _=>rfl) fun x=>by kernel_rfl
def K177:Kn Tryz.prog VV:=mk 177 Tryz.f177 ⟨[.v .zj,.ls .zf,.v .z9],[.v .z9]⟩ (fun x=>b25 x.1 x.2.1 x.2.2.1) w1 u1 .n [K298] (by kernel_rfl) (by kernel_rfl) (fun _=>rfl) fun x=>by kernel_rfl
def K179:Kn Tryz.prog VV:=mk 179 Tryz.f179 ⟨[.v .zt,.rp 232 .zt],[.v .z8]⟩ (fun x=>b0f x.1 x.2.1) w1 u1 .n [] (by kernel_rfl) (by kernel_rfl) (fun _=>rfl) fun x=>by kernel_rfl
def d43:Kn Tryz.prog VV:=mk 299 Tryz.f299 ⟨[.ls .zh,.cl 174 [.zh]],[.v .z9]⟩ (fun x=>u6 x.1 x.2.1.1) w1 u1 (.s .n (.s (.s .n (.l [0,1,7] [] [.v 8 .z9] .n)) .n)) [K174] (by kernel_rfl) (by kernel_rfl) (fun _=>rfl) fun x=>by kernel_rfl
def e4k:Kn Tryz.prog VV:=mk 173 Tryz.f173 ⟨[.ls .zh,.cl 174 [.zh]],[.v .z8]⟩ (fun x=>m7 x.1 x.2.1.1) w1 u1 .n [d43] (by kernel_rfl) (by kernel_rfl) (fun _=>rfl) fun x=>by kernel_rfl
def d5a:Kn Tryz.prog VV:=mk 149 Tryz.f149 ⟨[.ls .zl,.cl 176 [.zl]],[.v .z9]⟩ (fun x=>w8 x.1 x.2.1.1) w1 u1 (.s .n (.s (.s .n (.l [0,1,7] [] [.v 8 .z9] .n)) .n)) [K176] (by kernel_rfl) (by kernel_rfl) (fun _=>rfl) fun x=>by kernel_rfl
def e5m:Kn Tryz.prog VV:=mk 175 Tryz.f175 ⟨[.ls .zl,.cl 176 [.zl]],[.v .z8]⟩ (fun x=>o4 x.1 x.2.1.1) w1 u1 .n [d5a] (by kernel_rfl) (by kernel_rfl) (fun _=>rfl) fun x=>by kernel_rfl
def e3v:Kn Tryz.prog VV:=mk 154 Tryz.f154 ⟨[.ls .zt,.cl 179 [.zt]],[.v .z9]⟩ (fun x=>u7 x.1 x.2.1.1) w1 u1 (.s .n (.s (.s .n (.l [0,1,7] [] [.v 8 .z9] .n)) .n)) [K179] (by kernel_rfl) (by kernel_rfl) (fun _=>rfl) fun x=>by kernel_rfl
def e65:Kn Tryz.prog VV:=mk 178 Tryz.f178 ⟨[.ls .zt,.cl 179 [.zt]],[.v .z8]⟩ (fun x=>m5 x.1 x.2.1.1) w1 u1 .n [e3v] (by kernel_rfl) (by kernel_rfl) (fun _=>rfl) fun x=>by kernel_rfl
def K97:Kn Tryz.prog VV:=mk 97 Tryz.f97 ⟨[.v .y6],[.v .z9]⟩ (fun x=>a9z x.1) w1 u1 (sk 3 (.s (.s .n (.l [26,27] [] [.bx 1 1 104 .y6,.ow 3 2 377 .zf,.v 28 .z9] .n)) (.s (.s .n (.l [41,42] [] [.bx 1 1 104 .y6,.ow 3 2 377 .zf,.v 43 .z9] .n)) (.s (.s .n (.l [64,65] [] [.bx 1 1 104 .y6,.ow 3 2 377 .zf,.v 66 .z9] .n)) (.s (.s .n (.l [93,94] [] [.bx 1 1 104 .y6,.ow 3 2 377 .zf,.v 95 .z9] .n)) .n))))) [K172,e4k,e5m,K177,e65] (by kernel_rfl) (by kernel_rfl) (fun _=>rfl) fun x=>by kernel_rfl
def K46:Kn Tryz.prog VV:=mk 46 Tryz.f46 ⟨[.v .y1],[.v .z9,.v .z9]⟩ (fun x=>a5j x.1) w2 u2 (sk 2 (.s (.s .n (.l [11,12] [] [.bx 1 1 48 .y1,.v 13 .z9] .n)) .n)) [K96,K97] (by kernel_rfl) (by kernel_rfl) (fun _=>rfl) fun x=>by kernel_rfl
def K181:Kn Tryz.prog VV:=mk 181 Tryz.f181 ⟨[.v .z9,.v .z9],[.v .z8]⟩ (fun x=>a6w x.1 x.2.1) w1 u1 .n [] (by kernel_rfl) (by kernel_rfl) (fun _=>rfl) fun x=>by kernel_rfl
def K98:Kn Tryz.prog VV:=mk 98 Tryz.f98 ⟨[.v .zw],[.v .z8]⟩ (fun x=>a40 x.1) w1 u1 (sk 2 (.s (.s .n (.l [28,29] [] [.bx 1 1 106 .zw,.v 30 .z9] .n)) .n)) [f3s,K181] (by kernel_rfl) (by kernel_rfl) (fun _=>rfl) fun x=>by kernel_rfl
def K47:Kn Tryz.prog VV:=mk 47 Tryz.f47 ⟨[.ls .zw],[.v .z9]⟩ (fun x=>a3c x.1) w1 u1 (sk 3 (.s (.s .n (.l [0,18,19] [] [.v 20 .z9] .n)) .n)) [K98] (by kernel_rfl) (by kernel_rfl) (fun _=>rfl) fun x=>by kernel_rfl
def K99:Kn Tryz.prog VV:=mk 99 Tryz.f99 ⟨[.v .z9],[.v .z8]⟩ (fun x=>b6r x.1) w1 u1 .n [] (by kernel_rfl) (by kernel_rfl) (fun _=>rfl) fun x=>by kernel_rfl
def K300:Kn Tryz.prog VV:=mk 300 Tryz.f300 ⟨[.v .z9],[.v .z8]⟩ (fun x=>b1j x.1) w1 u1 .n [] (by kernel_rfl) (by kernel_rfl) (fun _=>rfl) fun x=>by kernel_rfl
def K333:Kn Tryz.prog VV:=mk 333 Tryz.f333 ⟨[.v .z9],[.v .z8]⟩ (fun x=>b8s x.1) w1 u1 .n [] (by kernel_rfl) (by kernel_rfl) (fun _=>rfl) fun x=>by kernel_rfl
def K223:Kn Tryz.prog VV:=mk 223 Tryz.f223 ⟨[.v .z9,.v .z9],[.v .z9]⟩ (fun x=>b0o x.1 x.2.1) w1 u1 .n [K333] (by kernel_rfl) (by kernel_rfl) (fun _=>rfl) fun x=>by kernel_rfl
def K182:Kn Tryz.prog VV:=mk 182 Tryz.f182 ⟨[.v .z9],[.v .z9]⟩ (fun x=>b2k x.1) w1 u1 .n [K223,K300] (by kernel_rfl) (by kernel_rfl) (fun _=>rfl) fun x=>by kernel_rfl
def K100:Kn Tryz.prog VV:=mk 100 Tryz.f100 ⟨[.v .z9],[.v .z8]⟩ (fun x=>c44 x.1) w1 u1 .n [K182] (by kernel_rfl) (by kernel_rfl) (fun _=>rfl) fun x=>by kernel_rfl
def K184:Kn Tryz.prog VV:=mk 184 Tryz.f184 ⟨[.v .z9],[.v .yk]⟩ (fun x=>b41 x.1) w1 u1 .n [] (by kernel_rfl) (by kernel_rfl) (fun _=>rfl) fun x=>by kernel_rfl
def K183:Kn Tryz.prog VV:=mk 183 Tryz.f183 ⟨[.v .yk,.v .yk],[.v .yk]⟩ (fun x=>c1g x.1 x.2.1) w1 u1 (.s .n (.s (.l [] [] [.v 0 .yk,.v 1 .yk] .n) .n)) [] (by kernel_rfl) (by kernel_rfl) (fun _=>rfl) fun x=>by kernel_rfl
def g03:Kn Tryz.prog VV:=mk 101 Tryz.f101 ⟨[.v .zk],[.v .z8]⟩ (fun x=>b32 x.1) w1 u1 .n [K183,K184] (by kernel_rfl) (by kernel_rfl) (fun _=>rfl) fun x=>by kernel_rfl
def K102:Kn Tryz.prog VV:=mk 102 Tryz.f102 ⟨[.v .z9],[.v .z8]⟩ (fun x=>b7g x.1) w1 u1 .n [] (by kernel_rfl) (by kernel_rfl) (fun _=>rfl) fun x=>by kernel_rfl
def K48:Kn Tryz.prog VV:=mk 48 Tryz.f48 ⟨[.ls .zs],[.v .z9]⟩ (fun x=>a1v x.1) w1 u1 (sk 2 (.s (.s .n (.l [0,8,9] [] [.v 10 .z9] .n)) .n)) [K99,K100,g03,K102] (by kernel_rfl) (by kernel_rfl) (fun _=>rfl) fun x=>by kernel_rfl
def K15:Kn Tryz.prog VV:=mk 15 Tryz.f15 ⟨[.v .zn],[.v .z9]⟩ (fun x=>a4y x.1) w1 u1 (.s .n (.s (.s .n (.l [11,12] [] [.bx 1 1 27 .zn,.v 13 .z9] .n)) (.s (.s .n (.l [44,45] [] [.bx 1 1 27 .zn,.v 46 .z9] .n)) .n))) [K46,K47,K48] (by kernel_rfl) (by kernel_rfl) (fun _=>rfl) fun x=>by kernel_rfl
def K110:Kn Tryz.prog VV:=mkR 110 Tryz.f110 ⟨[.ls .zw,.v .z9],[.v .zw,.v .z8]⟩ (fun x=>d95 x.1 x.2.1) w2 u2 (sk 2 (.s (.s .n (.l [] [] [.bx 3 2 3 .z9,.bx 4 3 106 .zw,.bx 5 4 4 .z8] (.s .n .n))) .n)) [f3s,K191,K192] (by kernel_rfl) (by kernel_rfl) (fun _=>rfl) fun x=>by kernel_rfl
def d0c:Sig VV:=⟨[.v .zj],[.v .zj]⟩
def c9u (R:Ring_statute_cloneExpr):Fent VV:=⟨d0c,Expr,fun x=>R.f_statute_cloneExpr x.1,fun b=>((b,()),()),none⟩
def f5j:Fent VV:=c9u (a0a FU)
def e86:Ress VV d0c.rs×Outs VV d0c.ps -> Expr:=fun p=>p.1.1
def e6r:Ann VV.C:=(.s .n (.s .n (.s (.g [3001]) (.s (.s .n (.l [9,10] [] [.of 1 4 2 109 .zj,.bm 1 1 109 .zj [(4,2)],.of 2 4 4 109 .zj,.bm 2 3 109 .zj [(4,4)],.v 11 .z9] (.s .n (.s .n (.s (.s .n (.g [3007])) .n))))) .n))))
def e9l (R:Ring_statute_cloneExpr):Phi VV:=fun f ys=>lkF f ys [(330,c9u R)]
theorem f20 (R:Ring_statute_cloneExpr) (hr330:SX.Spec Tryz.prog 330 (c9u R)):OKΦ Tryz.prog (e9l R):=okl ⟨knS rfl ⟨hr330,fun _ _=>by kernel_rfl⟩,trivial⟩
theorem f4n (R:Ring_statute_cloneExpr): ∀x,c58 Tryz.prog (e9l R) d0c e86 Tryz.f330 e6r x=b24 R x.1:=fun x=>by kernel_rfl
theorem e6v:c5d Tryz.f330 d0c=true:=by kernel_rfl
theorem a7v: ∀n,SX.Spec Tryz.prog 330 (c9u (a0a n))
 | 0=>(fun _ _ h=>(by cases (show none=some _ from h)))
 | n+1=>let h330:=a7v n;a6f (fe:=c9u (a0a (n+1))) uok (f20 (a0a n) h330) mixed (fn:=Tryz.f330) (by kernel_rfl) e86 e6r (p6 e6v).1 (p6 e6v).2 (fun _=>rfl) (f4n (a0a n))
def K330:Kn Tryz.prog VV:=⟨330,f5j,knS rfl ⟨(a7v FU),fun _ _=>by kernel_rfl⟩⟩
def K215:Kn Tryz.prog VV:=mk 215 Tryz.f215 ⟨[.v .y6],[.v .y6]⟩ (fun x=>b0q x.1) w1 u1 (.s .n (.s (.g [3007,3009]) (.s (.g [3010,3012,3014]) (.s (.s .n (.l [28] [] [.of 1 2 2 253 .zh,.of 1 3 3 257 .zm,.of 1 4 4 350 .zo,.of 1 5 5 111 .zl,.of 1 6 6 232 .zt,.bm 1 1 104 .y6 [(2,2),(3,3),(4,4),(5,5),(6,6)],.of 2 2 8 253 .zh,.of 2 3 9 257 .zm,.of 2 4 10 350 .zo,.of 2 5 11 111 .zl,.of 2 6 12 232 .zt,.bm 2 7 104 .y6 [(2,8),(3,9),(4,10),(5,11),(6,12)],.v 29 .z9] .n)) (.s (.s .n (.l [47] [] [.of 1 2 2 253 .zh,.of 1 3 3 257 .zm,.of 1 4 4 350 .zo,.of 1 5 5 111 .zl,.of 1 6 6 232 .zt,.bm 1 1 104 .y6 [(2,2),(3,3),(4,4),(5,5),(6,6)],.of 2 2 8 253 .zh,.of 2 3 9 257 .zm,.of 2 4 10 350 .zo,.of 2 5 11 111 .zl,.of 2 6 12 232 .zt,.bm 2 7 104 .y6 [(2,8),(3,9),(4,10),(5,11),(6,12)],.v 48 .z9] .n)) (.s (.s .n (.l [78] [] [.of 1 2 2 253 .zh,.of 1 3 3 257 .zm,.of 1 4 4 350 .zo,.of 1 5 5 111 .zl,.of 1 6 6 232 .zt,.bm 1 1 104 .y6 [(2,2),(3,3),(4,4),(5,5),(6,6)],.of 2 2 8 253 .zh,.of 2 3 9 257 .zm,.of 2 4 10 350 .zo,.of 2 5 11 111 .zl,.of 2 6 12 232 .zt,.bm 2 7 104 .y6 [(2,8),(3,9),(4,10),(5,11),(6,12)],.v 79 .z9] .n)) .n)))))) [K325,K326,K327,K328,K329,K330] (by kernel_rfl) (by kernel_rfl) (fun _=>rfl) fun x=>by kernel_rfl
def K124:Kn Tryz.prog VV:=mkR 124 Tryz.f124 ⟨[.v .y1,.v .z9],[.v .y6,.v .z8]⟩ (fun x=>d61 x.1 x.2.1) w2 u2 (sk 2 (.s (.s .n (.l [] [] [.bx 3 2 3 .z9,.bx 4 3 104 .y6,.bx 5 4 4 .z8] (.s .n .n))) .n)) [f3s,K214,K215] (by kernel_rfl) (by kernel_rfl) (fun _=>rfl) fun x=>by kernel_rfl
def K414:Kn Tryz.prog VV:=mk 414 Tryz.f414 ⟨[.v .zz],[.v .zz]⟩ (fun x=>c2r x.1) w1 u1 .n [] (by kernel_rfl) (by kernel_rfl) (fun _=>rfl) fun x=>by kernel_rfl
def K332:Kn Tryz.prog VV:=mk 332 Tryz.f332 ⟨[.v .yk],[.v .z9]⟩ (fun x=>e4r x.1) w1 u1 .n [K439] (by kernel_rfl) (by kernel_rfl) (fun _=>rfl) fun x=>by kernel_rfl
def K311:Kn Tryz.prog VV:=mk 311 Tryz.f311 ⟨[.ls .zz],[.ow 55 .zz]⟩ (fun x=>d6b x.1) w1 u1 (.s .n (.s (.g [6000]) (.s (.s .n (.l [10,11] [] [.of 3 0 2 55 .zz,.bm 3 1 271 .zc [(0,2)],.v 12 .z9] (.s .n (.s .n (.s (.s .n (.s .n (.s .n (.s (.g [6000,6004]) .n)))) .n))))) (.s (.g [6000]) (.s .n (.s (.s (.g [6000]) (.l [33] [] [.ow 6 1 55 .zz,.ow 32 2 55 .zz,.v 34 .z9] .n)) .n)))))) [K414,K415] (by kernel_rfl) (by kernel_rfl) (fun _=>rfl) fun x=>by kernel_rfl
def K458:Kn Tryz.prog VV:=mk 458 Tryz.f458 ⟨[.v .z9],[.v .z8]⟩ (fun x=>b3e x.1) w1 u1 .n [] (by kernel_rfl) (by kernel_rfl) (fun _=>rfl) fun x=>by kernel_rfl
def e3w:Kn Tryz.prog VV:=mk 507 Tryz.f507 ⟨[.ls .z9,.cl 458 []],[.v .z9]⟩ (fun x=>a1m x.1) w1 u1 (.s .n (.s (.s .n (.l [0,1,7] [] [.v 8 .z9] .n)) .n)) [K458] (by kernel_rfl) (by kernel_rfl) (fun _=>rfl) fun x=>by kernel_rfl
def e54:Kn Tryz.prog VV:=mk 457 Tryz.f457 ⟨[.ls .z9,.cl 458 []],[.v .z8]⟩ (fun x=>a14 x.1) w1 u1 .n [e3w] (by kernel_rfl) (by kernel_rfl) (fun _=>rfl) fun x=>by kernel_rfl
def K370:Kn Tryz.prog VV:=mk 370 Tryz.f370 ⟨[.ls .z9],[.v .z8]⟩ (fun x=>b55 x.1) w1 u1 .n [e54] (by kernel_rfl) (by kernel_rfl) (fun _=>rfl) fun x=>by kernel_rfl
def K262:Kn Tryz.prog VV:=mk 262 Tryz.f262 ⟨[.v .y7],[.v .z8]⟩ (fun x=>b6v x.1) w1 u1 (sk 2 (.s (.s .n (.l [53] [] [.bx 1 1 63 .y7,.v 54 .z9] .n)) .n)) [g03,K370] (by kernel_rfl) (by kernel_rfl) (fun _=>rfl) fun x=>by kernel_rfl
def K373:Kn Tryz.prog VV:=mk 373 Tryz.f373 ⟨[.v .z9,.v .zk],[.v .y5]⟩ (fun x=>a27 x.1 x.2.1) w1 u1 .n [] (by kernel_rfl) (by kernel_rfl) (fun _=>rfl) fun x=>by kernel_rfl
def K461:Kn Tryz.prog VV:=mk 461 Tryz.f461 ⟨[.v .y7,.v .yi],[.v .y5,.v .z8]⟩ (fun x=>c5p x.1 x.2.1) w2 u2 .n [K262,f8d,K373] (by kernel_rfl) (by kernel_rfl) (fun _=>rfl) fun x=>by kernel_rfl
def K374:Kn Tryz.prog VV:=mkR 374 Tryz.f374 ⟨[.rp 225 .yd,.v .yi],[.v .y5]⟩ (fun x=>b81 x.1 x.2.1) w1 u1 (sk 2 (.s (.s .n (.l [] [] [.bx 3 2 9 .yi,.bx 4 3 171 .y5] (.s .n .n))) .n)) [K461,K462] (by kernel_rfl) (by kernel_rfl) (fun _=>rfl) fun x=>by kernel_rfl
def g09:Kn Tryz.prog VV:=mk 306 Tryz.f306 ⟨[.v .yi],[.v .z9,.v .z8]⟩ (fun x=>a4l x.1) w2 u2 (.s .n (.s (.s .n (.j [] [.v 4 .yi,.v 5 .z8] .n (.s .n (.j [] [.v 4 .yi,.v 9 .z8] .n .n)))) .n)) [] (by kernel_rfl) (by kernel_rfl) (fun _=>rfl) fun x=>by kernel_rfl
def K491:Kn Tryz.prog VV:=mk 491 Tryz.f491 ⟨[.v .z9,.ls .z9],[.v .z9]⟩ (fun x=>a63 x.1 x.2.1) w1 u1 .n [] (by kernel_rfl) (by kernel_rfl) (fun _=>rfl) fun x=>by kernel_rfl
def c8o:Sig VV:=⟨[.v .zj,.ls .zf],[.v .z9,.v .z9]⟩
def c9y (R:Ring_pensionref5_infer):Fent VV:=⟨c8o,Int×Int,fun x=>R.f_pensionref5_infer x.1 x.2.1,fun b=>((b.1,(b.2,())),()),none⟩
def f79:Fent VV:=c9y (l9 FU)
def e7q:Ress VV c8o.rs×Outs VV c8o.ps -> Int×Int:=fun p=>(p.1.1,p.1.2.1)
def e7c:Ann VV.C:=(.s .n (.s (.s .n (.s .n (.s .n (.s .n (.s .n (.s .n (.s (.s .n (.s (.s .n (.l [1] [] [.bx 2 2 109 .zj,.v 8 .z9] .n)) .n)) .n))))))) (.s .n (.s (.s .n (.l [1] [] [.bx 2 2 109 .zj,.ow 9 3 3 .z9,.v 10 .z9] .n)) .n))))
def e8s (R:Ring_pensionref5_infer):Phi VV:=fun f ys=>lkF f ys [g09.e,(413,c9y R),K491.e]
theorem f2a (R:Ring_pensionref5_infer) (hr413:SX.Spec Tryz.prog 413 (c9y R)):OKΦ Tryz.prog (e8s R):=okl ⟨g09.ok,knS rfl ⟨hr413,fun _ _=>by kernel_rfl⟩,K491.ok,trivial⟩
theorem f6c (R:Ring_pensionref5_infer): ∀x,c58 Tryz.prog (e8s R) c8o e7q Tryz.f413 e7c x=y2 R x.1 x.2.1:=fun x=>by kernel_rfl
theorem e8n:c5d Tryz.f413 c8o=true:=by kernel_rfl
theorem a7n: ∀n,SX.Spec Tryz.prog 413 (c9y (l9 n))
 | 0=>(fun _ _ h=>(by cases (show none=some _ from h)))
 | n+1=>let h413:=a7n n;a6f (fe:=c9y (l9 (n+1))) uok (f2a (l9 n) h413) mixed (fn:=Tryz.f413) (by kernel_rfl) e7q e7c (p6 e8n).1 (p6 e8n).2 (fun _=>rfl) (f6c (l9 n))
def K413:Kn Tryz.prog VV:=⟨413,f79,knS rfl ⟨(a7n FU),fun _ _=>by kernel_rfl⟩⟩
def K307:Kn Tryz.prog VV:=mk 307 Tryz.f307 ⟨[.v .zj,.ls .zf],[.v .z9,.v .z9]⟩ (fun x=>a4k x.1 x.2.1) w2 u2 (sk 2 (.s (.s .n (.l [1] [] [.bx 2 2 109 .zj,.v 6 .z9] .n)) .n)) [K305,K413] (by kernel_rfl) (by kernel_rfl) (fun _=>rfl) fun x=>by kernel_rfl
def K187:Kn Tryz.prog VV:=mk 187 Tryz.f187 ⟨[.ls .zo],[.ow 377 .zf,.v .z9]⟩ (fun x=>a5b x.1) w2 u2 (sk 3 (.s (.s .n (.l [0] [] [.ow 4 1 377 .zf,.v 5 .z9] (.s .n (.s (.s .n (.s (.s .n (.l [0,5] [] [.ow 4 1 377 .zf,.v 8 .z9] .n)) .n)) .n)))) .n)) [f2w,g09,K307] (by kernel_rfl) (by kernel_rfl) (fun _=>rfl) fun x=>by kernel_rfl
def K188:Kn Tryz.prog VV:=mk 188 Tryz.f188 ⟨[.v .zj,.ls .zf,.v .z9],[.v .z9]⟩ (fun x=>a2f x.1 x.2.1 x.2.2.1) w1 u1 .n [K307] (by kernel_rfl) (by kernel_rfl) (fun _=>rfl) fun x=>by kernel_rfl
def K104:Kn Tryz.prog VV:=mk 104 Tryz.f104 ⟨[.v .y6],[.v .z9]⟩ (fun x=>a55 x.1) w1 u1 (sk 3 (.s (.s .n (.l [] [] [.bx 1 1 104 .y6,.ow 3 2 377 .zf,.v 5 .z9] (.s .n (.s (.s .n (.l [5] [] [.bx 1 1 104 .y6,.ow 3 2 377 .zf,.v 6 .z9] .n)) .n)))) (.s (.s .n (.l [] [] [.bx 1 1 104 .y6,.ow 3 2 377 .zf,.v 7 .z9] .n)) (.s (.s .n (.l [] [] [.bx 1 1 104 .y6,.ow 3 2 377 .zf,.v 8 .z9] (.s .n (.s (.s (.s .n (.l [8] [] [.bx 1 1 104 .y6,.ow 3 2 377 .zf,.v 9 .z9] .n)) .n) .n)))) (.s (.s .n (.l [] [] [.bx 1 1 104 .y6,.ow 3 2 377 .zf,.v 12 .z9] (.s .n (.s (.s (.s .n (.l [12] [] [.bx 1 1 104 .y6,.ow 3 2 377 .zf,.v 13 .z9] .n)) .n) .n)))) .n))))) [K187,K188] (by kernel_rfl) (by kernel_rfl) (fun _=>rfl) fun x=>by kernel_rfl
def K49:Kn Tryz.prog VV:=mk 49 Tryz.f49 ⟨[.v .y1],[.v .z9,.v .z9]⟩ (fun x=>a2d x.1) w2 u2 (sk 2 (.s (.s .n (.l [] [] [.bx 1 1 48 .y1,.v 4 .z9] .n)) .n)) [K103,K104] (by kernel_rfl) (by kernel_rfl) (fun _=>rfl) fun x=>by kernel_rfl
def K50:Kn Tryz.prog VV:=mk 50 Tryz.f50 ⟨[.ls .zw],[.v .z9]⟩ (fun x=>a0p x.1) w1 u1 (sk 3 (.s (.s .n (.l [0] [] [.v 3 .z9] (.s .n (.s (.s .n (.s .n (.s .n (.l [0,3] [] [.bx 4 1 106 .zw,.v 5 .z9] .n)))) .n)))) .n)) [K105] (by kernel_rfl) (by kernel_rfl) (fun _=>rfl) fun x=>by kernel_rfl
def K106:Kn Tryz.prog VV:=mk 106 Tryz.f106 ⟨[.v .z9],[.v .z8]⟩ (fun x=>a99 x.1) w1 u1 .n [] (by kernel_rfl) (by kernel_rfl) (fun _=>rfl) fun x=>by kernel_rfl
def K51:Kn Tryz.prog VV:=mk 51 Tryz.f51 ⟨[.ls .zs],[.v .z9]⟩ (fun x=>a0v x.1) w1 u1 (sk 2 (.s (.s .n (.l [0] [] [.v 3 .z9] .n)) .n)) [K74,K106] (by kernel_rfl) (by kernel_rfl) (fun _=>rfl) fun x=>by kernel_rfl
def K16:Kn Tryz.prog VV:=mk 16 Tryz.f16 ⟨[.v .zn],[.v .z9]⟩ (fun x=>y7 x.1) w1 u1 (.s .n (.s (.s .n (.l [] [] [.bx 1 1 27 .zn,.v 3 .z9] .n)) (.s (.s .n (.l [] [] [.bx 1 1 27 .zn,.v 5 .z9] .n)) .n))) [K49,K50,K51] (by kernel_rfl) (by kernel_rfl) (fun _=>rfl) fun x=>by kernel_rfl
end
end Go.PL
namespace Go.PL
open Go Go.SX Go.Proofs
noncomputable section
def kyT:FuncId -> Option TypeId:=fun g=>bif Nat.beq g 340 then some 287 else none
theorem kyA:KKS Tryz.prog VV kyT:=fun g tM h=>by
 unfold kyT at h
 cases hb:Nat.beq g 340 with | true=>(rw [hb] at h;obtain rfl:=Nat.eq_of_beq_eq_true hb;cases h;exact ⟨⟨Tryz.f340,3,4,136,3,3,by kernel_rfl,by kernel_rfl,rfl,rfl,by kernel_rfl⟩,fun _ _=>z1 (fn:=Tryz.f340) (by kernel_rfl) (by kernel_rfl) (by kernel_rfl) _ _,fun _=>by kernel_rfl⟩) | false=>(rw [hb] at h;cases h)
noncomputable def inT:List (Nat×Func×Ann TyC):=[(21,Tryz.f21,.n),(54,Tryz.f54,.n),(55,Tryz.f55,(.s .n (.s .n (.s .n (.s .n (.s .n (.s .n (.s .n (.s .n (.s (.s .n (.s (.s .n (.s .n (.g [3010]))) .n)) (.s (.s .n (.s (.s .n (.s .n (.s .n (.s .n (.s .n (.s .n (.s .n (.s (.g [3005]) .n)))))))) .n)) .n))))))))))),(62,Tryz.f62,.n),(63,Tryz.f63,(.s .n (.s .n (.s .n (.s .n (.s .n (.s .n (.s .n (.s .n (.s .n (.s .n (.s .n (.s .n (.s .n (.s .n (.s .n (.s .n (.s .n (.s (.s (.g [3009]) .n) .n))))))))))))))))))),(64,Tryz.f64,.n),(70,Tryz.f70,.n),(71,Tryz.f71,.n),(81,Tryz.f81,.n),(82,Tryz.f82,.n),(84,Tryz.f84,(.s .n (.s .n (.s .n (.s .n (.s .n (.s .n (.s .n (.s .n (.s .n (.s (.g [3003]) .n))))))))))),(111,Tryz.f111,.n),(112,Tryz.f112,.n),(113,Tryz.f113,.n),(114,Tryz.f114,.n),(125,Tryz.f125,.n),(126,Tryz.f126,.n),(127,Tryz.f127,.n),(128,Tryz.f128,.n),(129,Tryz.f129,.n),(130,Tryz.f130,.n),(131,Tryz.f131,.n),(132,Tryz.f132,.n),(134,Tryz.f134,(.s .n (.s .n (.s .n (.s (.g [6000]) (.s .n (.s .n (.s (.g [6000]) .n)))))))),(135,Tryz.f135,.n),(136,Tryz.f136,(.s .n (.s .n (.s .n (.s .n (.s (.g [6000]) (.s .n (.s .n (.s (.g [6000]) .n))))))))),(137,Tryz.f137,.n),(140,Tryz.f140,.n),(147,Tryz.f147,.n),(148,Tryz.f148,.n),(149,Tryz.f149,.n),(150,Tryz.f150,.n),(151,Tryz.f151,(.s .n (.s (.s .n (.s .n (.s .n (.s (.s .n (.s .n (.s .n (.s .n (.s (.g [3016]) .n))))) .n)))) (.s .n (.s .n (.s (.g [3012]) .n)))))),(152,Tryz.f152,.n),(157,Tryz.f157,.n),(158,Tryz.f158,.n),(159,Tryz.f159,.n),(193,Tryz.f193,.n),(194,Tryz.f194,.n),(195,Tryz.f195,.n),(196,Tryz.f196,.n),(197,Tryz.f197,.n),(198,Tryz.f198,.n),(199,Tryz.f199,.n),(216,Tryz.f216,.n),(217,Tryz.f217,.n),(218,Tryz.f218,(.s .n (.s .n (.s (.s .n (.s .n (.s (.s .n (.s (.s (.g [1002]) (.s .n (.s (.g [1002]) (.s (.g [2002]) .n)))) .n)) .n))) .n)))),(219,Tryz.f219,.n),(220,Tryz.f220,.n),(221,Tryz.f221,.n),(222,Tryz.f222,.n),(224,Tryz.f224,.n),(225,Tryz.f225,.n),(226,Tryz.f226,.n),(228,Tryz.f228,.n),(229,Tryz.f229,.n),(230,Tryz.f230,.n),(231,Tryz.f231,.n),(232,Tryz.f232,.n),(233,Tryz.f233,.n),(234,Tryz.f234,(.s .n (.s .n (.s .n (.s (.s .n (.g [6000,6008])) .n))))),(235,Tryz.f235,.n),(236,Tryz.f236,.n),(237,Tryz.f237,.n),(238,Tryz.f238,.n),(239,Tryz.f239,.n),(240,Tryz.f240,.n),(241,Tryz.f241,.n),(242,Tryz.f242,.n),(243,Tryz.f243,.n),(244,Tryz.f244,.n),(245,Tryz.f245,(.s .n (.s .n (.s .n (.s (.s (.g [6000]) (.s (.g [6003,6008]) (.s (.s (.g [6000]) (.g [2003,6000,6004])) .n))) (.g [6000,6004])))))),(246,Tryz.f246,.n),(247,Tryz.f247,(.s .n (.s .n (.s .n (.s .n (.s .n (.s .n (.s .n (.s (.s .n (.s .n (.s (.s .n (.s (.s .n (.s .n (.s .n (.s (.s .n (.s .n (.s (.g [3006]) .n))) .n)))) .n)) .n))) .n))))))))),(248,Tryz.f248,.n),(263,Tryz.f263,.n),(264,Tryz.f264,.n),(268,Tryz.f268,.n),(269,Tryz.f269,.n),(270,Tryz.f270,.n),(271,Tryz.f271,.n),(272,Tryz.f272,.n),(273,Tryz.f273,.n),(274,Tryz.f274,.n),(299,Tryz.f299,.n),(331,Tryz.f331,.n),(334,Tryz.f334,.n),(335,Tryz.f335,.n),(336,Tryz.f336,.n),(337,Tryz.f337,.n),(338,Tryz.f338,.n),(339,Tryz.f339,.n),(341,Tryz.f341,.n),(342,Tryz.f342,.n),(343,Tryz.f343,.n),(344,Tryz.f344,.n),(345,Tryz.f345,.n),(346,Tryz.f346,.n),(347,Tryz.f347,.n),(348,Tryz.f348,.n),(349,Tryz.f349,.n),(350,Tryz.f350,.n),(351,Tryz.f351,.n),(352,Tryz.f352,.n),(353,Tryz.f353,.n),(354,Tryz.f354,.n),(355,Tryz.f355,.n),(356,Tryz.f356,.n),(357,Tryz.f357,.n),(358,Tryz.f358,.n),(359,Tryz.f359,.n),(371,Tryz.f371,.n),(372,Tryz.f372,.n),(375,Tryz.f375,.n),(376,Tryz.f376,.n),(377,Tryz.f377,.n),(378,Tryz.f378,.n),(379,Tryz.f379,.n),(380,Tryz.f380,.n),(381,Tryz.f381,.n),(385,Tryz.f385,.n),(429,Tryz.f429,.n),(430,Tryz.f430,.n),(431,Tryz.f431,.n),(432,Tryz.f432,.n),(433,Tryz.f433,.n),(434,Tryz.f434,.n),(435,Tryz.f435,.n),(436,Tryz.f436,.n),(437,Tryz.f437,.n),(440,Tryz.f440,.n),(441,Tryz.f441,.n),(442,Tryz.f442,.n),(443,Tryz.f443,.n),(444,Tryz.f444,.n),(445,Tryz.f445,.n),(446,Tryz.f446,.n),(447,Tryz.f447,.n),(448,Tryz.f448,.n),(449,Tryz.f449,.n),(450,Tryz.f450,.n),(451,Tryz.f451,.n),(452,Tryz.f452,.n),(459,Tryz.f459,.n),(460,Tryz.f460,.n),(464,Tryz.f464,.n),(465,Tryz.f465,.n),(466,Tryz.f466,.n),(467,Tryz.f467,.n),(468,Tryz.f468,.n),(469,Tryz.f469,.n),(470,Tryz.f470,.n),(499,Tryz.f499,.n),(500,Tryz.f500,.n),(501,Tryz.f501,.n),(502,Tryz.f502,.n),(503,Tryz.f503,.n),(504,Tryz.f504,.n),(505,Tryz.f505,.n),(506,Tryz.f506,.n),(508,Tryz.f508,.n),(511,Tryz.f511,.n),(512,Tryz.f512,.n),(513,Tryz.f513,.n),(514,Tryz.f514,.n),(515,Tryz.f515,.n),(516,Tryz.f516,.n),(517,Tryz.f517,.n),(554,Tryz.f554,.n),(555,Tryz.f555,.n),(556,Tryz.f556,.n),(557,Tryz.f557,.n),(558,Tryz.f558,.n),(559,Tryz.f559,.n),(560,Tryz.f560,.n),(561,Tryz.f561,.n),(562,Tryz.f562,.n),(574,Tryz.f574,.n),(575,Tryz.f575,.n),(576,Tryz.f576,.n),(582,Tryz.f582,.n)]
theorem inA:f1h (U:=VV) Tryz.prog inT:=⟨⟨by kernel_rfl,by kernel_rfl⟩,⟨by kernel_rfl,by kernel_rfl⟩,⟨by kernel_rfl,by kernel_rfl⟩,⟨by kernel_rfl,by kernel_rfl⟩,⟨by kernel_rfl,by kernel_rfl⟩,⟨by kernel_rfl,by kernel_rfl⟩,⟨by kernel_rfl,by kernel_rfl⟩,⟨by kernel_rfl,by kernel_rfl⟩,⟨by kernel_rfl,by kernel_rfl⟩,⟨by kernel_rfl,by kernel_rfl⟩,⟨by kernel_rfl,by kernel_rfl⟩,⟨by kernel_rfl,by kernel_rfl⟩,⟨by kernel_rfl,by kernel_rfl⟩,⟨by kernel_rfl,by kernel_rfl⟩,⟨by kernel_rfl,by kernel_rfl⟩,⟨by kernel_rfl,by kernel_rfl⟩,⟨by kernel_rfl,by kernel_rfl⟩,⟨by kernel_rfl,by kernel_rfl⟩,⟨by kernel_rfl,by kernel_rfl⟩,⟨by kernel_rfl,by kernel_rfl⟩,⟨by kernel_rfl,by kernel_rfl⟩,⟨by kernel_rfl,by kernel_rfl⟩,⟨by kernel_rfl,by kernel_rfl⟩,⟨by kernel_rfl,by kernel_rfl⟩,⟨by kernel_rfl,by kernel_rfl⟩,⟨by kernel_rfl,by kernel_rfl⟩,⟨by kernel_rfl,by kernel_rfl⟩,⟨by kernel_rfl,by kernel_rfl⟩,⟨by kernel_rfl,by kernel_rfl⟩,⟨by kernel_rfl,by kernel_rfl⟩,⟨by kernel_rfl,by kernel_rfl⟩,⟨by kernel_rfl,by kernel_rfl⟩,⟨by kernel_rfl,by kernel_rfl⟩,⟨by kernel_rfl,by kernel_rfl⟩,⟨by kernel_rfl,by kernel_rfl⟩,⟨by kernel_rfl,by kernel_rfl⟩,⟨by kernel_rfl,by kernel_rfl⟩,⟨by kernel_rfl,by kernel_rfl⟩,⟨by kernel_rfl,by kernel_rfl⟩,⟨by kernel_rfl,by kernel_rfl⟩,⟨by kernel_rfl,by kernel_rfl⟩,⟨by kernel_rfl,by kernel_rfl⟩,⟨by kernel_rfl,by kernel_rfl⟩,⟨by kernel_rfl,by kernel_rfl⟩,⟨by kernel_rfl,by kernel_rfl⟩,⟨by kernel_rfl,by kernel_rfl⟩,⟨by kernel_rfl,by kernel_rfl⟩,⟨by kernel_rfl,by kernel_rfl⟩,⟨by kernel_rfl,by kernel_rfl⟩,⟨by kernel_rfl,by kernel_rfl⟩,⟨by kernel_rfl,by kernel_rfl⟩,⟨by kernel_rfl,by kernel_rfl⟩,⟨by kernel_rfl,by kernel_rfl⟩,⟨by kernel_rfl,by kernel_rfl⟩,⟨by kernel_rfl,by kernel_rfl⟩,⟨by kernel_rfl,by kernel_rfl⟩,⟨by kernel_rfl,by kernel_rfl⟩,⟨by kernel_rfl,by kernel_rfl⟩,⟨by kernel_rfl,by kernel_rfl⟩,⟨by kernel_rfl,by kernel_rfl⟩,⟨by kernel_rfl,by kernel_rfl⟩,⟨by kernel_rfl,by kernel_rfl⟩,⟨by kernel_rfl,by kernel_rfl⟩,⟨by kernel_rfl,by kernel_rfl⟩,⟨by kernel_rfl,by kernel_rfl⟩,⟨by kernel_rfl,by kernel_rfl⟩,⟨by kernel_rfl,by kernel_rfl⟩,⟨by kernel_rfl,by kernel_rfl⟩,⟨by kernel_rfl,by kernel_rfl⟩,⟨by kernel_rfl,by kernel_rfl⟩,⟨by kernel_rfl,by kernel_rfl⟩,⟨by kernel_rfl,by kernel_rfl⟩,⟨by kernel_rfl,by kernel_rfl⟩,⟨by kernel_rfl,by kernel_rfl⟩,⟨by kernel_rfl,by kernel_rfl⟩,⟨by kernel_rfl,by kernel_rfl⟩,⟨by kernel_rfl,by kernel_rfl⟩,⟨by kernel_rfl,by kernel_rfl⟩,⟨by kernel_rfl,by kernel_rfl⟩,⟨by kernel_rfl,by kernel_rfl⟩,⟨by kernel_rfl,by kernel_rfl⟩,⟨by kernel_rfl,by kernel_rfl⟩,⟨by kernel_rfl,by kernel_rfl⟩,⟨by kernel_rfl,by kernel_rfl⟩,⟨by kernel_rfl,by kernel_rfl⟩,⟨by kernel_rfl,by kernel_rfl⟩,⟨by kernel_rfl,by kernel_rfl⟩,⟨by kernel_rfl,by kernel_rfl⟩,⟨by kernel_rfl,by kernel_rfl⟩,⟨by kernel_rfl,by kernel_rfl⟩,⟨by kernel_rfl,by kernel_rfl⟩,⟨by kernel_rfl,by kernel_rfl⟩,⟨by kernel_rfl,by kernel_rfl⟩,⟨by kernel_rfl,by kernel_rfl⟩,⟨by kernel_rfl,by kernel_rfl⟩,⟨by kernel_rfl,by kernel_rfl⟩,⟨by kernel_rfl,by kernel_rfl⟩,⟨by kernel_rfl,by kernel_rfl⟩,⟨by kernel_rfl,by kernel_rfl⟩,⟨by kernel_rfl,by kernel_rfl⟩,⟨by kernel_rfl,by kernel_rfl⟩,⟨by kernel_rfl,by kernel_rfl⟩,⟨by kernel_rfl,by kernel_rfl⟩,⟨by kernel_rfl,by kernel_rfl⟩,⟨by kernel_rfl,by kernel_rfl⟩,⟨by kernel_rfl,by kernel_rfl⟩,⟨by kernel_rfl,by kernel_rfl⟩,⟨by kernel_rfl,by kernel_rfl⟩,⟨by kernel_rfl,by kernel_rfl⟩,⟨by kernel_rfl,by kernel_rfl⟩,⟨by kernel_rfl,by kernel_rfl⟩,⟨by kernel_rfl,by kernel_rfl⟩,⟨by kernel_rfl,by kernel_rfl⟩,⟨by kernel_rfl,by kernel_rfl⟩,⟨by kernel_rfl,by kernel_rfl⟩,⟨by kernel_rfl,by kernel_rfl⟩,⟨by kernel_rfl,by kernel_rfl⟩,⟨by kernel_rfl,by kernel_rfl⟩,⟨by kernel_rfl,by kernel_rfl⟩,⟨by kernel_rfl,by kernel_rfl⟩,⟨by kernel_rfl,by kernel_rfl⟩,⟨by kernel_rfl,by kernel_rfl⟩,⟨by kernel_rfl,by kernel_rfl⟩,⟨by kernel_rfl,by kernel_rfl⟩,⟨by kernel_rfl,by kernel_rfl⟩,⟨by kernel_rfl,by kernel_rfl⟩,⟨by kernel_rfl,by kernel_rfl⟩,⟨by kernel_rfl,by kernel_rfl⟩,⟨by kernel_rfl,by kernel_rfl⟩,⟨by kernel_rfl,by kernel_rfl⟩,⟨by kernel_rfl,by kernel_rfl⟩,⟨by kernel_rfl,by kernel_rfl⟩,⟨by kernel_rfl,by kernel_rfl⟩,⟨by kernel_rfl,by kernel_rfl⟩,⟨by kernel_rfl,by kernel_rfl⟩,⟨by kernel_rfl,by kernel_rfl⟩,⟨by kernel_rfl,by kernel_rfl⟩,⟨by kernel_rfl,by kernel_rfl⟩,⟨by kernel_rfl,by kernel_rfl⟩,⟨by kernel_rfl,by kernel_rfl⟩,⟨by kernel_rfl,by kernel_rfl⟩,⟨by kernel_rfl,by kernel_rfl⟩,⟨by kernel_rfl,by kernel_rfl⟩,⟨by kernel_rfl,by kernel_rfl⟩,⟨by kernel_rfl,by kernel_rfl⟩,⟨by kernel_rfl,by kernel_rfl⟩,⟨by kernel_rfl,by kernel_rfl⟩,⟨by kernel_rfl,by kernel_rfl⟩,⟨by kernel_rfl,by kernel_rfl⟩,⟨by kernel_rfl,by kernel_rfl⟩,⟨by kernel_rfl,by kernel_rfl⟩,⟨by kernel_rfl,by kernel_rfl⟩,⟨by kernel_rfl,by kernel_rfl⟩,⟨by kernel_rfl,by kernel_rfl⟩,⟨by kernel_rfl,by kernel_rfl⟩,⟨by kernel_rfl,by kernel_rfl⟩,⟨by kernel_rfl,by kernel_rfl⟩,⟨by kernel_rfl,by kernel_rfl⟩,⟨by kernel_rfl,by kernel_rfl⟩,⟨by kernel_rfl,by kernel_rfl⟩,⟨by kernel_rfl,by kernel_rfl⟩,⟨by kernel_rfl,by kernel_rfl⟩,⟨by kernel_rfl,by kernel_rfl⟩,⟨by kernel_rfl,by kernel_rfl⟩,⟨by kernel_rfl,by kernel_rfl⟩,⟨by kernel_rfl,by kernel_rfl⟩,⟨by kernel_rfl,by kernel_rfl⟩,⟨by kernel_rfl,by kernel_rfl⟩,⟨by kernel_rfl,by kernel_rfl⟩,⟨by kernel_rfl,by kernel_rfl⟩,⟨by kernel_rfl,by kernel_rfl⟩,⟨by kernel_rfl,by kernel_rfl⟩,⟨by kernel_rfl,by kernel_rfl⟩,⟨by kernel_rfl,by kernel_rfl⟩,⟨by kernel_rfl,by kernel_rfl⟩,⟨by kernel_rfl,by kernel_rfl⟩,⟨by kernel_rfl,by kernel_rfl⟩,⟨by kernel_rfl,by kernel_rfl⟩,⟨by kernel_rfl,by kernel_rfl⟩,⟨by kernel_rfl,by kernel_rfl⟩,⟨by kernel_rfl,by kernel_rfl⟩,trivial⟩
def kT:List (Kn Tryz.prog VV):=[K15,K47,K48,K97,K99,K100,g03,K110,K124,d5a,f3s,K183,K184,K223,K227,K249,K262,d43,K311,K332,K333,K370,K373,K374,e6d,K463,K475,e4m]
def f4s:Fent VV:=⟨⟨[],[.v .z8]⟩,Bool,fun _=>some true,w1,none⟩
end
end Go.PL
