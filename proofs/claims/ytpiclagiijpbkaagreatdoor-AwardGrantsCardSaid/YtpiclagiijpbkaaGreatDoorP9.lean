/- Texts of the proof, joined. -/
import Derived.Test.YtpiclagiijpbkaaGreatDoorP8
import Derived.Test.YtpiclagiijpbkaaGreatDoorProg
import Derived.KernelRfl
import Derived.Shelf.SlSortFuncK.WholeK
import Derived.Shelf.Strconv.Itoa3
import Derived.Shelf.SlSortFuncK.RowK2
import Derived.Shelf.GgSortFunc.Tiny
import Derived.Shelf.SlIterI.Sorted
import Derived.Shelf.SortM.Plain
import Derived.Shelf.SortM.SortNone
import Derived.Lib.SlKeysI
set_option linter.defProp false
set_option linter.unusedVariables false
set_option linter.unusedSimpArgs false
set_option maxRecDepth 100000
open List
namespace Go.PL
open Go Go.SX
inductive TyC where
 | z9
 | zx
 | zw
 | zi
 | zl
 | zn
 | yk
 | zk
 | zp
 | zm
 | zu
 | y7
 | z8
 | y6
 | y3
 | zg
 | ym
 | yn
 | y0
 | z2
 | y4
 | yh
 | yg
 | y2
 | y1
 | zt
 | zo
 | yf
 | y8
 | z6
 | yj
 | yl
 | z1
 | z0
 | ya
 | ye
 | yi
 | za
 | zv
 | zd
 | y9
 | zf
 | zh
 | z5
 | z4
 | y5
 | zj
 | yd
 | zy
 | zz
 | zq
 | z7
 | z3
 | zb
 | zr
 | zs
 | yb
 | yc
 | zc
 | ze
deriving DecidableEq
@[reducible] def TyC.T:TyC -> Type
  | .z9=>Int
  | .zx=>Rules
  | .zw=>Rounding
  | .zi=>Credit
  | .zl=>fQ
  | .zn=>Index
  | .yk=>A4
  | .zk=>Expr
  | .zp=>Let
  | .zm=>Grant
  | .zu=>Reduce
  | .y7=>Version
  | .z8=>Bool
  | .y6=>Value
  | .y3=>Step
  | .zg=>iQ
  | .ym=>Int
  | .yn=>Int
  | .y0=>Span
  | .z2=>Ar 3 A4
  | .y4=>Token
  | .yh=>rQ
  | .yg=>pensionref1_wide
  | .y2=>Statute
  | .y1=>State
  | .zt=>Rate
  | .zo=>Laws
  | .yf=>pensionmade_View
  | .y8=>View
  | .z6=>Ar 7 Int
  | .yj=>syntax_entry
  | .yl=>Int
  | .z1=>Ar 2 Int
  | .z0=>Ar 12 Int
  | .ya=>bQ
  | .ye=>vQ
  | .yi=>rational_wide
  | .za=>O Int
  | .zv=>Result
  | .zd=>O Span
  | .y9=>aQ
  | .zf=>Award
  | .zh=>nQ
  | .z5=>Ar 6 Int
  | .z4=>Ar 6 Bool
  | .y5=>Total
  | .zj=>Earning
  | .yd=>earnings_income
  | .zy=>Scheme
  | .zz=>gQ
  | .zq=>Period
  | .z7=>Ar 7 (O Span)
  | .z3=>Ar 6 (Ar 7 (O Span))
  | .zb=>O nQ
  | .zr=>Piece
  | .zs=>Posting
  | .yb=>lQ
  | .yc=>uQ
  | .zc=>O Period
  | .ze=>Anon360
abbrev VA:=AV TyC TyC.T
def dT:DecidableEq TyC:=inferInstance
def g93:Int -> O VA:=fun x=>[.int .i64 x]
def h0b:O VA -> A3 Int:=mkS (gI .i64) fun x0=>mkE x0
def f0o:Rules -> O VA:=fun x=>[.int .i64 x.From,.int .i64 x.MinDays,.int .i64 x.PostingLimit,.int .i64 x.Substantial,.list .z9 x.Members]
def e9b:O VA -> A3 Rules:=mkS (gI .i64) fun x0=>mkS (gI .i64) fun x1=>mkS (gI .i64) fun x2=>mkS (gI .i64) fun x3=>mkS (SX.gL dT .z9) fun x4=>mkE (⟨x0,x1,x2,x3,x4⟩:Rules)
def d66:Rounding -> O VA:=fun x=>[.int .i64 x.Mode,.int .i64 x.Unit]
def d85:O VA -> A3 Rounding:=mkS (gI .i64) fun x0=>mkS (gI .i64) fun x1=>mkE (⟨x0,x1⟩:Rounding)
def e4m:Credit -> O VA:=fun x=>[.int .i64 x.Kind,.int .i64 x.Limit]
def e6k:O VA -> A3 Credit:=mkS (gI .i64) fun x0=>mkS (gI .i64) fun x1=>mkE (⟨x0,x1⟩:Credit)
def d63:fQ -> O VA:=fun x=>[.int .i64 x.Num,.int .i64 x.Den]
def d90:O VA -> A3 fQ:=mkS (gI .i64) fun x0=>mkS (gI .i64) fun x1=>mkE (⟨x0,x1⟩:fQ)
def e9e:Index -> O VA:=fun x=>[.int .i64 x.Year,.val .zl x.Factor]
def e7q:O VA -> A3 Index:=mkS (gI .i64) fun x0=>mkS (gV dT .zl) fun x1=>mkE (⟨x0,x1⟩:Index)
def g78:A4 -> O VA:=fun x=>[.str x]
def g9e:O VA -> A3 A4:=mkS (gS) fun x0=>mkE x0
def f5y:Expr -> O VA:=fun x=>[.int .i64 x.Op,.val .zl x.Value,.int .i64 x.Dim,.str x.Name,.list .zk x.Args]
def f4s:O VA -> A3 Expr:=mkS (gI .i64) fun x0=>mkS (gV dT .zl) fun x1=>mkS (gI .i64) fun x2=>mkS (gS) fun x3=>mkS (SX.gL dT .zk) fun x4=>mkE (⟨x0,x1,x2,x3,x4⟩:Expr)
def g3m:Let -> O VA:=fun x=>[.str x.Name,.val .zk x.Body]
def g4f:O VA -> A3 Let:=mkS (gS) fun x0=>mkS (gV dT .zk) fun x1=>mkE (⟨x0,x1⟩:Let)
def f1v:Grant -> O VA:=fun x=>[.int .i64 x.Benefit,.val .zk x.If,.val .zk x.Pay]
def e92:O VA -> A3 Grant:=mkS (gI .i64) fun x0=>mkS (gV dT .zk) fun x1=>mkS (gV dT .zk) fun x2=>mkE (⟨x0,x1,x2⟩:Grant)
def e6t:Reduce -> O VA:=fun x=>[.int .i64 x.Benefit,.val .zk x.By]
def e6w:O VA -> A3 Reduce:=mkS (gI .i64) fun x0=>mkS (gV dT .zk) fun x1=>mkE (⟨x0,x1⟩:Reduce)
def e10:Version -> O VA:=fun x=>[.int .i64 x.From,.val .zw x.Rounding,.list .zi x.Credits,.list .zn x.Series,.list .zp x.Lets,.list .zm x.Grants,.list .zu x.Reduces]
def e1l:O VA -> A3 Version:=mkS (gI .i64) fun x0=>mkS (gV dT .zw) fun x1=>mkS (SX.gL dT .zi) fun x2=>mkS (SX.gL dT .zn) fun x3=>mkS (SX.gL dT .zp) fun x4=>mkS (SX.gL dT .zm) fun x5=>mkS (SX.gL dT .zu) fun x6=>mkE (⟨x0,x1,x2,x3,x4,x5,x6⟩:Version)
def g3y:Bool -> O VA:=fun x=>[.bool x]
def g5e:O VA -> A3 Bool:=mkS (gB) fun x0=>mkE x0
def f02:Value -> O VA:=fun x=>[.int .i64 x.Dim,.bool x.Yes,.val .zl x.Num]
def f05:O VA -> A3 Value:=mkS (gI .i64) fun x0=>mkS (gB) fun x1=>mkS (gV dT .zl) fun x2=>mkE (⟨x0,x1,x2⟩:Value)
def f7b:Step -> O VA:=fun x=>[.str x.Name,.val .y6 x.Value]
def f5s:O VA -> A3 Step:=mkS (gS) fun x0=>mkS (gV dT .y6) fun x1=>mkE (⟨x0,x1⟩:Step)
def d9c:iQ -> O VA:=fun x=>[.str x.Name,.int .i64 x.Dim]
def e0b:O VA -> A3 iQ:=mkS (gS) fun x0=>mkS (gI .i64) fun x1=>mkE (⟨x0,x1⟩:iQ)
def h1c:Int -> O VA:=fun x=>[.int .u64 x]
def g83:O VA -> A3 Int:=mkS (gI .u64) fun x0=>mkE x0
def h4b:Int -> O VA:=fun x=>[.int .u8 x]
def h2q:O VA -> A3 Int:=mkS (gI .u8) fun x0=>mkE x0
def f4o:Span -> O VA:=fun x=>[.int .i64 x.From,.int .i64 x.To]
def f7t:O VA -> A3 Span:=mkS (gI .i64) fun x0=>mkS (gI .i64) fun x1=>mkE (⟨x0,x1⟩:Span)
def e7k:Ar 3 A4 -> O VA:=fun x=>x.l.map fun y=> .str y
def d8g:O VA -> A3 (Ar 3 A4):=mkA (gS) 3
def e9d:Token -> O VA:=fun x=>[.int .i64 x.Kind,.str x.Text,.int .i64 x.At]
def f0u:O VA -> A3 Token:=mkS (gI .i64) fun x0=>mkS (gS) fun x1=>mkS (gI .i64) fun x2=>mkE (⟨x0,x1,x2⟩:Token)
def c0i:rQ -> O VA:=fun x=>[.list .y4 x.l,.int .i64 x.at_,.int .i64 x.end_,.bool x.bad]
def c0h:O VA -> A3 rQ:=mkS (SX.gL dT .y4) fun x0=>mkS (gI .i64) fun x1=>mkS (gI .i64) fun x2=>mkS (gB) fun x3=>mkE (⟨x0,x1,x2,x3⟩:rQ)
def c2q:pensionref1_wide -> O VA:=fun x=>[.int .u64 x.hi,.int .u64 x.lo]
def c2l:O VA -> A3 pensionref1_wide:=mkS (gI .u64) fun x0=>mkS (gI .u64) fun x1=>mkE (⟨x0,x1⟩:pensionref1_wide)
def e0x:Statute -> O VA:=fun x=>[.str x.Name,.int .i64 x.Currency,.list .y7 x.Versions]
def e0u:O VA -> A3 Statute:=mkS (gS) fun x0=>mkS (gI .i64) fun x1=>mkS (SX.gL dT .y7) fun x2=>mkE (⟨x0,x1,x2⟩:Statute)
def f0d:State -> O VA:=fun x=>[.int .i64 x.State,.val .y2 x.Statute]
def e9c:O VA -> A3 State:=mkS (gI .i64) fun x0=>mkS (gV dT .y2) fun x1=>mkE (⟨x0,x1⟩:State)
def f3r:Rate -> O VA:=fun x=>[.int .i64 x.Currency,.int .i64 x.Month,.val .zl x.Value]
def f4z:O VA -> A3 Rate:=mkS (gI .i64) fun x0=>mkS (gI .i64) fun x1=>mkS (gV dT .zl) fun x2=>mkE (⟨x0,x1,x2⟩:Rate)
def f7k:Laws -> O VA:=fun x=>[.list .y1 x.States,.list .zx x.Treaty,.list .zt x.Rates]
def f6x:O VA -> A3 Laws:=mkS (SX.gL dT .y1) fun x0=>mkS (SX.gL dT .zx) fun x1=>mkS (SX.gL dT .zt) fun x2=>mkE (⟨x0,x1,x2⟩:Laws)
def h8z:pensionmade_View -> O VA:=fun x=>[.int .i64 x.Age,.int .i64 x.Year,.int .i64 x.Children,.int .i64 x.Base,.int .i64 x.Den,.list .z9 x.Days,.list .z9 x.Years]
def h8y:O VA -> A3 pensionmade_View:=mkS (gI .i64) fun x0=>mkS (gI .i64) fun x1=>mkS (gI .i64) fun x2=>mkS (gI .i64) fun x3=>mkS (gI .i64) fun x4=>mkS (SX.gL dT .z9) fun x5=>mkS (SX.gL dT .z9) fun x6=>mkE (⟨x0,x1,x2,x3,x4,x5,x6⟩:pensionmade_View)
def f4f:View -> O VA:=fun x=>[.int .i64 x.Age,.int .i64 x.Year,.int .i64 x.Children,.int .i64 x.Insured,.int .i64 x.Worked,.int .i64 x.Voluntary,.int .i64 x.Service,.int .i64 x.Equated,.int .i64 x.Raising,.int .i64 x.Resident,.val .zl x.Base,.list .z9 x.Years]
def f6d:O VA -> A3 View:=mkS (gI .i64) fun x0=>mkS (gI .i64) fun x1=>mkS (gI .i64) fun x2=>mkS (gI .i64) fun x3=>mkS (gI .i64) fun x4=>mkS (gI .i64) fun x5=>mkS (gI .i64) fun x6=>mkS (gI .i64) fun x7=>mkS (gI .i64) fun x8=>mkS (gI .i64) fun x9=>mkS (gV dT .zl) fun x10=>mkS (SX.gL dT .z9) fun x11=>mkE (⟨x0,x1,x2,x3,x4,x5,x6,x7,x8,x9,x10,x11⟩:View)
def f2a:Ar 7 Int -> O VA:=fun x=>x.l.map fun y=> .int .i64 y
def d8f:O VA -> A3 (Ar 7 Int):=mkA (gI .i64) 7
def c79:syntax_entry -> O VA:=fun x=>[.str x.name,.int .i64 x.number]
def c74:O VA -> A3 syntax_entry:=mkS (gS) fun x0=>mkS (gI .i64) fun x1=>mkE (⟨x0,x1⟩:syntax_entry)
def h09:Int -> O VA:=fun x=>[.int .u32 x]
def h0n:O VA -> A3 Int:=mkS (gI .u32) fun x0=>mkE x0
def e7l:Ar 2 Int -> O VA:=fun x=>x.l.map fun y=> .int .i64 y
def d5s:O VA -> A3 (Ar 2 Int):=mkA (gI .i64) 2
def e5w:Ar 12 Int -> O VA:=fun x=>x.l.map fun y=> .int .i64 y
def d2q:O VA -> A3 (Ar 12 Int):=mkA (gI .i64) 12
def c8y:bQ -> O VA:=fun x=>[.val .zo x.laws,.int .i64 x.day,.val .zx x.rules]
def c7v:O VA -> A3 bQ:=mkS (gV dT .zo) fun x0=>mkS (gI .i64) fun x1=>mkS (gV dT .zx) fun x2=>mkE (⟨x0,x1,x2⟩:bQ)
def c4s:vQ -> O VA:=fun x=>[.val .y8 x.view,.list .y3 x.steps]
def c4w:O VA -> A3 vQ:=mkS (gV dT .y8) fun x0=>mkS (SX.gL dT .y3) fun x1=>mkE (⟨x0,x1⟩:vQ)
def c5b:rational_wide -> O VA:=fun x=>[.int .u64 x.hi,.int .u64 x.lo]
def c5t:O VA -> A3 rational_wide:=mkS (gI .u64) fun x0=>mkS (gI .u64) fun x1=>mkE (⟨x0,x1⟩:rational_wide)
def g56:O Int -> O VA:=fun x=>[.list .z9 x]
def g3l:O VA -> A3 (O Int):=mkS (SX.gL dT .z9) fun x0=>mkE x0
def e56:Result -> O VA:=fun x=>[.bool x.Holds,.val .zl x.Pay,.list .y3 x.Steps]
def e6j:O VA -> A3 Result:=mkS (gB) fun x0=>mkS (gV dT .zl) fun x1=>mkS (SX.gL dT .y3) fun x2=>mkE (⟨x0,x1,x2⟩:Result)
def f0l:O Span -> O VA:=fun x=>[.list .y0 x]
def e88:O VA -> A3 (O Span):=mkS (SX.gL dT .y0) fun x0=>mkE x0
def d8u:aQ -> O VA:=fun x=>[.int .i64 x.Issuer,.int .i64 x.Number,.int .i64 x.Version,.bool x.Withdrawn,.int .i64 x.Person,.int .i64 x.Kind,.int .i64 x.State,.val .y0 x.Span,.int .i64 x.Seat,.int .i64 x.Share,.int .i64 x.Currency,.int .i64 x.Amount,.int .i64 x.Ref]
def d83:O VA -> A3 aQ:=mkS (gI .i64) fun x0=>mkS (gI .i64) fun x1=>mkS (gI .i64) fun x2=>mkS (gB) fun x3=>mkS (gI .i64) fun x4=>mkS (gI .i64) fun x5=>mkS (gI .i64) fun x6=>mkS (gV dT .y0) fun x7=>mkS (gI .i64) fun x8=>mkS (gI .i64) fun x9=>mkS (gI .i64) fun x10=>mkS (gI .i64) fun x11=>mkS (gI .i64) fun x12=>mkE (⟨x0,x1,x2,x3,x4,x5,x6,x7,x8,x9,x10,x11,x12⟩:aQ)
def f1u:Award -> O VA:=fun x=>[.int .i64 x.State,.int .i64 x.Benefit,.int .i64 x.Day,.int .i64 x.Code,.bool x.Few,.int .i64 x.Independent,.int .i64 x.Theoretical,.int .i64 x.ProRata,.int .i64 x.Num,.int .i64 x.Den,.int .i64 x.Amount,.list .y3 x.Steps]
def e79:O VA -> A3 Award:=mkS (gI .i64) fun x0=>mkS (gI .i64) fun x1=>mkS (gI .i64) fun x2=>mkS (gI .i64) fun x3=>mkS (gB) fun x4=>mkS (gI .i64) fun x5=>mkS (gI .i64) fun x6=>mkS (gI .i64) fun x7=>mkS (gI .i64) fun x8=>mkS (gI .i64) fun x9=>mkS (gI .i64) fun x10=>mkS (SX.gL dT .y3) fun x11=>mkE (⟨x0,x1,x2,x3,x4,x5,x6,x7,x8,x9,x10,x11⟩:Award)
def e0m:nQ -> O VA:=fun x=>[.val .y0 x.Span,.int .i64 x.State,.int .i64 x.Rank]
def e1b:O VA -> A3 nQ:=mkS (gV dT .y0) fun x0=>mkS (gI .i64) fun x1=>mkS (gI .i64) fun x2=>mkE (⟨x0,x1,x2⟩:nQ)
def e96:Ar 6 Int -> O VA:=fun x=>x.l.map fun y=> .int .i64 y
def d59:O VA -> A3 (Ar 6 Int):=mkA (gI .i64) 6
def e5x:Ar 6 Bool -> O VA:=fun x=>x.l.map fun y=> .bool y
def d2a:O VA -> A3 (Ar 6 Bool):=mkA (gB) 6
def e8i:Total -> O VA:=fun x=>[.val .z5 x.Own,.val .z4 x.Few,.int .i64 x.Sum,.int .i64 x.Base,.int .i64 x.Last]
def e9r:O VA -> A3 Total:=mkS (gV dT .z5) fun x0=>mkS (gV dT .z4) fun x1=>mkS (gI .i64) fun x2=>mkS (gI .i64) fun x3=>mkS (gI .i64) fun x4=>mkE (⟨x0,x1,x2,x3,x4⟩:Total)
def d9p:Earning -> O VA:=fun x=>[.int .i64 x.Year,.int .i64 x.Amount]
def e08:O VA -> A3 Earning:=mkS (gI .i64) fun x0=>mkS (gI .i64) fun x1=>mkE (⟨x0,x1⟩:Earning)
def c35:earnings_income -> O VA:=fun x=>[.val .y9 x.fact,.list .y0 x.days]
def c3a:O VA -> A3 earnings_income:=mkS (gV dT .y9) fun x0=>mkS (SX.gL dT .y0) fun x1=>mkE (⟨x0,x1⟩:earnings_income)
def e50:Scheme -> O VA:=fun x=>[.int .i64 x.State,.val .y7 x.Version]
def e62:O VA -> A3 Scheme:=mkS (gI .i64) fun x0=>mkS (gV dT .y7) fun x1=>mkE (⟨x0,x1⟩:Scheme)
def d9y:gQ -> O VA:=fun x=>[.val .y0 x.Span,.int .i64 x.State,.int .i64 x.Rule]
def e1d:O VA -> A3 gQ:=mkS (gV dT .y0) fun x0=>mkS (gI .i64) fun x1=>mkS (gI .i64) fun x2=>mkE (⟨x0,x1,x2⟩:gQ)
def e5s:Period -> O VA:=fun x=>[.int .i64 x.State,.int .i64 x.Rank,.val .y0 x.Span]
def e58:O VA -> A3 Period:=mkS (gI .i64) fun x0=>mkS (gI .i64) fun x1=>mkS (gV dT .y0) fun x2=>mkE (⟨x0,x1,x2⟩:Period)
def d8m:Ar 7 (O Span) -> O VA:=fun x=>x.l.map fun y=> .list .y0 y
def c6h:O VA -> A3 (Ar 7 (O Span)):=mkA (SX.gL dT .y0) 7
def c7x:Ar 6 (Ar 7 (O Span)) -> O VA:=fun x=>x.l.map fun y=> .val .z7 y
def c16:O VA -> A3 (Ar 6 (Ar 7 (O Span))):=mkA (gV dT .z7) 6
def d7t:O nQ -> O VA:=fun x=>[.list .zh x]
def d5c:O VA -> A3 (O nQ):=mkS (SX.gL dT .zh) fun x0=>mkE x0
def f2h:Piece -> O VA:=fun x=>[.val .y0 x.Span,.list .z9 x.Members]
def e80:O VA -> A3 Piece:=mkS (gV dT .y0) fun x0=>mkS (SX.gL dT .z9) fun x1=>mkE (⟨x0,x1⟩:Piece)
def e1h:Posting -> O VA:=fun x=>[.int .i64 x.Seat,.int .i64 x.State,.val .y0 x.Span]
def e0z:O VA -> A3 Posting:=mkS (gI .i64) fun x0=>mkS (gI .i64) fun x1=>mkS (gV dT .y0) fun x2=>mkE (⟨x0,x1,x2⟩:Posting)
def c3f:lQ -> O VA:=fun x=>[.list .y9 x.facts,.val .y0 x.span,.list .zs x.postings,.list .zx x.rules]
def c3t:O VA -> A3 lQ:=mkS (SX.gL dT .y9) fun x0=>mkS (gV dT .y0) fun x1=>mkS (SX.gL dT .zs) fun x2=>mkS (SX.gL dT .zx) fun x3=>mkE (⟨x0,x1,x2,x3⟩:lQ)
def c2m:uQ -> O VA:=fun x=>[.int .i64 x.seat,.int .i64 x.state]
def c2r:O VA -> A3 uQ:=mkS (gI .i64) fun x0=>mkS (gI .i64) fun x1=>mkE (⟨x0,x1⟩:uQ)
def e05:O Period -> O VA:=fun x=>[.list .zq x]
def d95:O VA -> A3 (O Period):=mkS (SX.gL dT .zq) fun x0=>mkE x0
def i1n:Anon360 -> O VA:=fun x=>[.int .i64 x.kind,.int .i64 x.rank]
def i1l:O VA -> A3 Anon360:=mkS (gI .i64) fun x0=>mkS (gI .i64) fun x1=>mkE (⟨x0,x1⟩:Anon360)
def cdT (n:Nat):A3 TyC:=bif Nat.blt n 140 then (bif Nat.blt n 64 then (bif Nat.blt n 33 then (bif Nat.blt n 11 then (bif Nat.blt n 5 then (bif Nat.blt n 3 then (bif Nat.beq n 2 then some .z9 else none) else (bif Nat.blt n 4 then (bif Nat.beq n 3 then some .z9 else none) else (bif Nat.beq n 4 then some .z8 else none))) else (bif Nat.blt n 9 then (bif Nat.blt n 6 then (bif Nat.beq n 5 then some .yn else none) else (bif Nat.beq n 6 then some .yn else none)) else (bif Nat.blt n 10 then (bif Nat.beq n 9 then some .yk else none) else (bif Nat.beq n 10 then some .yk else none)))) else (bif Nat.blt n 23 then (bif Nat.blt n 12 then (bif Nat.beq n 11 then some .yk else none) else (bif Nat.blt n 22 then (bif Nat.beq n 12 then some .ym else none) else (bif Nat.beq n 22 then some .za else none))) else (bif Nat.blt n 28 then (bif Nat.blt n 24 then (bif Nat.beq n 23 then some .yf else none) else (bif Nat.beq n 24 then some .yf else none)) else (bif Nat.blt n 29 then (bif Nat.beq n 28 then some .zo else none) else (bif Nat.beq n 29 then some .zo else none))))) else (bif Nat.blt n 51 then (bif Nat.blt n 36 then (bif Nat.blt n 34 then (bif Nat.beq n 33 then some .zl else none) else (bif Nat.blt n 35 then (bif Nat.beq n 34 then some .zl else none) else (bif Nat.beq n 35 then some .y8 else none))) else (bif Nat.blt n 40 then (bif Nat.blt n 39 then (bif Nat.beq n 36 then some .y8 else none) else (bif Nat.beq n 39 then some .zv else none)) else (bif Nat.blt n 41 then (bif Nat.beq n 40 then some .zv else none) else (bif Nat.beq n 41 then some .z9 else none)))) else (bif Nat.blt n 55 then (bif Nat.blt n 53 then (bif Nat.blt n 52 then (bif Nat.beq n 51 then some .y2 else none) else (bif Nat.beq n 52 then some .y2 else none)) else (bif Nat.blt n 54 then (bif Nat.beq n 53 then some .y1 else none) else (bif Nat.beq n 54 then some .y1 else none))) else (bif Nat.blt n 57 then (bif Nat.blt n 56 then (bif Nat.beq n 55 then some .zt else none) else (bif Nat.beq n 56 then some .zt else none)) else (bif Nat.blt n 58 then (bif Nat.beq n 57 then some .zw else none) else (bif Nat.beq n 58 then some .zw else none)))))) else (bif Nat.blt n 89 then (bif Nat.blt n 82 then (bif Nat.blt n 68 then (bif Nat.blt n 65 then (bif Nat.beq n 64 then some .y7 else none) else (bif Nat.blt n 66 then (bif Nat.beq n 65 then some .y7 else none) else (bif Nat.beq n 66 then some .z6 else none))) else (bif Nat.blt n 70 then (bif Nat.blt n 69 then (bif Nat.beq n 68 then some .zx else none) else (bif Nat.beq n 69 then some .zx else none)) else (bif Nat.blt n 71 then (bif Nat.beq n 70 then some .ya else none) else (bif Nat.beq n 71 then some .ya else none)))) else (bif Nat.blt n 85 then (bif Nat.blt n 83 then (bif Nat.beq n 82 then some .zk else none) else (bif Nat.blt n 84 then (bif Nat.beq n 83 then some .zk else none) else (bif Nat.beq n 84 then some .zm else none))) else (bif Nat.blt n 87 then (bif Nat.blt n 86 then (bif Nat.beq n 85 then some .zm else none) else (bif Nat.beq n 86 then some .y0 else none)) else (bif Nat.blt n 88 then (bif Nat.beq n 87 then some .y0 else none) else (bif Nat.beq n 88 then some .y9 else none))))) else (bif Nat.blt n 115 then (bif Nat.blt n 100 then (bif Nat.blt n 91 then (bif Nat.beq n 89 then some .y9 else none) else (bif Nat.blt n 92 then (bif Nat.beq n 91 then some .zf else none) else (bif Nat.beq n 92 then some .zf else none))) else (bif Nat.blt n 103 then (bif Nat.blt n 102 then (bif Nat.beq n 100 then some .ym else none) else (bif Nat.beq n 102 then some .yg else none)) else (bif Nat.blt n 114 then (bif Nat.beq n 103 then some .yg else none) else (bif Nat.beq n 114 then some .ye else none)))) else (bif Nat.blt n 126 then (bif Nat.blt n 119 then (bif Nat.blt n 118 then (bif Nat.beq n 115 then some .ye else none) else (bif Nat.beq n 118 then some .y6 else none)) else (bif Nat.blt n 125 then (bif Nat.beq n 119 then some .y6 else none) else (bif Nat.beq n 125 then some .zu else none))) else (bif Nat.blt n 132 then (bif Nat.blt n 131 then (bif Nat.beq n 126 then some .zu else none) else (bif Nat.beq n 131 then some .y3 else none)) else (bif Nat.blt n 139 then (bif Nat.beq n 132 then some .y3 else none) else (bif Nat.beq n 139 then some .yh else none))))))) else (bif Nat.blt n 345 then (bif Nat.blt n 202 then (bif Nat.blt n 179 then (bif Nat.blt n 168 then (bif Nat.blt n 145 then (bif Nat.beq n 140 then some .yh else none) else (bif Nat.blt n 167 then (bif Nat.beq n 145 then some .z2 else none) else (bif Nat.beq n 167 then some .zp else none))) else (bif Nat.blt n 177 then (bif Nat.blt n 176 then (bif Nat.beq n 168 then some .zp else none) else (bif Nat.beq n 176 then some .zi else none)) else (bif Nat.blt n 178 then (bif Nat.beq n 177 then some .zi else none) else (bif Nat.beq n 178 then some .zn else none)))) else (bif Nat.blt n 190 then (bif Nat.blt n 185 then (bif Nat.beq n 179 then some .zn else none) else (bif Nat.blt n 189 then (bif Nat.beq n 185 then some .zb else none) else (bif Nat.beq n 189 then some .z5 else none))) else (bif Nat.blt n 192 then (bif Nat.blt n 191 then (bif Nat.beq n 190 then some .z4 else none) else (bif Nat.beq n 191 then some .y5 else none)) else (bif Nat.blt n 201 then (bif Nat.beq n 192 then some .y5 else none) else (bif Nat.beq n 201 then some .y4 else none))))) else (bif Nat.blt n 301 then (bif Nat.blt n 257 then (bif Nat.blt n 239 then (bif Nat.beq n 202 then some .y4 else none) else (bif Nat.blt n 240 then (bif Nat.beq n 239 then some .zg else none) else (bif Nat.beq n 240 then some .zg else none))) else (bif Nat.blt n 299 then (bif Nat.blt n 274 then (bif Nat.beq n 257 then some .zd else none) else (bif Nat.beq n 274 then some .ym else none)) else (bif Nat.blt n 300 then (bif Nat.beq n 299 then some .zy else none) else (bif Nat.beq n 300 then some .zy else none)))) else (bif Nat.blt n 317 then (bif Nat.blt n 311 then (bif Nat.blt n 310 then (bif Nat.beq n 301 then some .zc else none) else (bif Nat.beq n 310 then some .zh else none)) else (bif Nat.blt n 316 then (bif Nat.beq n 311 then some .zh else none) else (bif Nat.beq n 316 then some .yd else none))) else (bif Nat.blt n 324 then (bif Nat.blt n 323 then (bif Nat.beq n 317 then some .yd else none) else (bif Nat.beq n 323 then some .zj else none)) else (bif Nat.blt n 344 then (bif Nat.beq n 324 then some .zj else none) else (bif Nat.beq n 344 then some .yi else none)))))) else (bif Nat.blt n 400 then (bif Nat.blt n 373 then (bif Nat.blt n 360 then (bif Nat.blt n 354 then (bif Nat.beq n 345 then some .yi else none) else (bif Nat.blt n 355 then (bif Nat.beq n 354 then some .zq else none) else (bif Nat.beq n 355 then some .zq else none))) else (bif Nat.blt n 367 then (bif Nat.blt n 366 then (bif Nat.beq n 360 then some .ze else none) else (bif Nat.beq n 366 then some .yb else none)) else (bif Nat.blt n 372 then (bif Nat.beq n 367 then some .yb else none) else (bif Nat.beq n 372 then some .zz else none)))) else (bif Nat.blt n 379 then (bif Nat.blt n 377 then (bif Nat.beq n 373 then some .zz else none) else (bif Nat.blt n 378 then (bif Nat.beq n 377 then some .z7 else none) else (bif Nat.beq n 378 then some .z3 else none))) else (bif Nat.blt n 386 then (bif Nat.blt n 385 then (bif Nat.beq n 379 then some .z3 else none) else (bif Nat.beq n 385 then some .zr else none)) else (bif Nat.blt n 389 then (bif Nat.beq n 386 then some .zr else none) else (bif Nat.beq n 389 then some .z0 else none))))) else (bif Nat.blt n 444 then (bif Nat.blt n 409 then (bif Nat.blt n 401 then (bif Nat.beq n 400 then some .yj else none) else (bif Nat.blt n 408 then (bif Nat.beq n 401 then some .yj else none) else (bif Nat.beq n 408 then some .zs else none))) else (bif Nat.blt n 429 then (bif Nat.blt n 422 then (bif Nat.beq n 409 then some .zs else none) else (bif Nat.beq n 422 then some .z9 else none)) else (bif Nat.blt n 432 then (bif Nat.beq n 429 then some .yl else none) else (bif Nat.beq n 432 then some .ym else none)))) else (bif Nat.blt n 473 then (bif Nat.blt n 455 then (bif Nat.blt n 445 then (bif Nat.beq n 444 then some .yc else none) else (bif Nat.beq n 445 then some .yc else none)) else (bif Nat.blt n 465 then (bif Nat.beq n 455 then some .ym else none) else (bif Nat.beq n 465 then some .z9 else none))) else (bif Nat.blt n 513 then (bif Nat.blt n 480 then (bif Nat.beq n 473 then some .z1 else none) else (bif Nat.beq n 480 then some .ym else none)) else (bif Nat.blt n 514 then (bif Nat.beq n 513 then some .yn else none) else (bif Nat.beq n 514 then some .yn else none)))))))
def VV:Uni where
 C:=TyC
 T:=TyC.T
 dec:=dT
 c0:= .z9
 n:=fun c=>match c with
  | .z9=>1
  | .zx=>5
  | .zn=>3
  | .yk=>1
  | .zk=>6
  | .zp=>7
  | .zm=>13
  | .zu=>7
  | .y7=>8
  | .z8=>1
  | .y6=>4
  | .y3=>5
  | .ym=>1
  | .yn=>1
  | .z2=>3
  | .y4=>3
  | .yh=>4
  | .y2=>3
  | .y1=>4
  | .zt=>4
  | .zo=>3
  | .yf=>7
  | .y8=>13
  | .z6=>7
  | .yl=>1
  | .z0=>12
  | .ya=>9
  | .ye=>14
  | .za=>1
  | .zv=>4
  | .zd=>1
  | .y9=>14
  | .zf=>12
  | .zh=>4
  | .z5=>6
  | .z4=>6
  | .y5=>15
  | .yd=>15
  | .zy=>9
  | .zz=>4
  | .zq=>4
  | .z7=>7
  | .z3=>42
  | .zb=>1
  | .zr=>3
  | .zs=>4
  | .yb=>5
  | .zc=>1
  | _=>2
 ag:=fun c=>match c with
  | .z9=>false
  | .yk=>false
  | .z8=>false
  | .ym=>false
  | .yn=>false
  | .yl=>false
  | .za=>false
  | .zd=>false
  | .zb=>false
  | .zc=>false
  | _=>true
 lay:=fun c=>match c with
  | .z9=>[none]
  | .zx=>[none,none,none,none,none]
  | .zw=>[none,none]
  | .zi=>[none,none]
  | .zl=>[none,none]
  | .zn=>[none,some .zl]
  | .yk=>[none]
  | .zk=>[none,some .zl,none,none,none]
  | .zp=>[none,some .zk]
  | .zm=>[none,some .zk,some .zk]
  | .zu=>[none,some .zk]
  | .y7=>[none,some .zw,none,none,none,none,none]
  | .z8=>[none]
  | .y6=>[none,none,some .zl]
  | .y3=>[none,some .y6]
  | .zg=>[none,none]
  | .ym=>[none]
  | .yn=>[none]
  | .y0=>[none,none]
  | .z2=>List.replicate 3 (none)
  | .y4=>[none,none,none]
  | .yh=>[none,none,none,none]
  | .yg=>[none,none]
  | .y2=>[none,none,none]
  | .y1=>[none,some .y2]
  | .zt=>[none,none,some .zl]
  | .zo=>[none,none,none]
  | .yf=>[none,none,none,none,none,none,none]
  | .y8=>[none,none,none,none,none,none,none,none,none,none,some .zl,none]
  | .z6=>List.replicate 7 (none)
  | .yj=>[none,none]
  | .yl=>[none]
  | .z1=>List.replicate 2 (none)
  | .z0=>List.replicate 12 (none)
  | .ya=>[some .zo,none,some .zx]
  | .ye=>[some .y8,none]
  | .yi=>[none,none]
  | .za=>[none]
  | .zv=>[none,some .zl,none]
  | .zd=>[none]
  | .y9=>[none,none,none,none,none,none,none,some .y0,none,none,none,none,none]
  | .zf=>[none,none,none,none,none,none,none,none,none,none,none,none]
  | .zh=>[some .y0,none,none]
  | .z5=>List.replicate 6 (none)
  | .z4=>List.replicate 6 (none)
  | .y5=>[some .z5,some .z4,none,none,none]
  | .zj=>[none,none]
  | .yd=>[some .y9,none]
  | .zy=>[none,some .y7]
  | .zz=>[some .y0,none,none]
  | .zq=>[none,none,some .y0]
  | .z7=>List.replicate 7 (none)
  | .z3=>List.replicate 6 (some .z7)
  | .zb=>[none]
  | .zr=>[some .y0,none]
  | .zs=>[none,none,some .y0]
  | .yb=>[none,some .y0,none,none]
  | .yc=>[none,none]
  | .zc=>[none]
  | .ze=>[none,none]
 flds:=fun c=>match c with
  | .z9=>g93
  | .zx=>f0o
  | .zw=>d66
  | .zi=>e4m
  | .zl=>d63
  | .zn=>e9e
  | .yk=>g78
  | .zk=>f5y
  | .zp=>g3m
  | .zm=>f1v
  | .zu=>e6t
  | .y7=>e10
  | .z8=>g3y
  | .y6=>f02
  | .y3=>f7b
  | .zg=>d9c
  | .ym=>h1c
  | .yn=>h4b
  | .y0=>f4o
  | .z2=>e7k
  | .y4=>e9d
  | .yh=>c0i
  | .yg=>c2q
  | .y2=>e0x
  | .y1=>f0d
  | .zt=>f3r
  | .zo=>f7k
  | .yf=>h8z
  | .y8=>f4f
  | .z6=>f2a
  | .yj=>c79
  | .yl=>h09
  | .z1=>e7l
  | .z0=>e5w
  | .ya=>c8y
  | .ye=>c4s
  | .yi=>c5b
  | .za=>g56
  | .zv=>e56
  | .zd=>f0l
  | .y9=>d8u
  | .zf=>f1u
  | .zh=>e0m
  | .z5=>e96
  | .z4=>e5x
  | .y5=>e8i
  | .zj=>d9p
  | .yd=>c35
  | .zy=>e50
  | .zz=>d9y
  | .zq=>e5s
  | .z7=>d8m
  | .z3=>c7x
  | .zb=>d7t
  | .zr=>f2h
  | .zs=>e1h
  | .yb=>c3f
  | .yc=>c2m
  | .zc=>e05
  | .ze=>i1n
 mkv:=fun c=>match c with
  | .z9=>h0b
  | .zx=>e9b
  | .zw=>d85
  | .zi=>e6k
  | .zl=>d90
  | .zn=>e7q
  | .yk=>g9e
  | .zk=>f4s
  | .zp=>g4f
  | .zm=>e92
  | .zu=>e6w
  | .y7=>e1l
  | .z8=>g5e
  | .y6=>f05
  | .y3=>f5s
  | .zg=>e0b
  | .ym=>g83
  | .yn=>h2q
  | .y0=>f7t
  | .z2=>d8g
  | .y4=>f0u
  | .yh=>c0h
  | .yg=>c2l
  | .y2=>e0u
  | .y1=>e9c
  | .zt=>f4z
  | .zo=>f6x
  | .yf=>h8y
  | .y8=>f6d
  | .z6=>d8f
  | .yj=>c74
  | .yl=>h0n
  | .z1=>d5s
  | .z0=>d2q
  | .ya=>c7v
  | .ye=>c4w
  | .yi=>c5t
  | .za=>g3l
  | .zv=>e6j
  | .zd=>e88
  | .y9=>d83
  | .zf=>e79
  | .zh=>e1b
  | .z5=>d59
  | .z4=>d2a
  | .y5=>e9r
  | .zj=>e08
  | .yd=>c3a
  | .zy=>e62
  | .zz=>e1d
  | .zq=>e58
  | .z7=>c6h
  | .z3=>c16
  | .zb=>d5c
  | .zr=>e80
  | .zs=>e0z
  | .yb=>c3t
  | .yc=>c2r
  | .zc=>d95
  | .ze=>i1l
 cd:=cdT
 flat:=fun c=>match c with
  | .zx=>false
  | .zk=>false
  | .zp=>false
  | .zm=>false
  | .zu=>false
  | .y7=>false
  | .yh=>false
  | .y2=>false
  | .y1=>false
  | .zo=>false
  | .yf=>false
  | .y8=>false
  | .ya=>false
  | .ye=>false
  | .za=>false
  | .zv=>false
  | .zd=>false
  | .zf=>false
  | .yd=>false
  | .zy=>false
  | .z7=>false
  | .z3=>false
  | .zb=>false
  | .zr=>false
  | .yb=>false
  | .zc=>false
  | _=>true
 isA:=fun c=>match c with
  | .z2=>true
  | .z6=>true
  | .z1=>true
  | .z0=>true
  | .z5=>true
  | .z4=>true
  | .z7=>true
  | .z3=>true
  | _=>false
 ae:=fun c=>match c with
  | .z2=> .yk
  | .z6=> .z9
  | .z1=> .z9
  | .z0=> .z9
  | .z5=> .z9
  | .z4=> .z8
  | .z7=> .zd
  | .z3=> .z7
  | c=>c
 an:=fun c=>match c with
  | .z2=>3
  | .z6=>7
  | .z1=>2
  | .z0=>12
  | .z5=>6
  | .z4=>6
  | .z7=>7
  | .z3=>6
  | _=>0
 al:=fun c=>match c with
  | .z2=>fun x=>x.l
  | .z6=>fun x=>x.l
  | .z1=>fun x=>x.l
  | .z0=>fun x=>x.l
  | .z5=>fun x=>x.l
  | .z4=>fun x=>x.l
  | .z7=>fun x=>x.l
  | .z3=>fun x=>x.l
  | _=>fun _=>[]
 ast:=fun c=>match c with
  | .z2=>fun x i y=>x.set i y
  | .z6=>fun x i y=>x.set i y
  | .z1=>fun x i y=>x.set i y
  | .z0=>fun x i y=>x.set i y
  | .z5=>fun x i y=>x.set i y
  | .z4=>fun x i y=>x.set i y
  | .z7=>fun x i y=>x.set i y
  | .z3=>fun x i y=>x.set i y
  | _=>fun x _ _=>x
 gt:=fun c=>match c with
  | .z9=>fun x _=>x
  | .zx=>fun x _=>x
  | .zw=>fun x _=>x
  | .zi=>fun x _=>x
  | .zl=>fun x _=>x
  | .zn=>fun x _=>x
  | .yk=>fun x _=>x
  | .zk=>fun x _=>x
  | .zp=>fun x _=>x
  | .zm=>fun x _=>x
  | .zu=>fun x _=>x
  | .y7=>fun x _=>x
  | .z8=>fun x _=>x
  | .y6=>fun x _=>x
  | .y3=>fun x _=>x
  | .zg=>fun x _=>x
  | .ym=>fun x _=>x
  | .yn=>fun x _=>x
  | .y0=>fun x _=>x
  | .z2=>fun x i=>Ar.gt ByteArray.empty x i
  | .y4=>fun x _=>x
  | .yh=>fun x _=>x
  | .yg=>fun x _=>x
  | .y2=>fun x _=>x
  | .y1=>fun x _=>x
  | .zt=>fun x _=>x
  | .zo=>fun x _=>x
  | .yf=>fun x _=>x
  | .y8=>fun x _=>x
  | .z6=>fun x i=>Ar.gt 0 x i
  | .yj=>fun x _=>x
  | .yl=>fun x _=>x
  | .z1=>fun x i=>Ar.gt 0 x i
  | .z0=>fun x i=>Ar.gt 0 x i
  | .ya=>fun x _=>x
  | .ye=>fun x _=>x
  | .yi=>fun x _=>x
  | .za=>fun x _=>x
  | .zv=>fun x _=>x
  | .zd=>fun x _=>x
  | .y9=>fun x _=>x
  | .zf=>fun x _=>x
  | .zh=>fun x _=>x
  | .z5=>fun x i=>Ar.gt 0 x i
  | .z4=>fun x i=>Ar.gt false x i
  | .y5=>fun x _=>x
  | .zj=>fun x _=>x
  | .yd=>fun x _=>x
  | .zy=>fun x _=>x
  | .zz=>fun x _=>x
  | .zq=>fun x _=>x
  | .z7=>fun x i=>Ar.gt [] x i
  | .z3=>fun x i=>Ar.gt (arZ 7 []) x i
  | .zb=>fun x _=>x
  | .zr=>fun x _=>x
  | .zs=>fun x _=>x
  | .yb=>fun x _=>x
  | .yc=>fun x _=>x
  | .zc=>fun x _=>x
  | .ze=>fun x _=>x
 b8:=fun c=>match c with
  | .yn=>true
  | _=>false
 t8:=fun c=>match c with
  | .yn=>fun x=>x
  | _=>fun _=>0
 tab:=fun w=>Lib.TabIs Go.Proofs.Tryz.prog w "internal/strconv.uint64pow10" .u64 Lib.pow10Tab
 tb:=fun b=>b=3
 gv:=fun _=>none
def uok:UOK VV where
 lay:=fun c x=>by cases c<;>first | rfl | exact g3z (U:=VV) x fun _=>rfl
 kind:=fun c x=>by cases c<;>first | rfl | exact f1p (U:=VV) x fun _=>rfl
 sum:=fun c=>by cases c<;>rfl
 sc:=fun c h=>by cases c<;>first | rfl | cases h
 mkl:=fun c zs y h=>by
  cases c
  all_goals first
   | (repeat (obtain ⟨_,zs,_,rfl,_,h⟩:=h0y h)
      obtain ⟨rfl,rfl⟩:=h00 h
      repeat' first
       | exact trivial
       | exact e7i (U:=VV) (by assumption)
       | exact g76 (U:=VV) (by assumption)
       | exact h0c (U:=VV) (by assumption)
       | exact g88 (U:=VV) (by assumption)
       | exact g9w (U:=VV) (by assumption)
       | exact h4a (U:=VV) (by assumption)
       | exact gN_ok (U:=VV) (by assumption)
       | refine ⟨?_,?_⟩)
   | exact c6w (fun _ _ h=>h0c (U:=VV) h) (show d8g zs=some y from h)
   | exact c6w (fun _ _ h=>e7i (U:=VV) h) (show d8f zs=some y from h)
   | exact c6w (fun _ _ h=>e7i (U:=VV) h) (show d5s zs=some y from h)
   | exact c6w (fun _ _ h=>e7i (U:=VV) h) (show d2q zs=some y from h)
   | exact c6w (fun _ _ h=>e7i (U:=VV) h) (show d59 zs=some y from h)
   | exact c6w (fun _ _ h=>g76 (U:=VV) h) (show d2a zs=some y from h)
   | exact c6w (fun _ _ h=>g9w (U:=VV) h) (show c6h zs=some y from h)
   | exact c6w (fun _ _ h=>g88 (U:=VV) h) (show c16 zs=some y from h)
 flat:=fun c x h=>by cases c<;>first | exact Bool.noConfusion (show false=true from h) | rfl | exact f1p (U:=VV) x fun _=>rfl
 arr:=fun c x h=>by cases c<;>first | exact Bool.noConfusion (show false=true from h) | exact ⟨rfl,x.h⟩
 ars:=fun c x i y h=>by cases c<;>first | exact Bool.noConfusion (show false=true from h) | rfl
 gt:=fun c x i y h=>by cases c<;>first | exact Bool.noConfusion (show false=true from h) | exact fun hg=>Ar.gt_ok hg
 by8:=fun c x h=>by cases c<;>first | exact Bool.noConfusion (show false=true from h) | rfl
 tabK:=fun w w2 h hb=>f8r (g:=3) (show Go.Proofs.Tryz.prog.globalNamed "internal/strconv.uint64pow10" =some 3 by kernel_rfl) h (hb 3 rfl)
 gvK:=fun _ _ _ _ h=>by cases h
end Go.PL
namespace Go.Proofs
open Go.Shelf
def Tryz.sliceLay_ren:Go.Shelf.Ren:=⟨fun | 6=>316 | 10=>373 | 11=>374 | 12=>375 | 13=>302 | 14=>376 | 24=>370 | 25=>252 | 26=>412 | 27=>413 | 28=>414 | 29=>415 | 30=>416 | 31=>417 | 32=>418 | 33=>419 | 34=>430 | 35=>431 | 36=>432 | 37=>433 | 38=>434 | 39=>449 | n=>n,fun | 20=>20 | 26=>276 | 35=>434 | 0=>0 | 37=>382 | 3=>3 | 41=>274 | 44=>439 | 49=>429 | 51=>100 | 4=>4 | 54=>466 | 53=>465 | 58=>236 | 5=>5 | 9=>9 | 60=>480 | 64=>459 | 66=>490 | 67=>194 | 17=>17 | 32=>431 | 33=>432 | 82=>520 | 12=>12 | 75=>513 | 76=>514 | 77=>515 | 78=>516 | 79=>517 | 80=>518 | n=>n,fun | n=>n⟩
def Tryz.sliceLay:Go.Proofs.LaysGg.n6 Tryz.prog Tryz.sliceLay_ren:={
 mixed:=by kernel_rfl
 f6:=Tryz.func316.trans (congrArg some (by kernel_rfl))
 f10:=Tryz.func373.trans (congrArg some (by kernel_rfl))
 f11:=Tryz.func374.trans (congrArg some (by kernel_rfl))
 f12:=Tryz.func375.trans (congrArg some (by kernel_rfl))
 f13:=Tryz.func302.trans (congrArg some (by kernel_rfl))
 f14:=Tryz.func376.trans (congrArg some (by kernel_rfl))
 f24:=Tryz.func370.trans (congrArg some (by kernel_rfl))
 f25:=Tryz.func252.trans (congrArg some (by kernel_rfl))
 f26:=Tryz.func412.trans (congrArg some (by kernel_rfl))
 f27:=Tryz.func413.trans (congrArg some (by kernel_rfl))
 f28:=Tryz.func414.trans (congrArg some (by kernel_rfl))
 f29:=Tryz.func415.trans (congrArg some (by kernel_rfl))
 f30:=Tryz.func416.trans (congrArg some (by kernel_rfl))
 f31:=Tryz.func417.trans (congrArg some (by kernel_rfl))
 f32:=Tryz.func418.trans (congrArg some (by kernel_rfl))
 f33:=Tryz.func419.trans (congrArg some (by kernel_rfl))
 f34:=Tryz.func430.trans (congrArg some (by kernel_rfl))
 f35:=Tryz.func431.trans (congrArg some (by kernel_rfl))
 f36:=Tryz.func432.trans (congrArg some (by kernel_rfl))
 f37:=Tryz.func433.trans (congrArg some (by kernel_rfl))
 f38:=Tryz.func434.trans (congrArg some (by kernel_rfl))
 f39:=Tryz.func449.trans (congrArg some (by kernel_rfl))
 t0:=Tryz.underlying0
 a0:=Tryz.isAgg0
 z0:=Tryz.sizeOf0
 v0:=Tryz.zeroValue0
 i0:=by kernel_rfl
 t3:=Tryz.underlying3
 a3:=Tryz.isAgg3
 z3:=Tryz.sizeOf3
 v3:=Tryz.zeroValue3
 i3:=by kernel_rfl
 t4:=Tryz.underlying4
 a4:=Tryz.isAgg4
 z4:=Tryz.sizeOf4
 v4:=Tryz.zeroValue4
 i4:=by kernel_rfl
 t5:=Tryz.underlying5
 a5:=Tryz.isAgg5
 z5:=Tryz.sizeOf5
 v5:=Tryz.zeroValue5
 i5:=by kernel_rfl
 t9:=Tryz.underlying9
 a9:=Tryz.isAgg9
 z9:=Tryz.sizeOf9
 v9:=Tryz.zeroValue9
 i9:=by kernel_rfl
 t12:=Tryz.underlying12
 a12:=Tryz.isAgg12
 z12:=Tryz.sizeOf12
 v12:=Tryz.zeroValue12
 i12:=by kernel_rfl
 t17:=Tryz.underlying17
 a17:=Tryz.isAgg17
 z17:=Tryz.sizeOf17
 v17:=Tryz.zeroValue17
 i17:=by kernel_rfl
 t20:=Tryz.underlying20
 a20:=Tryz.isAgg20
 z20:=Tryz.sizeOf20
 v20:=Tryz.zeroValue20
 i20:=by kernel_rfl
 t26:=Tryz.underlying276
 a26:=Tryz.isAgg276
 z26:=Tryz.sizeOf276
 v26:=Tryz.zeroValue276
 i26:=by kernel_rfl
 t32:=Tryz.underlying431
 a32:=Tryz.isAgg431
 z32:=Tryz.sizeOf431
 v32:=Tryz.zeroValue431
 i32:=by kernel_rfl
 t33:=Tryz.underlying432
 a33:=Tryz.isAgg432
 z33:=Tryz.sizeOf432
 v33:=Tryz.zeroValue432
 i33:=by kernel_rfl
 t35:=Tryz.underlying434
 a35:=Tryz.isAgg434
 z35:=Tryz.sizeOf434
 v35:=Tryz.zeroValue434
 i35:=by kernel_rfl
 t37:=Tryz.underlying382
 a37:=Tryz.isAgg382
 z37:=Tryz.sizeOf382
 v37:=Tryz.zeroValue382
 i37:=by kernel_rfl
 t41:=Tryz.underlying274
 a41:=Tryz.isAgg274
 z41:=Tryz.sizeOf274
 v41:=Tryz.zeroValue274
 i41:=by kernel_rfl
 t44:=Tryz.underlying439
 a44:=Tryz.isAgg439
 z44:=Tryz.sizeOf439
 v44:=Tryz.zeroValue439
 i44:=by kernel_rfl
 t49:=Tryz.underlying429
 a49:=Tryz.isAgg429
 z49:=Tryz.sizeOf429
 v49:=Tryz.zeroValue429
 i49:=by kernel_rfl
 t51:=Tryz.underlying100
 a51:=Tryz.isAgg100
 z51:=Tryz.sizeOf100
 v51:=Tryz.zeroValue100
 i51:=by kernel_rfl
 t53:=Tryz.underlying465
 a53:=Tryz.isAgg465
 z53:=Tryz.sizeOf465
 v53:=Tryz.zeroValue465
 i53:=by kernel_rfl
 t54:=Tryz.underlying466
 a54:=Tryz.isAgg466
 z54:=Tryz.sizeOf466
 v54:=Tryz.zeroValue466
 i54:=by kernel_rfl
 t58:=Tryz.underlying236
 a58:=Tryz.isAgg236
 z58:=Tryz.sizeOf236
 v58:=Tryz.zeroValue236
 i58:=by kernel_rfl
 t60:=Tryz.underlying480
 a60:=Tryz.isAgg480
 z60:=Tryz.sizeOf480
 v60:=Tryz.zeroValue480
 i60:=by kernel_rfl
 t64:=Tryz.underlying459
 a64:=Tryz.isAgg459
 z64:=Tryz.sizeOf459
 v64:=Tryz.zeroValue459
 i64:=by kernel_rfl
 t66:=Tryz.underlying490
 a66:=Tryz.isAgg490
 z66:=Tryz.sizeOf490
 v66:=Tryz.zeroValue490
 i66:=by kernel_rfl
 t67:=Tryz.underlying194
 a67:=Tryz.isAgg194
 z67:=Tryz.sizeOf194
 v67:=Tryz.zeroValue194
 i67:=by kernel_rfl
 t75:=Tryz.underlying513
 a75:=Tryz.isAgg513
 z75:=Tryz.sizeOf513
 v75:=Tryz.zeroValue513
 i75:=by kernel_rfl
 t76:=Tryz.underlying514
 a76:=Tryz.isAgg514
 z76:=Tryz.sizeOf514
 v76:=Tryz.zeroValue514
 i76:=by kernel_rfl
 t77:=Tryz.underlying515
 a77:=Tryz.isAgg515
 z77:=Tryz.sizeOf515
 v77:=Tryz.zeroValue515
 i77:=by kernel_rfl
 t78:=Tryz.underlying516
 a78:=Tryz.isAgg516
 z78:=Tryz.sizeOf516
 v78:=Tryz.zeroValue516
 i78:=by kernel_rfl
 t79:=Tryz.underlying517
 a79:=Tryz.isAgg517
 z79:=Tryz.sizeOf517
 v79:=Tryz.zeroValue517
 i79:=by kernel_rfl
 t80:=Tryz.underlying518
 a80:=Tryz.isAgg518
 z80:=Tryz.sizeOf518
 v80:=Tryz.zeroValue518
 i80:=by kernel_rfl
 t82:=Tryz.underlying520
 a82:=Tryz.isAgg520
 z82:=Tryz.sizeOf520
 v82:=Tryz.zeroValue520
 i82:=by kernel_rfl}
def Tryz.laysItoa_ren:Go.Shelf.Ren:=⟨fun | 171=>379 | 243=>420 | 246=>435 | 283=>450 | 284=>451 | 285=>452 | 286=>453 | 129=>252 | 317=>459 | 318=>460 | 319=>461 | 320=>462 | 337=>464 | 338=>465 | n=>n,fun | 3=>3 | 9=>9 | 2=>2 | 4=>4 | 171=>492 | 0=>0 | 53=>100 | 37=>494 | 5=>5 | 173=>495 | 212=>502 | 51=>429 | 20=>20 | 213=>503 | 46=>274 | 232=>505 | 233=>506 | n=>n,fun | 17=>3 | 18=>4 | 19=>5 | n=>n⟩
def Tryz.laysItoa:Go.Proofs.LaysM.n171 Tryz.prog Tryz.laysItoa_ren:={
 mixed:=by kernel_rfl
 f129:=Tryz.func252.trans (congrArg some (by kernel_rfl))
 f171:=Tryz.func379.trans (congrArg some (by kernel_rfl))
 f243:=Tryz.func420.trans (congrArg some (by kernel_rfl))
 f246:=Tryz.func435.trans (congrArg some (by kernel_rfl))
 f283:=Tryz.func450.trans (congrArg some (by kernel_rfl))
 f284:=Tryz.func451.trans (congrArg some (by kernel_rfl))
 f285:=Tryz.func452.trans (congrArg some (by kernel_rfl))
 f286:=Tryz.func453.trans (congrArg some (by kernel_rfl))
 f317:=Tryz.func459.trans (congrArg some (by kernel_rfl))
 f318:=Tryz.func460.trans (congrArg some (by kernel_rfl))
 f319:=Tryz.func461.trans (congrArg some (by kernel_rfl))
 f320:=Tryz.func462.trans (congrArg some (by kernel_rfl))
 f337:=Tryz.func464.trans (congrArg some (by kernel_rfl))
 f338:=Tryz.func465.trans (congrArg some (by kernel_rfl))
 t0:=Tryz.underlying0
 a0:=Tryz.isAgg0
 z0:=Tryz.sizeOf0
 v0:=Tryz.zeroValue0
 t2:=Tryz.underlying2
 a2:=Tryz.isAgg2
 z2:=Tryz.sizeOf2
 v2:=Tryz.zeroValue2
 t3:=Tryz.underlying3
 a3:=Tryz.isAgg3
 z3:=Tryz.sizeOf3
 v3:=Tryz.zeroValue3
 t4:=Tryz.underlying4
 a4:=Tryz.isAgg4
 z4:=Tryz.sizeOf4
 v4:=Tryz.zeroValue4
 t5:=Tryz.underlying5
 a5:=Tryz.isAgg5
 z5:=Tryz.sizeOf5
 v5:=Tryz.zeroValue5
 t9:=Tryz.underlying9
 a9:=Tryz.isAgg9
 z9:=Tryz.sizeOf9
 v9:=Tryz.zeroValue9
 t20:=Tryz.underlying20
 a20:=Tryz.isAgg20
 z20:=Tryz.sizeOf20
 v20:=Tryz.zeroValue20
 t37:=Tryz.underlying494
 a37:=Tryz.isAgg494
 z37:=Tryz.sizeOf494
 v37:=Tryz.zeroValue494
 t46:=Tryz.underlying274
 a46:=Tryz.isAgg274
 z46:=Tryz.sizeOf274
 v46:=Tryz.zeroValue274
 t51:=Tryz.underlying429
 a51:=Tryz.isAgg429
 z51:=Tryz.sizeOf429
 v51:=Tryz.zeroValue429
 t53:=Tryz.underlying100
 a53:=Tryz.isAgg100
 z53:=Tryz.sizeOf100
 v53:=Tryz.zeroValue100
 t171:=Tryz.underlying492
 a171:=Tryz.isAgg492
 z171:=Tryz.sizeOf492
 v171:=Tryz.zeroValue492
 t173:=Tryz.underlying495
 a173:=Tryz.isAgg495
 z173:=Tryz.sizeOf495
 v173:=Tryz.zeroValue495
 t212:=Tryz.underlying502
 a212:=Tryz.isAgg502
 z212:=Tryz.sizeOf502
 v212:=Tryz.zeroValue502
 t213:=Tryz.underlying503
 a213:=Tryz.isAgg503
 z213:=Tryz.sizeOf503
 t232:=Tryz.underlying505
 a232:=Tryz.isAgg505
 z232:=Tryz.sizeOf505
 v232:=Tryz.zeroValue505
 t233:=Tryz.underlying506
 a233:=Tryz.isAgg506
 z233:=Tryz.sizeOf506
 v233:=Tryz.zeroValue506
 g17:=by kernel_rfl
 g18:=by kernel_rfl
 g19:=by kernel_rfl
 i0:=by kernel_rfl
 i2:=by kernel_rfl
 i3:=by kernel_rfl
 i4:=by kernel_rfl
 i5:=by kernel_rfl
 i9:=by kernel_rfl
 i20:=by kernel_rfl
 i37:=by kernel_rfl
 i46:=by kernel_rfl
 i51:=by kernel_rfl
 i53:=by kernel_rfl
 i171:=by kernel_rfl
 i173:=by kernel_rfl
 i212:=by kernel_rfl
 i232:=by kernel_rfl
 i233:=by kernel_rfl
 m17:=by kernel_rfl
 m18:=by kernel_rfl
 m19:=by kernel_rfl}
end Go.Proofs
namespace Go.PL
open Go Go.Proofs Go.Sort
def d29 {α:Type} [Inhabited α] {cells:α -> O Go.Value} {n:Nat} (hn: ∀x,(cells x).length=n): ∀(l:O α)(t:Nat),t<l.length*n -> (l.flatMap cells)[t]? =(cells (l[t/n]!))[t%n]?
 | [],t,h=>by simp at h
 | x::r,t,h=>by
   have hp:0<n:=by
    rcases Nat.eq_zero_or_pos n with h0 | h0
    ·rw [h0] at h;simp at h
    ·exact h0
   rw [List.flatMap_cons]
   by_cases ht:t<n
   ·rw [List.getElem?_append_left (by rw [hn];exact ht),Nat.div_eq_of_lt ht,Nat.mod_eq_of_lt ht];rfl
   ·have h1:t=(t-n)+n:=by omega
    have h2:t/n=(t-n)/n+1:=by rw [h1,Nat.add_div_right _ hp];simp
    have h3:t%n=(t-n)%n:=by rw [h1,Nat.add_mod_right];simp
    rw [List.getElem?_append_right (by rw [hn];omega),hn,d29 hn r (t-n) (by simp only [qR,Nat.succ_mul] at h;omega),h2,h3]
    rfl
def c6t {α:Type} [Inhabited α] {cells:α -> O Go.Value} {n:Nat} (hn: ∀x,(cells x).length=n) (d:Array α):(flatK cells n d).toList=d.toList.flatMap cells:=by
 apply List.ext_getElem?
 intro t
 by_cases ht:t<d.size*n
 ·rw [d29 hn d.toList t (by simpa using ht)]
  have h1:(flatK cells n d)[t]? =some ((cells (d[t/n]!))[t%n]!):=by
   rw [<- get_flatK cells n d t ht,getElem!_pos (flatK cells n d) t (by rw [size_flatK];exact ht)]
   simp
  have hp:0<n:=by
   rcases Nat.eq_zero_or_pos n with h0 | h0
   ·rw [h0] at ht;simp at ht
   ·exact h0
  have hlt:t%n<(cells (d[t/n]!)).length:=by rw [hn];exact Nat.mod_lt _ hp
  have h2:d.toList[t/n]! =d[t/n]! :=by simp [getElem!_eq_getElem?_getD,Array.getElem!_eq_getD,Array.getD_eq_getD_getElem?]
  rw [Array.getElem?_toList,h1,h2,getElem!_pos (cells (d[t/n]!)) (t%n) hlt,qG hlt]
 ·rw [List.getElem?_eq_none (by simp;omega),List.getElem?_eq_none (by rw [a0p hn];simp;omega)]
section
variable {α:Type} [Inhabited α] {B:Nat} {E:TypeId} {n:Nat} {cells:α -> O Go.Value} {w w':World} {v:Go.Value} {l:O α}
def d6l (hn: ∀x,(cells x).length=n){g o cap m:Nat}(h:Own B E n cells w (.slice (some ⟨g,o,none⟩) m cap) l):HoldsK cells n w g o l.toArray:=by
 intro j hj
 rw [size_flatK] at hj
 have hk:=c6t hn l.toArray
 have hu:(l.flatMap cells)[j]? =some ((flatK cells n l.toArray)[j]!):=by
  have:(flatK cells n l.toArray).toList[j]? =some ((flatK cells n l.toArray)[j]!):=by
   rw [getElem!_pos (flatK cells n l.toArray) j (by rw [size_flatK];exact hj)]
   simp
  rw [hk] at this
  simpa using this
 refine ⟨?_,?_⟩
 ·have:=h.ca rfl j _ hu
  rwa [Addr.add_lit] at this
 ·rcases h with ⟨hv,_⟩ | ⟨g',o',cap',cur,hv,_,hh,_⟩
  ·cases hv
  ·simp only [Go.Value.slice.injEq,Option.some.injEq,Addr.mk.injEq] at hv
   obtain ⟨⟨rfl,_,_⟩,_,_⟩:=hv
   have hM:Mb w g E cur.toList:=by show _=_;rw [hh]
   exact hM.frozen _
def d3h {F cur:Array Go.Value}{m o:Nat}(hF:F.size=m)(hc:o+m <= cur.size):((putCells id o F cur).toList.drop o).take m=F.toList:=by
 apply List.ext_getElem?
 intro t
 by_cases ht:t<m
 ·rw [List.getElem?_take_of_lt ht,List.getElem?_drop,Array.getElem?_toList]
  simp only [putCells,Array.getElem?_mapIdx,id]
  rw [Array.getElem?_eq_getElem (show o+t<cur.size by omega),Option.map_some,if_pos ⟨Nat.le_add_right _ _,by omega⟩,Array.getElem?_toList,Nat.add_sub_cancel_left,getElem!_pos F t (by omega),Array.getElem?_eq_getElem (show t<F.size by omega)]
 ·rw [List.getElem?_eq_none (by simp;omega),List.getElem?_eq_none (by simp;omega)]
def e97 (hn: ∀x,(cells x).length=n){g o cap m q:Nat}{os:Array Obj}{d:Array α}(h:Own B E n cells w (.slice (some ⟨g,o,none⟩) m cap) l)(hd:d.size=l.length):
  Own B E n cells (grow (putRowK cells n (Go.Sort.ahead w q) g o d) os) (.slice (some ⟨g,o,none⟩) m cap) d.toList:=by
 rcases h with ⟨hv,_⟩ | ⟨g',o',cap',cur,hv,hB,hh,hc,hm,hs,ht⟩
 ·cases hv
 ·simp only [Go.Value.slice.injEq,Option.some.injEq,Addr.mk.injEq] at hv
  obtain ⟨⟨rfl,rfl,_⟩,hml,rfl⟩:=hv
  have hlt:g<w.heap.size:=(qN.1 hh).1
  have hmn:d.size*n <= cap*n:=by rw [hd];exact Nat.mul_le_mul_right _ hc
  refine .inr ⟨g,o,cap,putCells id o (flatK cells n d) cur,by rw [Array.length_toList,hd,hml],hB,?_,by rw [Array.length_toList,hd];exact hc,hm,by simp [putCells,hs],?_⟩
  ·show ((putRowK cells n (Go.Sort.ahead w q) g o d).heap++os)[g]? =_
   rw [Array.getElem?_append_left (by rw [size_putRowK];exact hlt)]
   show (w.heap.modify g _)[g]? =_
   rw [Array.getElem?_modify,if_pos rfl,hh]
   rfl
  ·rw [Array.length_toList,d3h (by rw [size_flatK]) (by omega),c6t hn]
def e7r {G:Nat -> Prop}{g o q:Nat}{os:Array Obj}{d:Array α}(hg:G g):Ext G w (grow (putRowK cells n (Go.Sort.ahead w q) g o d) os):=
 ⟨rfl,rfl,rfl,by show _ <= ((putRowK cells n (Go.Sort.ahead w q) g o d).heap++os).size;rw [Array.size_append,size_putRowK];exact Nat.le_add_right _ _,
  fun b hb hn=>by
   show ((putRowK cells n (Go.Sort.ahead w q) g o d).heap++os)[b]? =_
   rw [Array.getElem?_append_left (by rw [size_putRowK];exact hb)]
   show (w.heap.modify g _)[b]? =_
   rw [Array.getElem?_modify,if_neg (fun e:g=b=>hn (e▸hg))]⟩
end
def e5t {α:Type} [Inhabited α] (enc:α -> Go.Value) (w:World) (b o:Nat) (d:Array α):putRow enc w b o d=putRowK (fun x=>[enc x]) 1 w b o d:=by
 unfold putRowK putRow
 congr 1
 funext c
 unfold putCells
 refine Array.ext (by simp) fun k h1 h2=> ?_
 simp only [Array.getElem_mapIdx,size_flatK,Nat.mul_one,id]
 split
 ·rename_i h
  rw [get_flatK _ _ _ _ (by omega),Nat.div_one,Nat.mod_one];rfl
 ·rfl
def e8y {α:Type} [Inhabited α] {enc:α -> Go.Value} {w:World} {b o:Nat} {d:Array α} (h:HoldsK (fun x=>[enc x]) 1 w b o d):Holds enc w b o d:=fun j hj=>by
 have:=h j (by simpa using hj)
 rw [get_flatK _ _ _ _ (by omega),Nat.div_one,Nat.mod_one] at this
 exact this
end Go.PL
namespace Go.Proofs
open Go.Shelf Go.RowKit Go.Lib Go.Sort
noncomputable def Tryz.spT:TypeInfo:=(Tryz.prog.info? 257).get (by kernel_rfl)
noncomputable def Tryz.spE:TypeInfo:=(Tryz.prog.info? 87).get (by kernel_rfl)
def Tryz.spK (n:Nat)(h2:2 <= n):Lib.swapperK n Tryz.spE 25=9:=by
 have a:Tryz.spE.hasPointers=false:=by kernel_rfl
 have b:Tryz.spE.bytes=16:=by kernel_rfl
 have c:(n==0)=false:=by simp;omega
 have d:(n==1)=false:=by simp;omega
 simp [Lib.swapperK,a,b,c,d]
set_option maxHeartbeats 2000000 in
def Tryz.spLess (blk off c Bs size:Nat)(W:World)(G:Nat -> Int)(hs:W.cell? ⟨Bs,0,none⟩=some (.slice (some ⟨blk,off,none⟩) size c))
  (hc: ∀t,t<size -> W.cell? ⟨blk,off+t*2,none⟩=some (.int .i64 (G t))) (i j:Nat) (hi:i<size) (hj:j<size) (_hsz:size<4611686018427387904):
  Calls Tryz.prog 317 #[.int .i64 i,.int .i64 j,.pointer (some ⟨Bs,0,none⟩)] W fun e w'=>e= .returned (.bool (decide (G i<G j))) /\ ∃q,w'=W.drewN q:=by
 have ci:=hc i hi
 have cj:=hc j hj
 go_enter Tryz.func317,Tryz.ntmps317
 go_wp2
 go_quiet (fail)
 go_wp2
 go_ret
 exact ⟨rfl,nq,rfl⟩
end Go.Proofs
namespace Go.PL
open Go Go.Proofs Go.Sort
def Span.cells (x:Span):O Go.Value:=[.int .i64 x.From,.int .i64 x.To]
def e3o:SWO (fun x y:Span=>decide (x.From<y.From)):=by
 constructor
 ·intro x;simp
 ·intro x y z;simp only [decide_eq_true_eq];omega
 ·intro x y z;simp only [decide_eq_false_iff_not];omega
set_option maxHeartbeats 2000000 in
def d0w {w0:World}(l:O Span){v:Go.Value}{B bc:Nat}(hO:Own B 87 2 Span.cells w0 v l)(hb:Mb w0 bc 257 [v])(hnb:Go.Value.ownBlock v≠some bc){r:O Span}(hF:b3w l=some r):
  Calls Tryz.prog 316 #[.iface 257 v,.func (.func 317) #[] #[.pointer (some ⟨bc,0,none⟩)]] w0 fun e w1=>e= .returned (.tuple #[]) /\ Ext (fun b=>Go.Value.ownBlock v=some b) w0 w1 /\ Own B 87 2 Span.cells w1 v r:=by
 unfold b3w f0f at hF
 by_cases h1:l.length <= 1
 ·rw [if_pos h1] at hF
  obtain rfl:=qH hF
  obtain ⟨a,cap,hv,_,_⟩:=hO.shape
  have key: ∀n,l.length=n -> Calls Tryz.prog 316 #[.iface 257 (.slice a n cap),.func (.func 317) #[] #[.pointer (some ⟨bc,0,none⟩)]] w0 (fun e w'=>e= .returned (.tuple #[]) /\ ∃os,w'=Go.Sort.grow w0 os) ->
    Calls Tryz.prog 316 #[.iface 257 v,.func (.func 317) #[] #[.pointer (some ⟨bc,0,none⟩)]] w0 fun e w1=>e= .returned (.tuple #[]) /\ Ext (fun b=>Go.Value.ownBlock v=some b) w0 w1 /\ Own B 87 2 Span.cells w1 v l:=by
   intro n hn h
   rw [hn] at hv
   rw [<- hv] at h
   refine Calls.mono h ?_
   rintro e w1 ⟨rfl,os,rfl⟩
   have hE:Ext noG w0 (Go.Sort.grow w0 os):=⟨rfl,rfl,rfl,by show _ <= (w0.heap++os).size;simp,fun b hb _=>by show (w0.heap++os)[b]? =_;rw [Array.getElem?_append_left hb]⟩
   exact ⟨rfl,hE.of_no,hO.exn hE⟩
  rcases (show l.length=0 \/ l.length=1 by omega) with h0 | h0
  ·exact key 0 h0 (Any.sort_Slice_tiny Tryz.sliceLay 257 87 Tryz.spT Tryz.spE (by kernel_rfl) (by kernel_rfl) (by kernel_rfl) (by kernel_rfl) 25 (fun _=>by kernel_rfl) a 0 cap (by omega) 403 (by kernel_rfl) (.func 317) #[] #[.pointer (some ⟨bc,0,none⟩)] w0)
  ·exact key 1 h0 (Any.sort_Slice_tiny Tryz.sliceLay 257 87 Tryz.spT Tryz.spE (by kernel_rfl) (by kernel_rfl) (by kernel_rfl) (by kernel_rfl) 25 (fun _=>by kernel_rfl) a 1 cap (by omega) 404 (by kernel_rfl) (.func 317) #[] #[.pointer (some ⟨bc,0,none⟩)] w0)
 ·rw [if_neg h1] at hF
  split at hF
  case isFalse=>cases hF
  rename_i hsz
  obtain rfl:=qH hF
  obtain ⟨a,cap,hv,hlc,hcm⟩:=hO.shape
  cases a with
  | none=>
    exfalso
    rcases hO with ⟨_,h⟩ | ⟨g,o,c',cur,hv',_⟩
    ·rw [h] at h1;simp at h1
    ·rw [hv] at hv';cases hv'
  | some ad=>
    obtain ⟨g,o,hg⟩: ∃g o,ad=⟨g,o,none⟩:=by
     rcases hO with ⟨h,_⟩ | ⟨g,o,c',cur,hv',_⟩
     ·rw [hv] at h;cases h
     ·rw [hv] at hv';cases hv';exact ⟨g,o,rfl⟩
    subst hg
    subst hv
    have hlt:g<w0.heap.size:=(hO.lt rfl).2
    have hbg:bc≠g:=fun e=>hnb (by rw [e];rfl)
    have hcell:w0.cell? ⟨bc,0,none⟩=some (.slice (some ⟨g,o,none⟩) l.toArray.size cap):=hb.ca 0 _ rfl
    have hH:=d6l (n:=2) (cells:=Span.cells) (fun _=>rfl) hO
    have h2:2 <= l.toArray.size:=by rw [List.size_toArray];omega
    have hsz':l.toArray.size<4611686018427387904:=by rw [List.size_toArray];exact hsz
    have hless:LessReadsK Tryz.prog 317 #[.pointer (some ⟨bc,0,none⟩)] Span.cells 2 (fun x y:Span=>decide (x.From<y.From)) g o l.toArray.size w0:=by
     intro m os dk hs i j hi hj
     have e:sortWorldK Span.cells 2 w0 g o m dk os=putRowK Span.cells 2 (grow (Go.Sort.ahead w0 m) os) g o dk:=by
      unfold sortWorldK;rw [putRowK_grow _ _ (Go.Sort.ahead w0 m) _ g o _ hlt]
     have hHg:HoldsK Span.cells 2 (grow (Go.Sort.ahead w0 m) os) g o l.toArray:=holdsK_grow _ _ _ _ g o _ hlt (holdsK_ahead _ _ _ _ _ _ _ hH)
     refine Tryz.spLess g o cap bc l.toArray.size _ (fun t=>dk[t]!.From) ?_ (fun t ht=> ?_) i j hi hj (by omega)
     ·rw [e,cell?_putRowK_other _ _ _ g o dk _ (by exact hbg),cell?_grow _ _ _ (by exact hb.lt)];exact hcell
     ·rw [e];exact ((holdsK_putRowK _ _ _ g o l.toArray dk hHg hs).cell (i:=t) (c:=0) (by omega) (by omega)).1
    have hS:=Any.sort_Slice_cells_eq Tryz.sliceLay 257 87 Tryz.spT Tryz.spE (by kernel_rfl) (by kernel_rfl) (by kernel_rfl) (by kernel_rfl) 25 (fun _=>by kernel_rfl) Span.cells 2 (fun _=>rfl) (by kernel_rfl) (fun _=>by kernel_rfl)
     (fun x u hu=>by simp [Span.cells] at hu;rcases hu with rfl | rfl<;>rfl) (fun x y:Span=>decide (x.From<y.From)) e3o 317 _
     (enters_of Tryz.func317 (by kernel_rfl) rfl) g o cap l.toArray h2 hsz' 411 (by rw [Tryz.spK _ h2];kernel_rfl) false
     (fun args W=>run_callFunc_extern Tryz.func411 (by kernel_rfl) (by kernel_rfl) (by kernel_rfl) (e:=Extern.ReflectliteSwapper.swap false) (by kernel_rfl) args W) w0 hless hH hlt
    have hp:=(pdq_sorts (fun x y:Span=>decide (x.From<y.From)) e3o l.toArray 0 l.toArray.size (Lib.bitLen l.toArray.size) true true (Nat.zero_le _) (Nat.le_refl _) (Or.inl rfl)).1.1
    rw [List.size_toArray] at hS hp
    generalize pdq (fun x y:Span=>decide (x.From<y.From)) l.toArray 0 l.length (Lib.bitLen l.length) true true=d at hS hp⊢
    refine Calls.mono hS ?_
    rintro e w1 ⟨rfl,q,os,rfl⟩
    exact ⟨rfl,e7r rfl,e97 (n:=2) (cells:=Span.cells) (fun _=>rfl) hO hp⟩
end Go.PL
namespace Go.Proofs
open Go.Shelf
def Tryz.keysA_ren:Go.Shelf.Ren:=⟨fun | 7=>231 | 10=>309 | n=>n,fun | 23=>315 | 26=>3 | 3=>3 | 28=>289 | 0=>0 | 27=>288 | 33=>128 | 4=>4 | n=>n,fun | n=>n⟩
def Tryz.keysA:Go.Proofs.SlLaysZI.n7 Tryz.prog Tryz.keysA_ren:={
 mixed:=by kernel_rfl
 f7:=⟨Tryz.f231.name,by decide,Tryz.func231.trans (congrArg some (by kernel_rfl))⟩
 f10:=⟨Tryz.f309.name,by decide,Tryz.func309.trans (congrArg some (by kernel_rfl))⟩
 t0:=Tryz.underlying0
 a0:=Tryz.isAgg0
 z0:=Tryz.sizeOf0
 v0:=Tryz.zeroValue0
 t4:=Tryz.underlying4
 a4:=Tryz.isAgg4
 z4:=Tryz.sizeOf4
 v4:=Tryz.zeroValue4
 t23:=Tryz.underlying315
 a23:=Tryz.isAgg315
 z23:=Tryz.sizeOf315
 v23:=Tryz.zeroValue315
 t26:=Tryz.underlying3
 a26:=Tryz.isAgg3
 z26:=Tryz.sizeOf3
 v26:=Tryz.zeroValue3
 t27:=Tryz.underlying288
 a27:=Tryz.isAgg288
 z27:=Tryz.sizeOf288
 v27:=Tryz.zeroValue288
 t28:=Tryz.underlying289
 a28:=Tryz.isAgg289
 z28:=Tryz.sizeOf289
 v28:=Tryz.zeroValue289
 t33:=Tryz.underlying128
 a33:=Tryz.isAgg128
 z33:=Tryz.sizeOf128
 v33:=Tryz.zeroValue128}
def Tryz.sortedA_ren:Go.Shelf.Ren:=⟨fun | 6=>200 | 8=>268 | 9=>222 | 11=>336 | 13=>302 | 12=>301 | 23=>370 | 24=>252 | 14=>361 | 15=>362 | 16=>363 | 17=>364 | 18=>365 | 19=>366 | 20=>367 | 21=>368 | 22=>369 | 25=>397 | 26=>398 | 27=>399 | 28=>400 | 29=>401 | 30=>402 | 31=>429 | n=>n,fun | 26=>3 | 28=>289 | 24=>22 | 0=>0 | 3=>3 | 37=>274 | 48=>429 | 50=>100 | 4=>4 | 40=>423 | 39=>422 | 45=>236 | 5=>5 | 9=>9 | 51=>455 | 55=>459 | 57=>478 | 58=>194 | 33=>128 | n=>n,fun | n=>n⟩
def Tryz.sortedA:Go.Proofs.SlLaysZI.n6 Tryz.prog Tryz.sortedA_ren:={
 mixed:=by kernel_rfl
 f6:=⟨Tryz.f200.name,by decide,Tryz.func200.trans (congrArg some (by kernel_rfl))⟩
 f8:=⟨Tryz.f268.name,by decide,Tryz.func268.trans (congrArg some (by kernel_rfl))⟩
 f11:=⟨Tryz.f336.name,by decide,Tryz.func336.trans (congrArg some (by kernel_rfl))⟩
 t0:=Tryz.underlying0
 a0:=Tryz.isAgg0
 z0:=Tryz.sizeOf0
 v0:=Tryz.zeroValue0
 t24:=Tryz.underlying22
 a24:=Tryz.isAgg22
 z24:=Tryz.sizeOf22
 v24:=Tryz.zeroValue22
 t26:=Tryz.underlying3
 a26:=Tryz.isAgg3
 z26:=Tryz.sizeOf3
 v26:=Tryz.zeroValue3
 t28:=Tryz.underlying289
 a28:=Tryz.isAgg289
 z28:=Tryz.sizeOf289
 v28:=Tryz.zeroValue289
 i26:=by kernel_rfl}
def Tryz.sortA_ren:Go.Shelf.Ren:=⟨fun | 5=>222 | 8=>302 | 7=>301 | 19=>370 | 20=>252 | 10=>361 | 11=>362 | 12=>363 | 13=>364 | 14=>365 | 15=>366 | 16=>367 | 17=>368 | 18=>369 | 30=>397 | 31=>398 | 32=>399 | 33=>400 | 34=>401 | 35=>402 | 40=>429 | n=>n,fun | 23=>22 | 25=>3 | 3=>3 | 32=>274 | 22=>22 | 0=>0 | 44=>429 | 46=>100 | 4=>4 | 36=>423 | 35=>422 | 41=>236 | 5=>5 | 9=>9 | 53=>455 | 57=>459 | 63=>478 | 64=>194 | n=>n,fun | n=>n⟩
def Tryz.sortA:Go.Proofs.SlLaysM.n5 Tryz.prog Tryz.sortA_ren:={
 mixed:=by kernel_rfl
 f5:=⟨Tryz.f222.name,by decide,Tryz.func222.trans (congrArg some (by kernel_rfl))⟩
 f7:=⟨Tryz.f301.name,by decide,Tryz.func301.trans (congrArg some (by kernel_rfl))⟩
 f8:=Tryz.func302.trans (congrArg some (by kernel_rfl))
 f10:=⟨Tryz.f361.name,by decide,Tryz.func361.trans (congrArg some (by kernel_rfl))⟩
 f11:=⟨Tryz.f362.name,by decide,Tryz.func362.trans (congrArg some (by kernel_rfl))⟩
 f12:=⟨Tryz.f363.name,by decide,Tryz.func363.trans (congrArg some (by kernel_rfl))⟩
 f13:=⟨Tryz.f364.name,by decide,Tryz.func364.trans (congrArg some (by kernel_rfl))⟩
 f14:=⟨Tryz.f365.name,by decide,Tryz.func365.trans (congrArg some (by kernel_rfl))⟩
 f15:=⟨Tryz.f366.name,by decide,Tryz.func366.trans (congrArg some (by kernel_rfl))⟩
 f16:=⟨Tryz.f367.name,by decide,Tryz.func367.trans (congrArg some (by kernel_rfl))⟩
 f17:=⟨Tryz.f368.name,by decide,Tryz.func368.trans (congrArg some (by kernel_rfl))⟩
 f18:=⟨Tryz.f369.name,by decide,Tryz.func369.trans (congrArg some (by kernel_rfl))⟩
 f19:=Tryz.func370.trans (congrArg some (by kernel_rfl))
 f20:=Tryz.func252.trans (congrArg some (by kernel_rfl))
 f30:=⟨Tryz.f397.name,by decide,Tryz.func397.trans (congrArg some (by kernel_rfl))⟩
 f31:=Tryz.func398.trans (congrArg some (by kernel_rfl))
 f32:=Tryz.func399.trans (congrArg some (by kernel_rfl))
 f33:=⟨Tryz.f400.name,by decide,Tryz.func400.trans (congrArg some (by kernel_rfl))⟩
 f34:=⟨Tryz.f401.name,by decide,Tryz.func401.trans (congrArg some (by kernel_rfl))⟩
 f35:=⟨Tryz.f402.name,by decide,Tryz.func402.trans (congrArg some (by kernel_rfl))⟩
 f40:=⟨Tryz.f429.name,by decide,Tryz.func429.trans (congrArg some (by kernel_rfl))⟩
 t0:=Tryz.underlying0
 a0:=Tryz.isAgg0
 z0:=Tryz.sizeOf0
 v0:=Tryz.zeroValue0
 t3:=Tryz.underlying3
 a3:=Tryz.isAgg3
 z3:=Tryz.sizeOf3
 v3:=Tryz.zeroValue3
 t4:=Tryz.underlying4
 a4:=Tryz.isAgg4
 z4:=Tryz.sizeOf4
 v4:=Tryz.zeroValue4
 t5:=Tryz.underlying5
 a5:=Tryz.isAgg5
 z5:=Tryz.sizeOf5
 v5:=Tryz.zeroValue5
 t9:=Tryz.underlying9
 a9:=Tryz.isAgg9
 z9:=Tryz.sizeOf9
 v9:=Tryz.zeroValue9
 t22:=Tryz.underlying22
 a22:=Tryz.isAgg22
 z22:=Tryz.sizeOf22
 v22:=Tryz.zeroValue22
 t23:=Tryz.underlying22
 a23:=Tryz.isAgg22
 z23:=Tryz.sizeOf22
 v23:=Tryz.zeroValue22
 t25:=Tryz.underlying3
 a25:=Tryz.isAgg3
 z25:=Tryz.sizeOf3
 v25:=Tryz.zeroValue3
 t32:=Tryz.underlying274
 a32:=Tryz.isAgg274
 z32:=Tryz.sizeOf274
 v32:=Tryz.zeroValue274
 t35:=Tryz.underlying422
 a35:=Tryz.isAgg422
 z35:=Tryz.sizeOf422
 v35:=Tryz.zeroValue422
 t36:=Tryz.underlying423
 a36:=Tryz.isAgg423
 z36:=Tryz.sizeOf423
 v36:=Tryz.zeroValue423
 t41:=Tryz.underlying236
 a41:=Tryz.isAgg236
 z41:=Tryz.sizeOf236
 v41:=Tryz.zeroValue236
 t44:=Tryz.underlying429
 a44:=Tryz.isAgg429
 z44:=Tryz.sizeOf429
 v44:=Tryz.zeroValue429
 t46:=Tryz.underlying100
 a46:=Tryz.isAgg100
 z46:=Tryz.sizeOf100
 v46:=Tryz.zeroValue100
 t53:=Tryz.underlying455
 a53:=Tryz.isAgg455
 z53:=Tryz.sizeOf455
 v53:=Tryz.zeroValue455
 t57:=Tryz.underlying459
 a57:=Tryz.isAgg459
 z57:=Tryz.sizeOf459
 v57:=Tryz.zeroValue459
 t63:=Tryz.underlying478
 a63:=Tryz.isAgg478
 z63:=Tryz.sizeOf478
 v63:=Tryz.zeroValue478
 t64:=Tryz.underlying194
 a64:=Tryz.isAgg194
 z64:=Tryz.sizeOf194
 v64:=Tryz.zeroValue194}
end Go.Proofs
namespace Go.PL
open Go Go.SX Go.Proofs Go.RowKit Go.Maps Go.Sort Go.WideElems Go.WideShapes
def f3i {P:Program}{k:TypeId}(hk:P.underlying k=some (.int .i64)){w:World}{mb:Nat}{l:O (Int×Int)}(hn:(l.map (·.1)).Nodup)(hm:w.heap[mb]? =some (b92 l))(hw:(l.all fun q=>c4v q.1)=true)(hl:l.length <= 1000000):
  ∃D0:DataW Unit,w.ownsMap P k (fun _=>some (.nil,[])) mb l.length D0 /\ (intKeys D0).Perm (l.map (·.1)) /\ Maps.size D0=l.length:=by
 have hlen:(l.zipIdx.map fun q=>({key:= .int .i64 q.1.1,val:= .int .i64 q.1.2,born:=q.2}:MapEntry)).length=l.length:=by simp
 have hrd: ∀q∈l.zipIdx,WideElems.rd P k (fun _=>some ((.nil:DataW Unit),[])) ({key:= .int .i64 q.1.1,val:= .int .i64 q.1.2,born:=q.2}:MapEntry)=some (.int .i64 q.1.1,.nil):=by
  intro q hq
  have hm:q.1∈l:=by
   obtain ⟨j,hj⟩:=mem_iff_getElem?.1 hq
   rw [getElem?_zipIdx] at hj
   cases hL:l[j]? with
   | none=>rw [hL] at hj;cases hj
   | some p=>rw [hL] at hj;obtain rfl:=qH hj;exact qE hL
  have h1:=qX.1 hw q.1 hm
  have h2:(Lit.int .i64 q.1.1).wf=true:=by
   unfold c4v at h1
   simp only [qB,decide_eq_true_eq] at h1
   simp [Lit.wf,IntKind.min,IntKind.max,IntKind.signed,IntKind.bits]
   omega
  simp [WideElems.rd,keyOf,hk,mapKey,h2]
 have hborn:(l.zipIdx.map fun q=>q.2)=List.range l.length:=by
  rw [List.range_eq_range']
  exact zipIdx_map_snd 0 l
 have hkeys:(l.zipIdx.map fun q=>q.1.1)=l.map (·.1):=by
  have:(l.zipIdx.map (·.1)).map (·.1)=l.map (·.1):=by rw [zipIdx_map_fst]
  rw [<- this,List.map_map]
  rfl
 refine ⟨_,⟨_,_,hm,⟨?_,?_,?_⟩,by simp,rfl⟩,?_,?_⟩
 ·simp [maxLen];omega
 ·rw [MapKept.stamped_iff]
  refine ⟨fun x hx=> ?_,?_,?_⟩
  ·obtain ⟨q,hq,rfl⟩:=List.mem_map.1 hx
   have:q.2∈l.zipIdx.map fun q=>q.2:=List.mem_map.2 ⟨q,hq,rfl⟩
   rw [hborn] at this
   exact List.mem_range.1 this
  ·show ((l.zipIdx.map fun q=>({key:= .int .i64 q.1.1,val:= .int .i64 q.1.2,born:=q.2}:MapEntry)).map (·.born)).Nodup
   rw [List.map_map]
   exact (show (l.zipIdx.map fun q=>q.2).Nodup by rw [hborn];exact nodup_range)
  ·show (l.zipIdx.map fun q=>({key:= .int .i64 q.1.1,val:= .int .i64 q.1.2,born:=q.2}:MapEntry)).Pairwise fun x y=>x.key≠y.key
   rw [pairwise_map]
   have h1:(l.zipIdx.map fun q=>q.1.1).Nodup:=by rw [hkeys];exact hn
   exact (List.pairwise_map.1 h1).imp fun h e=>h (by simpa using e)
 ·intro x hx
  obtain ⟨q,hq,rfl⟩:=List.mem_map.1 hx
  exact ⟨_,hrd q hq⟩
 ·show (((((l.zipIdx.map fun q=>({key:= .int .i64 q.1.1,val:= .int .i64 q.1.2,born:=q.2}:MapEntry))).map (WideElems.rg P k fun _=>some ((.nil:DataW Unit),[]))).foldr DataW.insert []).map fun p=>intOf p.1).Perm _
  refine ((sorted_perm _).map _).trans ?_
  rw [List.map_map,List.map_map,<- hkeys]
  refine List.Perm.of_eq (List.map_congr_left fun q hq=> ?_)
  simp [WideElems.rg,hrd q hq,intOf]
 ·show (((l.zipIdx.map fun q=>({key:= .int .i64 q.1.1,val:= .int .i64 q.1.2,born:=q.2}:MapEntry)).map (WideElems.rg P k fun _=>some ((.nil:DataW Unit),[]))).foldr DataW.insert []).length=l.length
  rw [length_sorted]
  simp
def g2s {B:Nat}{e:TypeId}{w:World}{v:Go.Value}{n:Nat}{l:O Int}(h:w.ownsRow B e 1 v n (l.map encZ))(hn:l.length=n):PL.Own B e 1 cellsZ w v l:=by
 subst hn
 have hf: ∀l:O Int,l.flatMap cellsZ=l.map encZ:=fun l=>by induction l with
  | nil=>rfl
  | cons x l ih=>exact congrArg (encZ x:: ·) ih
 rcases h.2 with ⟨h1,h2⟩ | ⟨g,cap,cur,h1,h2,h3,h4,h5,h6,h7⟩
 ·exact .inl ⟨h1,List.length_eq_zero_iff.1 h2⟩
 ·exact .inr ⟨g,0,cap,cur,h1,h2,h3,h4,h5,by omega,by rw [List.drop_zero,h7,hf]⟩
def g86 (m:Nat):AnyZI.SortsIn Tryz.prog Tryz.sortedA_ren Fence.wide m:=
 ⟨fun blk off cap ss W hH hblk hsz=>callsIn_wide.2 (AnyM.slices_Sort_int Tryz.sortA blk off cap ss W hH hblk hsz),
  fun p cap W=>callsIn_wide.2 (AnyM.slices_Sort_int_none Tryz.sortA p cap W)⟩
def e6p {P:Program}{f:FuncId}{e:TypeId}(h1: ∀(blk off cap:Nat) (zs:O Int) (w:World),Holds (Go.Value.int .i64) w blk off zs.toArray -> blk<w.heap.size -> zs.length<4611686018427387904 ->
   Calls P f #[.slice (some ⟨blk,off,none⟩) zs.length cap] w fun e w'=>e= .returned (.tuple #[]) /\ ∃n os,w'=grow (putRow (Go.Value.int .i64) (Sort.ahead w n) blk off (b89 zs).toArray) os)
  (h0: ∀(p:A3 Addr)(cap:Nat)(w:World),Calls P f #[.slice p 0 cap] w fun e w'=>e= .returned (.tuple #[]) /\ w'=w)
  {l:O Int} {w:World} {v:Go.Value} (hO:PL.Own 0 e 1 (fun x:Int=>[Go.Value.int .i64 x]) w v l) (hl:l.length<4611686018427387904):
  Calls P f #[v] w fun q w'=>q= .returned (.tuple #[]) /\ Ext (fun b=>v.ownBlock=some b) w w' /\ PL.Own 0 e 1 (fun x:Int=>[Go.Value.int .i64 x]) w' v (b89 l):=by
 have hlen:(b89 l).length=l.length:=(a8p l).length_eq
 by_cases hz:l.length=0
 ·obtain ⟨a,cap,hv,_⟩:=hO.shape
  obtain rfl:=List.length_eq_zero_iff.1 hz
  rw [show v= .slice a 0 cap from hv]
  rw [show v= .slice a 0 cap from hv] at hO
  refine (h0 a cap w).mono ?_
  rintro q w' ⟨rfl,rfl⟩
  exact ⟨rfl,Ext.refl _ _,by exact hO⟩
 ·have hO2:=hO
  rcases hO with ⟨_,h⟩ | ⟨g,o,cap,cur,rfl,h2,h3,h4,h5,h6,h7⟩
  ·exact absurd (by rw [h];rfl) hz
  ·have hlt:g<w.heap.size:=(qN.1 h3).1
   refine (h1 g o cap l w (e8y (d6l (n:=1) (fun _=>rfl) hO2)) hlt hl).mono ?_
   rintro q w' ⟨rfl,n,os,rfl⟩
   rw [e5t]
   refine ⟨rfl,e7r rfl,?_⟩
   have:=e97 (n:=1) (cells:=fun x:Int=>[Go.Value.int .i64 x]) (fun _=>rfl) (q:=n) (os:=os) (d:=(b89 l).toArray) hO2 (by simpa using hlen)
   simpa using this
def d9r (l r:O Int)(w:World)(v:Go.Value)(hO:PL.Own 0 3 1 cellsZ w v l)(hF:b8s l=some r):
  Calls Tryz.prog 222 #[v] w fun q w'=>q= .returned (.tuple #[]) /\ Ext (fun b=>v.ownBlock=some b) w w' /\ PL.Own 0 3 1 cellsZ w' v r:=by
 unfold b8s at hF
 split at hF
 case isFalse=>cases hF
 rename_i hl
 obtain rfl:=qH hF
 exact e6p (fun blk off cap ss W hH hblk hsz=>by rw [<- e37];exact AnyM.slices_Sort_int Tryz.sortA blk off cap ss W hH hblk hsz) (fun p cap W=>AnyM.slices_Sort_int_none Tryz.sortA p cap W) hO (by omega)
def d4b (i mb:Nat)(l:O (Int×Int))(r:O Int)(w:World)(hi:Mb w i 315 [.map (some mb)])(hn:(l.map (·.1)).Nodup)(hm:w.heap[mb]? =some (b92 l))(hr:c8c l=some r):
  Calls Tryz.prog 200 #[.func (.func 309) #[] #[.pointer (some ⟨i,0,none⟩)]] w fun q w'=> ∃v,q= .returned v /\ Ext noG w w' /\ PL.Own w.heap.size 3 1 cellsZ w' v r:=by
 unfold c8c at hr
 split at hr
 case isFalse=>cases hr
 rename_i hc
 obtain rfl:=qH hr
 obtain ⟨D0,hown,hperm,hsize⟩:=f3i (P:=Tryz.prog) (k:=3) (by kernel_rfl) hn hm hc.1 hc.2
 have hcell:w.cell? ⟨i,0,none⟩=some (.map (some mb)):=by
  have:=hi.ca 0 (.map (some mb)) rfl
  simpa [Addr.add] using this
 have hseq:SeqGives Fence.wide 2 Tryz.prog 309 #[.pointer (some ⟨i,0,none⟩)] encZ (fun ss=>ss.Perm (intKeys D0)) (Maps.size D0) w:=
  AnyZI.keys_gives (ρ:=Tryz.keysA_ren) {Tryz.keysA with} Fence.wide _ trivial rfl (by omega) i mb _ D0 _ hi.lt hcell hown
 have cS:=AnyZI.sorted_in Tryz.sortedA Fence.wide 5 trivial trivial trivial trivial rfl (by omega) (g86 _) (enters_of Tryz.func222 (by kernel_rfl) rfl) 309 #[.pointer (some ⟨i,0,none⟩)] trivial (enters_of Tryz.func309 (by kernel_rfl) rfl) _ _ (by rw [hsize];unfold maxLen;omega) (by rw [hsize];omega) _ hseq
 refine (callsIn_wide.1 cS).mono ?_
 rintro e w' ⟨v,ss,rfl,hS,hrow,_,hb⟩
 have hss:ss.mergeSort (fun x y=>decide (x <= y))=b89 (l.map (·.1)):=(mergeSort_of_perm_i (hS.trans hperm)).trans (e37 _)
 rw [hss] at hrow
 refine ⟨v,rfl,⟨hb.os,hb.tape,hb.output,hb.size,fun k hk _=>hb.block k hk⟩,g2s hrow ?_⟩
 rw [<- hss]
 exact length_mergeSort _
def mixed:Tryz.prog.follows .mixedOrders=true:=by kernel_rfl
noncomputable section
def l5q:Fent VV:=⟨⟨[.v .ym,.v .ym,.v .ym],[.v .ym,.v .ym]⟩,Int×Int,fun x=>c23 x.1 x.2.1 x.2.2.1,fun n=>((n.1,n.2,()),()),none⟩
def l9a:d6d Tryz.prog 337 l5q:=d2m (U:=VV) (g:=g7y) (l:=Extern.MathBitsCarry.rows) (fun h _ he=>g34 h he) (fn:=Tryz.f337) (by kernel_rfl) (by kernel_rfl) (by kernel_rfl) (by kernel_rfl) (by kernel_rfl) (by kernel_rfl) (a:= .ym) (fun x=>x) (fun n=>n) (fun _=>rfl) (fun _=>rfl)
def l56:Fent VV:=⟨⟨[.v .ym,.v .ym,.v .ym],[.v .ym,.v .ym]⟩,Int×Int,fun x=>c1u x.1 x.2.1 x.2.2.1,fun n=>((n.1,n.2,()),()),none⟩
def l80:d6d Tryz.prog 338 l56:=d2m (U:=VV) (g:=g8x) (l:=Extern.MathBitsCarry.rows.tail) (fun h _ he=>g3o h he) (fn:=Tryz.f338) (by kernel_rfl) (by kernel_rfl) (by kernel_rfl) (by kernel_rfl) (by kernel_rfl) (by kernel_rfl) (a:= .ym) (fun x=>x) (fun n=>n) (fun _=>rfl) (fun _=>rfl)
def l4i:Fent VV:=⟨⟨[.v .yk,.v .yn],[.v .z9]⟩,Int,fun x=>a7v x.1 x.2.1,fun n=>((n,()),()),none⟩
def l9t:d6d Tryz.prog 457 l4i:=f6g (U:=VV) (a:= .yk) (b:= .yn) (c:= .z9) (fn:=Tryz.f457) (by kernel_rfl) (by kernel_rfl) (by kernel_rfl) (by kernel_rfl) (by kernel_rfl) (fun x=>x) (fun x=>x) (fun n=>n) (fun _=>rfl) (fun _=>rfl) (fun _=>rfl)
def k6b:Fent VV:=⟨⟨[.v .z9],[.v .yk]⟩,A4,fun x=>strconv_Itoa x.1,fun b=>((b,()),()),none⟩
def k9a:SX.Spec Tryz.prog 379 k6b:=e8o (U:=VV) (a:= .z9) (c:= .yk) Tryz.laysItoa (fun _ h=>h) (fun x=>x) (fun _=>rfl) (fun x=>x) (fun _=>rfl)
def l9f:Fent VV:=⟨⟨[.ls .z9],[.ow 3 .z9]⟩,O Int,fun x=>a7z x.1,w1,none⟩
def m0r:SX.Spec Tryz.prog 68 l9f:=b6g (U:=VV) (c:= .z9) (e:=3) (t:=22) (b:=4) (N:=8) uok mixed (fn:=Tryz.f68) (by kernel_rfl) (by kernel_rfl) rfl rfl (by kernel_rfl) (by kernel_rfl) (by kernel_rfl) (fun l=>by kernel_rfl)
def l60:Fent VV:=⟨⟨[.ls .zi],[.ow 177 .zi]⟩,O Credit,fun x=>a5m x.1,w1,none⟩
def l9o:SX.Spec Tryz.prog 115 l60:=b6g (U:=VV) (c:= .zi) (e:=177) (t:=59) (b:=4) (N:=16) uok mixed (fn:=Tryz.f115) (by kernel_rfl) (by kernel_rfl) rfl rfl (by kernel_rfl) (by kernel_rfl) (by kernel_rfl) (fun l=>by kernel_rfl)
def g80:Fent VV:=⟨⟨[.ls .zn],[.ow 179 .zn]⟩,O Index,fun x=>a6e x.1,w1,none⟩
def l9w:SX.Spec Tryz.prog 116 g80:=b6g (U:=VV) (c:= .zn) (e:=179) (t:=60) (b:=4) (N:=24) uok mixed (fn:=Tryz.f116) (by kernel_rfl) (by kernel_rfl) rfl rfl (by kernel_rfl) (by kernel_rfl) (by kernel_rfl) (fun l=>by kernel_rfl)
def g9i:Fent VV:=⟨⟨[.ls .zp],[.ow 168 .zp]⟩,O Let,fun x=>a86 x.1,w1,none⟩
def l9k:SX.Spec Tryz.prog 117 g9i:=b6g (U:=VV) (c:= .zp) (e:=168) (t:=61) (b:=4) (N:=88) uok mixed (fn:=Tryz.f117) (by kernel_rfl) (by kernel_rfl) rfl rfl (by kernel_rfl) (by kernel_rfl) (by kernel_rfl) (fun l=>by kernel_rfl)
def f1k:Fent VV:=⟨⟨[.ls .zm],[.ow 85 .zm]⟩,O Grant,fun x=>a6f x.1,w1,none⟩
def h0f:SX.Spec Tryz.prog 118 f1k:=b6g (U:=VV) (c:= .zm) (e:=85) (t:=62) (b:=4) (N:=152) uok mixed (fn:=Tryz.f118) (by kernel_rfl) (by kernel_rfl) rfl rfl (by kernel_rfl) (by kernel_rfl) (by kernel_rfl) (fun l=>by kernel_rfl)
def l4t:Fent VV:=⟨⟨[.ls .zu],[.ow 126 .zu]⟩,O Reduce,fun x=>a5p x.1,w1,none⟩
def l7h:SX.Spec Tryz.prog 119 l4t:=b6g (U:=VV) (c:= .zu) (e:=126) (t:=63) (b:=4) (N:=80) uok mixed (fn:=Tryz.f119) (by kernel_rfl) (by kernel_rfl) rfl rfl (by kernel_rfl) (by kernel_rfl) (by kernel_rfl) (fun l=>by kernel_rfl)
def j98:Fent VV:=⟨⟨[],[]⟩,Unit,fun _=>none,fun _=>((),()),some (.qy (slQ 257 87 .y0 317 b3w))⟩
def K316:Kn Tryz.prog VV:=⟨316,j98,show d6v Tryz.prog 316 _ from g47 (U:=VV) (c:= .y0) (cells:=Span.cells) (a14 (fn:=Tryz.f316) (by kernel_rfl) (by kernel_rfl) (by kernel_rfl)) (fun G w cs x h=>by
    obtain ⟨_,css,rfl,hh⟩:=a91.1 h
    match css,hh with
    | [a,b],⟨h1,h2,_⟩=>rw [show a=_ from h1,show b=_ from h2];rfl) (fun G w x=>a91.2 ⟨rfl,[[.int .i64 x.From],[.int .i64 x.To]],rfl,⟨rfl,rfl,trivial⟩⟩) fun l r w v bc hO hM hne hF=>d0w l hO hM hne hF⟩
def j3g:Fent VV:=⟨⟨[],[]⟩,Unit,fun _=>none,fun _=>((),()),some (.qy (soQ 3 .z9 b8s))⟩
def j8e:Kn Tryz.prog VV:=⟨222,j3g,show d6v Tryz.prog 222 _ from g65 (U:=VV) (c:= .z9) (cells:=cellsZ) (a14 (fn:=Tryz.f222) (by kernel_rfl) (by kernel_rfl) (by kernel_rfl)) (fun G w cs x h=>by
    obtain ⟨_,css,rfl,hh⟩:=a91.1 h
    match css,hh with
    | [a],⟨h1,_⟩=>rw [show a=_ from h1];rfl) (fun G w x=>a91.2 ⟨rfl,[[.int .i64 x]],rfl,⟨rfl,trivial⟩⟩) d9r⟩
def h02:Fent VV:=⟨⟨[],[]⟩,Unit,fun _=>none,fun _=>((),()),some (.qy (skQ 309 315 3 .z9 fun x=>x))⟩
def k8t:Kn Tryz.prog VV:=⟨200,h02,show d6v Tryz.prog 200 _ from g3x (U:=VV) (c:= .z9) (a14 (fn:=Tryz.f200) (by kernel_rfl) (by kernel_rfl) (by kernel_rfl)) rfl (fun _=>rfl) d4b⟩
def K68:Kn Tryz.prog VV:=⟨68,l9f,knS rfl ⟨m0r,fun _ _=>by kernel_rfl⟩⟩
def l0e:Kn Tryz.prog VV:=⟨115,l60,knS rfl ⟨l9o,fun _ _=>by kernel_rfl⟩⟩
def K116:Kn Tryz.prog VV:=⟨116,g80,knS rfl ⟨l9w,fun _ _=>by kernel_rfl⟩⟩
def K117:Kn Tryz.prog VV:=⟨117,g9i,knS rfl ⟨l9k,fun _ _=>by kernel_rfl⟩⟩
def g25:Kn Tryz.prog VV:=⟨118,f1k,knS rfl ⟨h0f,fun _ _=>by kernel_rfl⟩⟩
def K119:Kn Tryz.prog VV:=⟨119,l4t,knS rfl ⟨l7h,fun _ _=>by kernel_rfl⟩⟩
def K379:Kn Tryz.prog VV:=⟨379,k6b,knS rfl ⟨k9a,fun _ _=>by kernel_rfl⟩⟩
def m0s:Fent VV:=⟨⟨[],[]⟩,Unit,fun _=>none,fun _=>((),()),some (.seq 113 26 (some .zx))⟩
def K67:Kn Tryz.prog VV:=⟨67,m0s,show b9c _ _ _ _ from c5j (tS:=26) (tF:=156) (tG:=155) (p1:= "iter.go:26") (p2:= "iter.go:27") (a14 (fn:=Tryz.f67) (by kernel_rfl) (by kernel_rfl) (by kernel_rfl)) (fn:=Tryz.f67) (by kernel_rfl) (by kernel_rfl) rfl rfl⟩
def m0t:Fent VV:=⟨⟨[],[]⟩,Unit,fun _=>none,fun _=>((),()),some (.seq 114 50 (some .y7))⟩
def K69:Kn Tryz.prog VV:=⟨69,m0t,show b9c _ _ _ _ from c5j (tS:=50) (tF:=160) (tG:=159) (p1:= "iter.go:26") (p2:= "iter.go:27") (a14 (fn:=Tryz.f69) (by kernel_rfl) (by kernel_rfl) (by kernel_rfl)) (fn:=Tryz.f69) (by kernel_rfl) (by kernel_rfl) rfl rfl⟩
def j5l:Fent VV:=⟨⟨[],[]⟩,Unit,fun _=>none,fun _=>((),()),some (.seq 267 38 (some .y3))⟩
def l0f:Kn Tryz.prog VV:=⟨199,j5l,show b9c _ _ _ _ from c5j (tS:=38) (tF:=285) (tG:=284) (p1:= "iter.go:26") (p2:= "iter.go:27") (a14 (fn:=Tryz.f199) (by kernel_rfl) (by kernel_rfl) (by kernel_rfl)) (fn:=Tryz.f199) (by kernel_rfl) (by kernel_rfl) rfl rfl⟩
def l7i:Fent VV:=⟨⟨[],[]⟩,Unit,fun _=>none,fun _=>((),()),some (.seq 269 22 (some .z9))⟩
def l13:Kn Tryz.prog VV:=⟨201,l7i,show b9c _ _ _ _ from c5j (tS:=22) (tF:=289) (tG:=288) (p1:= "iter.go:37") (p2:= "iter.go:38") (a14 (fn:=Tryz.f201) (by kernel_rfl) (by kernel_rfl) (by kernel_rfl)) (fn:=Tryz.f201) (by kernel_rfl) (by kernel_rfl) rfl rfl⟩
def l90:Fent VV:=⟨⟨[],[]⟩,Unit,fun _=>none,fun _=>((),()),some (.seq 309 315 none)⟩
def K231:Kn Tryz.prog VV:=⟨231,l90,show b9c _ _ _ _ from c5j (tS:=315) (tF:=289) (tG:=288) (p1:= "iter.go:25") (p2:= "iter.go:26") (a14 (fn:=Tryz.f231) (by kernel_rfl) (by kernel_rfl) (by kernel_rfl)) (fn:=Tryz.f231) (by kernel_rfl) (by kernel_rfl) rfl rfl⟩
def l8b:Fent VV:=⟨⟨[],[]⟩,Unit,fun _=>none,fun _=>((),()),some (.seq 424 173 (some .zg))⟩
def K383:Kn Tryz.prog VV:=⟨383,l8b,show b9c _ _ _ _ from c5j (tS:=173) (tF:=441) (tG:=440) (p1:= "iter.go:26") (p2:= "iter.go:27") (a14 (fn:=Tryz.f383) (by kernel_rfl) (by kernel_rfl) (by kernel_rfl)) (fn:=Tryz.f383) (by kernel_rfl) (by kernel_rfl) rfl rfl⟩
def bkL:O (Nat×TypeId×TyC×Bool):=[(113,26,.zx,false),(114,50,.y7,false),(267,38,.y3,false),(269,22,.z9,true),(424,173,.zg,false)]
def bkA:h1j (U:=VV) Tryz.prog bkL:=⟨⟨69,⟨⟨Tryz.f113,3,4,213,by kernel_rfl,⟨by kernel_rfl,rfl⟩,rfl⟩,fun _ _=>a14 (fn:=Tryz.f113) (by kernel_rfl) (by kernel_rfl) (by kernel_rfl) _ _,by kernel_rfl,by kernel_rfl⟩,fun _=>by kernel_rfl,fun _=>by kernel_rfl⟩,⟨65,⟨⟨Tryz.f114,3,4,214,by kernel_rfl,⟨by kernel_rfl,rfl⟩,rfl⟩,fun _ _=>a14 (fn:=Tryz.f114) (by kernel_rfl) (by kernel_rfl) (by kernel_rfl) _ _,by kernel_rfl,by kernel_rfl⟩,fun _=>by kernel_rfl,fun _=>by kernel_rfl⟩,⟨132,⟨⟨Tryz.f267,3,4,342,by kernel_rfl,⟨by kernel_rfl,rfl⟩,rfl⟩,fun _ _=>a14 (fn:=Tryz.f267) (by kernel_rfl) (by kernel_rfl) (by kernel_rfl) _ _,by kernel_rfl,by kernel_rfl⟩,fun _=>by kernel_rfl,fun _=>by kernel_rfl⟩,⟨3,⟨⟨Tryz.f269,3,4,128,by kernel_rfl,⟨by kernel_rfl,rfl⟩,rfl⟩,fun _ _=>a14 (fn:=Tryz.f269) (by kernel_rfl) (by kernel_rfl) (by kernel_rfl) _ _,by kernel_rfl,by kernel_rfl⟩,fun _=>by kernel_rfl,fun _=>by kernel_rfl⟩,⟨240,⟨⟨Tryz.f424,3,4,474,by kernel_rfl,⟨by kernel_rfl,rfl⟩,rfl⟩,fun _ _=>a14 (fn:=Tryz.f424) (by kernel_rfl) (by kernel_rfl) (by kernel_rfl) _ _,by kernel_rfl,by kernel_rfl⟩,fun _=>by kernel_rfl,fun _=>by kernel_rfl⟩,trivial⟩
abbrev mkR:= @knR Tryz.prog VV uok mixed bkL bkA
def K337:Kn Tryz.prog VV:=⟨337,l5q,knX rfl l9a⟩
def K338:Kn Tryz.prog VV:=⟨338,l56,knX rfl l80⟩
def K457:Kn Tryz.prog VV:=⟨457,l4i,knX rfl l9t⟩
abbrev mk:= @kn Tryz.prog VV uok mixed
def K59:=mk 59 Tryz.f59 ⟨[.v .z9],[.v .yk]⟩ (cur1 i8) w1 u1 (sk 2 (.s (.l [] [] [.v 0 .z9,.v 3 .yk] .n) .n)) []
def K28:=mk 28 Tryz.f28 ⟨[.v .z9,.v .z9],[.v .z9]⟩ (cur2 b7) w1 u1 .n []
def K29:=mk 29 Tryz.f29 ⟨[.ls .z9,.v .z9],[.v .z9]⟩ (cur2 c5) w1 u1 .n [K28]
def K105:=mk 105 Tryz.f105 ⟨[.v .z9],[.v .yk]⟩ (cur1 a01) w1 u1 .n [K59]
def K60:=mk 60 Tryz.f60 ⟨[.v .yk,.ls .z9,.v .z9],[.v .yk]⟩ (cur3 a38) w1 u1 (sk 3 (.j [] [.ls 1 .z9,.v 2 .z9,.v 7 .yk,.v 8 .yk] .n (.s .n (.j [] [.ls 1 .z9,.v 2 .z9,.v 7 .yk,.v 8 .yk] .n (.j [] [.ls 1 .z9,.v 2 .z9,.v 7 .yk,.v 8 .yk] .n (.s .n (.s .n (.s .n (.s .n (.j [] [.ls 1 .z9,.v 2 .z9,.v 8 .yk] .n (.s .n (.s .n (.j [] [.ls 1 .z9,.v 2 .z9,.v 8 .yk] .n .n))))))))))))) [K28,K29,K59,K105]
def K27:=mk 27 Tryz.f27 ⟨[.v .z9,.ls .z9],[.v .yk]⟩ (cur2 b10) w1 u1 (sk 3 (.j [] [.v 0 .z9,.ls 1 .z9,.v 6 .yk] .n .n)) [K28,K29,K59,K60]
def K239:=mk 239 Tryz.f239 ⟨[.v .yk,.v .z9],[.v .z9]⟩ (cur2 b16) w1 u1 (sk 2 (.s (.l [0] [] [.v 1 .z9,.v 5 .z8] .n) .n)) []
def h3p:=mk 240 Tryz.f240 ⟨[.v .yn],[.v .z8]⟩ (cur1 a3q) w1 u1 .n []
def m08:=mk 242 Tryz.f242 ⟨[.v .yn],[.v .z8]⟩ (cur1 a30) w1 u1 .n []
def K241:=mk 241 Tryz.f241 ⟨[.v .yk,.v .z9,.v .z8],[.v .z9]⟩ (cur3 a9f) w1 u1 (sk 2 (.s (.l [0,1,2] [] [.v 7 .z9] .n) .n)) [h3p,m08]
def K171:=mk 171 Tryz.f171 ⟨[.v .yk],[.v .yk,.v .yk,.v .z9,.v .z8]⟩ (cur1 a6z) (fun b=>((b.1,(b.2.1,(b.2.2.1,(b.2.2.2,())))),())) (fun p=>(p.1.1,p.1.2.1,p.1.2.2.1,p.1.2.2.2.1)) (sk 2 (.j [] [.v 0 .yk,.v 6 .z9] .n (.s .n (.s (.s .n (.l [0,6] [] [.v 8 .z9,.v 9 .z9] .n)) (.s .n (.j [] [.v 6 .z9,.v 10 .yk,.v 11 .yk] .n (.s (.s .n (.l [6,10,11] [] [.v 12 .z9] .n)) .n))))))) [m08]
def K244:=mk 244 Tryz.f244 ⟨[.v .yk],[.v .z9,.v .z8]⟩ (cur1 a4m) w2 u2 (sk 2 (.s (.s .n (.l [0] [] [.v 4 .z9,.v 5 .z9] .n)) .n)) []
def K377:=mk 377 Tryz.f377 ⟨[.v .z9],[.v .z8]⟩ (cur1 b18) w1 u1 .n []
def K318:=mk 318 Tryz.f318 ⟨[.v .z9,.v .z9],[.v .z9]⟩ (cur2 a6b) w1 u1 .n [K377]
def K319:=mk 319 Tryz.f319 ⟨[.v .z9],[.v .z9]⟩ (cur1 a9y) w1 u1 (sk 2 (.s (.s .n (.l [0] [] [.v 3 .z9,.v 4 .z9] .n)) .n)) [K318]
def K245:=mk 245 Tryz.f245 ⟨[.v .z9,.v .z9,.v .z9],[.v .z9,.v .z8]⟩ (cur3 b22) w2 u2 .n [K318,K319]
def K172:=mk 172 Tryz.f172 ⟨[.v .yk],[.v .z9,.v .z8]⟩ (cur1 a47) w2 u2 .n [K244,K245]
def K243:=mk 243 Tryz.f243 ⟨[.v .yk,.v .z9],[.v .z9]⟩ (cur2 b1a) w1 u1 (.s .n (.j [] [.v 0 .yk,.v 1 .z9] .n .n)) []
def k1y:=mk 168 Tryz.f168 ⟨[.v .yk,.v .z9],[.v .y4,.v .z9,.v .z9]⟩ (cur2 b15) w3 u3 (sk 5 (.j [] [.v 0 .yk,.v 1 .z9,.bx 4 2 202 .y4,.v 7 .z9,.v 8 .z9,.v 9 .z8] .n .n)) [K171,K172,K239,h3p,K241,m08,K243]
def K95:=mk 95 Tryz.f95 ⟨[.v .yk],[.ow 202 .y4,.v .z9,.v .z9]⟩ (cur1 b25) w3 u3 (sk 4 (.l [0] [] [.ow 5 1 202 .y4,.v 6 .z9] .n)) [k1y]
def K51:=mk 51 Tryz.f51 ⟨[.v .yk],[.bo 140 .yh,.v .z9,.v .z9]⟩ (cur1 b02) w3 u3 .n [K95]
def j39:=mk 100 Tryz.f100 ⟨[.rp 140 .yh,.v .yk],[.v .z8]⟩ (cur2 u9) w1 u1 .n []
def K55:=mk 55 Tryz.f55 ⟨[.io 140 .yh,.v .yk],[.v .z8]⟩ (cur2 d7) (fun b=>((b.1,()),(b.2,()))) (fun p=>(p.1.1,p.2.1)) .n [j39]
def K96:=mk 96 Tryz.f96 ⟨[.io 140 .yh],[]⟩ (cur1 j8) (fun b=>((),(b,()))) (fun p=>p.2.1) .n []
def K52:=mk 52 Tryz.f52 ⟨[.io 140 .yh,.v .yk],[]⟩ (cur2 b9) (fun b=>((),(b,()))) (fun p=>p.2.1) .n [K55,K96]
def K97:=mk 97 Tryz.f97 ⟨[.rp 140 .yh,.v .z9],[.v .z8]⟩ (cur2 p8) w1 u1 .n []
def K169:=mk 169 Tryz.f169 ⟨[.v .yk],[.v .z8]⟩ (cur1 a99) w1 u1 (.s .n (.s (.s .n (.l [0] [] [.v 3 .z9] .n)) .n)) [h3p,m08]
def K170:=mk 170 Tryz.f170 ⟨[.v .yk],[.v .z8]⟩ (cur1 a7o) w1 u1 .n []
def K98:=mk 98 Tryz.f98 ⟨[.v .yk],[.v .z8]⟩ (cur1 a2e) w1 u1 .n [K169,K170]
def K53:=mk 53 Tryz.f53 ⟨[.io 140 .yh],[.v .yk]⟩ (cur1 a0w) (fun b=>((b.1,()),(b.2,()))) (fun p=>(p.1.1,p.2.1)) .n [K96,K97,K98]
def K31:=mk 31 Tryz.f31 ⟨[.v .z9],[.v .ym]⟩ (cur1 a43) w1 u1 .n []
def K252:=mk 252 Tryz.f252 ⟨[.v .ym],[.v .z9]⟩ (cur1 b8x) w1 u1 (.s .n (.j [] [.v 0 .ym,.v 2 .z9] .n (.j [] [.v 0 .ym,.v 2 .z9] .n .n))) []
def K181:=mk 181 Tryz.f181 ⟨[.v .ym],[.v .z9]⟩ (cur1 a7n) w1 u1 .n [K252]
def g7d:=mk 106 Tryz.f106 ⟨[.v .ym,.v .ym,.v .ym],[.v .ym,.v .ym]⟩ (cur3 a8o) w2 u2 (.s .n (.j [] [.v 0 .ym,.v 1 .ym,.v 2 .ym] .n (.j [] [.v 0 .ym,.v 1 .ym,.v 2 .ym] .n (.s .n (.s .n (.s .n (.s .n (.s .n (.s .n (.s .n (.s .n (.s .n (.s .n (.s .n (.j [] [.v 2 .ym,.v 8 .ym,.v 9 .ym,.v 10 .ym,.v 11 .ym,.v 13 .ym,.v 14 .ym,.v 15 .ym] (.l [2,8,9,10,11,13,14] [] [.v 15 .ym,.v 16 .ym] .n) (.s .n (.s .n (.s .n (.j [] [.v 2 .ym,.v 8 .ym,.v 14 .ym,.v 15 .ym,.v 17 .ym,.v 18 .ym] (.l [2,8,9,10,14,15,17] [] [.v 16 .ym,.v 18 .ym] .n) .n))))))))))))))))))) [K181]
def K61:=mk 61 Tryz.f61 ⟨[.v .yg,.v .ym],[.v .yg,.v .ym]⟩ (cur2 a3h) w2 u2 .n [g7d]
def K62:=mk 62 Tryz.f62 ⟨[.v .ym,.v .ym],[.v .ym]⟩ (cur2 a9s) w1 u1 (.s .n (.s (.l [] [] [.v 0 .ym,.v 1 .ym] .n) .n)) []
def K30:=mk 30 Tryz.f30 ⟨[.v .z8,.v .yg,.v .ym],[.v .zl,.v .z9]⟩ (cur3 b2l) w2 u2 .n [K61,K62]
def K15:=mk 15 Tryz.f15 ⟨[.v .z9,.v .z9],[.v .zl,.v .z9]⟩ (cur2 a3r) w2 u2 .n [K30,K31]
def K99:=mk 99 Tryz.f99 ⟨[.v .yk],[.v .zl,.v .z9,.v .z8]⟩ (cur1 a2x) w3 u3 (sk 4 (.s (.s .n (.l [5,6,7] [] [.bx 2 1 34 .zl,.v 9 .z9,.v 10 .z9,.v 11 .z9] .n)) .n)) [K15,K171]
def K54:=mk 54 Tryz.f54 ⟨[.io 140 .yh,.v .z9,.v .z9],[.v .z9]⟩ (cur3 s7) (fun b=>((b.1,()),(b.2,()))) (fun p=>(p.1.1,p.2.1)) .n [K96,K97,K99]
def k1f:=mk 101 Tryz.f101 ⟨[.v .yk],[.v .z9]⟩ (cur1 b09) w1 u1 .n [K172]
def K173:=mk 173 Tryz.f173 ⟨[.v .yk],[.v .z9]⟩ (cur1 a8l) w1 u1 .n []
def K174:=mk 174 Tryz.f174 ⟨[.v .yk],[.v .z9]⟩ (cur1 a52) w1 u1 .n []
def K175:=mk 175 Tryz.f175 ⟨[.v .yk],[.v .z9]⟩ (cur1 a8f) w1 u1 .n []
def k12:=mk 102 Tryz.f102 ⟨[.io 140 .yh,.v .z9],[.v .z9]⟩ (cur2 a0m) (fun b=>((b.1,()),(b.2,()))) (fun p=>(p.1.1,p.2.1)) .n [K96,K97,K173,K174,K175]
def m01:=mk 324 Tryz.f324 ⟨[.v .z9],[.v .z9]⟩ (cur1 a8e) w1 u1 .n []
def K321:=mk 321 Tryz.f321 ⟨[.v .z9],[.v .z9]⟩ (cur1 b05) w1 u1 (.s .n (.s (.s .n (.s .n (.s .n (.s .n (.s .n (.s .n (.s .n (.s .n (.s .n (.j [] [.v 3 .z9,.v 12 .z8] .n (.s .n (.j [] [.v 3 .z9,.v 19 .z8] .n .n)))))))))))) .n)) []
def K322:=mk 322 Tryz.f322 ⟨[.v .z9],[.v .yk]⟩ (cur1 a96) w1 u1 .n []
def l18:=mk 247 Tryz.f247 ⟨[.rp 140 .yh,.v .z9],[.v .z9]⟩ (cur2 a3a) w1 u1 (.s .n (.s (.s .n (.l [0,1] [] [.v 5 .z9] .n)) .n)) [j39,K321,K322]
def i9f:Sig VV:=⟨[.io 140 .yh,.v .z9],[.v .zk]⟩
def j04 (R:eQ):Fent VV:=⟨i9f,Expr×rQ,fun x=>R.f_pensionref5_reader_expr x.1 x.2.1,fun b=>((b.1,()),(b.2,())),none⟩
def j8t:Fent VV:=j04 (c8 FU)
def j5v:Ress VV i9f.rs×Outs VV i9f.ps -> Expr×rQ:=fun p=>(p.1.1,p.2.1)
def j5j:Ann VV.C:=(.s .n (.s .n (.s .n (.s .n (.s (.l [1] [] [.bx 0 0 140 .yh,.of 4 4 3 83 .zk,.bm 4 2 83 .zk [(4,3)],.bx 8 4 83 .zk] .n) .n)))))
def k4a:Sig VV:=⟨[.io 140 .yh],[.v .zk]⟩
def k4c (R:eQ):Fent VV:=⟨k4a,Expr×rQ,fun x=>R.f_pensionref5_reader_factor x.1,fun b=>((b.1,()),(b.2,())),none⟩
def k7a:Ress VV k4a.rs×Outs VV k4a.ps -> Expr×rQ:=fun p=>(p.1.1,p.2.1)
def k82:Ann VV.C:= .n
def i9s:Sig VV:=⟨[.io 140 .yh,.v .z9],[.v .zk]⟩
def j02 (R:eQ):Fent VV:=⟨i9s,Expr×rQ,fun x=>R.f_pensionref5_reader_call x.1 x.2.1,fun b=>((b.1,()),(b.2,())),none⟩
def j5c:Ress VV i9s.rs×Outs VV i9s.ps -> Expr×rQ:=fun p=>(p.1.1,p.2.1)
def j58:Ann VV.C:= .n
def j6n (R:eQ):Phi VV:=fun f ys=>lkF f ys [K52.e,K55.e,(176,j04 R),(246,k4c R),l18.e]
def j86 (R:eQ)(hr176:SX.Spec Tryz.prog 176 (j04 R))(hr246:SX.Spec Tryz.prog 246 (k4c R)):OKΦ Tryz.prog (j6n R):=okl ⟨K52.ok,K55.ok,knS rfl ⟨hr176,fun _ _=>by kernel_rfl⟩,knS rfl ⟨hr246,fun _ _=>by kernel_rfl⟩,l18.ok,trivial⟩
def j9x (R:eQ): ∀x,c5v Tryz.prog (j6n R) i9f j5v Tryz.f176 j5j x=a3b R x.1 x.2.1:=fun x=>by kernel_rfl
def j6x:c67 Tryz.f176 i9f=true:=by kernel_rfl
def k6z (R:eQ):Phi VV:=fun f ys=>lkF f ys [K52.e,K53.e,K54.e,K55.e,K97.e,K99.e,j39.e,(176,j04 R),(320,j02 R)]
def k8h (R:eQ)(hr176:SX.Spec Tryz.prog 176 (j04 R))(hr320:SX.Spec Tryz.prog 320 (j02 R)):OKΦ Tryz.prog (k6z R):=okl ⟨K52.ok,K53.ok,K54.ok,K55.ok,K97.ok,K99.ok,j39.ok,knS rfl ⟨hr176,fun _ _=>by kernel_rfl⟩,knS rfl ⟨hr320,fun _ _=>by kernel_rfl⟩,trivial⟩
def l06 (R:eQ): ∀x,c5v Tryz.prog (k6z R) k4a k7a Tryz.f246 k82 x=a2a R x.1:=fun x=>by kernel_rfl
def k6m:c67 Tryz.f246 k4a=true:=by kernel_rfl
def j6e (R:eQ):Phi VV:=fun f ys=>lkF f ys [K52.e,(176,j04 R),m01.e]
def j7z (R:eQ)(hr176:SX.Spec Tryz.prog 176 (j04 R)):OKΦ Tryz.prog (j6e R):=okl ⟨K52.ok,knS rfl ⟨hr176,fun _ _=>by kernel_rfl⟩,m01.ok,trivial⟩
def j8x (R:eQ): ∀x,c5v Tryz.prog (j6e R) i9s j5c Tryz.f320 j58 x=a3d R x.1 x.2.1:=fun x=>by kernel_rfl
def j5g:c67 Tryz.f320 i9s=true:=by kernel_rfl
def a7d: ∀n,SX.Spec Tryz.prog 176 (j04 (c8 n)) /\ SX.Spec Tryz.prog 246 (k4c (c8 n)) /\ SX.Spec Tryz.prog 320 (j02 (c8 n))
 | 0=>⟨(fun _ _ h=>(by cases (show none=some _ from h))),(fun _ _ h=>(by cases (show none=some _ from h))),(fun _ _ h=>(by cases (show none=some _ from h)))⟩
 | n+1=>let ⟨h176,h246,h320⟩:=a7d n;⟨a2m (fe:=j04 (c8 (n+1))) uok (j86 (c8 n) h176 h246) mixed (fn:=Tryz.f176) (by kernel_rfl) j5v j5j (d8 j6x).1 (d8 j6x).2 (fun _=>rfl) (j9x (c8 n)),a2m (fe:=k4c (c8 (n+1))) uok (k8h (c8 n) h176 h320) mixed (fn:=Tryz.f246) (by kernel_rfl) k7a k82 (d8 k6m).1 (d8 k6m).2 (fun _=>rfl) (l06 (c8 n)),a2m (fe:=j02 (c8 (n+1))) uok (j7z (c8 n) h176) mixed (fn:=Tryz.f320) (by kernel_rfl) j5c j58 (d8 j5g).1 (d8 j5g).2 (fun _=>rfl) (j8x (c8 n))⟩
def K176:Kn Tryz.prog VV:=⟨176,j8t,knS rfl ⟨(a7d FU).1,fun _ _=>by kernel_rfl⟩⟩
def k1q:=mk 103 Tryz.f103 ⟨[.io 140 .yh,.im 65 .y7 [(2,2),(3,3),(4,4),(5,5),(6,6)],.po 1 2 177 .zi,.po 1 3 179 .zn,.po 1 4 168 .zp,.po 1 5 85 .zm,.po 1 6 126 .zu],[]⟩ (fun x=>a39 x.1 x.2.1 x.2.2.1 x.2.2.2.1 x.2.2.2.2.1 x.2.2.2.2.2.1 x.2.2.2.2.2.2.1) (fun b=>((),(b.1,(b.2.1,(b.2.2.1,(b.2.2.2.1,(b.2.2.2.2.1,(b.2.2.2.2.2.1,(b.2.2.2.2.2.2,()))))))))) (fun p=>(p.2.1,p.2.2.1,p.2.2.2.1,p.2.2.2.2.1,p.2.2.2.2.2.1,p.2.2.2.2.2.2.1,p.2.2.2.2.2.2.2.1)) (.s (.s .n (.s (.s .n (.j [] [.bx 0 0 140 .yh,.of 1 2 7 177 .zi,.of 1 3 8 179 .zn,.of 1 4 9 168 .zp,.of 1 5 10 85 .zm,.of 1 6 11 126 .zu,.bm 1 1 65 .y7 [(2,7),(3,8),(4,9),(5,10),(6,11)],.bx 4 12 177 .zi] .n .n)) (.s .n (.s (.s .n (.j [] [.bx 0 0 140 .yh,.of 1 2 7 177 .zi,.of 1 3 8 179 .zn,.of 1 4 9 168 .zp,.of 1 5 10 85 .zm,.of 1 6 11 126 .zu,.bm 1 1 65 .y7 [(2,7),(3,8),(4,9),(5,10),(6,11)],.bx 6 12 179 .zn] .n (.j [] [.bx 0 0 140 .yh,.of 1 2 7 177 .zi,.of 1 3 8 179 .zn,.of 1 4 9 168 .zp,.of 1 5 10 85 .zm,.of 1 6 11 126 .zu,.bm 1 1 65 .y7 [(2,7),(3,8),(4,9),(5,10),(6,11)],.bx 6 12 179 .zn] .n .n))) .n)))) .n) [K52,K53,K54,K55,K96,K97,K99,k12,K176]
def K56:=mk 56 Tryz.f56 ⟨[.io 140 .yh],[.v .y7]⟩ (cur1 a2o) (fun b=>((b.1,()),(b.2,()))) (fun p=>(p.1.1,p.2.1)) (sk 3 (.j [] [.bx 0 0 140 .yh,.of 2 2 2 177 .zi,.of 2 3 3 179 .zn,.of 2 4 4 168 .zp,.of 2 5 5 85 .zm,.of 2 6 6 126 .zu,.bm 2 1 65 .y7 [(2,2),(3,3),(4,4),(5,5),(6,6)],.of 3 2 8 177 .zi,.of 3 3 9 179 .zn,.of 3 4 10 168 .zp,.of 3 5 11 85 .zm,.of 3 6 12 126 .zu,.bm 3 7 65 .y7 [(2,8),(3,9),(4,10),(5,11),(6,12)]] .n (.s .n (.s .n (.s .n (.s .n (.s .n (.s (.l [] [] [.bx 0 0 140 .yh,.of 2 2 2 177 .zi,.of 2 3 3 179 .zn,.of 2 4 4 168 .zp,.of 2 5 5 85 .zm,.of 2 6 6 126 .zu,.bm 2 1 65 .y7 [(2,2),(3,3),(4,4),(5,5),(6,6)],.of 3 2 8 177 .zi,.of 3 3 9 179 .zn,.of 3 4 10 168 .zp,.of 3 5 11 85 .zm,.of 3 6 12 126 .zu,.bm 3 7 65 .y7 [(2,8),(3,9),(4,10),(5,11),(6,12)]] (.s (.s (.g [5]) .n) .n)) .n)))))))) [K52,K54,K55,K96,K97,k1f,k12,k1q]
def K57:=mk 57 Tryz.f57 ⟨[.rp 140 .yh],[.v .z9]⟩ (cur1 a3s) w1 u1 .n []
def K48:=mk 48 Tryz.f48 ⟨[.v .z9],[.v .z8]⟩ (cur1 a6n) w1 u1 .n []
def l0v:=mk 177 Tryz.f177 ⟨[.v .zw],[.v .z8]⟩ (cur1 a3c) w1 u1 .n []
def K178:=mk 178 Tryz.f178 ⟨[.v .z9,.v .z9],[.v .yk]⟩ (cur2 a3t) w1 u1 (sk 2 (.s (.s .n (.l [0,1] [] [.ow 5 2 9 .yk,.v 6 .z9] .n)) .n)) [K173,K174,K175]
def k22:=mk 141 Tryz.f141 ⟨[.v .zl],[.v .z8]⟩ (cur1 a1h) w1 u1 .n [K31,K62]
def k1k:=mk 323 Tryz.f323 ⟨[.v .z9,.v .z9],[.v .yk]⟩ (cur2 a5w) w1 u1 (sk 2 (.s (.l [1] [] [.v 0 .z9,.v 5 .yk] .n) .n)) []
def K248:=mk 248 Tryz.f248 ⟨[.v .zl],[.v .yk]⟩ (cur1 a2n) w1 u1 (sk 3 (.j [] [.bx 1 1 34 .zl,.v 3 .yk] .n .n)) [K31,k22,k1k]
def m09:=mk 179 Tryz.f179 ⟨[.v .zl,.v .z9],[.v .yk,.v .z8]⟩ (cur2 a1g) w2 u2 (sk 6 (.j [] [.v 1 .z9,.v 7 .yk,.v 8 .z9] .n (.s (.s .n (.l [1] [] [.v 7 .yk,.v 8 .z9,.v 9 .z9] .n)) .n))) [k22,K248]
def i0o:Sig VV:=⟨[.v .zk],[.v .z9]⟩
def i0w (R:Ring_pensionref5_Depth):Fent VV:=⟨i0o,Int,fun x=>R.f_pensionref5_Depth x.1,fun b=>((b,()),()),none⟩
def l91:Fent VV:=i0w (s5 FU)
def l5s:Ress VV i0o.rs×Outs VV i0o.ps -> Int:=fun p=>p.1.1
def l4v:Ann VV.C:=(.s .n (.s .n (.s (.s .n (.l [] [] [.bx 1 1 83 .zk,.v 3 .z9,.v 4 .z9] .n)) .n)))
def l5z (R:Ring_pensionref5_Depth):Phi VV:=fun f ys=>lkF f ys [(249,i0w R)]
def l6s (R:Ring_pensionref5_Depth)(hr249:SX.Spec Tryz.prog 249 (i0w R)):OKΦ Tryz.prog (l5z R):=okl ⟨knS rfl ⟨hr249,fun _ _=>by kernel_rfl⟩,trivial⟩
def l7y (R:Ring_pensionref5_Depth): ∀x,c5v Tryz.prog (l5z R) i0o l5s Tryz.f249 l4v x=a7r R x.1:=fun x=>by kernel_rfl
def l4n:c67 Tryz.f249 i0o=true:=by kernel_rfl
def b0v: ∀n,SX.Spec Tryz.prog 249 (i0w (s5 n))
 | 0=>(fun _ _ h=>(by cases (show none=some _ from h)))
 | n+1=>let h249:=b0v n;a2m (fe:=i0w (s5 (n+1))) uok (l6s (s5 n) h249) mixed (fn:=Tryz.f249) (by kernel_rfl) l5s l4v (d8 l4n).1 (d8 l4n).2 (fun _=>rfl) (l7y (s5 n))
def h3t:Kn Tryz.prog VV:=⟨249,l91,knS rfl ⟨(b0v FU),fun _ _=>by kernel_rfl⟩⟩
def i15:Sig VV:=⟨[.v .zk],[.v .z9]⟩
def i0x (R:Ring_pensionref5_Size):Fent VV:=⟨i15,Int,fun x=>R.f_pensionref5_Size x.1,fun b=>((b,()),()),none⟩
def l7s:Fent VV:=i0x (u7 FU)
def l5k:Ress VV i15.rs×Outs VV i15.ps -> Int:=fun p=>p.1.1
def l67:Ann VV.C:=(.s .n (.s .n (.s (.s .n (.l [] [] [.bx 1 1 83 .zk,.v 3 .z9,.v 4 .z9] .n)) .n)))
def l4j (R:Ring_pensionref5_Size):Phi VV:=fun f ys=>lkF f ys [(250,i0x R)]
def l6o (R:Ring_pensionref5_Size)(hr250:SX.Spec Tryz.prog 250 (i0x R)):OKΦ Tryz.prog (l4j R):=okl ⟨knS rfl ⟨hr250,fun _ _=>by kernel_rfl⟩,trivial⟩
def l9z (R:Ring_pensionref5_Size): ∀x,c5v Tryz.prog (l4j R) i15 l5k Tryz.f250 l67 x=a94 R x.1:=fun x=>by kernel_rfl
def l5p:c67 Tryz.f250 i15=true:=by kernel_rfl
def b1w: ∀n,SX.Spec Tryz.prog 250 (i0x (u7 n))
 | 0=>(fun _ _ h=>(by cases (show none=some _ from h)))
 | n+1=>let h250:=b1w n;a2m (fe:=i0x (u7 (n+1))) uok (l6o (u7 n) h250) mixed (fn:=Tryz.f250) (by kernel_rfl) l5k l67 (d8 l5p).1 (d8 l5p).2 (fun _=>rfl) (l9z (u7 n))
def K250:Kn Tryz.prog VV:=⟨250,l7s,knS rfl ⟨(b1w FU),fun _ _=>by kernel_rfl⟩⟩
def i0l:Sig VV:=⟨[.v .zk],[.v .z8]⟩
def i16 (R:Ring_pensionref5_formed):Fent VV:=⟨i0l,Bool,fun x=>R.f_pensionref5_formed x.1,fun b=>((b,()),()),none⟩
def l9c:Fent VV:=i16 (p7 FU)
def l57:Ress VV i0l.rs×Outs VV i0l.ps -> Bool:=fun p=>p.1.1
def l4s:Ann VV.C:=(.s .n (.s .n (.s .n (.s .n (.s (.s .n (.l [3] [] [.bx 1 1 83 .zk,.v 6 .z9] .n)) .n)))))
def l4b (R:Ring_pensionref5_formed):Phi VV:=fun f ys=>lkF f ys [K98.e,m09.e,(251,i16 R),m01.e]
def l6q (R:Ring_pensionref5_formed)(hr251:SX.Spec Tryz.prog 251 (i16 R)):OKΦ Tryz.prog (l4b R):=okl ⟨K98.ok,m09.ok,knS rfl ⟨hr251,fun _ _=>by kernel_rfl⟩,m01.ok,trivial⟩
def l8k (R:Ring_pensionref5_formed): ∀x,c5v Tryz.prog (l4b R) i0l l57 Tryz.f251 l4s x=a6s R x.1:=fun x=>by kernel_rfl
def l4d:c67 Tryz.f251 i0l=true:=by kernel_rfl
def b0n: ∀n,SX.Spec Tryz.prog 251 (i16 (p7 n))
 | 0=>(fun _ _ h=>(by cases (show none=some _ from h)))
 | n+1=>let h251:=b0n n;a2m (fe:=i16 (p7 (n+1))) uok (l6q (p7 n) h251) mixed (fn:=Tryz.f251) (by kernel_rfl) l57 l4s (d8 l4d).1 (d8 l4d).2 (fun _=>rfl) (l8k (p7 n))
def K251:Kn Tryz.prog VV:=⟨251,l9c,knS rfl ⟨(b0n FU),fun _ _=>by kernel_rfl⟩⟩
def K180:=mk 180 Tryz.f180 ⟨[.v .zk],[.v .z8]⟩ (cur1 a0g) w1 u1 .n [h3t,K250,K251]
def k26:=mk 104 Tryz.f104 ⟨[.v .y7],[.v .z8]⟩ (cur1 a3n) w1 u1 (sk 2 (.s (.s .n (.l [] [] [.bx 1 1 65 .y7,.v 3 .z9] .n)) (.s (.s .n (.l [] [] [.bx 1 1 65 .y7,.v 4 .z9] .n)) (.s (.s .n (.l [] [] [.bx 1 1 65 .y7,.v 7 .z9] .n)) (.s (.s .n (.l [] [] [.bx 1 1 65 .y7,.v 8 .z9] .n)) (.s (.s .n (.l [] [] [.bx 1 1 65 .y7,.v 9 .z9] .n)) .n)))))) [K48,K98,l0v,K178,m09,K180]
def K58:=mk 58 Tryz.f58 ⟨[.v .y2],[.v .z8]⟩ (cur1 b00) w1 u1 (sk 2 (.s (.s .n (.l [] [] [.bx 1 1 52 .y2,.v 3 .z9] .n)) .n)) [K98,k26]
def K26:=mk 26 Tryz.f26 ⟨[.v .yk],[.v .y2,.v .z9,.v .z9]⟩ (cur1 a9z) w3 u3 (sk 8 (.j [] [.of 2 2 2 65 .y7,.bm 2 1 52 .y2 [(2,2)],.bx 5 3 140 .yh,.of 8 2 5 65 .y7,.bm 8 4 52 .y2 [(2,5)]] (.s .n (.l [] [] [.of 2 2 2 65 .y7,.bm 2 1 52 .y2 [(2,2)],.bx 5 3 140 .yh,.of 8 2 5 65 .y7,.bm 8 4 52 .y2 [(2,5)],.v 9 .z8] (.j [] [.of 2 2 2 65 .y7,.bm 2 1 52 .y2 [(2,2)],.bx 5 3 140 .yh,.of 8 2 5 65 .y7,.bm 8 4 52 .y2 [(2,5)]] (.s (.g [5,7]) .n) .n))) .n)) [K51,K52,K53,K54,K55,K56,K57,K58]
def m0m:Fent VV:=⟨⟨[],[]⟩,Unit,fun _=>none,fun _=>((),()),some (.qy (m0k (U:=VV) .z9 .zo [(0,54,.y1),(1,69,.zx)] b11))⟩
def K14:Kn Tryz.prog VV:=⟨14,m0m,show d6v _ _ _ from i3p (U:=VV) uok mixed (okl (f8d [K26,K27,K28,K29])) (fn:=Tryz.f14) (an:=(.s .n (.s .n (.s (.s .n (.l [0] [] [.of 2 0 2 54 .y1,.of 2 1 3 69 .zx,.of 2 2 4 56 .zt,.bm 2 1 29 .zo [(0,2),(1,3),(2,4)],.of 3 0 6 54 .y1,.of 3 1 7 69 .zx,.bm 3 5 29 .zo [(0,6),(1,7)],.v 4 .z9] .n)) (.s .n (.s .n (.s .n (.s (.g [4000]) .n)))))))) (cp:= .z9) (c:= .zo) (m:=[(0,54,.y1),(1,69,.zx)]) (F:=b11) (by kernel_rfl) (a14 (fn:=Tryz.f14) (by kernel_rfl) (by kernel_rfl) (by kernel_rfl)) (by kernel_rfl) (fun l b h=>Eq.trans (by kernel_rfl) h) (by kernel_rfl)⟩
def K6:=mk 6 Tryz.f6 ⟨[.v .z9,.v .z9],[.v .z9]⟩ (cur2 a40) w1 u1 .n []
def K4:=mk 4 Tryz.f4 ⟨[.ls .z9,.v .z9],[.v .zo]⟩ (cur2 b3p) w1 u1 .n [K6,K14]
def K5:=mk 5 Tryz.f5 ⟨[.v .z9],[.v .z9]⟩ (cur1 b5f) w1 u1 .n [K6]
def K7:=mk 7 Tryz.f7 ⟨[.v .yf],[.v .y8]⟩ (cur1 h6t) w1 u1 (sk 2 (.s (.s .n (.l [] [] [.bx 1 1 24 .yf,.of 2 11 3 3 .z9,.bm 2 2 36 .y8 [(11,3)],.bx 3 4 66 .z6,.v 4 .z9] .n)) (.s .n (.s .n (.s (.s .n (.l [] [] [.bx 1 1 24 .yf,.of 2 11 3 3 .z9,.bm 2 2 36 .y8 [(11,3)],.of 7 11 5 3 .z9,.bm 7 4 36 .y8 [(11,5)],.v 8 .z9] .n)) .n))))) [K6,K15]
def K325:=mk 325 Tryz.f325 ⟨[.v .yn],[.v .z8]⟩ (cur1 b6l) w1 u1 .n []
def K378:=mk 378 Tryz.f378 ⟨[.v .yn],[.v .z8]⟩ (cur1 b74) w1 u1 .n []
def K326:=mk 326 Tryz.f326 ⟨[.v .yn],[.v .z8]⟩ (cur1 c1b) w1 u1 .n [K325,K378]
def K253:=mk 253 Tryz.f253 ⟨[.v .yk],[.v .z8]⟩ (cur1 b7f) w1 u1 (sk 2 (.s (.s .n (.l [0] [] [.v 3 .z9] .n)) .n)) [K325,K326]
def K254:=mk 254 Tryz.f254 ⟨[.v .yk],[.v .z8]⟩ (cur1 b49) w1 u1 .n []
def k1s:=mk 182 Tryz.f182 ⟨[.v .yk],[.v .z8]⟩ (cur1 b0e) w1 u1 .n [K253,K254]
def K66:=mk 66 Tryz.f66 ⟨[.v .z9],[.v .z8]⟩ (cur1 m7) w1 u1 .n []
def K256:=mk 256 Tryz.f256 ⟨[],[.ow 401 .yj]⟩ (fun x=>c0l) w1 u1 .n []
def K328:=mk 328 Tryz.f328 ⟨[.v .yj,.rp 3 .z9],[.v .z8]⟩ (cur2 b3q) w1 u1 .n []
def l3r:=mk 327 Tryz.f327 ⟨[.ls .yj,.cl 328 [.z9]],[.v .z9]⟩ (fun x=>a0b x.1 x.2.1.1) w1 u1 (.s .n (.s (.s .n (.l [0,1,7] [] [.v 8 .z9] .n)) .n)) [K328]
def k1e:=mk 255 Tryz.f255 ⟨[.ls .yj,.v .z9],[.v .yk]⟩ (cur2 a4u) w1 u1 .n [l3r]
def k20:=mk 257 Tryz.f257 ⟨[],[.ow 401 .yj]⟩ (fun x=>c1i) w1 u1 .n []
def K445:=mk 445 Tryz.f445 ⟨[.v .yk,.v .yn],[.v .z9]⟩ (cur2 a9d) w1 u1 .n [K457]
def K458:=mk 458 Tryz.f458 ⟨[.v .yk],[.v .yl,.v .yl]⟩ (cur1 b0t) w2 u2 (sk 2 (.s (.s .n (.l [0] [] [.v 4 .yl,.v 5 .z9] .n)) (.s .n (.s (.s .n (.l [4] [] [.v 6 .yl,.v 7 .yl,.v 8 .z9] .n)) .n)))) []
def K448:=mk 448 Tryz.f448 ⟨[.v .yk,.v .yk],[.v .z9]⟩ (cur2 b36) w1 u1 (sk 4 (.s (.s .n (.l [0,1,5,6,7] [] [.v 8 .yl,.v 9 .z9] .n)) (.s .n (.s (.s .n (.l [0,1,5,6,7] [] [.v 8 .yl,.v 10 .z9] .n)) .n)))) [K458]
def K428:=mk 428 Tryz.f428 ⟨[.v .yk,.v .yk],[.v .z9]⟩ (cur2 a6y) w1 u1 .n [K445]
def K436:=mk 436 Tryz.f436 ⟨[.v .yk,.v .yk],[.v .yk,.v .yk,.v .z8]⟩ (cur2 b72) w3 u3 .n [K428]
def K421:=mk 421 Tryz.f421 ⟨[.v .yk,.v .yk],[.v .yk,.v .yk,.v .z8]⟩ (cur2 b9e) w3 u3 .n [K436]
def K422:=mk 422 Tryz.f422 ⟨[.v .yk],[.v .z9,.v .z8]⟩ (cur1 b2i) w2 u2 (.s .n (.s (.s .n (.l [0] [] [.v 2 .z9,.v 4 .z9] .n)) .n)) [K378]
def h2j:=mk 380 Tryz.f380 ⟨[.v .yk],[.v .zl,.v .z9,.v .z8]⟩ (cur1 b69) w3 u3 (sk 2 (.j [] [.v 0 .yk,.bx 2 1 34 .zl,.v 3 .z9] .n (.s .n (.s .n (.s .n (.s .n (.s .n (.s .n (.j [] [.bx 2 1 34 .zl,.v 3 .z9,.v 9 .z9,.v 11 .z9] (.s .n (.l [3,11] [] [.bx 2 1 34 .zl,.v 9 .z9,.it 100 2] .n)) (.s .n (.s (.s .n (.l [3,113] [] [.bx 2 1 34 .zl,.v 114 .z9] (.s .n (.s .n (.s (.s .n (.l [3,14,113,114] [] [.bx 2 1 34 .zl] .n)) .n))))) .n))))))))))) [K421,K422]
def K329:=mk 329 Tryz.f329 ⟨[.v .zl,.v .z9],[.v .yk,.v .z8]⟩ (cur2 a4y) w2 u2 (sk 4 (.s (.s .n (.l [1] [] [.bx 2 2 34 .zl,.v 6 .yk,.v 7 .z9,.v 8 .z9] (.s .n (.s (.j [] [.v 1 .z9,.bx 2 2 34 .zl,.v 6 .yk,.v 7 .z9,.v 8 .z9] .n .n) .n)))) (.j [] [.v 1 .z9,.bx 2 2 34 .zl,.v 6 .yk] .n .n))) [K379,h2j]
def K330:=mk 330 Tryz.f330 ⟨[.v .z9],[.v .z8]⟩ (cur1 b59) w1 u1 .n []
def K258:=mk 258 Tryz.f258 ⟨[.v .zn],[.v .z8]⟩ (cur1 b07) w1 u1 .n [K329,K330]
def k3q:Sig VV:=⟨[.v .zk],[.v .z9]⟩
def k42 (R:Ring_syntax_Depth):Fent VV:=⟨k3q,Int,fun x=>R.f_syntax_Depth x.1,fun b=>((b,()),()),none⟩
def k9p:Fent VV:=k42 (a0r FU)
def k6e:Ress VV k3q.rs×Outs VV k3q.ps -> Int:=fun p=>p.1.1
def k7g:Ann VV.C:=(.s .n (.s .n (.s (.s .n (.l [7,8] [] [.v 3 .z9,.v 9 .z9] .n)) .n)))
def k7f (R:Ring_syntax_Depth):Phi VV:=fun f ys=>lkF f ys [(331,k42 R)]
def k8j (R:Ring_syntax_Depth)(hr331:SX.Spec Tryz.prog 331 (k42 R)):OKΦ Tryz.prog (k7f R):=okl ⟨knS rfl ⟨hr331,fun _ _=>by kernel_rfl⟩,trivial⟩
def k9n (R:Ring_syntax_Depth): ∀x,c5v Tryz.prog (k7f R) k3q k6e Tryz.f331 k7g x=b86 R x.1:=fun x=>by kernel_rfl
def k78:c67 Tryz.f331 k3q=true:=by kernel_rfl
def b5h: ∀n,SX.Spec Tryz.prog 331 (k42 (a0r n))
 | 0=>(fun _ _ h=>(by cases (show none=some _ from h)))
 | n+1=>let h331:=b5h n;a2m (fe:=k42 (a0r (n+1))) uok (k8j (a0r n) h331) mixed (fn:=Tryz.f331) (by kernel_rfl) k6e k7g (d8 k78).1 (d8 k78).2 (fun _=>rfl) (k9n (a0r n))
def K331:Kn Tryz.prog VV:=⟨331,k9p,knS rfl ⟨(b5h FU),fun _ _=>by kernel_rfl⟩⟩
def i1b:Sig VV:=⟨[.v .zk],[.v .z9]⟩
def i0r (R:Ring_syntax_Size):Fent VV:=⟨i1b,Int,fun x=>R.f_syntax_Size x.1,fun b=>((b,()),()),none⟩
def l9e:Fent VV:=i0r (a1j FU)
def l5j:Ress VV i1b.rs×Outs VV i1b.ps -> Int:=fun p=>p.1.1
def l50:Ann VV.C:=(.s .n (.s .n (.s (.s .n (.l [7,8] [] [.v 3 .z9,.v 9 .z9] .n)) .n)))
def l63 (R:Ring_syntax_Size):Phi VV:=fun f ys=>lkF f ys [(332,i0r R)]
def l6i (R:Ring_syntax_Size)(hr332:SX.Spec Tryz.prog 332 (i0r R)):OKΦ Tryz.prog (l63 R):=okl ⟨knS rfl ⟨hr332,fun _ _=>by kernel_rfl⟩,trivial⟩
def l9d (R:Ring_syntax_Size): ∀x,c5v Tryz.prog (l63 R) i1b l5j Tryz.f332 l50 x=b9x R x.1:=fun x=>by kernel_rfl
def l4p:c67 Tryz.f332 i1b=true:=by kernel_rfl
def b6s: ∀n,SX.Spec Tryz.prog 332 (i0r (a1j n))
 | 0=>(fun _ _ h=>(by cases (show none=some _ from h)))
 | n+1=>let h332:=b6s n;a2m (fe:=i0r (a1j (n+1))) uok (l6i (a1j n) h332) mixed (fn:=Tryz.f332) (by kernel_rfl) l5j l50 (d8 l4p).1 (d8 l4p).2 (fun _=>rfl) (l9d (a1j n))
def K332:Kn Tryz.prog VV:=⟨332,l9e,knS rfl ⟨(b6s FU),fun _ _=>by kernel_rfl⟩⟩
def K423:=mk 423 Tryz.f423 ⟨[.v .z9],[.v .z9]⟩ (cur1 b84) w1 u1 .n []
def K381:=mk 381 Tryz.f381 ⟨[.v .zk],[.v .z8]⟩ (cur1 c05) w1 u1 .n [k1s,K329,K423]
def i0s:Sig VV:=⟨[.v .zk],[.v .z8]⟩
def i0y (R:Ring_syntax_form):Fent VV:=⟨i0s,Bool,fun x=>R.f_syntax_form x.1,fun b=>((b,()),()),none⟩
def l94:Fent VV:=i0y (e6 FU)
def l4l:Ress VV i0s.rs×Outs VV i0s.ps -> Bool:=fun p=>p.1.1
def l5h:Ann VV.C:= .n
def k3y:Sig VV:=⟨[.v .zk],[.v .z8]⟩
def k4x (R:Ring_syntax_form):Fent VV:=⟨k3y,Bool,fun x=>R.f_syntax_form_1 x.1,fun b=>((b,()),()),none⟩
def k83:Ress VV k3y.rs×Outs VV k3y.ps -> Bool:=fun p=>p.1.1
def k7y:Ann VV.C:= .n
def h8f:Sig VV:=⟨[.ls .zk,.cl 382 []],[.v .z8]⟩
def h8t (R:Ring_syntax_form):Fent VV:=⟨h8f,Bool,fun x=>R.f_slices_ContainsFunc_of_api_Expr x.1,fun b=>((b,()),()),none⟩
def i06:Ress VV h8f.rs×Outs VV h8f.ps -> Bool:=fun p=>p.1.1
def h9q:Ann VV.C:= .n
def h8j:Sig VV:=⟨[.ls .zk,.cl 382 []],[.v .z9]⟩
def h8s (R:Ring_syntax_form):Fent VV:=⟨h8j,Int,fun x=>R.f_slices_IndexFunc_of_api_Expr x.1,fun b=>((b,()),()),none⟩
def i01:Ress VV h8j.rs×Outs VV h8j.ps -> Int:=fun p=>p.1.1
def h9t:Ann VV.C:=(.s .n (.s (.s .n (.l [0,1,7] [] [.v 8 .z9] .n)) .n))
def l5t (R:Ring_syntax_form):Phi VV:=fun f ys=>lkF f ys [(196,h8t R),K381.e]
def l6d (R:Ring_syntax_form)(hr196:SX.Spec Tryz.prog 196 (h8t R)):OKΦ Tryz.prog (l5t R):=okl ⟨knS rfl ⟨hr196,fun _ _=>by kernel_rfl⟩,K381.ok,trivial⟩
def l7e (R:Ring_syntax_form): ∀x,c5v Tryz.prog (l5t R) i0s l4l Tryz.f333 l5h x=b60 R x.1:=fun x=>by kernel_rfl
def l4q:c67 Tryz.f333 i0s=true:=by kernel_rfl
def k6i (R:Ring_syntax_form):Phi VV:=fun f ys=>lkF f ys [(333,i0y R)]
def k8e (R:Ring_syntax_form)(hr333:SX.Spec Tryz.prog 333 (i0y R)):OKΦ Tryz.prog (k6i R):=okl ⟨knS rfl ⟨hr333,fun _ _=>by kernel_rfl⟩,trivial⟩
def k9f (R:Ring_syntax_form): ∀x,c5v Tryz.prog (k6i R) k3y k83 Tryz.f382 k7y x=c0q R x.1:=fun x=>by kernel_rfl
def k6h:c67 Tryz.f382 k3y=true:=by kernel_rfl
def h9v (R:Ring_syntax_form):Phi VV:=fun f ys=>lkF f ys [(266,h8s R)]
def i1r (R:Ring_syntax_form)(hr266:SX.Spec Tryz.prog 266 (h8s R)):OKΦ Tryz.prog (h9v R):=okl ⟨knS rfl ⟨hr266,fun _ _=>by kernel_rfl⟩,trivial⟩
def i2d (R:Ring_syntax_form): ∀x,c5v Tryz.prog (h9v R) h8f i06 Tryz.f196 h9q x=a0y R x.1:=fun x=>by kernel_rfl
def h9w:c67 Tryz.f196 h8f=true:=by kernel_rfl
def i05 (R:Ring_syntax_form):Phi VV:=fun f ys=>lkF f ys [(382,k4x R)]
def i1m (R:Ring_syntax_form)(hr382:SX.Spec Tryz.prog 382 (k4x R)):OKΦ Tryz.prog (i05 R):=okl ⟨knS rfl ⟨hr382,fun _ _=>by kernel_rfl⟩,trivial⟩
def i2a (R:Ring_syntax_form): ∀x,c5v Tryz.prog (i05 R) h8j i01 Tryz.f266 h9t x=a1m R x.1:=fun x=>by kernel_rfl
def i07:c67 Tryz.f266 h8j=true:=by kernel_rfl
def b6p: ∀n,SX.Spec Tryz.prog 333 (i0y (e6 n)) /\ SX.Spec Tryz.prog 382 (k4x (e6 n)) /\ SX.Spec Tryz.prog 196 (h8t (e6 n)) /\ SX.Spec Tryz.prog 266 (h8s (e6 n))
 | 0=>⟨(fun _ _ h=>(by cases (show none=some _ from h))),(fun _ _ h=>(by cases (show none=some _ from h))),(fun _ _ h=>(by cases (show none=some _ from h))),(fun _ _ h=>(by cases (show none=some _ from h)))⟩
 | n+1=>let ⟨h333,h382,h196,h266⟩:=b6p n;⟨a2m (fe:=i0y (e6 (n+1))) uok (l6d (e6 n) h196) mixed (fn:=Tryz.f333) (by kernel_rfl) l4l l5h (d8 l4q).1 (d8 l4q).2 (fun _=>rfl) (l7e (e6 n)),a2m (fe:=k4x (e6 (n+1))) uok (k8e (e6 n) h333) mixed (fn:=Tryz.f382) (by kernel_rfl) k83 k7y (d8 k6h).1 (d8 k6h).2 (fun _=>rfl) (k9f (e6 n)),a2m (fe:=h8t (e6 (n+1))) uok (i1r (e6 n) h266) mixed (fn:=Tryz.f196) (by kernel_rfl) i06 h9q (d8 h9w).1 (d8 h9w).2 (fun _=>rfl) (i2d (e6 n)),a2m (fe:=h8s (e6 (n+1))) uok (i1m (e6 n) h382) mixed (fn:=Tryz.f266) (by kernel_rfl) i01 h9t (d8 i07).1 (d8 i07).2 (fun _=>rfl) (i2a (e6 n))⟩
def K333:Kn Tryz.prog VV:=⟨333,l94,knS rfl ⟨(b6p FU).1,fun _ _=>by kernel_rfl⟩⟩
def m0n:=mk 259 Tryz.f259 ⟨[.v .zk],[.v .z8]⟩ (cur1 a1k) w1 u1 .n [K331,K332,K333]
def K260:=mk 260 Tryz.f260 ⟨[],[.ow 401 .yj]⟩ (fun x=>b2d) w1 u1 .n []
def K183:=mk 183 Tryz.f183 ⟨[.v .y7],[.v .z8]⟩ (cur1 a7q) w1 u1 (.s .n (.j [] [.bx 1 1 65 .y7] (.s (.g [4]) .n) (.s .n (.j [] [.bx 1 1 65 .y7] (.s .n (.l [66,67] [] [.bx 1 1 65 .y7,.v 68 .z9] .n)) (.j [] [.bx 1 1 65 .y7] (.s .n (.l [89,90] [] [.bx 1 1 65 .y7,.v 91 .z9] .n)) (.j [] [.bx 1 1 65 .y7] (.s .n (.l [100,101] [] [.bx 1 1 65 .y7,.v 102 .z9] .n)) (.j [] [.bx 1 1 65 .y7] (.s .n (.l [118,119] [] [.bx 1 1 65 .y7,.v 120 .z9] .n)) (.s (.s .n (.l [143,144] [] [.v 145 .z9] .n)) .n)))))))) [K66,k1s,k1e,K256,k20,K258,m0n,K260]
def g7z:=mk 107 Tryz.f107 ⟨[.v .y2],[.v .z8]⟩ (cur1 b7h) w1 u1 (sk 2 (.s (.s .n (.l [32,33] [] [.v 34 .z9] .n)) .n)) [k1s,K183]
def g6r:=mk 190 Tryz.f190 ⟨[.v .yk],[.v .z9,.v .z8]⟩ (cur1 b4n) w2 u2 (.s .n (.s (.s .n (.j [] [.v 4 .yk,.v 5 .z8] .n (.s .n (.j [] [.v 4 .yk,.v 9 .z8] .n .n)))) .n)) []
def K191:=mk 191 Tryz.f191 ⟨[.v .yk],[.v .z8]⟩ (cur1 b9o) w1 u1 .n [m0n]
def K193:=mk 193 Tryz.f193 ⟨[.v .zg,.rp 168 .zp],[.v .z8]⟩ (cur2 b9r) w1 u1 .n []
def K264:=mk 264 Tryz.f264 ⟨[.v .zg],[.v .z8]⟩ (cur1 b42) w1 u1 .n []
def K334:=mkR 334 Tryz.f334 ⟨[.v .yk,.ls .zg],[.v .z9,.v .z8]⟩ (cur2 b6c) w2 u2 (sk 2 (.s (.s .n (.l [] [] [.bx 2 2 9 .yk,.bx 4 3 3 .z9,.bx 5 4 4 .z8] (.s .n .n))) .n)) [g6r,K383]
def K335:=mk 335 Tryz.f335 ⟨[.v .z9,.ls .z9],[.v .z9,.v .z8]⟩ (cur2 b9i) w2 u2 (.s .n (.s (.s .n (.j [] [.ls 1 .z9,.v 6 .z9,.v 7 .z8] .n (.s .n (.s .n (.s .n (.j [] [.ls 1 .z9,.v 6 .z9,.v 23 .z8] .n (.s .n (.s .n (.s .n (.s .n (.s .n (.j [] [.ls 1 .z9,.v 6 .z9,.v 96 .z8] .n (.s .n (.j [] [.ls 1 .z9,.v 6 .z9,.v 116 .z8] .n .n)))))))))))))) .n)) []
def i1a:Sig VV:=⟨[.v .zk,.ls .zg],[.v .z9,.v .z9]⟩
def i0n (R:Ring_typing_infer):Fent VV:=⟨i1a,Int×Int,fun x=>R.f_typing_infer x.1 x.2.1,fun b=>((b.1,(b.2,())),()),none⟩
def l9q:Fent VV:=i0n (a0v FU)
def l4f:Ress VV i1a.rs×Outs VV i1a.ps -> Int×Int:=fun p=>(p.1.1,p.1.2.1)
def l55:Ann VV.C:=(.s .n (.s .n (.s .n (.s (.s .n (.l [1,36,37] [] [.bx 2 2 83 .zk,.ow 8 3 3 .z9,.v 38 .z9] .n)) .n))))
def l54 (R:Ring_typing_infer):Phi VV:=fun f ys=>lkF f ys [(265,i0n R),K334.e,K335.e]
def l6t (R:Ring_typing_infer)(hr265:SX.Spec Tryz.prog 265 (i0n R)):OKΦ Tryz.prog (l54 R):=okl ⟨knS rfl ⟨hr265,fun _ _=>by kernel_rfl⟩,K334.ok,K335.ok,trivial⟩
def l8g (R:Ring_typing_infer): ∀x,c5v Tryz.prog (l54 R) i1a l4f Tryz.f265 l55 x=b4g R x.1 x.2.1:=fun x=>by kernel_rfl
def l5u:c67 Tryz.f265 i1a=true:=by kernel_rfl
def b5q: ∀n,SX.Spec Tryz.prog 265 (i0n (a0v n))
 | 0=>(fun _ _ h=>(by cases (show none=some _ from h)))
 | n+1=>let h265:=b5q n;a2m (fe:=i0n (a0v (n+1))) uok (l6t (a0v n) h265) mixed (fn:=Tryz.f265) (by kernel_rfl) l4f l55 (d8 l5u).1 (d8 l5u).2 (fun _=>rfl) (l8g (a0v n))
def K265:Kn Tryz.prog VV:=⟨265,l9q,knS rfl ⟨(b5q FU),fun _ _=>by kernel_rfl⟩⟩
def i3s:=mk 263 Tryz.f263 ⟨[.ls .zg,.cl 264 []],[.v .z9]⟩ (fun x=>a19 x.1) w1 u1 (.s .n (.s (.s .n (.l [0,1,7] [] [.v 8 .z9] .n)) .n)) [K264]
def l4a:=mk 192 Tryz.f192 ⟨[.ls .zg,.cl 264 []],[.v .z8]⟩ (fun x=>a0i x.1) w1 u1 .n [i3s]
def K194:=mk 194 Tryz.f194 ⟨[.v .zk,.ls .zg],[.v .z9,.v .z9]⟩ (cur2 b4y) w2 u2 .n [l4a,m0n,K265]
def i3r:=mk 263 Tryz.f263 ⟨[.ls .zg,.cl 193 [.zp]],[.v .z9]⟩ (fun x=>a1e x.1 x.2.1.1) w1 u1 (.s .n (.s (.s .n (.l [0,1,7] [] [.v 8 .z9] .n)) .n)) [K193]
def l3z:=mk 192 Tryz.f192 ⟨[.ls .zg,.cl 193 [.zp]],[.v .z8]⟩ (fun x=>a0q x.1 x.2.1.1) w1 u1 .n [i3r]
def l0w:=mk 122 Tryz.f122 ⟨[.ls .zp],[.ow 240 .zg,.v .z9]⟩ (cur1 b9n) w2 u2 (sk 3 (.s (.s .n (.l [14,15] [] [.ow 4 1 240 .zg,.v 16 .z9] .n)) .n)) [g6r,K191,l3z,K194]
def K124:=mk 124 Tryz.f124 ⟨[.v .zi,.rp 177 .zi],[.v .z8]⟩ (cur2 b5a) w1 u1 .n []
def l17:=mk 126 Tryz.f126 ⟨[.v .zm,.rp 85 .zm],[.v .z8]⟩ (cur2 b57) w1 u1 .n []
def l0l:=mk 127 Tryz.f127 ⟨[.v .zk,.ls .zg,.v .z9],[.v .z9]⟩ (cur3 b8w) w1 u1 .n [K194]
def K129:=mk 129 Tryz.f129 ⟨[.v .zu,.rp 126 .zu],[.v .z8]⟩ (cur2 b5b) w1 u1 .n []
def i1v:=mk 195 Tryz.f195 ⟨[.ls .zi,.cl 124 [.zi]],[.v .z9]⟩ (fun x=>a13 x.1 x.2.1.1) w1 u1 (.s .n (.s (.s .n (.l [0,1,7] [] [.v 8 .z9] .n)) .n)) [K124]
def l42:=mk 123 Tryz.f123 ⟨[.ls .zi,.cl 124 [.zi]],[.v .z8]⟩ (fun x=>a0e x.1 x.2.1.1) w1 u1 .n [i1v]
def l6h:=mk 37 Tryz.f37 ⟨[.ls .zm,.cl 126 [.zm]],[.v .z9]⟩ (fun x=>a15 x.1 x.2.1.1) w1 u1 (.s .n (.s (.s .n (.l [0,1,7] [] [.v 8 .z9] .n)) .n)) [l17]
def l3y:=mk 125 Tryz.f125 ⟨[.ls .zm,.cl 126 [.zm]],[.v .z8]⟩ (fun x=>a0h x.1 x.2.1.1) w1 u1 .n [l6h]
def l6y:=mk 45 Tryz.f45 ⟨[.ls .zu,.cl 129 [.zu]],[.v .z9]⟩ (fun x=>a0x x.1 x.2.1.1) w1 u1 (.s .n (.s (.s .n (.l [0,1,7] [] [.v 8 .z9] .n)) .n)) [K129]
def i3m:=mk 128 Tryz.f128 ⟨[.ls .zu,.cl 129 [.zu]],[.v .z8]⟩ (fun x=>a0d x.1 x.2.1.1) w1 u1 .n [l6y]
def K72:=mk 72 Tryz.f72 ⟨[.v .y7],[.v .z9]⟩ (cur1 b0q) w1 u1 (sk 3 (.s (.s .n (.l [26,27] [] [.bx 1 1 65 .y7,.ow 3 2 240 .zg,.v 28 .z9] .n)) (.s (.s .n (.l [41,42] [] [.bx 1 1 65 .y7,.ow 3 2 240 .zg,.v 43 .z9] .n)) (.s (.s .n (.l [64,65] [] [.bx 1 1 65 .y7,.ow 3 2 240 .zg,.v 66 .z9] .n)) (.s (.s .n (.l [93,94] [] [.bx 1 1 65 .y7,.ow 3 2 240 .zg,.v 95 .z9] .n)) .n))))) [l0w,l42,l3y,l0l,i3m]
def K63:=mk 63 Tryz.f63 ⟨[.v .y2],[.v .z9,.v .z9]⟩ (cur1 b4b) w2 u2 (sk 2 (.s (.s .n (.l [11,12] [] [.bx 1 1 52 .y2,.v 13 .z9] .n)) .n)) [K72,g7z]
def l0x:=mk 184 Tryz.f184 ⟨[.v .z9,.v .z9],[.v .z8]⟩ (cur2 a7u) w1 u1 .n []
def h1l:=mk 108 Tryz.f108 ⟨[.v .zx],[.v .z8]⟩ (cur1 a5x) w1 u1 (sk 2 (.s (.s .n (.l [28,29] [] [.bx 1 1 69 .zx,.v 30 .z9] .n)) .n)) [K66,l0x]
def K64:=mk 64 Tryz.f64 ⟨[.ls .zx],[.v .z9]⟩ (cur1 a9n) w1 u1 (sk 3 (.s (.s .n (.l [0,18,19] [] [.v 20 .z9] .n)) .n)) [h1l]
def K109:=mk 109 Tryz.f109 ⟨[.v .z9],[.v .z8]⟩ (cur1 a8n) w1 u1 .n []
def K261:=mk 261 Tryz.f261 ⟨[.v .z9],[.v .z8]⟩ (cur1 b1k) w1 u1 .n []
def K303:=mk 303 Tryz.f303 ⟨[.v .z9],[.v .z8]⟩ (cur1 a7l) w1 u1 .n []
def h3v:=mk 228 Tryz.f228 ⟨[.v .z9,.v .z9],[.v .z9]⟩ (cur2 a05) w1 u1 .n [K303]
def h3k:=mk 185 Tryz.f185 ⟨[.v .z9],[.v .z9]⟩ (cur1 a90) w1 u1 .n [h3v,K261]
def K110:=mk 110 Tryz.f110 ⟨[.v .z9],[.v .z8]⟩ (cur1 b9g) w1 u1 .n [h3k]
def l77:=mk 187 Tryz.f187 ⟨[.v .z9],[.v .ym]⟩ (cur1 j5) w1 u1 .n []
def m07:=mk 186 Tryz.f186 ⟨[.v .ym,.v .ym],[.v .ym]⟩ (cur2 a7g) w1 u1 (.s .n (.s (.l [] [] [.v 0 .ym,.v 1 .ym] .n) .n)) []
def l11:=mk 111 Tryz.f111 ⟨[.v .zl],[.v .z8]⟩ (cur1 o7) w1 u1 .n [m07,l77]
def K112:=mk 112 Tryz.f112 ⟨[.v .z9],[.v .z8]⟩ (cur1 b9l) w1 u1 .n []
def K65:=mk 65 Tryz.f65 ⟨[.ls .zt],[.v .z9]⟩ (cur1 a5r) w1 u1 (sk 2 (.s (.s .n (.l [0,8,9] [] [.v 10 .z9] .n)) .n)) [K109,K110,l11,K112]
def K32:=mk 32 Tryz.f32 ⟨[.v .zo],[.v .z9]⟩ (cur1 c02) w1 u1 (.s .n (.s (.s .n (.l [11,12] [] [.bx 1 1 29 .zo,.v 13 .z9] .n)) (.s (.s .n (.l [44,45] [] [.bx 1 1 29 .zo,.v 46 .z9] .n)) .n))) [K63,K64,K65]
def K33:=mkR 33 Tryz.f33 ⟨[.ls .zx,.v .z9],[.v .zx,.v .z8]⟩ (cur2 b2q) w2 u2 (sk 2 (.s (.s .n (.l [] [] [.bx 3 2 3 .z9,.bx 4 3 69 .zx,.bx 5 4 4 .z8] (.s .n .n))) .n)) [K66,K67,K68]
def K16:=mk 16 Tryz.f16 ⟨[.v .zo,.v .z9],[.v .ya,.v .z9]⟩ (cur2 b8v) w2 u2 .n [K32,K33]
def K34:=mk 34 Tryz.f34 ⟨[.v .ya,.v .z9],[.v .y2,.v .z8]⟩ (cur2 a7y) w2 u2 (.s .n (.s (.s .n (.l [1,10,11] [] [.of 4 2 3 65 .y7,.bm 4 2 52 .y2 [(2,3)],.v 12 .z9] .n)) .n)) []
def i1d:Sig VV:=⟨[.v .zk],[.v .zk]⟩
def i1c (R:Ring_statute_cloneExpr):Fent VV:=⟨i1d,Expr,fun x=>R.f_statute_cloneExpr x.1,fun b=>((b,()),()),none⟩
def l82:Fent VV:=i1c (s4 FU)
def l4y:Ress VV i1d.rs×Outs VV i1d.ps -> Expr:=fun p=>p.1.1
def l6c:Ann VV.C:=(.s .n (.s .n (.s (.g [3001]) (.s (.s .n (.l [9,10] [] [.of 1 4 2 83 .zk,.bm 1 1 83 .zk [(4,2)],.of 2 4 4 83 .zk,.bm 2 3 83 .zk [(4,4)],.v 11 .z9] (.s .n (.s .n (.s (.s .n (.g [3007])) .n))))) .n))))
def l4r (R:Ring_statute_cloneExpr):Phi VV:=fun f ys=>lkF f ys [(120,i1c R)]
def l6z (R:Ring_statute_cloneExpr)(hr120:SX.Spec Tryz.prog 120 (i1c R)):OKΦ Tryz.prog (l4r R):=okl ⟨knS rfl ⟨hr120,fun _ _=>by kernel_rfl⟩,trivial⟩
def l8v (R:Ring_statute_cloneExpr): ∀x,c5v Tryz.prog (l4r R) i1d l4y Tryz.f120 l6c x=a7s R x.1:=fun x=>by kernel_rfl
def l66:c67 Tryz.f120 i1d=true:=by kernel_rfl
def b0u: ∀n,SX.Spec Tryz.prog 120 (i1c (s4 n))
 | 0=>(fun _ _ h=>(by cases (show none=some _ from h)))
 | n+1=>let h120:=b0u n;a2m (fe:=i1c (s4 (n+1))) uok (l6z (s4 n) h120) mixed (fn:=Tryz.f120) (by kernel_rfl) l4y l6c (d8 l66).1 (d8 l66).2 (fun _=>rfl) (l8v (s4 n))
def K120:Kn Tryz.prog VV:=⟨120,l82,knS rfl ⟨(b0u FU),fun _ _=>by kernel_rfl⟩⟩
def K70:=mk 70 Tryz.f70 ⟨[.v .y7],[.v .y7]⟩ (cur1 a6r) w1 u1 (.s .n (.s (.g [3007,3009]) (.s (.g [3010,3012,3014]) (.s (.s .n (.l [28] [] [.of 1 2 2 177 .zi,.of 1 3 3 179 .zn,.of 1 4 4 168 .zp,.of 1 5 5 85 .zm,.of 1 6 6 126 .zu,.bm 1 1 65 .y7 [(2,2),(3,3),(4,4),(5,5),(6,6)],.of 2 2 8 177 .zi,.of 2 3 9 179 .zn,.of 2 4 10 168 .zp,.of 2 5 11 85 .zm,.of 2 6 12 126 .zu,.bm 2 7 65 .y7 [(2,8),(3,9),(4,10),(5,11),(6,12)],.v 29 .z9] .n)) (.s (.s .n (.l [47] [] [.of 1 2 2 177 .zi,.of 1 3 3 179 .zn,.of 1 4 4 168 .zp,.of 1 5 5 85 .zm,.of 1 6 6 126 .zu,.bm 1 1 65 .y7 [(2,2),(3,3),(4,4),(5,5),(6,6)],.of 2 2 8 177 .zi,.of 2 3 9 179 .zn,.of 2 4 10 168 .zp,.of 2 5 11 85 .zm,.of 2 6 12 126 .zu,.bm 2 7 65 .y7 [(2,8),(3,9),(4,10),(5,11),(6,12)],.v 48 .z9] .n)) (.s (.s .n (.l [78] [] [.of 1 2 2 177 .zi,.of 1 3 3 179 .zn,.of 1 4 4 168 .zp,.of 1 5 5 85 .zm,.of 1 6 6 126 .zu,.bm 1 1 65 .y7 [(2,2),(3,3),(4,4),(5,5),(6,6)],.of 2 2 8 177 .zi,.of 2 3 9 179 .zn,.of 2 4 10 168 .zp,.of 2 5 11 85 .zm,.of 2 6 12 126 .zu,.bm 2 7 65 .y7 [(2,8),(3,9),(4,10),(5,11),(6,12)],.v 79 .z9] .n)) .n)))))) [l0e,K116,K117,g25,K119,K120]
def K35:=mkR 35 Tryz.f35 ⟨[.v .y2,.v .z9],[.v .y7,.v .z8]⟩ (cur2 b1v) w2 u2 (sk 2 (.s (.s .n (.l [] [] [.bx 3 2 3 .z9,.bx 4 3 65 .y7,.bx 5 4 4 .z8] (.s .n .n))) .n)) [K66,K69,K70]
def K17:=mk 17 Tryz.f17 ⟨[.v .ya,.v .z9],[.v .y2,.v .y7,.v .z9]⟩ (cur2 a2v) w3 u3 .n [K34,K35]
def K189:=mk 189 Tryz.f189 ⟨[.v .z9],[.v .z8]⟩ (cur1 b0a) w1 u1 .n []
def i3u:=mk 262 Tryz.f262 ⟨[.ls .z9,.cl 189 []],[.v .z9]⟩ (fun x=>a29 x.1) w1 u1 (.s .n (.s (.s .n (.l [0,1,7] [] [.v 8 .z9] .n)) .n)) [K189]
def l41:=mk 188 Tryz.f188 ⟨[.ls .z9,.cl 189 []],[.v .z8]⟩ (fun x=>a1n x.1) w1 u1 .n [i3u]
def K121:=mk 121 Tryz.f121 ⟨[.ls .z9],[.v .z8]⟩ (cur1 a9p) w1 u1 .n [l41]
def K71:=mk 71 Tryz.f71 ⟨[.v .y8],[.v .z8]⟩ (cur1 b0s) w1 u1 (sk 2 (.s (.s .n (.l [53] [] [.bx 1 1 36 .y8,.v 54 .z9] .n)) .n)) [l11,K121]
def K36:=mk 36 Tryz.f36 ⟨[.v .y7,.v .y8],[.v .z9]⟩ (cur2 c5y) w1 u1 .n [K71,K72]
def K38:=mk 38 Tryz.f38 ⟨[.v .zm,.rp 3 .z9],[.v .z8]⟩ (cur2 c1o) w1 u1 .n []
def i13:Sig VV:=⟨[.v .zk,.v .yk],[.v .z8]⟩
def i0i (R:Ring_eval_mentions):Fent VV:=⟨i13,Bool,fun x=>R.f_eval_mentions x.1 x.2.1,fun b=>((b,()),()),none⟩
def l7n:Fent VV:=i0i (d5 FU)
def l51:Ress VV i13.rs×Outs VV i13.ps -> Bool:=fun p=>p.1.1
def l5d:Ann VV.C:= .n
def i19:Sig VV:=⟨[.v .zk,.rp 9 .yk],[.v .z8]⟩
def i1w (R:Ring_eval_mentions):Fent VV:=⟨i19,Bool,fun x=>R.f_eval_mentions_1 x.1 x.2.1,fun b=>((b,()),()),none⟩
def l59:Ress VV i19.rs×Outs VV i19.ps -> Bool:=fun p=>p.1.1
def l4g:Ann VV.C:= .n
def h8g:Sig VV:=⟨[.ls .zk,.cl 197 [.yk]],[.v .z8]⟩
def h8v (R:Ring_eval_mentions):Fent VV:=⟨h8g,Bool,fun x=>R.f_slices_ContainsFunc_of_api_Expr x.1 x.2.1.1,fun b=>((b,()),()),none⟩
def h9z:Ress VV h8g.rs×Outs VV h8g.ps -> Bool:=fun p=>p.1.1
def h9x:Ann VV.C:= .n
def h8h:Sig VV:=⟨[.ls .zk,.cl 197 [.yk]],[.v .z9]⟩
def h8u (R:Ring_eval_mentions):Fent VV:=⟨h8h,Int,fun x=>R.f_slices_IndexFunc_of_api_Expr x.1 x.2.1.1,fun b=>((b,()),()),none⟩
def h9r:Ress VV h8h.rs×Outs VV h8h.ps -> Int:=fun p=>p.1.1
def i04:Ann VV.C:=(.s .n (.s (.s .n (.l [0,1,7] [] [.v 8 .z9] .n)) .n))
def l5l (R:Ring_eval_mentions):Phi VV:=fun f ys=>lkF f ys [(196,h8v R)]
def l6x (R:Ring_eval_mentions)(hr196:SX.Spec Tryz.prog 196 (h8v R)):OKΦ Tryz.prog (l5l R):=okl ⟨knS rfl ⟨hr196,fun _ _=>by kernel_rfl⟩,trivial⟩
def l9x (R:Ring_eval_mentions): ∀x,c5v Tryz.prog (l5l R) i13 l51 Tryz.f130 l5d x=b2a R x.1 x.2.1:=fun x=>by kernel_rfl
def l5r:c67 Tryz.f130 i13=true:=by kernel_rfl
def l5o (R:Ring_eval_mentions):Phi VV:=fun f ys=>lkF f ys [(130,i0i R)]
def l6j (R:Ring_eval_mentions)(hr130:SX.Spec Tryz.prog 130 (i0i R)):OKΦ Tryz.prog (l5o R):=okl ⟨knS rfl ⟨hr130,fun _ _=>by kernel_rfl⟩,trivial⟩
def l9r (R:Ring_eval_mentions): ∀x,c5v Tryz.prog (l5o R) i19 l59 Tryz.f197 l4g x=b93 R x.1 x.2.1:=fun x=>by kernel_rfl
def l64:c67 Tryz.f197 i19=true:=by kernel_rfl
def i03 (R:Ring_eval_mentions):Phi VV:=fun f ys=>lkF f ys [(266,h8u R)]
def i1s (R:Ring_eval_mentions)(hr266:SX.Spec Tryz.prog 266 (h8u R)):OKΦ Tryz.prog (i03 R):=okl ⟨knS rfl ⟨hr266,fun _ _=>by kernel_rfl⟩,trivial⟩
def i2c (R:Ring_eval_mentions): ∀x,c5v Tryz.prog (i03 R) h8g h9z Tryz.f196 h9x x=a0o R x.1 x.2.1.1:=fun x=>by kernel_rfl
def i08:c67 Tryz.f196 h8g=true:=by kernel_rfl
def h9u (R:Ring_eval_mentions):Phi VV:=fun f ys=>lkF f ys [(197,i1w R)]
def i1p (R:Ring_eval_mentions)(hr197:SX.Spec Tryz.prog 197 (i1w R)):OKΦ Tryz.prog (h9u R):=okl ⟨knS rfl ⟨hr197,fun _ _=>by kernel_rfl⟩,trivial⟩
def i2g (R:Ring_eval_mentions): ∀x,c5v Tryz.prog (h9u R) h8h h9r Tryz.f266 i04 x=a16 R x.1 x.2.1.1:=fun x=>by kernel_rfl
def h9s:c67 Tryz.f266 h8h=true:=by kernel_rfl
def b4u: ∀n,SX.Spec Tryz.prog 130 (i0i (d5 n)) /\ SX.Spec Tryz.prog 197 (i1w (d5 n)) /\ SX.Spec Tryz.prog 196 (h8v (d5 n)) /\ SX.Spec Tryz.prog 266 (h8u (d5 n))
 | 0=>⟨(fun _ _ h=>(by cases (show none=some _ from h))),(fun _ _ h=>(by cases (show none=some _ from h))),(fun _ _ h=>(by cases (show none=some _ from h))),(fun _ _ h=>(by cases (show none=some _ from h)))⟩
 | n+1=>let ⟨h130,h197,h196,h266⟩:=b4u n;⟨a2m (fe:=i0i (d5 (n+1))) uok (l6x (d5 n) h196) mixed (fn:=Tryz.f130) (by kernel_rfl) l51 l5d (d8 l5r).1 (d8 l5r).2 (fun _=>rfl) (l9x (d5 n)),a2m (fe:=i1w (d5 (n+1))) uok (l6j (d5 n) h130) mixed (fn:=Tryz.f197) (by kernel_rfl) l59 l4g (d8 l64).1 (d8 l64).2 (fun _=>rfl) (l9r (d5 n)),a2m (fe:=h8v (d5 (n+1))) uok (i1s (d5 n) h266) mixed (fn:=Tryz.f196) (by kernel_rfl) h9z h9x (d8 i08).1 (d8 i08).2 (fun _=>rfl) (i2c (d5 n)),a2m (fe:=h8u (d5 (n+1))) uok (i1p (d5 n) h197) mixed (fn:=Tryz.f266) (by kernel_rfl) h9r i04 (d8 h9s).1 (d8 h9s).2 (fun _=>rfl) (i2g (d5 n))⟩
def K130:Kn Tryz.prog VV:=⟨130,l7n,knS rfl ⟨(b4u FU).1,fun _ _=>by kernel_rfl⟩⟩
def h1r:=mk 131 Tryz.f131 ⟨[.so 3 .z9],[]⟩ (cur1 a68) (fun b=>((),(b,()))) (fun p=>p.2.1) (.s .n (.l [] [] [.ow 0 0 3 .z9,.v 2 .z9,.v 3 .z9] .n)) []
def K73:=mk 73 Tryz.f73 ⟨[.v .zk,.ls .zp],[.ow 3 .z9]⟩ (cur2 c4e) w1 u1 (sk 2 (.s (.s .n (.l [1] [] [.bx 2 2 83 .zk,.ow 5 3 3 .z9,.v 6 .z9] (.s .n (.s (.s .n (.s (.s .n (.l [1,6,25] [(24,3)] [.bx 2 2 83 .zk,.ow 5 3 3 .z9,.v 7 .z8,.v 26 .z9] .n)) .n)) .n)))) .n)) [K130,h1r]
def g6w:=mk 132 Tryz.f132 ⟨[.v .z9,.v .zl],[.v .y6]⟩ (cur2 t6) w1 u1 .n []
def h3r:=mk 198 Tryz.f198 ⟨[.v .y8,.v .yk],[.v .y6,.v .z8]⟩ (cur2 c2b) w2 u2 .n [K71,g6w,g6r]
def h0q:=mkR 133 Tryz.f133 ⟨[.rp 115 .ye,.v .yk],[.v .y6]⟩ (cur2 a84) w1 u1 (sk 2 (.s (.s .n (.l [] [] [.bx 3 2 9 .yk,.bx 4 3 119 .y6] (.s .n .n))) .n)) [h3r,l0f]
def K302:=mk 302 Tryz.f302 ⟨[.v .ym],[.v .z9]⟩ (cur1 c7q) w1 u1 .n [K252]
def K402:=mk 402 Tryz.f402 ⟨[.v .z9],[.v .z8]⟩ (cur1 b1d) w1 u1 .n []
def K398:=mk 398 Tryz.f398 ⟨[.v .z9],[.v .ym]⟩ (cur1 h8q) w1 u1 .n [K302]
def l16:=mk 399 Tryz.f399 ⟨[.io 455 .ym],[.v .ym]⟩ (cur1 h8x) (fun b=>((b.1,()),(b.2,()))) (fun p=>(p.1.1,p.2.1)) .n []
def m0l:=mk 270 Tryz.f270 ⟨[.v .z8,.v .yi,.v .yi],[.v .zl,.v .z9]⟩ (cur3 a70) w2 u2 .n []
def K202:=mk 202 Tryz.f202 ⟨[.v .z9,.v .z9],[.v .zl,.v .z9]⟩ (cur2 b32) w2 u2 .n [m07,l77,m0l]
def l47:=mkR 336 Tryz.f336 ⟨[.ow 3 .z9,.vl 269 22 .z9],[.ow 3 .z9]⟩ (cur2 u5) w1 u1 (.s (.g [6000]) (.s (.s .n (.l [] [] [.of 2 0 3 3 .z9,.bm 2 2 22 .za [(0,3)]] (.s .n (.g [6000,6004])))) (.s (.g [6000]) .n))) []
def l3s:=mk 268 Tryz.f268 ⟨[.vl 269 22 .z9],[.ow 3 .z9]⟩ (cur1 y5) w1 u1 .n [l47]
def i29:=mk 200 Tryz.f200 ⟨[.vl 269 22 .z9],[.ow 3 .z9]⟩ (cur1 o9) w1 u1 .n [j8e,l3s]
def j9g:=mk 134 Tryz.f134 ⟨[.ls .z9,.v .z9],[.v .zl,.v .z9]⟩ (cur2 c4b) w2 u2 (sk 4 (.s (.s .n (.l [1,31,32] [] [.bx 4 2 34 .zl,.v 7 .z9,.v 33 .z9] .n)) .n)) [K121,i29,l13,K202]
def m02:=mk 138 Tryz.f138 ⟨[.v .z8],[.v .y6]⟩ (cur1 b8n) w1 u1 .n []
def K203:=mk 203 Tryz.f203 ⟨[.v .zl],[.v .z9,.v .z9]⟩ (cur1 b4e) w2 u2 .n [l11]
def m0z:=mk 204 Tryz.f204 ⟨[.v .zl],[.v .zl,.v .z9]⟩ (cur1 b4p) w2 u2 .n [l11]
def k0w:=mk 165 Tryz.f165 ⟨[.v .ym,.v .ym],[.v .ym,.v .ym]⟩ (cur2 b3s) w2 u2 .n []
def m0q:=mk 271 Tryz.f271 ⟨[.v .ym,.v .ym],[.v .yi]⟩ (cur2 a4g) w1 u1 .n [k0w]
def K272:=mk 272 Tryz.f272 ⟨[.v .yi,.v .yi],[.v .z8]⟩ (cur2 a3u) w1 u1 .n []
def K205:=mk 205 Tryz.f205 ⟨[.v .zl,.v .zl],[.v .z9,.v .z9]⟩ (cur2 a8g) w2 u2 (sk 4 (.j [] [.bx 6 2 345 .yi,.bx 7 3 345 .yi] .n .n)) [l11,l77,m0q,K272]
def K137:=mk 137 Tryz.f137 ⟨[.v .z9,.v .zl,.v .zl],[.v .z8,.v .z9]⟩ (cur3 b7z) w2 u2 .n [K205]
def K273:=mk 273 Tryz.f273 ⟨[.v .yi,.v .yi],[.v .yi]⟩ (cur2 a98) w1 u1 .n [K337]
def K274:=mk 274 Tryz.f274 ⟨[.v .yi,.v .yi],[.v .yi]⟩ (cur2 a4w) w1 u1 .n [K338]
def K275:=mk 275 Tryz.f275 ⟨[.v .ym,.v .ym,.v .ym],[.v .ym]⟩ (cur3 c25) w1 u1 .n [g7d]
def k1o:=mk 276 Tryz.f276 ⟨[.v .yi,.v .ym],[.v .yi]⟩ (cur2 a8z) w1 u1 .n [g7d]
def K206:=mk 206 Tryz.f206 ⟨[.v .zl,.v .zl],[.v .zl,.v .z9]⟩ (cur2 b4q) w2 u2 (sk 4 (.j [] [.bx 2 2 34 .zl,.bx 3 3 34 .zl,.bx 4 4 34 .zl,.bx 6 5 345 .yi,.v 8 .z8] .n .n)) [l11,m07,l77,m0l,m0q,K272,K273,K274,K275,k1o]
def h2k:=mk 207 Tryz.f207 ⟨[.v .zl,.v .zl],[.v .zl,.v .z9]⟩ (cur2 b7d) w2 u2 .n [m0z,K206]
def K277:=mk 277 Tryz.f277 ⟨[.v .z8,.v .ym,.v .ym,.v .ym,.v .ym],[.v .zl,.v .z9]⟩ (cur5 a73) w2 u2 .n [m07,m0l,m0q]
def K208:=mk 208 Tryz.f208 ⟨[.v .zl,.v .zl],[.v .zl,.v .z9]⟩ (cur2 b7j) w2 u2 .n [l11,l77,K277]
def h1y:=mk 209 Tryz.f209 ⟨[.v .zl,.v .zl],[.v .zl,.v .z9]⟩ (cur2 b7o) w2 u2 .n [l11,l77,K277]
def K139:=mk 139 Tryz.f139 ⟨[.v .z9,.v .zl,.v .zl],[.v .zl,.v .z9]⟩ (cur3 b2w) w2 u2 .n [K205,K206,h2k,K208,h1y]
def K140:=mk 140 Tryz.f140 ⟨[.v .z9,.v .z9,.v .z9],[.v .z9]⟩ (cur3 b8c) w1 u1 .n []
def i3f:Sig VV:=⟨[.rp 115 .ye,.v .zk],[.v .y6,.v .z9]⟩
def i0b (R:Ring_eval_evaluator_expr):Fent VV:=⟨i3f,Value×Int,fun x=>R.f_eval_evaluator_expr x.1 x.2.1,fun b=>((b.1,(b.2,())),()),none⟩
def j9w:Fent VV:=i0b (c4 FU)
def l9p:Ress VV i3f.rs×Outs VV i3f.ps -> Value×Int:=fun p=>(p.1.1,p.1.2.1)
def l9u:Ann VV.C:=(.s .n (.s (.s .n (.s .n (.s .n (.s .n (.s .n (.s .n (.s .n (.j [] [.rp 0 .ye,.bx 3 2 83 .zk,.bx 4 3 119 .y6,.v 15 .z9,.v 46 .z8] .n (.s .n (.j [] [.rp 0 .ye,.bx 3 2 83 .zk,.bx 4 3 119 .y6,.v 55 .z8] .n .n)))))))))) .n))
def i0p:Sig VV:=⟨[.rp 115 .ye,.v .zk],[.v .y6,.v .z9]⟩
def i28 (R:Ring_eval_evaluator_expr):Fent VV:=⟨i0p,Value×Int,fun x=>R.f_eval_evaluator_unary x.1 x.2.1,fun b=>((b.1,(b.2,())),()),none⟩
def l4m:Ress VV i0p.rs×Outs VV i0p.ps -> Value×Int:=fun p=>(p.1.1,p.1.2.1)
def l5f:Ann VV.C:= .n
def i0v:Sig VV:=⟨[.rp 115 .ye,.v .zk],[.v .y6,.v .z9]⟩
def i24 (R:Ring_eval_evaluator_expr):Fent VV:=⟨i0v,Value×Int,fun x=>R.f_eval_evaluator_logic x.1 x.2.1,fun b=>((b.1,(b.2,())),()),none⟩
def l5y:Ress VV i0v.rs×Outs VV i0v.ps -> Value×Int:=fun p=>(p.1.1,p.1.2.1)
def l5n:Ann VV.C:= .n
def l9s (R:Ring_eval_evaluator_expr):Phi VV:=fun f ys=>lkF f ys [(74,i0b R),g6w.e,h0q.e,j9g.e,(135,i28 R),(136,i24 R),K137.e,m02.e,K139.e,K140.e]
def l9b (R:Ring_eval_evaluator_expr)(hr74:SX.Spec Tryz.prog 74 (i0b R))(hr135:SX.Spec Tryz.prog 135 (i28 R))(hr136:SX.Spec Tryz.prog 136 (i24 R)):OKΦ Tryz.prog (l9s R):=okl ⟨knS rfl ⟨hr74,fun _ _=>by kernel_rfl⟩,g6w.ok,h0q.ok,j9g.ok,knS rfl ⟨hr135,fun _ _=>by kernel_rfl⟩,knS rfl ⟨hr136,fun _ _=>by kernel_rfl⟩,K137.ok,m02.ok,K139.ok,K140.ok,trivial⟩
def m10 (R:Ring_eval_evaluator_expr): ∀x,c5v Tryz.prog (l9s R) i3f l9p Tryz.f74 l9u x=a5u R x.1 x.2.1:=fun x=>by kernel_rfl
def l9g:c67 Tryz.f74 i3f=true:=by kernel_rfl
def l5v (R:Ring_eval_evaluator_expr):Phi VV:=fun f ys=>lkF f ys [(74,i0b R),g6w.e,m02.e,K203.e,m0z.e]
def l6p (R:Ring_eval_evaluator_expr)(hr74:SX.Spec Tryz.prog 74 (i0b R)):OKΦ Tryz.prog (l5v R):=okl ⟨knS rfl ⟨hr74,fun _ _=>by kernel_rfl⟩,g6w.ok,m02.ok,K203.ok,m0z.ok,trivial⟩
def l9m (R:Ring_eval_evaluator_expr): ∀x,c5v Tryz.prog (l5v R) i0p l4m Tryz.f135 l5f x=a5i R x.1 x.2.1:=fun x=>by kernel_rfl
def l62:c67 Tryz.f135 i0p=true:=by kernel_rfl
def l4k (R:Ring_eval_evaluator_expr):Phi VV:=fun f ys=>lkF f ys [(74,i0b R)]
def l6k (R:Ring_eval_evaluator_expr)(hr74:SX.Spec Tryz.prog 74 (i0b R)):OKΦ Tryz.prog (l4k R):=okl ⟨knS rfl ⟨hr74,fun _ _=>by kernel_rfl⟩,trivial⟩
def l7t (R:Ring_eval_evaluator_expr): ∀x,c5v Tryz.prog (l4k R) i0v l5y Tryz.f136 l5n x=a5d R x.1 x.2.1:=fun x=>by kernel_rfl
def l4h:c67 Tryz.f136 i0v=true:=by kernel_rfl
def a9r: ∀n,SX.Spec Tryz.prog 74 (i0b (c4 n)) /\ SX.Spec Tryz.prog 135 (i28 (c4 n)) /\ SX.Spec Tryz.prog 136 (i24 (c4 n))
 | 0=>⟨(fun _ _ h=>(by cases (show none=some _ from h))),(fun _ _ h=>(by cases (show none=some _ from h))),(fun _ _ h=>(by cases (show none=some _ from h)))⟩
 | n+1=>let ⟨h74,h135,h136⟩:=a9r n;⟨a2m (fe:=i0b (c4 (n+1))) uok (l9b (c4 n) h74 h135 h136) mixed (fn:=Tryz.f74) (by kernel_rfl) l9p l9u (d8 l9g).1 (d8 l9g).2 (fun _=>rfl) (m10 (c4 n)),a2m (fe:=i28 (c4 (n+1))) uok (l6p (c4 n) h74) mixed (fn:=Tryz.f135) (by kernel_rfl) l4m l5f (d8 l62).1 (d8 l62).2 (fun _=>rfl) (l9m (c4 n)),a2m (fe:=i24 (c4 (n+1))) uok (l6k (c4 n) h74) mixed (fn:=Tryz.f136) (by kernel_rfl) l5y l5n (d8 l4h).1 (d8 l4h).2 (fun _=>rfl) (l7t (c4 n))⟩
def K74:Kn Tryz.prog VV:=⟨74,j9w,knS rfl ⟨(a9r FU).1,fun _ _=>by kernel_rfl⟩⟩
def K39:=mk 39 Tryz.f39 ⟨[.im 115 .ye [(1,5)],.v .zk,.ls .zp,.so 4 .z8,.v .yk,.po 0 1 132 .y3],[.v .z9]⟩ (cur6 a3e) (fun b=>((b.1,()),(b.2.1,(b.2.2.1,(b.2.2.2,()))))) (fun p=>(p.1.1,p.2.1,p.2.2.1,p.2.2.2.1)) (.s .n (.s (.s .n (.l [2,4,20] [] [.of 0 1 6 132 .y3,.bm 0 0 115 .ye [(1,6)],.ow 3 3 4 .z8,.bx 6 7 83 .zk,.ow 19 8 3 .z9,.v 21 .z9] .n)) .n)) [K73,K74]
def K40:=mk 40 Tryz.f40 ⟨[.rp 115 .ye],[.v .y6]⟩ (cur1 a55) w1 u1 .n []
def l9l:=mk 37 Tryz.f37 ⟨[.ls .zm,.cl 38 [.z9]],[.v .z9]⟩ (fun x=>a1y x.1 x.2.1.1) w1 u1 (.s .n (.s (.s .n (.l [0,1,7] [] [.v 8 .z9] .n)) .n)) [K38]
def K18:=mk 18 Tryz.f18 ⟨[.v .y7,.v .z9,.v .y8],[.v .zv,.v .z9]⟩ (cur3 c2a) w2 u2 .n [K36,l9l,K39,K40]
def K8:=mk 8 Tryz.f8 ⟨[.v .zo,.v .z9,.v .z9,.v .z9,.v .y8],[.v .zv,.v .z9]⟩ (cur5 h8m) w2 u2 .n [K16,K17,K18]
def m05:=mk 143 Tryz.f143 ⟨[.v .yk],[.v .z9,.v .z8]⟩ (cur1 h5w) w2 u2 (.s .n (.s (.s .n (.j [] [.v 4 .yk,.v 5 .z8] .n (.s .n (.j [] [.v 4 .yk,.v 9 .z8] .n .n)))) .n)) []
def g6z:=mk 278 Tryz.f278 ⟨[.v .z9,.ls .z9],[.v .z9]⟩ (cur2 h4i) w1 u1 .n []
def i14:Sig VV:=⟨[.v .zk,.ls .zg],[.v .z9,.v .z9]⟩
def i0q (R:Ring_pensionref5_infer):Fent VV:=⟨i14,Int×Int,fun x=>R.f_pensionref5_infer x.1 x.2.1,fun b=>((b.1,(b.2,())),()),none⟩
def l7z:Fent VV:=i0q (h4j FU)
def l69:Ress VV i14.rs×Outs VV i14.ps -> Int×Int:=fun p=>(p.1.1,p.1.2.1)
def l4u:Ann VV.C:=(.s .n (.s (.s .n (.s .n (.s .n (.s .n (.s .n (.s .n (.s (.s .n (.s (.s .n (.l [1] [] [.bx 2 2 83 .zk,.v 8 .z9] .n)) .n)) .n))))))) (.s .n (.s (.s .n (.l [1] [] [.bx 2 2 83 .zk,.ow 9 3 3 .z9,.v 10 .z9] .n)) .n))))
def l5x (R:Ring_pensionref5_infer):Phi VV:=fun f ys=>lkF f ys [m05.e,(212,i0q R),g6z.e]
def l6e (R:Ring_pensionref5_infer)(hr212:SX.Spec Tryz.prog 212 (i0q R)):OKΦ Tryz.prog (l5x R):=okl ⟨m05.ok,knS rfl ⟨hr212,fun _ _=>by kernel_rfl⟩,g6z.ok,trivial⟩
def l9n (R:Ring_pensionref5_infer): ∀x,c5v Tryz.prog (l5x R) i14 l69 Tryz.f212 l4u x=h4p R x.1 x.2.1:=fun x=>by kernel_rfl
def l5e:c67 Tryz.f212 i14=true:=by kernel_rfl
def h7e: ∀n,SX.Spec Tryz.prog 212 (i0q (h4j n))
 | 0=>(fun _ _ h=>(by cases (show none=some _ from h)))
 | n+1=>let h212:=h7e n;a2m (fe:=i0q (h4j (n+1))) uok (l6e (h4j n) h212) mixed (fn:=Tryz.f212) (by kernel_rfl) l69 l4u (d8 l5e).1 (d8 l5e).2 (fun _=>rfl) (l9n (h4j n))
def h31:Kn Tryz.prog VV:=⟨212,l7z,knS rfl ⟨(h7e FU),fun _ _=>by kernel_rfl⟩⟩
def k5f:=mk 144 Tryz.f144 ⟨[.v .zk,.ls .zg],[.v .z9,.v .z9]⟩ (cur2 h5x) w2 u2 (sk 2 (.s (.s .n (.l [1] [] [.bx 2 2 83 .zk,.v 6 .z9] .n)) .n)) [K180,h31]
def K80:=mk 80 Tryz.f80 ⟨[.ls .zp],[.ow 240 .zg,.v .z9]⟩ (cur1 h6o) w2 u2 (sk 3 (.s (.s .n (.l [0] [] [.ow 4 1 240 .zg,.v 5 .z9] (.s .n (.s (.s .n (.s (.s .n (.l [0,5] [] [.ow 4 1 240 .zg,.v 8 .z9] .n)) .n)) .n)))) .n)) [K98,m05,k5f]
def K81:=mk 81 Tryz.f81 ⟨[.v .zk,.ls .zg,.v .z9],[.v .z9]⟩ (cur3 h5o) w1 u1 .n [k5f]
def K43:=mk 43 Tryz.f43 ⟨[.v .y7],[.v .z9]⟩ (cur1 h5c) w1 u1 (sk 3 (.s (.s .n (.l [] [] [.bx 1 1 65 .y7,.ow 3 2 240 .zg,.v 5 .z9] (.s .n (.s (.s .n (.l [5] [] [.bx 1 1 65 .y7,.ow 3 2 240 .zg,.v 6 .z9] .n)) .n)))) (.s (.s .n (.l [] [] [.bx 1 1 65 .y7,.ow 3 2 240 .zg,.v 7 .z9] .n)) (.s (.s .n (.l [] [] [.bx 1 1 65 .y7,.ow 3 2 240 .zg,.v 8 .z9] (.s .n (.s (.s (.s .n (.l [8] [] [.bx 1 1 65 .y7,.ow 3 2 240 .zg,.v 9 .z9] .n)) .n) .n)))) (.s (.s .n (.l [] [] [.bx 1 1 65 .y7,.ow 3 2 240 .zg,.v 12 .z9] (.s .n (.s (.s (.s .n (.l [12] [] [.bx 1 1 65 .y7,.ow 3 2 240 .zg,.v 13 .z9] .n)) .n) .n)))) .n))))) [K80,K81]
def K85:=mk 85 Tryz.f85 ⟨[.v .y2],[.v .z9,.v .z9]⟩ (cur1 h5l) w2 u2 (sk 2 (.s (.s .n (.l [] [] [.bx 1 1 52 .y2,.v 4 .z9] .n)) .n)) [K43,K58]
def K86:=mk 86 Tryz.f86 ⟨[.ls .zx],[.v .z9]⟩ (cur1 h5p) w1 u1 (sk 3 (.s (.s .n (.l [0] [] [.v 3 .z9] (.s .n (.s (.s .n (.s .n (.s .n (.l [0,3] [] [.bx 4 1 69 .zx,.v 5 .z9] .n)))) .n)))) .n)) [K48]
def k8w:=mk 148 Tryz.f148 ⟨[.v .z9],[.v .z8]⟩ (cur1 h7n) w1 u1 .n []
def K87:=mk 87 Tryz.f87 ⟨[.ls .zt],[.v .z9]⟩ (cur1 h6d) w1 u1 (sk 2 (.s (.s .n (.l [0] [] [.v 3 .z9] .n)) .n)) [k22,k8w]
def K47:=mk 47 Tryz.f47 ⟨[.v .zo],[.v .z9]⟩ (cur1 h4z) w1 u1 (.s .n (.s (.s .n (.l [] [] [.bx 1 1 29 .zo,.v 3 .z9] .n)) (.s (.s .n (.l [] [] [.bx 1 1 29 .zo,.v 5 .z9] .n)) .n))) [K85,K86,K87]
def K22:=mk 22 Tryz.f22 ⟨[.v .zo,.v .z9],[.v .z9]⟩ (cur2 h5q) w1 u1 .n [K47,K48]
def K75:=mk 75 Tryz.f75 ⟨[.v .zo,.v .z9],[.v .z9]⟩ (cur2 h6u) w1 u1 (.s .n (.s (.s .n (.l [1] [] [.bx 2 2 29 .zo,.v 5 .z9] .n)) .n)) []
def K76:=mk 76 Tryz.f76 ⟨[.v .y2,.v .z9],[.v .y7,.v .z8]⟩ (cur2 h7r) w2 u2 (sk 2 (.s (.s .n (.l [1] [] [.bx 2 2 52 .y2,.of 4 2 4 177 .zi,.of 4 3 5 179 .zn,.of 4 4 6 168 .zp,.of 4 5 7 85 .zm,.of 4 6 8 126 .zu,.bm 4 3 65 .y7 [(2,4),(3,5),(4,6),(5,7),(6,8)],.v 6 .z9] .n)) .n)) [K48]
def K41:=mk 41 Tryz.f41 ⟨[.v .zo,.v .z9,.v .z9],[.v .y7,.v .z9,.v .z9]⟩ (cur3 h5u) w3 u3 .n [K75,K76]
def K19:=mk 19 Tryz.f19 ⟨[.v .zo,.v .z9,.v .z9],[.v .y7,.v .z9,.v .z9]⟩ (cur3 h7c) w3 u3 .n [K22,K41]
def K77:=mk 77 Tryz.f77 ⟨[.v .y8],[.v .z6]⟩ (cur1 h7g) w1 u1 .n []
def m0i:=mk 210 Tryz.f210 ⟨[.v .ym,.v .ym],[.v .yg]⟩ (cur2 k2g) w1 u1 .n [k0w]
def K211:=mk 211 Tryz.f211 ⟨[.v .yg,.v .yg],[.v .z8]⟩ (cur2 k2j) w1 u1 .n []
def k18:=mk 142 Tryz.f142 ⟨[.v .zl,.v .zl],[.v .z9]⟩ (cur2 h7p) w1 u1 .n [K31,m0i,K211]
def K78:=mk 78 Tryz.f78 ⟨[.v .zl,.v .zl],[.v .z9,.v .z9]⟩ (cur2 h4q) w2 u2 .n [k22,k18]
def K79:=mk 79 Tryz.f79 ⟨[.ls .z9],[.v .z8]⟩ (cur1 h5y) w1 u1 (sk 2 (.s (.s .n (.l [0] [] [.v 3 .z9] .n)) .n)) []
def K42:=mk 42 Tryz.f42 ⟨[.v .y8],[.v .z8]⟩ (cur1 h4r) w1 u1 (sk 3 (.s (.s .n (.l [] [] [.bx 1 1 36 .y8,.bx 3 2 66 .z6,.v 4 .z9] .n)) .n)) [K15,K77,K78,K79]
def i0u:Sig VV:=⟨[.v .zk,.v .yk],[.v .z8]⟩
def i0k (R:Ring_pensionref8_mentions):Fent VV:=⟨i0u,Bool,fun x=>R.f_pensionref8_mentions x.1 x.2.1,fun b=>((b,()),()),none⟩
def l7q:Fent VV:=i0k (h4o FU)
def l4o:Ress VV i0u.rs×Outs VV i0u.ps -> Bool:=fun p=>p.1.1
def l6a:Ann VV.C:=(.s .n (.s .n (.s (.s .n (.l [1] [] [.bx 2 2 83 .zk,.v 5 .z9] .n)) .n)))
def l52 (R:Ring_pensionref8_mentions):Phi VV:=fun f ys=>lkF f ys [(213,i0k R)]
def l6g (R:Ring_pensionref8_mentions)(hr213:SX.Spec Tryz.prog 213 (i0k R)):OKΦ Tryz.prog (l52 R):=okl ⟨knS rfl ⟨hr213,fun _ _=>by kernel_rfl⟩,trivial⟩
def l8d (R:Ring_pensionref8_mentions): ∀x,c5v Tryz.prog (l52 R) i0u l4o Tryz.f213 l6a x=h7m R x.1 x.2.1:=fun x=>by kernel_rfl
def l6b:c67 Tryz.f213 i0u=true:=by kernel_rfl
def h6v: ∀n,SX.Spec Tryz.prog 213 (i0k (h4o n))
 | 0=>(fun _ _ h=>(by cases (show none=some _ from h)))
 | n+1=>let h213:=h6v n;a2m (fe:=i0k (h4o (n+1))) uok (l6g (h4o n) h213) mixed (fn:=Tryz.f213) (by kernel_rfl) l4o l6a (d8 l6b).1 (d8 l6b).2 (fun _=>rfl) (l8d (h4o n))
def K213:Kn Tryz.prog VV:=⟨213,l7q,knS rfl ⟨(h6v FU),fun _ _=>by kernel_rfl⟩⟩
def K145:=mk 145 Tryz.f145 ⟨[.v .zk,.ls .zp],[.ow 3 .z9]⟩ (cur2 h7v) w1 u1 (sk 2 (.s (.s .n (.l [1] [] [.bx 2 2 83 .zk,.ow 5 3 4 .z8,.v 6 .z9] (.s .n (.s (.s .n (.s .n (.l [1,6] [] [.bx 2 2 83 .zk,.ow 5 3 4 .z8,.v 7 .z9] .n))) .n)))) (.s .n (.s (.s .n (.l [] [] [.ow 5 2 4 .z8,.ow 8 3 3 .z9,.v 9 .z9] .n)) .n)))) [K213]
def j6o:=mk 146 Tryz.f146 ⟨[.v .y6],[.v .z8]⟩ (cur1 h5i) w1 u1 .n [k22]
def K214:=mk 214 Tryz.f214 ⟨[.ls .z9,.v .z9],[.v .zl,.v .z9]⟩ (cur2 h5r) w2 u2 (sk 3 (.s (.s .n (.l [0,1] [] [.bx 4 2 34 .zl,.ow 6 3 3 .z9,.v 7 .z9] (.s .n (.s (.s .n (.s (.l [0,1,7] [] [.bx 4 2 34 .zl,.ow 6 3 3 .z9,.v 8 .z9] .n) (.z [6] []))) .n)))) (.s .n (.s (.s .n (.l [1] [] [.bx 4 2 34 .zl,.ow 6 3 3 .z9,.v 9 .z9,.v 10 .z9] .n)) .n)))) [K15,K79]
def K279:=mk 279 Tryz.f279 ⟨[],[.ow 9 .yk]⟩ (fun x=>h8k) w1 u1 .n []
def K215:=mk 215 Tryz.f215 ⟨[.v .y8,.v .yk],[.v .y6,.v .z8]⟩ (cur2 h5g) w2 u2 (sk 7 (.s (.s .n (.l [1,6] [] [.bx 2 2 36 .y8,.bx 4 3 119 .y6,.ow 8 4 9 .yk,.bx 9 5 66 .z6,.v 10 .z9,.v 11 .z9] .n)) .n)) [K42,K77,m05,K279]
def K280:=mk 280 Tryz.f280 ⟨[.v .zl],[.v .zl,.v .z9]⟩ (cur1 h8a) w2 u2 .n [k22]
def K281:=mk 281 Tryz.f281 ⟨[.v .zl],[.v .z9,.v .z9]⟩ (cur1 h8i) w2 u2 .n [k22]
def K339:=mk 339 Tryz.f339 ⟨[.v .yg,.v .yg],[.v .yg]⟩ (cur2 k2f) w1 u1 .n [K337]
def K340:=mk 340 Tryz.f340 ⟨[.v .yg,.v .yg],[.v .yg]⟩ (cur2 k2i) w1 u1 .n [K338]
def K282:=mk 282 Tryz.f282 ⟨[.v .zl,.v .zl],[.v .zl,.v .z9]⟩ (cur2 k2d) w2 u2 .n [K30,K31,k22,m0i,K211,K339,K340]
def K283:=mk 283 Tryz.f283 ⟨[.v .zl,.v .zl],[.v .zl,.v .z9]⟩ (cur2 h7k) w2 u2 .n [K280,K282]
def K341:=mk 341 Tryz.f341 ⟨[.v .z8,.v .ym,.v .ym,.v .ym,.v .ym],[.v .zl,.v .z9]⟩ (cur5 h5b) w2 u2 .n [K62,m0i]
def h1k:=mk 284 Tryz.f284 ⟨[.v .zl,.v .zl],[.v .zl,.v .z9]⟩ (cur2 h4v) w2 u2 .n [K31,k22,K341]
def K285:=mk 285 Tryz.f285 ⟨[.v .zl,.v .zl],[.v .zl,.v .z9]⟩ (cur2 h4u) w2 u2 .n [K31,k22,K341]
def K216:=mk 216 Tryz.f216 ⟨[.v .z9,.ls .y6],[.v .y6,.v .z9]⟩ (cur2 h4m) w2 u2 (sk 2 (.s (.s .n (.l [0,1] [] [.bx 4 2 119 .y6,.ow 6 3 3 .z9,.v 7 .z9] .n)) (.s .n (.s .n (.s .n (.j [] [.v 0 .z9,.ls 1 .y6,.bx 4 2 119 .y6,.bx 8 3 119 .y6,.v 9 .z9,.v 10 .z9] .n (.j [] [.bx 4 2 119 .y6,.bx 8 3 119 .y6,.v 9 .z9] (.s .n (.s .n (.s .n (.s .n (.s .n (.s .n (.s .n (.s .n (.s .n (.s .n (.s .n (.s .n (.s .n (.s .n (.s .n (.j [] [.v 0 .z9,.ls 1 .y6,.bx 4 2 119 .y6,.bx 8 3 119 .y6,.v 9 .z9,.v 10 .z9,.v 46 .z9,.v 139 .z8] .n .n)))))))))))))))) .n))))))) [K78,g6z,K280,K281,K282,K283,h1k,K285]
def i0t:Sig VV:=⟨[.v .zk,.v .y8,.ls .y3],[.v .y6,.v .z9]⟩
def i0z (R:Ring_pensionref8_value):Fent VV:=⟨i0t,Value×Int,fun x=>R.f_pensionref8_value x.1 x.2.1 x.2.2.1,fun b=>((b.1,(b.2,())),()),none⟩
def l99:Fent VV:=i0z (h28 FU)
def l58:Ress VV i0t.rs×Outs VV i0t.ps -> Value×Int:=fun p=>(p.1.1,p.1.2.1)
def l5c:Ann VV.C:=(.s .n (.s (.s .n (.s .n (.s .n (.s .n (.s .n (.s .n (.s (.s .n (.s (.s .n (.l [2] [] [.bx 3 3 83 .zk,.bx 6 4 119 .y6,.v 12 .z9] .n)) .n)) (.j [] [.ls 2 .y3,.bx 3 3 83 .zk,.bx 4 4 36 .y8,.bx 6 5 119 .y6,.v 22 .z9,.v 79 .z8] .n .n)))))))) (.s .n (.s (.s .n (.l [2] [] [.bx 3 3 83 .zk,.bx 4 4 36 .y8,.bx 6 5 119 .y6,.ow 17 6 119 .y6,.v 18 .z9] .n)) .n))))
def l61 (R:Ring_pensionref8_value):Phi VV:=fun f ys=>lkF f ys [(147,i0z R),K214.e,K215.e,K216.e]
def l6m (R:Ring_pensionref8_value)(hr147:SX.Spec Tryz.prog 147 (i0z R)):OKΦ Tryz.prog (l61 R):=okl ⟨knS rfl ⟨hr147,fun _ _=>by kernel_rfl⟩,K214.ok,K215.ok,K216.ok,trivial⟩
def l7o (R:Ring_pensionref8_value): ∀x,c5v Tryz.prog (l61 R) i0t l58 Tryz.f147 l5c x=h4w R x.1 x.2.1 x.2.2.1:=fun x=>by kernel_rfl
def l4w:c67 Tryz.f147 i0t=true:=by kernel_rfl
def h7f: ∀n,SX.Spec Tryz.prog 147 (i0z (h28 n))
 | 0=>(fun _ _ h=>(by cases (show none=some _ from h)))
 | n+1=>let h147:=h7f n;a2m (fe:=i0z (h28 (n+1))) uok (l6m (h28 n) h147) mixed (fn:=Tryz.f147) (by kernel_rfl) l58 l5c (d8 l4w).1 (d8 l4w).2 (fun _=>rfl) (l7o (h28 n))
def h2b:Kn Tryz.prog VV:=⟨147,l99,knS rfl ⟨(h7f FU),fun _ _=>by kernel_rfl⟩⟩
def K83:=mk 83 Tryz.f83 ⟨[.v .zk,.v .y8,.ls .y3],[.v .y6,.v .z9]⟩ (cur3 h4n) w2 u2 (sk 3 (.s (.s .n (.l [2] [] [.bx 3 3 83 .zk,.bx 4 4 36 .y8,.bx 6 5 119 .y6,.ow 8 6 240 .zg,.v 9 .z9] .n)) .n)) [K42,k5f,j6o,h2b]
def K82:=mk 82 Tryz.f82 ⟨[.v .zk,.v .y7,.v .y8,.ow 132 .y3],[.ow 132 .y3,.v .z9]⟩ (cur4 h4s) w2 u2 (sk 2 (.s (.s .n (.l [] [] [.ow 3 4 132 .y3,.bx 5 5 65 .y7,.bx 6 6 36 .y8,.ow 10 7 3 .z9,.v 11 .z9] (.s .n (.s (.s .n (.s .n (.s (.s .n (.l [11] [] [.ow 3 4 132 .y3,.bx 5 5 65 .y7,.bx 6 6 36 .y8,.ow 10 7 3 .z9,.bx 12 8 168 .zp,.v 13 .z8,.v 14 .z9] .n)) .n))) .n)))) .n)) [K83,K145]
def K84:=mk 84 Tryz.f84 ⟨[.v .zl],[.v .zl]⟩ (cur1 h5n) w1 u1 .n []
def K44:=mk 44 Tryz.f44 ⟨[.v .y7,.v .zm,.v .y8],[.v .zv,.v .z9]⟩ (cur3 h6m) w2 u2 .n [K82,K83,K84]
def K20:=mk 20 Tryz.f20 ⟨[.v .y7,.v .z9,.v .y8],[.v .zv,.v .z9]⟩ (cur3 h6i) w2 u2 (sk 3 (.s (.s .n (.l [1] [] [.bx 3 3 65 .y7,.bx 5 4 36 .y8,.of 6 2 6 132 .y3,.bm 6 5 40 .zv [(2,6)],.v 9 .z9] .n)) .n)) [K42,K43,K44]
def K9:=mk 9 Tryz.f9 ⟨[.v .zo,.v .z9,.v .z9,.v .z9,.v .y8],[.v .zv,.v .z9]⟩ (cur5 h6x) w2 u2 .n [K19,K20]
def K46:=mk 46 Tryz.f46 ⟨[.v .zu,.rp 3 .z9],[.v .z8]⟩ (cur2 h8p) w1 u1 .n []
def l8m:=mk 45 Tryz.f45 ⟨[.ls .zu,.cl 46 [.z9]],[.v .z9]⟩ (fun x=>h4l x.1 x.2.1.1) w1 u1 (.s .n (.s (.s .n (.l [0,1,7] [] [.v 8 .z9] .n)) .n)) [K46]
def K21:=mk 21 Tryz.f21 ⟨[.v .y7,.v .z9,.v .y8],[.v .zl,.v .z9]⟩ (cur3 h7y) w2 u2 .n [K36,K39,K40,l8m]
def K10:=mk 10 Tryz.f10 ⟨[.v .zo,.v .z9,.v .z9,.v .z9,.v .y8],[.v .zl,.v .z9]⟩ (cur5 h9e) w2 u2 .n [K16,K17,K21]
def K49:=mk 49 Tryz.f49 ⟨[.v .y7,.v .z9,.v .y8],[.v .zl,.v .z9]⟩ (cur3 h6f) w2 u2 (sk 3 (.s (.s .n (.l [1] [] [.bx 3 3 65 .y7,.bx 5 4 36 .y8,.bx 6 5 34 .zl,.v 9 .z9] .n)) .n)) [K42,K43,K78,K82,K83,K84]
def K23:=mk 23 Tryz.f23 ⟨[.v .zo,.v .z9,.v .z9,.v .z9,.v .y8],[.v .zl,.v .z9]⟩ (cur5 h7l) w2 u2 .n [K41,K49]
def K11:=mk 11 Tryz.f11 ⟨[.v .zo,.v .z9,.v .z9,.v .z9,.v .y8],[.v .zl,.v .z9]⟩ (cur5 h7h) w2 u2 .n [K22,K23]
def K315:=mk 315 Tryz.f315 ⟨[.v .y0],[.v .y0]⟩ (cur1 c3q) w1 u1 .n []
def K238:=mk 238 Tryz.f238 ⟨[.ls .y0],[.ow 87 .y0]⟩ (cur1 a2w) w1 u1 (.s .n (.s (.g [6000]) (.s (.s .n (.l [10,11] [] [.of 3 0 2 87 .y0,.bm 3 1 257 .zd [(0,2)],.v 12 .z9] (.s .n (.s .n (.s (.s .n (.s .n (.s .n (.s (.g [6000,6004]) .n)))) .n))))) (.s (.g [6000]) (.s .n (.s (.s (.g [6000]) (.l [33] [] [.ow 6 1 87 .y0,.ow 32 2 87 .y0,.v 34 .z9] .n)) .n)))))) [K315,K316]
def K25:=mk 25 Tryz.f25 ⟨[.ls .y3,.ls .y3],[.v .z8]⟩ (cur2 a61) w1 u1 (sk 2 (.s (.s .n (.l [0,1] [] [.v 5 .z9] .n)) .n)) []
def K13:=mk 13 Tryz.f13 ⟨[.v .zv,.v .zv],[.v .z8]⟩ (cur2 h5z) w1 u1 .n [K25]
end
noncomputable section
def kyT:FuncId -> A3 TypeId:=fun g=>bif Nat.beq g 309 then some 315 else none
def kyA:KKS Tryz.prog VV kyT:=fun g tM h=>by
 unfold kyT at h
 cases hb:Nat.beq g 309 with | true=>(rw [hb] at h;obtain rfl:=qC hb;cases h;exact ⟨⟨Tryz.f309,3,4,128,3,3,by kernel_rfl,by kernel_rfl,rfl,rfl,by kernel_rfl⟩,fun _ _=>a14 (fn:=Tryz.f309) (by kernel_rfl) (by kernel_rfl) (by kernel_rfl) _ _,fun _=>by kernel_rfl⟩) | false=>(rw [hb] at h;cases h)
noncomputable def inT:O (Nat×Func×Ann TyC):=[(24,Tryz.f24,.n),(50,Tryz.f50,(.s .n (.s .n (.s .n (.s .n (.s .n (.s .n (.s .n (.s .n (.s (.s .n (.s (.s .n (.s .n (.g [3010]))) .n)) (.s (.s .n (.s (.s .n (.s .n (.s .n (.s .n (.s .n (.s .n (.s .n (.s (.g [3005]) .n)))))))) .n)) .n))))))))))),(88,Tryz.f88,.n),(89,Tryz.f89,(.s .n (.s .n (.s .n (.s .n (.s .n (.s .n (.s .n (.s .n (.s .n (.s .n (.s .n (.s .n (.s .n (.s .n (.s .n (.s .n (.s .n (.s (.s (.g [3009]) .n) .n))))))))))))))))))),(90,Tryz.f90,.n),(91,Tryz.f91,.n),(92,Tryz.f92,.n),(93,Tryz.f93,.n),(94,Tryz.f94,.n),(149,Tryz.f149,.n),(150,Tryz.f150,.n),(151,Tryz.f151,.n),(152,Tryz.f152,.n),(153,Tryz.f153,.n),(154,Tryz.f154,.n),(155,Tryz.f155,.n),(156,Tryz.f156,.n),(157,Tryz.f157,.n),(158,Tryz.f158,.n),(159,Tryz.f159,.n),(160,Tryz.f160,.n),(161,Tryz.f161,.n),(162,Tryz.f162,.n),(163,Tryz.f163,.n),(164,Tryz.f164,.n),(166,Tryz.f166,.n),(167,Tryz.f167,.n),(195,Tryz.f195,.n),(217,Tryz.f217,(.s .n (.s .n (.s .n (.s (.g [6000]) (.s .n (.s .n (.s (.g [6000]) .n)))))))),(218,Tryz.f218,.n),(219,Tryz.f219,(.s .n (.s .n (.s .n (.s .n (.s (.g [6000]) (.s .n (.s .n (.s (.g [6000]) .n))))))))),(220,Tryz.f220,.n),(221,Tryz.f221,.n),(222,Tryz.f222,.n),(223,Tryz.f223,(.s .n (.s .n (.s (.s .n (.s .n (.s (.s .n (.s (.s (.g [1002]) (.s .n (.s (.g [1002]) (.s (.g [2002]) .n)))) .n)) .n))) .n)))),(224,Tryz.f224,.n),(225,Tryz.f225,.n),(226,Tryz.f226,.n),(227,Tryz.f227,.n),(229,Tryz.f229,.n),(230,Tryz.f230,.n),(232,Tryz.f232,.n),(233,Tryz.f233,.n),(234,Tryz.f234,.n),(235,Tryz.f235,.n),(236,Tryz.f236,.n),(237,Tryz.f237,.n),(286,Tryz.f286,(.s .n (.s .n (.s .n (.s (.s .n (.g [6000,6008])) .n))))),(287,Tryz.f287,.n),(288,Tryz.f288,.n),(289,Tryz.f289,.n),(290,Tryz.f290,.n),(291,Tryz.f291,.n),(292,Tryz.f292,.n),(293,Tryz.f293,.n),(294,Tryz.f294,.n),(295,Tryz.f295,.n),(296,Tryz.f296,.n),(297,Tryz.f297,(.s .n (.s .n (.s .n (.s (.s (.g [6000]) (.s (.g [6003,6008]) (.s (.s (.g [6000]) (.g [2003,6000,6004])) .n))) (.g [6000,6004])))))),(298,Tryz.f298,.n),(299,Tryz.f299,(.s .n (.s .n (.s .n (.s .n (.s .n (.s .n (.s .n (.s (.s .n (.s .n (.s (.s .n (.s (.s .n (.s .n (.s .n (.s (.s .n (.s .n (.s (.g [3006]) .n))) .n)))) .n)) .n))) .n))))))))),(300,Tryz.f300,.n),(301,Tryz.f301,.n),(304,Tryz.f304,.n),(305,Tryz.f305,.n),(306,Tryz.f306,.n),(307,Tryz.f307,.n),(308,Tryz.f308,.n),(310,Tryz.f310,.n),(311,Tryz.f311,.n),(312,Tryz.f312,.n),(313,Tryz.f313,.n),(314,Tryz.f314,.n),(342,Tryz.f342,.n),(343,Tryz.f343,.n),(344,Tryz.f344,.n),(345,Tryz.f345,.n),(346,Tryz.f346,.n),(347,Tryz.f347,.n),(348,Tryz.f348,.n),(349,Tryz.f349,.n),(350,Tryz.f350,.n),(351,Tryz.f351,.n),(352,Tryz.f352,.n),(353,Tryz.f353,.n),(354,Tryz.f354,.n),(355,Tryz.f355,.n),(356,Tryz.f356,.n),(357,Tryz.f357,.n),(358,Tryz.f358,.n),(359,Tryz.f359,.n),(360,Tryz.f360,.n),(361,Tryz.f361,.n),(362,Tryz.f362,.n),(363,Tryz.f363,.n),(364,Tryz.f364,.n),(365,Tryz.f365,.n),(366,Tryz.f366,.n),(367,Tryz.f367,.n),(368,Tryz.f368,.n),(369,Tryz.f369,.n),(371,Tryz.f371,.n),(372,Tryz.f372,.n),(384,Tryz.f384,.n),(385,Tryz.f385,.n),(386,Tryz.f386,.n),(387,Tryz.f387,.n),(388,Tryz.f388,.n),(389,Tryz.f389,.n),(390,Tryz.f390,.n),(391,Tryz.f391,.n),(392,Tryz.f392,.n),(393,Tryz.f393,.n),(394,Tryz.f394,.n),(395,Tryz.f395,.n),(396,Tryz.f396,.n),(397,Tryz.f397,.n),(400,Tryz.f400,.n),(401,Tryz.f401,.n),(425,Tryz.f425,.n),(426,Tryz.f426,.n),(427,Tryz.f427,.n),(429,Tryz.f429,.n),(437,Tryz.f437,.n)]
def inA:l72 (U:=VV) Tryz.prog inT:=⟨⟨by kernel_rfl,by kernel_rfl⟩,⟨by kernel_rfl,by kernel_rfl⟩,⟨by kernel_rfl,by kernel_rfl⟩,⟨by kernel_rfl,by kernel_rfl⟩,⟨by kernel_rfl,by kernel_rfl⟩,⟨by kernel_rfl,by kernel_rfl⟩,⟨by kernel_rfl,by kernel_rfl⟩,⟨by kernel_rfl,by kernel_rfl⟩,⟨by kernel_rfl,by kernel_rfl⟩,⟨by kernel_rfl,by kernel_rfl⟩,⟨by kernel_rfl,by kernel_rfl⟩,⟨by kernel_rfl,by kernel_rfl⟩,⟨by kernel_rfl,by kernel_rfl⟩,⟨by kernel_rfl,by kernel_rfl⟩,⟨by kernel_rfl,by kernel_rfl⟩,⟨by kernel_rfl,by kernel_rfl⟩,⟨by kernel_rfl,by kernel_rfl⟩,⟨by kernel_rfl,by kernel_rfl⟩,⟨by kernel_rfl,by kernel_rfl⟩,⟨by kernel_rfl,by kernel_rfl⟩,⟨by kernel_rfl,by kernel_rfl⟩,⟨by kernel_rfl,by kernel_rfl⟩,⟨by kernel_rfl,by kernel_rfl⟩,⟨by kernel_rfl,by kernel_rfl⟩,⟨by kernel_rfl,by kernel_rfl⟩,⟨by kernel_rfl,by kernel_rfl⟩,⟨by kernel_rfl,by kernel_rfl⟩,⟨by kernel_rfl,by kernel_rfl⟩,⟨by kernel_rfl,by kernel_rfl⟩,⟨by kernel_rfl,by kernel_rfl⟩,⟨by kernel_rfl,by kernel_rfl⟩,⟨by kernel_rfl,by kernel_rfl⟩,⟨by kernel_rfl,by kernel_rfl⟩,⟨by kernel_rfl,by kernel_rfl⟩,⟨by kernel_rfl,by kernel_rfl⟩,⟨by kernel_rfl,by kernel_rfl⟩,⟨by kernel_rfl,by kernel_rfl⟩,⟨by kernel_rfl,by kernel_rfl⟩,⟨by kernel_rfl,by kernel_rfl⟩,⟨by kernel_rfl,by kernel_rfl⟩,⟨by kernel_rfl,by kernel_rfl⟩,⟨by kernel_rfl,by kernel_rfl⟩,⟨by kernel_rfl,by kernel_rfl⟩,⟨by kernel_rfl,by kernel_rfl⟩,⟨by kernel_rfl,by kernel_rfl⟩,⟨by kernel_rfl,by kernel_rfl⟩,⟨by kernel_rfl,by kernel_rfl⟩,⟨by kernel_rfl,by kernel_rfl⟩,⟨by kernel_rfl,by kernel_rfl⟩,⟨by kernel_rfl,by kernel_rfl⟩,⟨by kernel_rfl,by kernel_rfl⟩,⟨by kernel_rfl,by kernel_rfl⟩,⟨by kernel_rfl,by kernel_rfl⟩,⟨by kernel_rfl,by kernel_rfl⟩,⟨by kernel_rfl,by kernel_rfl⟩,⟨by kernel_rfl,by kernel_rfl⟩,⟨by kernel_rfl,by kernel_rfl⟩,⟨by kernel_rfl,by kernel_rfl⟩,⟨by kernel_rfl,by kernel_rfl⟩,⟨by kernel_rfl,by kernel_rfl⟩,⟨by kernel_rfl,by kernel_rfl⟩,⟨by kernel_rfl,by kernel_rfl⟩,⟨by kernel_rfl,by kernel_rfl⟩,⟨by kernel_rfl,by kernel_rfl⟩,⟨by kernel_rfl,by kernel_rfl⟩,⟨by kernel_rfl,by kernel_rfl⟩,⟨by kernel_rfl,by kernel_rfl⟩,⟨by kernel_rfl,by kernel_rfl⟩,⟨by kernel_rfl,by kernel_rfl⟩,⟨by kernel_rfl,by kernel_rfl⟩,⟨by kernel_rfl,by kernel_rfl⟩,⟨by kernel_rfl,by kernel_rfl⟩,⟨by kernel_rfl,by kernel_rfl⟩,⟨by kernel_rfl,by kernel_rfl⟩,⟨by kernel_rfl,by kernel_rfl⟩,⟨by kernel_rfl,by kernel_rfl⟩,⟨by kernel_rfl,by kernel_rfl⟩,⟨by kernel_rfl,by kernel_rfl⟩,⟨by kernel_rfl,by kernel_rfl⟩,⟨by kernel_rfl,by kernel_rfl⟩,⟨by kernel_rfl,by kernel_rfl⟩,⟨by kernel_rfl,by kernel_rfl⟩,⟨by kernel_rfl,by kernel_rfl⟩,⟨by kernel_rfl,by kernel_rfl⟩,⟨by kernel_rfl,by kernel_rfl⟩,⟨by kernel_rfl,by kernel_rfl⟩,⟨by kernel_rfl,by kernel_rfl⟩,⟨by kernel_rfl,by kernel_rfl⟩,⟨by kernel_rfl,by kernel_rfl⟩,⟨by kernel_rfl,by kernel_rfl⟩,⟨by kernel_rfl,by kernel_rfl⟩,⟨by kernel_rfl,by kernel_rfl⟩,⟨by kernel_rfl,by kernel_rfl⟩,⟨by kernel_rfl,by kernel_rfl⟩,⟨by kernel_rfl,by kernel_rfl⟩,⟨by kernel_rfl,by kernel_rfl⟩,⟨by kernel_rfl,by kernel_rfl⟩,⟨by kernel_rfl,by kernel_rfl⟩,⟨by kernel_rfl,by kernel_rfl⟩,⟨by kernel_rfl,by kernel_rfl⟩,⟨by kernel_rfl,by kernel_rfl⟩,⟨by kernel_rfl,by kernel_rfl⟩,⟨by kernel_rfl,by kernel_rfl⟩,⟨by kernel_rfl,by kernel_rfl⟩,⟨by kernel_rfl,by kernel_rfl⟩,⟨by kernel_rfl,by kernel_rfl⟩,⟨by kernel_rfl,by kernel_rfl⟩,⟨by kernel_rfl,by kernel_rfl⟩,⟨by kernel_rfl,by kernel_rfl⟩,⟨by kernel_rfl,by kernel_rfl⟩,⟨by kernel_rfl,by kernel_rfl⟩,⟨by kernel_rfl,by kernel_rfl⟩,⟨by kernel_rfl,by kernel_rfl⟩,⟨by kernel_rfl,by kernel_rfl⟩,⟨by kernel_rfl,by kernel_rfl⟩,⟨by kernel_rfl,by kernel_rfl⟩,⟨by kernel_rfl,by kernel_rfl⟩,⟨by kernel_rfl,by kernel_rfl⟩,⟨by kernel_rfl,by kernel_rfl⟩,⟨by kernel_rfl,by kernel_rfl⟩,⟨by kernel_rfl,by kernel_rfl⟩,⟨by kernel_rfl,by kernel_rfl⟩,⟨by kernel_rfl,by kernel_rfl⟩,⟨by kernel_rfl,by kernel_rfl⟩,trivial⟩
def kT:O (Kn Tryz.prog VV):=[K16,K17,K18,K33,K35,K64,K65,K66,g7d,K109,K110,l11,k0w,i1v,k8t,i29,K202,h3v,K231,K238,K302,K303,K398,l16,K402,K428]
def l7w:Fent VV:=⟨⟨[],[.v .z8]⟩,Bool,fun _=>some true,w1,none⟩
end
end Go.PL
