/- Texts of the proof, joined. -/
import Derived.Test.YtkjalpallcedmaaGreatDoorP8
import Derived.Test.YtkjalpallcedmaaGreatDoorProg
import Derived.KernelRfl
import Derived.Shelf.SlSortFuncK.WholeK
import Derived.Shelf.Strconv.Itoa3
import Derived.Shelf.SlSortFuncK.RowK2
import Derived.Shelf.GgSortFunc.Tiny
set_option linter.defProp false
set_option linter.unusedVariables false
set_option linter.unusedSimpArgs false
set_option maxRecDepth 100000
open List
namespace Go.PL
open Go Go.SX
inductive TyC where|z9|zy|zx|zj|zm|zo|yl|zl|zq|zn|zv|y8|z8|y7|y4|zh|yn|yo|y1|z2|y5|yi|yh|y3|y2|zu|zp|yg|ya|yk|ym|z1|z0|yb|zd|zt|yd|yc|y0|zr|zc|zz|zf|z7|z3|ze|zi|zb|zs|ye|zk|yj|y9|z5|z4|y6|z6|yf|za|zw|zg deriving DecidableEq
@[reducible] def TyC.T:TyC->Type|.z9=>Int|.zy=>Rules|.zx=>Rounding|.zj=>Credit|.zm=>fQ|.zo=>Index|.yl=>ByteArray|.zl=>Expr|.zq=>Let|.zn=>Grant|.zv=>Reduce|.y8=>Version|.z8=>Bool|.y7=>Value|.y4=>Step|.zh=>iQ|.yn=>Int|.yo=>Int|.y1=>Span|.z2=>Ar 3 ByteArray|.y5=>Token|.yi=>rQ|.yh=>pensionref1_wide|.y3=>Statute|.y2=>State|.zu=>Rate|.zp=>Laws|.yg=>tN|.ya=>aQ|.yk=>syntax_entry|.ym=>Int|.z1=>Ar 2 Int|.z0=>Ar 12 Int|.yb=>bQ|.zd=>List Span|.zt=>Posting|.yd=>uQ|.yc=>lQ|.y0=>gQ|.zr=>Period|.zc=>List Period|.zz=>Scheme|.zf=>Anon195|.z7=>Ar 7 (List Span)|.z3=>Ar 6 (Ar 7 (List Span))|.ze=>Ar 6 (Ar 7 (List Span))|.zi=>nQ|.zb=>List nQ|.zs=>Piece|.ye=>earnings_income|.zk=>Earning|.yj=>rational_wide|.y9=>View|.z5=>Ar 6 Int|.z4=>Ar 6 Bool|.y6=>Total|.z6=>Ar 7 Int|.yf=>vQ|.za=>List Int|.zw=>Result|.zg=>Award
abbrev VA:=AV TyC TyC.T
def dT:DecidableEq TyC:=inferInstance
def g93:Int->List VA:=λx=>[.int .i64 x]
def h0b:List VA->Option Int:=mkS (gI .i64) λx0=>mkE x0
def f0o:Rules->List VA:=λx=>[.int .i64 x.From,.int .i64 x.MinDays,.int .i64 x.PostingLimit,.int .i64 x.Substantial,.list .z9 x.Members]
def e9b:List VA->Option Rules:=mkS (gI .i64) λx0=>mkS (gI .i64) λx1=>mkS (gI .i64) λx2=>mkS (gI .i64) λx3=>mkS (SX.gL dT .z9) λx4=>mkE (⟨x0,x1,x2,x3,x4⟩:Rules)
def d66:Rounding->List VA:=λx=>[.int .i64 x.Mode,.int .i64 x.Unit]
def d85:List VA->Option Rounding:=mkS (gI .i64) λx0=>mkS (gI .i64) λx1=>mkE (⟨x0,x1⟩:Rounding)
def e4m:Credit->List VA:=λx=>[.int .i64 x.Kind,.int .i64 x.Limit]
def e6k:List VA->Option Credit:=mkS (gI .i64) λx0=>mkS (gI .i64) λx1=>mkE (⟨x0,x1⟩:Credit)
def d63:fQ->List VA:=λx=>[.int .i64 x.Num,.int .i64 x.Den]
def d90:List VA->Option fQ:=mkS (gI .i64) λx0=>mkS (gI .i64) λx1=>mkE (⟨x0,x1⟩:fQ)
def e9e:Index->List VA:=λx=>[.int .i64 x.Year,.val .zm x.Factor]
def e7q:List VA->Option Index:=mkS (gI .i64) λx0=>mkS (gV dT .zm) λx1=>mkE (⟨x0,x1⟩:Index)
def g78:ByteArray->List VA:=λx=>[.str x]
def g9e:List VA->Option ByteArray:=mkS (gS) λx0=>mkE x0
def f5y:Expr->List VA:=λx=>[.int .i64 x.Op,.val .zm x.Value,.int .i64 x.Dim,.str x.Name,.list .zl x.Args]
def f4s:List VA->Option Expr:=mkS (gI .i64) λx0=>mkS (gV dT .zm) λx1=>mkS (gI .i64) λx2=>mkS (gS) λx3=>mkS (SX.gL dT .zl) λx4=>mkE (⟨x0,x1,x2,x3,x4⟩:Expr)
def g3m:Let->List VA:=λx=>[.str x.Name,.val .zl x.Body]
def g4f:List VA->Option Let:=mkS (gS) λx0=>mkS (gV dT .zl) λx1=>mkE (⟨x0,x1⟩:Let)
def f1v:Grant->List VA:=λx=>[.int .i64 x.Benefit,.val .zl x.If,.val .zl x.Pay]
def e92:List VA->Option Grant:=mkS (gI .i64) λx0=>mkS (gV dT .zl) λx1=>mkS (gV dT .zl) λx2=>mkE (⟨x0,x1,x2⟩:Grant)
def e6t:Reduce->List VA:=λx=>[.int .i64 x.Benefit,.val .zl x.By]
def e6w:List VA->Option Reduce:=mkS (gI .i64) λx0=>mkS (gV dT .zl) λx1=>mkE (⟨x0,x1⟩:Reduce)
def e10:Version->List VA:=λx=>[.int .i64 x.From,.val .zx x.Rounding,.list .zj x.Credits,.list .zo x.Series,.list .zq x.Lets,.list .zn x.Grants,.list .zv x.Reduces]
def e1l:List VA->Option Version:=mkS (gI .i64) λx0=>mkS (gV dT .zx) λx1=>mkS (SX.gL dT .zj) λx2=>mkS (SX.gL dT .zo) λx3=>mkS (SX.gL dT .zq) λx4=>mkS (SX.gL dT .zn) λx5=>mkS (SX.gL dT .zv) λx6=>mkE (⟨x0,x1,x2,x3,x4,x5,x6⟩:Version)
def g3y:Bool->List VA:=λx=>[.bool x]
def g5e:List VA->Option Bool:=mkS (gB) λx0=>mkE x0
def f02:Value->List VA:=λx=>[.int .i64 x.Dim,.bool x.Yes,.val .zm x.Num]
def f05:List VA->Option Value:=mkS (gI .i64) λx0=>mkS (gB) λx1=>mkS (gV dT .zm) λx2=>mkE (⟨x0,x1,x2⟩:Value)
def f7b:Step->List VA:=λx=>[.str x.Name,.val .y7 x.Value]
def f5s:List VA->Option Step:=mkS (gS) λx0=>mkS (gV dT .y7) λx1=>mkE (⟨x0,x1⟩:Step)
def d9c:iQ->List VA:=λx=>[.str x.Name,.int .i64 x.Dim]
def e0b:List VA->Option iQ:=mkS (gS) λx0=>mkS (gI .i64) λx1=>mkE (⟨x0,x1⟩:iQ)
def h1c:Int->List VA:=λx=>[.int .u64 x]
def g83:List VA->Option Int:=mkS (gI .u64) λx0=>mkE x0
def h4b:Int->List VA:=λx=>[.int .u8 x]
def h2q:List VA->Option Int:=mkS (gI .u8) λx0=>mkE x0
def f4o:Span->List VA:=λx=>[.int .i64 x.From,.int .i64 x.To]
def f7t:List VA->Option Span:=mkS (gI .i64) λx0=>mkS (gI .i64) λx1=>mkE (⟨x0,x1⟩:Span)
def e7k:Ar 3 ByteArray->List VA:=λx=>x.l.map λy=>.str y
def d8g:List VA->Option (Ar 3 ByteArray):=mkA (gS) 3
def e9d:Token->List VA:=λx=>[.int .i64 x.Kind,.str x.Text,.int .i64 x.At]
def f0u:List VA->Option Token:=mkS (gI .i64) λx0=>mkS (gS) λx1=>mkS (gI .i64) λx2=>mkE (⟨x0,x1,x2⟩:Token)
def c0i:rQ->List VA:=λx=>[.list .y5 x.l,.int .i64 x.at_,.int .i64 x.end_,.bool x.bad]
def c0h:List VA->Option rQ:=mkS (SX.gL dT .y5) λx0=>mkS (gI .i64) λx1=>mkS (gI .i64) λx2=>mkS (gB) λx3=>mkE (⟨x0,x1,x2,x3⟩:rQ)
def c2q:pensionref1_wide->List VA:=λx=>[.int .u64 x.hi,.int .u64 x.lo]
def c2l:List VA->Option pensionref1_wide:=mkS (gI .u64) λx0=>mkS (gI .u64) λx1=>mkE (⟨x0,x1⟩:pensionref1_wide)
def e0x:Statute->List VA:=λx=>[.str x.Name,.int .i64 x.Currency,.list .y8 x.Versions]
def e0u:List VA->Option Statute:=mkS (gS) λx0=>mkS (gI .i64) λx1=>mkS (SX.gL dT .y8) λx2=>mkE (⟨x0,x1,x2⟩:Statute)
def f0d:State->List VA:=λx=>[.int .i64 x.State,.val .y3 x.Statute]
def e9c:List VA->Option State:=mkS (gI .i64) λx0=>mkS (gV dT .y3) λx1=>mkE (⟨x0,x1⟩:State)
def f3r:Rate->List VA:=λx=>[.int .i64 x.Currency,.int .i64 x.Month,.val .zm x.Value]
def f4z:List VA->Option Rate:=mkS (gI .i64) λx0=>mkS (gI .i64) λx1=>mkS (gV dT .zm) λx2=>mkE (⟨x0,x1,x2⟩:Rate)
def f7k:Laws->List VA:=λx=>[.list .y2 x.States,.list .zy x.Treaty,.list .zu x.Rates]
def f6x:List VA->Option Laws:=mkS (SX.gL dT .y2) λx0=>mkS (SX.gL dT .zy) λx1=>mkS (SX.gL dT .zu) λx2=>mkE (⟨x0,x1,x2⟩:Laws)
def c2o:tN->List VA:=λx=>[.int .i64 x.Issuer,.int .i64 x.Number,.int .i64 x.Version,.bool x.Withdrawn,.int .i64 x.Person,.int .i64 x.Kind,.int .i64 x.State,.int .i64 x.Seat,.int .i64 x.From,.int .i64 x.Length,.int .i64 x.Share,.int .i64 x.Amount,.int .i64 x.Ref]
def c2p:List VA->Option tN:=mkS (gI .i64) λx0=>mkS (gI .i64) λx1=>mkS (gI .i64) λx2=>mkS (gB) λx3=>mkS (gI .i64) λx4=>mkS (gI .i64) λx5=>mkS (gI .i64) λx6=>mkS (gI .i64) λx7=>mkS (gI .i64) λx8=>mkS (gI .i64) λx9=>mkS (gI .i64) λx10=>mkS (gI .i64) λx11=>mkS (gI .i64) λx12=>mkE (⟨x0,x1,x2,x3,x4,x5,x6,x7,x8,x9,x10,x11,x12⟩:tN)
def d8u:aQ->List VA:=λx=>[.int .i64 x.Issuer,.int .i64 x.Number,.int .i64 x.Version,.bool x.Withdrawn,.int .i64 x.Person,.int .i64 x.Kind,.int .i64 x.State,.val .y1 x.Span,.int .i64 x.Seat,.int .i64 x.Share,.int .i64 x.Currency,.int .i64 x.Amount,.int .i64 x.Ref]
def d83:List VA->Option aQ:=mkS (gI .i64) λx0=>mkS (gI .i64) λx1=>mkS (gI .i64) λx2=>mkS (gB) λx3=>mkS (gI .i64) λx4=>mkS (gI .i64) λx5=>mkS (gI .i64) λx6=>mkS (gV dT .y1) λx7=>mkS (gI .i64) λx8=>mkS (gI .i64) λx9=>mkS (gI .i64) λx10=>mkS (gI .i64) λx11=>mkS (gI .i64) λx12=>mkE (⟨x0,x1,x2,x3,x4,x5,x6,x7,x8,x9,x10,x11,x12⟩:aQ)
def c79:syntax_entry->List VA:=λx=>[.str x.name,.int .i64 x.number]
def c74:List VA->Option syntax_entry:=mkS (gS) λx0=>mkS (gI .i64) λx1=>mkE (⟨x0,x1⟩:syntax_entry)
def h09:Int->List VA:=λx=>[.int .u32 x]
def h0n:List VA->Option Int:=mkS (gI .u32) λx0=>mkE x0
def e7l:Ar 2 Int->List VA:=λx=>x.l.map λy=>.int .i64 y
def d5s:List VA->Option (Ar 2 Int):=mkA (gI .i64) 2
def e5w:Ar 12 Int->List VA:=λx=>x.l.map λy=>.int .i64 y
def d2q:List VA->Option (Ar 12 Int):=mkA (gI .i64) 12
def c8y:bQ->List VA:=λx=>[.val .zp x.laws,.int .i64 x.day,.val .zy x.rules]
def c7v:List VA->Option bQ:=mkS (gV dT .zp) λx0=>mkS (gI .i64) λx1=>mkS (gV dT .zy) λx2=>mkE (⟨x0,x1,x2⟩:bQ)
def f0l:List Span->List VA:=λx=>[.list .y1 x]
def e88:List VA->Option (List Span):=mkS (SX.gL dT .y1) λx0=>mkE x0
def e1h:Posting->List VA:=λx=>[.int .i64 x.Seat,.int .i64 x.State,.val .y1 x.Span]
def e0z:List VA->Option Posting:=mkS (gI .i64) λx0=>mkS (gI .i64) λx1=>mkS (gV dT .y1) λx2=>mkE (⟨x0,x1,x2⟩:Posting)
def c2m:uQ->List VA:=λx=>[.int .i64 x.seat,.int .i64 x.state]
def c2r:List VA->Option uQ:=mkS (gI .i64) λx0=>mkS (gI .i64) λx1=>mkE (⟨x0,x1⟩:uQ)
def c3f:lQ->List VA:=λx=>[.list .ya x.facts,.val .y1 x.span,.list .zt x.postings,.list .zy x.rules]
def c3t:List VA->Option lQ:=mkS (SX.gL dT .ya) λx0=>mkS (gV dT .y1) λx1=>mkS (SX.gL dT .zt) λx2=>mkS (SX.gL dT .zy) λx3=>mkE (⟨x0,x1,x2,x3⟩:lQ)
def d9y:gQ->List VA:=λx=>[.val .y1 x.Span,.int .i64 x.State,.int .i64 x.Rule]
def e1d:List VA->Option gQ:=mkS (gV dT .y1) λx0=>mkS (gI .i64) λx1=>mkS (gI .i64) λx2=>mkE (⟨x0,x1,x2⟩:gQ)
def e5s:Period->List VA:=λx=>[.int .i64 x.State,.int .i64 x.Rank,.val .y1 x.Span]
def e58:List VA->Option Period:=mkS (gI .i64) λx0=>mkS (gI .i64) λx1=>mkS (gV dT .y1) λx2=>mkE (⟨x0,x1,x2⟩:Period)
def e05:List Period->List VA:=λx=>[.list .zr x]
def d95:List VA->Option (List Period):=mkS (SX.gL dT .zr) λx0=>mkE x0
def e50:Scheme->List VA:=λx=>[.int .i64 x.State,.val .y8 x.Version]
def e62:List VA->Option Scheme:=mkS (gI .i64) λx0=>mkS (gV dT .y8) λx1=>mkE (⟨x0,x1⟩:Scheme)
def k4n:Anon195->List VA:=λx=>[.int .i64 x.kind,.int .i64 x.rank]
def k4j:List VA->Option Anon195:=mkS (gI .i64) λx0=>mkS (gI .i64) λx1=>mkE (⟨x0,x1⟩:Anon195)
def d8m:Ar 7 (List Span)->List VA:=λx=>x.l.map λy=>.list .y1 y
def c6h:List VA->Option (Ar 7 (List Span)):=mkA (SX.gL dT .y1) 7
def c7x:Ar 6 (Ar 7 (List Span))->List VA:=λx=>x.l.map λy=>.val .z7 y
def c16:List VA->Option (Ar 6 (Ar 7 (List Span))):=mkA (gV dT .z7) 6
def c73:Ar 6 (Ar 7 (List Span))->List VA:=λx=>[.rp (.val .z3 x)]
def c77:List VA->Option (Ar 6 (Ar 7 (List Span))):=mkS (gP dT .z3) λx0=>mkE x0
def e0m:nQ->List VA:=λx=>[.val .y1 x.Span,.int .i64 x.State,.int .i64 x.Rank]
def e1b:List VA->Option nQ:=mkS (gV dT .y1) λx0=>mkS (gI .i64) λx1=>mkS (gI .i64) λx2=>mkE (⟨x0,x1,x2⟩:nQ)
def d7t:List nQ->List VA:=λx=>[.list .zi x]
def d5c:List VA->Option (List nQ):=mkS (SX.gL dT .zi) λx0=>mkE x0
def f2h:Piece->List VA:=λx=>[.val .y1 x.Span,.list .z9 x.Members]
def e80:List VA->Option Piece:=mkS (gV dT .y1) λx0=>mkS (SX.gL dT .z9) λx1=>mkE (⟨x0,x1⟩:Piece)
def c35:earnings_income->List VA:=λx=>[.val .ya x.fact,.list .y1 x.days]
def c3a:List VA->Option earnings_income:=mkS (gV dT .ya) λx0=>mkS (SX.gL dT .y1) λx1=>mkE (⟨x0,x1⟩:earnings_income)
def d9p:Earning->List VA:=λx=>[.int .i64 x.Year,.int .i64 x.Amount]
def e08:List VA->Option Earning:=mkS (gI .i64) λx0=>mkS (gI .i64) λx1=>mkE (⟨x0,x1⟩:Earning)
def c5b:rational_wide->List VA:=λx=>[.int .u64 x.hi,.int .u64 x.lo]
def c5t:List VA->Option rational_wide:=mkS (gI .u64) λx0=>mkS (gI .u64) λx1=>mkE (⟨x0,x1⟩:rational_wide)
def f4f:View->List VA:=λx=>[.int .i64 x.Age,.int .i64 x.Year,.int .i64 x.Children,.int .i64 x.Insured,.int .i64 x.Worked,.int .i64 x.Voluntary,.int .i64 x.Service,.int .i64 x.Equated,.int .i64 x.Raising,.int .i64 x.Resident,.val .zm x.Base,.list .z9 x.Years]
def f6d:List VA->Option View:=mkS (gI .i64) λx0=>mkS (gI .i64) λx1=>mkS (gI .i64) λx2=>mkS (gI .i64) λx3=>mkS (gI .i64) λx4=>mkS (gI .i64) λx5=>mkS (gI .i64) λx6=>mkS (gI .i64) λx7=>mkS (gI .i64) λx8=>mkS (gI .i64) λx9=>mkS (gV dT .zm) λx10=>mkS (SX.gL dT .z9) λx11=>mkE (⟨x0,x1,x2,x3,x4,x5,x6,x7,x8,x9,x10,x11⟩:View)
def e96:Ar 6 Int->List VA:=λx=>x.l.map λy=>.int .i64 y
def d59:List VA->Option (Ar 6 Int):=mkA (gI .i64) 6
def e5x:Ar 6 Bool->List VA:=λx=>x.l.map λy=>.bool y
def d2a:List VA->Option (Ar 6 Bool):=mkA (gB) 6
def e8i:Total->List VA:=λx=>[.val .z5 x.Own,.val .z4 x.Few,.int .i64 x.Sum,.int .i64 x.Base,.int .i64 x.Last]
def e9r:List VA->Option Total:=mkS (gV dT .z5) λx0=>mkS (gV dT .z4) λx1=>mkS (gI .i64) λx2=>mkS (gI .i64) λx3=>mkS (gI .i64) λx4=>mkE (⟨x0,x1,x2,x3,x4⟩:Total)
def f2a:Ar 7 Int->List VA:=λx=>x.l.map λy=>.int .i64 y
def d8f:List VA->Option (Ar 7 Int):=mkA (gI .i64) 7
def c4s:vQ->List VA:=λx=>[.val .y9 x.view,.list .y4 x.steps]
def c4w:List VA->Option vQ:=mkS (gV dT .y9) λx0=>mkS (SX.gL dT .y4) λx1=>mkE (⟨x0,x1⟩:vQ)
def g56:List Int->List VA:=λx=>[.list .z9 x]
def g3l:List VA->Option (List Int):=mkS (SX.gL dT .z9) λx0=>mkE x0
def e56:Result->List VA:=λx=>[.bool x.Holds,.val .zm x.Pay,.list .y4 x.Steps]
def e6j:List VA->Option Result:=mkS (gB) λx0=>mkS (gV dT .zm) λx1=>mkS (SX.gL dT .y4) λx2=>mkE (⟨x0,x1,x2⟩:Result)
def f1u:Award->List VA:=λx=>[.int .i64 x.State,.int .i64 x.Benefit,.int .i64 x.Day,.int .i64 x.Code,.bool x.Few,.int .i64 x.Independent,.int .i64 x.Theoretical,.int .i64 x.ProRata,.int .i64 x.Num,.int .i64 x.Den,.int .i64 x.Amount,.list .y4 x.Steps]
def e79:List VA->Option Award:=mkS (gI .i64) λx0=>mkS (gI .i64) λx1=>mkS (gI .i64) λx2=>mkS (gI .i64) λx3=>mkS (gB) λx4=>mkS (gI .i64) λx5=>mkS (gI .i64) λx6=>mkS (gI .i64) λx7=>mkS (gI .i64) λx8=>mkS (gI .i64) λx9=>mkS (gI .i64) λx10=>mkS (SX.gL dT .y4) λx11=>mkE (⟨x0,x1,x2,x3,x4,x5,x6,x7,x8,x9,x10,x11⟩:Award)
def cdT(n:Nat):Option TyC:=bif Nat.blt n 164then(bif Nat.blt n 65then(bif Nat.blt n 35then(bif Nat.blt n 11then(bif Nat.blt n 5then(bif Nat.blt n 3then(bif Nat.beq n 2then some .z9 else none)else(bif Nat.blt n 4then(bif Nat.beq n 3then some .z9 else none)else(bif Nat.beq n 4then some .z8 else none)))else(bif Nat.blt n 9then(bif Nat.blt n 6then(bif Nat.beq n 5then some .yo else none)else(bif Nat.beq n 6then some .yo else none))else(bif Nat.blt n 10then(bif Nat.beq n 9then some .yl else none)else(bif Nat.beq n 10then some .yl else none))))else(bif Nat.blt n 24then(bif Nat.blt n 12then(bif Nat.beq n 11then some .yl else none)else(bif Nat.blt n 23then(bif Nat.beq n 12then some .yn else none)else(bif Nat.beq n 23then some .za else none)))else(bif Nat.blt n 29then(bif Nat.blt n 25then(bif Nat.beq n 24then some .yg else none)else(bif Nat.beq n 25then some .yg else none))else(bif Nat.blt n 30then(bif Nat.beq n 29then some .zp else none)else(bif Nat.beq n 30then some .zp else none)))))else(bif Nat.blt n 49then(bif Nat.blt n 38then(bif Nat.blt n 36then(bif Nat.beq n 35then some .y1 else none)else(bif Nat.blt n 37then(bif Nat.beq n 36then some .y1 else none)else(bif Nat.beq n 37then some .ya else none)))else(bif Nat.blt n 46then(bif Nat.blt n 44then(bif Nat.beq n 38then some .ya else none)else(bif Nat.beq n 44then some .z9 else none))else(bif Nat.blt n 47then(bif Nat.beq n 46then some .zg else none)else(bif Nat.beq n 47then some .zg else none))))else(bif Nat.blt n 61then(bif Nat.blt n 53then(bif Nat.blt n 52then(bif Nat.beq n 49then some .zb else none)else(bif Nat.beq n 52then some .zm else none))else(bif Nat.blt n 60then(bif Nat.beq n 53then some .zm else none)else(bif Nat.beq n 60then some .y3 else none)))else(bif Nat.blt n 63then(bif Nat.blt n 62then(bif Nat.beq n 61then some .y3 else none)else(bif Nat.beq n 62then some .y2 else none))else(bif Nat.blt n 64then(bif Nat.beq n 63then some .y2 else none)else(bif Nat.beq n 64then some .zu else none))))))else(bif Nat.blt n 98then(bif Nat.blt n 84then(bif Nat.blt n 73then(bif Nat.blt n 66then(bif Nat.beq n 65then some .zu else none)else(bif Nat.blt n 67then(bif Nat.beq n 66then some .zx else none)else(bif Nat.beq n 67then some .zx else none)))else(bif Nat.blt n 81then(bif Nat.blt n 74then(bif Nat.beq n 73then some .y8 else none)else(bif Nat.beq n 74then some .y8 else none))else(bif Nat.blt n 82then(bif Nat.beq n 81then some .zy else none)else(bif Nat.beq n 82then some .zy else none))))else(bif Nat.blt n 87then(bif Nat.blt n 85then(bif Nat.beq n 84then some .zl else none)else(bif Nat.blt n 86then(bif Nat.beq n 85then some .zl else none)else(bif Nat.beq n 86then some .zn else none)))else(bif Nat.blt n 90then(bif Nat.blt n 89then(bif Nat.beq n 87then some .zn else none)else(bif Nat.beq n 89then some .yb else none))else(bif Nat.blt n 96then(bif Nat.beq n 90then some .yb else none)else(bif Nat.beq n 96then some .yn else none)))))else(bif Nat.blt n 125then(bif Nat.blt n 115then(bif Nat.blt n 99then(bif Nat.beq n 98then some .yh else none)else(bif Nat.blt n 114then(bif Nat.beq n 99then some .yh else none)else(bif Nat.beq n 114then some .y7 else none)))else(bif Nat.blt n 117then(bif Nat.blt n 116then(bif Nat.beq n 115then some .y7 else none)else(bif Nat.beq n 116then some .y4 else none))else(bif Nat.blt n 124then(bif Nat.beq n 117then some .y4 else none)else(bif Nat.beq n 124then some .zz else none))))else(bif Nat.blt n 151then(bif Nat.blt n 145then(bif Nat.blt n 126then(bif Nat.beq n 125then some .zz else none)else(bif Nat.beq n 126then some .zc else none))else(bif Nat.blt n 146then(bif Nat.beq n 145then some .yi else none)else(bif Nat.beq n 146then some .yi else none)))else(bif Nat.blt n 160then(bif Nat.blt n 159then(bif Nat.beq n 151then some .z2 else none)else(bif Nat.beq n 159then some .y9 else none))else(bif Nat.blt n 163then(bif Nat.beq n 160then some .y9 else none)else(bif Nat.beq n 163then some .z5 else none)))))))else(bif Nat.blt n 274then(bif Nat.blt n 214then(bif Nat.blt n 189then(bif Nat.blt n 170then(bif Nat.blt n 165then(bif Nat.beq n 164then some .z4 else none)else(bif Nat.blt n 166then(bif Nat.beq n 165then some .y6 else none)else(bif Nat.beq n 166then some .y6 else none)))else(bif Nat.blt n 187then(bif Nat.blt n 171then(bif Nat.beq n 170then some .zw else none)else(bif Nat.beq n 171then some .zw else none))else(bif Nat.blt n 188then(bif Nat.beq n 187then some .zd else none)else(bif Nat.beq n 188then some .zr else none))))else(bif Nat.blt n 203then(bif Nat.blt n 195then(bif Nat.beq n 189then some .zr else none)else(bif Nat.blt n 202then(bif Nat.beq n 195then some .zf else none)else(bif Nat.beq n 202then some .yc else none)))else(bif Nat.blt n 209then(bif Nat.blt n 208then(bif Nat.beq n 203then some .yc else none)else(bif Nat.beq n 208then some .y0 else none))else(bif Nat.blt n 213then(bif Nat.beq n 209then some .y0 else none)else(bif Nat.beq n 213then some .z7 else none)))))else(bif Nat.blt n 228then(bif Nat.blt n 219then(bif Nat.blt n 215then(bif Nat.beq n 214then some .z3 else none)else(bif Nat.blt n 218then(bif Nat.beq n 215then some .z3 else none)else(bif Nat.beq n 218then some .zi else none)))else(bif Nat.blt n 224then(bif Nat.blt n 223then(bif Nat.beq n 219then some .zi else none)else(bif Nat.beq n 223then some .zs else none))else(bif Nat.blt n 225then(bif Nat.beq n 224then some .zs else none)else(bif Nat.beq n 225then some .yn else none))))else(bif Nat.blt n 267then(bif Nat.blt n 264then(bif Nat.blt n 229then(bif Nat.beq n 228then some .y5 else none)else(bif Nat.beq n 229then some .y5 else none))else(bif Nat.blt n 265then(bif Nat.beq n 264then some .zj else none)else(bif Nat.beq n 265then some .zj else none)))else(bif Nat.blt n 270then(bif Nat.blt n 268then(bif Nat.beq n 267then some .zo else none)else(bif Nat.beq n 268then some .zo else none))else(bif Nat.blt n 271then(bif Nat.beq n 270then some .zq else none)else(bif Nat.beq n 271then some .zq else none))))))else(bif Nat.blt n 372then(bif Nat.blt n 323then(bif Nat.blt n 285then(bif Nat.blt n 275then(bif Nat.beq n 274then some .zv else none)else(bif Nat.blt n 284then(bif Nat.beq n 275then some .zv else none)else(bif Nat.beq n 284then some .zt else none)))else(bif Nat.blt n 314then(bif Nat.blt n 313then(bif Nat.beq n 285then some .zt else none)else(bif Nat.beq n 313then some .ye else none))else(bif Nat.blt n 322then(bif Nat.beq n 314then some .ye else none)else(bif Nat.beq n 322then some .zk else none))))else(bif Nat.blt n 346then(bif Nat.blt n 328then(bif Nat.beq n 323then some .zk else none)else(bif Nat.blt n 329then(bif Nat.beq n 328then some .yf else none)else(bif Nat.beq n 329then some .yf else none)))else(bif Nat.blt n 365then(bif Nat.blt n 347then(bif Nat.beq n 346then some .yd else none)else(bif Nat.beq n 347then some .yd else none))else(bif Nat.blt n 371then(bif Nat.beq n 365then some .z0 else none)else(bif Nat.beq n 371then some .yj else none)))))else(bif Nat.blt n 425then(bif Nat.blt n 389then(bif Nat.blt n 383then(bif Nat.beq n 372then some .yj else none)else(bif Nat.blt n 384then(bif Nat.beq n 383then some .zh else none)else(bif Nat.beq n 384then some .zh else none)))else(bif Nat.blt n 409then(bif Nat.blt n 402then(bif Nat.beq n 389then some .yn else none)else(bif Nat.beq n 402then some .z9 else none))else(bif Nat.blt n 414then(bif Nat.beq n 409then some .ym else none)else(bif Nat.beq n 414then some .z6 else none))))else(bif Nat.blt n 464then(bif Nat.blt n 433then(bif Nat.blt n 426then(bif Nat.beq n 425then some .yk else none)else(bif Nat.beq n 426then some .yk else none))else(bif Nat.blt n 445then(bif Nat.beq n 433then some .z9 else none)else(bif Nat.beq n 445then some .yn else none)))else(bif Nat.blt n 509then(bif Nat.blt n 482then(bif Nat.beq n 464then some .yn else none)else(bif Nat.beq n 482then some .z1 else none))else(bif Nat.blt n 510then(bif Nat.beq n 509then some .yo else none)else(bif Nat.beq n 510then some .yo else none)))))))
def VV:Uni where C:=TyC;T:=TyC.T;dec:=dT;c0:=.z9;n:=λc=>match c with|.z9=>1|.zy=>5|.zo=>3|.yl=>1|.zl=>6|.zq=>7|.zn=>13|.zv=>7|.y8=>8|.z8=>1|.y7=>4|.y4=>5|.yn=>1|.yo=>1|.z2=>3|.y5=>3|.yi=>4|.y3=>3|.y2=>4|.zu=>4|.zp=>3|.yg=>13|.ya=>14|.ym=>1|.z0=>12|.yb=>9|.zd=>1|.zt=>4|.yc=>5|.y0=>4|.zr=>4|.zc=>1|.zz=>9|.z7=>7|.z3=>42|.ze=>1|.zi=>4|.zb=>1|.zs=>3|.ye=>15|.y9=>13|.z5=>6|.z4=>6|.y6=>15|.z6=>7|.yf=>14|.za=>1|.zw=>4|.zg=>12|_=>2;ag:=λc=>match c with|.z9=>false|.yl=>false|.z8=>false|.yn=>false|.yo=>false|.ym=>false|.zd=>false|.zc=>false|.ze=>false|.zb=>false|.za=>false|_=>true;lay:=λc=>match c with|.z9=>[none]|.zy=>[none,none,none,none,none]|.zx=>[none,none]|.zj=>[none,none]|.zm=>[none,none]|.zo=>[none,some .zm]|.yl=>[none]|.zl=>[none,some .zm,none,none,none]|.zq=>[none,some .zl]|.zn=>[none,some .zl,some .zl]|.zv=>[none,some .zl]|.y8=>[none,some .zx,none,none,none,none,none]|.z8=>[none]|.y7=>[none,none,some .zm]|.y4=>[none,some .y7]|.zh=>[none,none]|.yn=>[none]|.yo=>[none]|.y1=>[none,none]|.z2=>List.replicate 3 (none)|.y5=>[none,none,none]|.yi=>[none,none,none,none]|.yh=>[none,none]|.y3=>[none,none,none]|.y2=>[none,some .y3]|.zu=>[none,none,some .zm]|.zp=>[none,none,none]|.yg=>[none,none,none,none,none,none,none,none,none,none,none,none,none]|.ya=>[none,none,none,none,none,none,none,some .y1,none,none,none,none,none]|.yk=>[none,none]|.ym=>[none]|.z1=>List.replicate 2 (none)|.z0=>List.replicate 12 (none)|.yb=>[some .zp,none,some .zy]|.zd=>[none]|.zt=>[none,none,some .y1]|.yd=>[none,none]|.yc=>[none,some .y1,none,none]|.y0=>[some .y1,none,none]|.zr=>[none,none,some .y1]|.zc=>[none]|.zz=>[none,some .y8]|.zf=>[none,none]|.z7=>List.replicate 7 (none)|.z3=>List.replicate 6 (some .z7)|.ze=>[none]|.zi=>[some .y1,none,none]|.zb=>[none]|.zs=>[some .y1,none]|.ye=>[some .ya,none]|.zk=>[none,none]|.yj=>[none,none]|.y9=>[none,none,none,none,none,none,none,none,none,none,some .zm,none]|.z5=>List.replicate 6 (none)|.z4=>List.replicate 6 (none)|.y6=>[some .z5,some .z4,none,none,none]|.z6=>List.replicate 7 (none)|.yf=>[some .y9,none]|.za=>[none]|.zw=>[none,some .zm,none]|.zg=>[none,none,none,none,none,none,none,none,none,none,none,none];flds:=λc=>match c with|.z9=>g93|.zy=>f0o|.zx=>d66|.zj=>e4m|.zm=>d63|.zo=>e9e|.yl=>g78|.zl=>f5y|.zq=>g3m|.zn=>f1v|.zv=>e6t|.y8=>e10|.z8=>g3y|.y7=>f02|.y4=>f7b|.zh=>d9c|.yn=>h1c|.yo=>h4b|.y1=>f4o|.z2=>e7k|.y5=>e9d|.yi=>c0i|.yh=>c2q|.y3=>e0x|.y2=>f0d|.zu=>f3r|.zp=>f7k|.yg=>c2o|.ya=>d8u|.yk=>c79|.ym=>h09|.z1=>e7l|.z0=>e5w|.yb=>c8y|.zd=>f0l|.zt=>e1h|.yd=>c2m|.yc=>c3f|.y0=>d9y|.zr=>e5s|.zc=>e05|.zz=>e50|.zf=>k4n|.z7=>d8m|.z3=>c7x|.ze=>c73|.zi=>e0m|.zb=>d7t|.zs=>f2h|.ye=>c35|.zk=>d9p|.yj=>c5b|.y9=>f4f|.z5=>e96|.z4=>e5x|.y6=>e8i|.z6=>f2a|.yf=>c4s|.za=>g56|.zw=>e56|.zg=>f1u;mkv:=λc=>match c with|.z9=>h0b|.zy=>e9b|.zx=>d85|.zj=>e6k|.zm=>d90|.zo=>e7q|.yl=>g9e|.zl=>f4s|.zq=>g4f|.zn=>e92|.zv=>e6w|.y8=>e1l|.z8=>g5e|.y7=>f05|.y4=>f5s|.zh=>e0b|.yn=>g83|.yo=>h2q|.y1=>f7t|.z2=>d8g|.y5=>f0u|.yi=>c0h|.yh=>c2l|.y3=>e0u|.y2=>e9c|.zu=>f4z|.zp=>f6x|.yg=>c2p|.ya=>d83|.yk=>c74|.ym=>h0n|.z1=>d5s|.z0=>d2q|.yb=>c7v|.zd=>e88|.zt=>e0z|.yd=>c2r|.yc=>c3t|.y0=>e1d|.zr=>e58|.zc=>d95|.zz=>e62|.zf=>k4j|.z7=>c6h|.z3=>c16|.ze=>c77|.zi=>e1b|.zb=>d5c|.zs=>e80|.ye=>c3a|.zk=>e08|.yj=>c5t|.y9=>f6d|.z5=>d59|.z4=>d2a|.y6=>e9r|.z6=>d8f|.yf=>c4w|.za=>g3l|.zw=>e6j|.zg=>e79;cd:=cdT;flat:=λc=>match c with|.zy=>false|.zl=>false|.zq=>false|.zn=>false|.zv=>false|.y8=>false|.yi=>false|.y3=>false|.y2=>false|.zp=>false|.yb=>false|.zd=>false|.yc=>false|.zc=>false|.zz=>false|.z7=>false|.z3=>false|.ze=>false|.zb=>false|.zs=>false|.ye=>false|.y9=>false|.yf=>false|.za=>false|.zw=>false|.zg=>false|_=>true;isA:=λc=>match c with|.z2=>true|.z1=>true|.z0=>true|.z7=>true|.z3=>true|.z5=>true|.z4=>true|.z6=>true|_=>false;ae:=λc=>match c with|.z2=>.yl|.z1=>.z9|.z0=>.z9|.z7=>.zd|.z3=>.z7|.z5=>.z9|.z4=>.z8|.z6=>.z9|c=>c;an:=λc=>match c with|.z2=>3|.z1=>2|.z0=>12|.z7=>7|.z3=>6|.z5=>6|.z4=>6|.z6=>7|_=>0;al:=λc=>match c with|.z2=>λx=>x.l|.z1=>λx=>x.l|.z0=>λx=>x.l|.z7=>λx=>x.l|.z3=>λx=>x.l|.z5=>λx=>x.l|.z4=>λx=>x.l|.z6=>λx=>x.l|_=>λ_=>[];ast:=λc=>match c with|.z2=>λx i y=>x.set i y|.z1=>λx i y=>x.set i y|.z0=>λx i y=>x.set i y|.z7=>λx i y=>x.set i y|.z3=>λx i y=>x.set i y|.z5=>λx i y=>x.set i y|.z4=>λx i y=>x.set i y|.z6=>λx i y=>x.set i y|_=>λx _ _=>x;gt:=λc=>match c with|.z9=>λx _=>x|.zy=>λx _=>x|.zx=>λx _=>x|.zj=>λx _=>x|.zm=>λx _=>x|.zo=>λx _=>x|.yl=>λx _=>x|.zl=>λx _=>x|.zq=>λx _=>x|.zn=>λx _=>x|.zv=>λx _=>x|.y8=>λx _=>x|.z8=>λx _=>x|.y7=>λx _=>x|.y4=>λx _=>x|.zh=>λx _=>x|.yn=>λx _=>x|.yo=>λx _=>x|.y1=>λx _=>x|.z2=>λx i=>Ar.gt ByteArray.empty x i|.y5=>λx _=>x|.yi=>λx _=>x|.yh=>λx _=>x|.y3=>λx _=>x|.y2=>λx _=>x|.zu=>λx _=>x|.zp=>λx _=>x|.yg=>λx _=>x|.ya=>λx _=>x|.yk=>λx _=>x|.ym=>λx _=>x|.z1=>λx i=>Ar.gt 0 x i|.z0=>λx i=>Ar.gt 0 x i|.yb=>λx _=>x|.zd=>λx _=>x|.zt=>λx _=>x|.yd=>λx _=>x|.yc=>λx _=>x|.y0=>λx _=>x|.zr=>λx _=>x|.zc=>λx _=>x|.zz=>λx _=>x|.zf=>λx _=>x|.z7=>λx i=>Ar.gt [] x i|.z3=>λx i=>Ar.gt (arZ 7 []) x i|.ze=>λx _=>x|.zi=>λx _=>x|.zb=>λx _=>x|.zs=>λx _=>x|.ye=>λx _=>x|.zk=>λx _=>x|.yj=>λx _=>x|.y9=>λx _=>x|.z5=>λx i=>Ar.gt 0 x i|.z4=>λx i=>Ar.gt false x i|.y6=>λx _=>x|.z6=>λx i=>Ar.gt 0 x i|.yf=>λx _=>x|.za=>λx _=>x|.zw=>λx _=>x|.zg=>λx _=>x;b8:=λc=>match c with|.yo=>true|_=>false;t8:=λc=>match c with|.yo=>λx=>x|_=>λ_=>0;tab:=λw=>Lib.TabIs Go.Proofs.Tryz.prog w "internal/strconv.uint64pow10" .u64 Lib.pow10Tab;tb:=λb=>b=3
set_option maxHeartbeats 2000000 in
def uok:UOK VV where
 lay:=λc x=>by cases c<;>first|rfl|exact g3z (U:=VV) x λ_=>rfl
 kind:=λc x=>by cases c<;>first|rfl|exact f1p (U:=VV) x λ_=>rfl
 sum:=λc=>by cases c<;>rfl
 sc:=λc h=>by cases c<;>first|rfl|cases h
 mkl:=λc zs y h=>by cases c;all_goals first
   | (repeat(obtain⟨_,zs,_,rfl,_,h⟩:=h0y h)
      obtain⟨rfl,rfl⟩:=h00 h;repeat' first|exact trivial|exact e7i (U:=VV) (by assumption)|exact g76 (U:=VV) (by assumption)|exact h0c (U:=VV) (by assumption)|exact g88 (U:=VV) (by assumption)|exact g9w (U:=VV) (by assumption)|exact h4a (U:=VV) (by assumption)|exact gN_ok (U:=VV) (by assumption)|refine⟨?_,?_⟩)|exact c6w (λ_ _ h=>h0c (U:=VV) h) (show d8g zs=some y from h)|exact c6w (λ_ _ h=>e7i (U:=VV) h) (show d5s zs=some y from h)|exact c6w (λ_ _ h=>e7i (U:=VV) h) (show d2q zs=some y from h)|exact c6w (λ_ _ h=>g9w (U:=VV) h) (show c6h zs=some y from h)|exact c6w (λ_ _ h=>g88 (U:=VV) h) (show c16 zs=some y from h)|exact c6w (λ_ _ h=>e7i (U:=VV) h) (show d59 zs=some y from h)|exact c6w (λ_ _ h=>g76 (U:=VV) h) (show d2a zs=some y from h)|exact c6w (λ_ _ h=>e7i (U:=VV) h) (show d8f zs=some y from h)
 flat:=λc x h=>by cases c<;>first|exact Bool.noConfusion (show false=true from h)|rfl|exact f1p (U:=VV) x λ_=>rfl
 arr:=λc x h=>by cases c<;>first|exact Bool.noConfusion (show false=true from h)|exact⟨rfl,x.h⟩
 ars:=λc x i y h=>by cases c<;>first|exact Bool.noConfusion (show false=true from h)|rfl
 gt:=λc x i y h=>by cases c<;>first|exact Bool.noConfusion (show false=true from h)|exactλhg=>Ar.gt_ok hg
 by8:=λc x h=>by cases c<;>first|exact Bool.noConfusion (show false=true from h)|rfl
 tabK:=λw w2 h hb=>f8r (g:=3) (show Go.Proofs.Tryz.prog.globalNamed "internal/strconv.uint64pow10"=some 3by kernel_rfl) h (hb 3 rfl)
end Go.PL
namespace Go.Proofs
open Go.Shelf
def Tryz.sliceLay_ren:Go.Shelf.Ren:=⟨λ|6=>214|10=>276|11=>277|12=>278|13=>224|14=>279|24=>297|25=>233|26=>341|27=>342|28=>343|29=>344|30=>345|31=>346|32=>347|33=>348|34=>385|35=>386|36=>387|37=>388|38=>389|39=>411|n=>n,λ|20=>20|26=>341|35=>391|0=>0|37=>220|3=>3|41=>225|44=>396|49=>409|51=>96|4=>4|54=>434|53=>433|58=>196|5=>5|9=>9|60=>464|64=>449|66=>486|67=>168|17=>17|32=>388|33=>389|82=>516|12=>12|75=>509|76=>510|77=>511|78=>512|79=>513|80=>514|n=>n,λ|n=>n⟩
def Tryz.sliceLay:Go.Proofs.LaysGg.n6 Tryz.prog Tryz.sliceLay_ren:={
 mixed:=by kernel_rfl
 f6:=Tryz.func214.trans (congrArg some (by kernel_rfl))
 f10:=Tryz.func276.trans (congrArg some (by kernel_rfl))
 f11:=Tryz.func277.trans (congrArg some (by kernel_rfl))
 f12:=Tryz.func278.trans (congrArg some (by kernel_rfl))
 f13:=Tryz.func224.trans (congrArg some (by kernel_rfl))
 f14:=Tryz.func279.trans (congrArg some (by kernel_rfl))
 f24:=Tryz.func297.trans (congrArg some (by kernel_rfl))
 f25:=Tryz.func233.trans (congrArg some (by kernel_rfl))
 f26:=Tryz.func341.trans (congrArg some (by kernel_rfl))
 f27:=Tryz.func342.trans (congrArg some (by kernel_rfl))
 f28:=Tryz.func343.trans (congrArg some (by kernel_rfl))
 f29:=Tryz.func344.trans (congrArg some (by kernel_rfl))
 f30:=Tryz.func345.trans (congrArg some (by kernel_rfl))
 f31:=Tryz.func346.trans (congrArg some (by kernel_rfl))
 f32:=Tryz.func347.trans (congrArg some (by kernel_rfl))
 f33:=Tryz.func348.trans (congrArg some (by kernel_rfl))
 f34:=Tryz.func385.trans (congrArg some (by kernel_rfl))
 f35:=Tryz.func386.trans (congrArg some (by kernel_rfl))
 f36:=Tryz.func387.trans (congrArg some (by kernel_rfl))
 f37:=Tryz.func388.trans (congrArg some (by kernel_rfl))
 f38:=Tryz.func389.trans (congrArg some (by kernel_rfl))
 f39:=Tryz.func411.trans (congrArg some (by kernel_rfl))
 t0:=Tryz.underlying0
 a0:=Tryz.isAgg0
 z0:=Tryz.sizeOf0
 v0:=Tryz.zeroValue0
 i0:=by kernel_rfl
 t3:=Tryz.underlying3
 a3:=Tryz.isAgg3
 z3:=Tryz.sizeOf3
 v3:=Tryz.zeroValue3
 i3:=by kernel_rfl
 t4:=Tryz.underlying4
 a4:=Tryz.isAgg4
 z4:=Tryz.sizeOf4
 v4:=Tryz.zeroValue4
 i4:=by kernel_rfl
 t5:=Tryz.underlying5
 a5:=Tryz.isAgg5
 z5:=Tryz.sizeOf5
 v5:=Tryz.zeroValue5
 i5:=by kernel_rfl
 t9:=Tryz.underlying9
 a9:=Tryz.isAgg9
 z9:=Tryz.sizeOf9
 v9:=Tryz.zeroValue9
 i9:=by kernel_rfl
 t12:=Tryz.underlying12
 a12:=Tryz.isAgg12
 z12:=Tryz.sizeOf12
 v12:=Tryz.zeroValue12
 i12:=by kernel_rfl
 t17:=Tryz.underlying17
 a17:=Tryz.isAgg17
 z17:=Tryz.sizeOf17
 v17:=Tryz.zeroValue17
 i17:=by kernel_rfl
 t20:=Tryz.underlying20
 a20:=Tryz.isAgg20
 z20:=Tryz.sizeOf20
 v20:=Tryz.zeroValue20
 i20:=by kernel_rfl
 t26:=Tryz.underlying341
 a26:=Tryz.isAgg341
 z26:=Tryz.sizeOf341
 v26:=Tryz.zeroValue341
 i26:=by kernel_rfl
 t32:=Tryz.underlying388
 a32:=Tryz.isAgg388
 z32:=Tryz.sizeOf388
 v32:=Tryz.zeroValue388
 i32:=by kernel_rfl
 t33:=Tryz.underlying389
 a33:=Tryz.isAgg389
 z33:=Tryz.sizeOf389
 v33:=Tryz.zeroValue389
 i33:=by kernel_rfl
 t35:=Tryz.underlying391
 a35:=Tryz.isAgg391
 z35:=Tryz.sizeOf391
 v35:=Tryz.zeroValue391
 i35:=by kernel_rfl
 t37:=Tryz.underlying220
 a37:=Tryz.isAgg220
 z37:=Tryz.sizeOf220
 v37:=Tryz.zeroValue220
 i37:=by kernel_rfl
 t41:=Tryz.underlying225
 a41:=Tryz.isAgg225
 z41:=Tryz.sizeOf225
 v41:=Tryz.zeroValue225
 i41:=by kernel_rfl
 t44:=Tryz.underlying396
 a44:=Tryz.isAgg396
 z44:=Tryz.sizeOf396
 v44:=Tryz.zeroValue396
 i44:=by kernel_rfl
 t49:=Tryz.underlying409
 a49:=Tryz.isAgg409
 z49:=Tryz.sizeOf409
 v49:=Tryz.zeroValue409
 i49:=by kernel_rfl
 t51:=Tryz.underlying96
 a51:=Tryz.isAgg96
 z51:=Tryz.sizeOf96
 v51:=Tryz.zeroValue96
 i51:=by kernel_rfl
 t53:=Tryz.underlying433
 a53:=Tryz.isAgg433
 z53:=Tryz.sizeOf433
 v53:=Tryz.zeroValue433
 i53:=by kernel_rfl
 t54:=Tryz.underlying434
 a54:=Tryz.isAgg434
 z54:=Tryz.sizeOf434
 v54:=Tryz.zeroValue434
 i54:=by kernel_rfl
 t58:=Tryz.underlying196
 a58:=Tryz.isAgg196
 z58:=Tryz.sizeOf196
 v58:=Tryz.zeroValue196
 i58:=by kernel_rfl
 t60:=Tryz.underlying464
 a60:=Tryz.isAgg464
 z60:=Tryz.sizeOf464
 v60:=Tryz.zeroValue464
 i60:=by kernel_rfl
 t64:=Tryz.underlying449
 a64:=Tryz.isAgg449
 z64:=Tryz.sizeOf449
 v64:=Tryz.zeroValue449
 i64:=by kernel_rfl
 t66:=Tryz.underlying486
 a66:=Tryz.isAgg486
 z66:=Tryz.sizeOf486
 v66:=Tryz.zeroValue486
 i66:=by kernel_rfl
 t67:=Tryz.underlying168
 a67:=Tryz.isAgg168
 z67:=Tryz.sizeOf168
 v67:=Tryz.zeroValue168
 i67:=by kernel_rfl
 t75:=Tryz.underlying509
 a75:=Tryz.isAgg509
 z75:=Tryz.sizeOf509
 v75:=Tryz.zeroValue509
 i75:=by kernel_rfl
 t76:=Tryz.underlying510
 a76:=Tryz.isAgg510
 z76:=Tryz.sizeOf510
 v76:=Tryz.zeroValue510
 i76:=by kernel_rfl
 t77:=Tryz.underlying511
 a77:=Tryz.isAgg511
 z77:=Tryz.sizeOf511
 v77:=Tryz.zeroValue511
 i77:=by kernel_rfl
 t78:=Tryz.underlying512
 a78:=Tryz.isAgg512
 z78:=Tryz.sizeOf512
 v78:=Tryz.zeroValue512
 i78:=by kernel_rfl
 t79:=Tryz.underlying513
 a79:=Tryz.isAgg513
 z79:=Tryz.sizeOf513
 v79:=Tryz.zeroValue513
 i79:=by kernel_rfl
 t80:=Tryz.underlying514
 a80:=Tryz.isAgg514
 z80:=Tryz.sizeOf514
 v80:=Tryz.zeroValue514
 i80:=by kernel_rfl
 t82:=Tryz.underlying516
 a82:=Tryz.isAgg516
 z82:=Tryz.sizeOf516
 v82:=Tryz.zeroValue516
 i82:=by kernel_rfl}
def Tryz.laysItoa_ren:Go.Shelf.Ren:=⟨λ|171=>379|243=>406|246=>417|283=>422|284=>423|285=>424|286=>425|129=>233|317=>426|318=>427|319=>428|320=>429|337=>430|338=>431|n=>n,λ|3=>3|9=>9|2=>2|4=>4|171=>494|0=>0|53=>96|37=>154|5=>5|173=>496|212=>499|51=>409|20=>20|213=>500|46=>225|232=>501|233=>502|n=>n,λ|17=>3|18=>4|19=>5|n=>n⟩
def Tryz.laysItoa:Go.Proofs.LaysM.n171 Tryz.prog Tryz.laysItoa_ren:={
 mixed:=by kernel_rfl
 f129:=Tryz.func233.trans (congrArg some (by kernel_rfl))
 f171:=Tryz.func379.trans (congrArg some (by kernel_rfl))
 f243:=Tryz.func406.trans (congrArg some (by kernel_rfl))
 f246:=Tryz.func417.trans (congrArg some (by kernel_rfl))
 f283:=Tryz.func422.trans (congrArg some (by kernel_rfl))
 f284:=Tryz.func423.trans (congrArg some (by kernel_rfl))
 f285:=Tryz.func424.trans (congrArg some (by kernel_rfl))
 f286:=Tryz.func425.trans (congrArg some (by kernel_rfl))
 f317:=Tryz.func426.trans (congrArg some (by kernel_rfl))
 f318:=Tryz.func427.trans (congrArg some (by kernel_rfl))
 f319:=Tryz.func428.trans (congrArg some (by kernel_rfl))
 f320:=Tryz.func429.trans (congrArg some (by kernel_rfl))
 f337:=Tryz.func430.trans (congrArg some (by kernel_rfl))
 f338:=Tryz.func431.trans (congrArg some (by kernel_rfl))
 t0:=Tryz.underlying0
 a0:=Tryz.isAgg0
 z0:=Tryz.sizeOf0
 v0:=Tryz.zeroValue0
 t2:=Tryz.underlying2
 a2:=Tryz.isAgg2
 z2:=Tryz.sizeOf2
 v2:=Tryz.zeroValue2
 t3:=Tryz.underlying3
 a3:=Tryz.isAgg3
 z3:=Tryz.sizeOf3
 v3:=Tryz.zeroValue3
 t4:=Tryz.underlying4
 a4:=Tryz.isAgg4
 z4:=Tryz.sizeOf4
 v4:=Tryz.zeroValue4
 t5:=Tryz.underlying5
 a5:=Tryz.isAgg5
 z5:=Tryz.sizeOf5
 v5:=Tryz.zeroValue5
 t9:=Tryz.underlying9
 a9:=Tryz.isAgg9
 z9:=Tryz.sizeOf9
 v9:=Tryz.zeroValue9
 t20:=Tryz.underlying20
 a20:=Tryz.isAgg20
 z20:=Tryz.sizeOf20
 v20:=Tryz.zeroValue20
 t37:=Tryz.underlying154
 a37:=Tryz.isAgg154
 z37:=Tryz.sizeOf154
 v37:=Tryz.zeroValue154
 t46:=Tryz.underlying225
 a46:=Tryz.isAgg225
 z46:=Tryz.sizeOf225
 v46:=Tryz.zeroValue225
 t51:=Tryz.underlying409
 a51:=Tryz.isAgg409
 z51:=Tryz.sizeOf409
 v51:=Tryz.zeroValue409
 t53:=Tryz.underlying96
 a53:=Tryz.isAgg96
 z53:=Tryz.sizeOf96
 v53:=Tryz.zeroValue96
 t171:=Tryz.underlying494
 a171:=Tryz.isAgg494
 z171:=Tryz.sizeOf494
 v171:=Tryz.zeroValue494
 t173:=Tryz.underlying496
 a173:=Tryz.isAgg496
 z173:=Tryz.sizeOf496
 v173:=Tryz.zeroValue496
 t212:=Tryz.underlying499
 a212:=Tryz.isAgg499
 z212:=Tryz.sizeOf499
 v212:=Tryz.zeroValue499
 t213:=Tryz.underlying500
 a213:=Tryz.isAgg500
 z213:=Tryz.sizeOf500
 t232:=Tryz.underlying501
 a232:=Tryz.isAgg501
 z232:=Tryz.sizeOf501
 v232:=Tryz.zeroValue501
 t233:=Tryz.underlying502
 a233:=Tryz.isAgg502
 z233:=Tryz.sizeOf502
 v233:=Tryz.zeroValue502
 g17:=by kernel_rfl
 g18:=by kernel_rfl
 g19:=by kernel_rfl
 i0:=by kernel_rfl
 i2:=by kernel_rfl
 i3:=by kernel_rfl
 i4:=by kernel_rfl
 i5:=by kernel_rfl
 i9:=by kernel_rfl
 i20:=by kernel_rfl
 i37:=by kernel_rfl
 i46:=by kernel_rfl
 i51:=by kernel_rfl
 i53:=by kernel_rfl
 i171:=by kernel_rfl
 i173:=by kernel_rfl
 i212:=by kernel_rfl
 i232:=by kernel_rfl
 i233:=by kernel_rfl
 m17:=by kernel_rfl
 m18:=by kernel_rfl
 m19:=by kernel_rfl}
end Go.Proofs
namespace Go.PL
open Go Go.Proofs Go.Sort
def d29{α:Type}[Inhabited α]{cells:α->List Go.Value}{n:Nat}(hn:∀x,(cells x).length=n):∀(l:List α)(t:Nat),t<l.length*n->(l.flatMap cells)[t]?=(cells (l[t/n]!))[t%n]?
 |[],t,h=>by simp at h|x::r,t,h=>by
   have hp:0<n:=by
    rcases Nat.eq_zero_or_pos n with h0|h0;.rw[h0]at h;simp at h
    .exact h0
   rw[List.flatMap_cons];by_cases ht:t<n;.rw[List.getElem?_append_left (by rw[hn];exact ht),Nat.div_eq_of_lt ht,Nat.mod_eq_of_lt ht];rfl
   .have h1:t=(t-n)+n:=by omega
    have h2:t/n=(t-n)/n+1:=by rw[h1,Nat.add_div_right _ hp];simp
    have h3:t%n=(t-n)%n:=by rw[h1,Nat.add_mod_right];simp
    rw[List.getElem?_append_right (by rw[hn];omega),hn,d29 hn r (t-n) (by simp only[qR,Nat.succ_mul]at h;omega),h2,h3];rfl
def c6t{α:Type}[Inhabited α]{cells:α->List Go.Value}{n:Nat}(hn:∀x,(cells x).length=n)(d:Array α):(flatK cells n d).toList=d.toList.flatMap cells:=by
 apply List.ext_getElem?;intro t;by_cases ht:t<d.size*n
 .rw[d29 hn d.toList t (by simpa using ht)];have h1:(flatK cells n d)[t]?=some ((cells (d[t/n]!))[t%n]!):=by rw[<-get_flatK cells n d t ht,getElem!_pos (flatK cells n d) t (by rw[size_flatK];exact ht)];simp
  have hp:0<n:=by
   rcases Nat.eq_zero_or_pos n with h0|h0;.rw[h0]at ht;simp at ht
   .exact h0
  have hlt:t%n<(cells (d[t/n]!)).length:=by rw[hn];exact Nat.mod_lt _ hp
  have h2:d.toList[t/n]! =d[t/n]!:=by simp[getElem!_eq_getElem?_getD,Array.getElem!_eq_getD,Array.getD_eq_getD_getElem?]
  rw[Array.getElem?_toList,h1,h2,getElem!_pos (cells (d[t/n]!)) (t%n) hlt,qG hlt]
 .rw[List.getElem?_eq_none (by simp;omega),List.getElem?_eq_none (by rw[a0p hn];simp;omega)]
section
variable {α:Type} [Inhabited α] {B:Nat} {E:TypeId} {n:Nat} {cells:α -> List Go.Value} {w w':World} {v:Go.Value} {l:List α}
def d6l(hn:∀x,(cells x).length=n){g o cap m:Nat}(h:Own B E n cells w (.slice (some ⟨g,o,none⟩) m cap) l):HoldsK cells n w g o l.toArray:=by
 intro j hj;rw[size_flatK]at hj;have hk:=c6t hn l.toArray;have hu:(l.flatMap cells)[j]?=some ((flatK cells n l.toArray)[j]!):=by
  have:(flatK cells n l.toArray).toList[j]?=some ((flatK cells n l.toArray)[j]!):=by rw[getElem!_pos (flatK cells n l.toArray) j (by rw[size_flatK];exact hj)];simp
  rw[hk]at this;simpa using this
 refine⟨?_,?_⟩;.have:=h.ca rfl j _ hu;rwa[Addr.add_lit]at this
 .rcases h with⟨hv,_⟩|⟨g',o',cap',cur,hv,_,hh,_⟩;.cases hv
  .simp only[Go.Value.slice.injEq,Option.some.injEq,Addr.mk.injEq]at hv;obtain⟨⟨rfl,_,_⟩,_,_⟩:=hv;have hM:Mb w g E cur.toList:=by show _=_;rw[hh]
   exact hM.frozen _
def d3h{F cur:Array Go.Value}{m o:Nat}(hF:F.size=m)(hc:o+m<=cur.size):((putCells id o F cur).toList.drop o).take m=F.toList:=by
 apply List.ext_getElem?;intro t;by_cases ht:t<m;.rw[List.getElem?_take_of_lt ht,List.getElem?_drop,Array.getElem?_toList];simp only[putCells,Array.getElem?_mapIdx,id];rw[Array.getElem?_eq_getElem (show o+t<cur.size by omega),Option.map_some,if_pos ⟨Nat.le_add_right _ _,by omega⟩,Array.getElem?_toList,Nat.add_sub_cancel_left,getElem!_pos F t (by omega),Array.getElem?_eq_getElem (show t<F.size by omega)]
 .rw[List.getElem?_eq_none (by simp;omega),List.getElem?_eq_none (by simp;omega)]
def e97(hn:∀x,(cells x).length=n){g o cap m q:Nat}{os:Array Obj}{d:Array α}(h:Own B E n cells w (.slice (some ⟨g,o,none⟩) m cap) l)(hd:d.size=l.length):Own B E n cells (grow (putRowK cells n (Go.Sort.ahead w q) g o d) os) (.slice (some ⟨g,o,none⟩) m cap) d.toList:=by
 rcases h with⟨hv,_⟩|⟨g',o',cap',cur,hv,hB,hh,hc,hm,hs,ht⟩;.cases hv
 .simp only[Go.Value.slice.injEq,Option.some.injEq,Addr.mk.injEq]at hv;obtain⟨⟨rfl,rfl,_⟩,hml,rfl⟩:=hv;have hlt:g<w.heap.size:=(qN.1 hh).1;have hmn:d.size*n<=cap*n:=by rw[hd];exact Nat.mul_le_mul_right _ hc
  refine .inr ⟨g,o,cap,putCells id o (flatK cells n d) cur,by rw[Array.length_toList,hd,hml],hB,?_,by rw[Array.length_toList,hd];exact hc,hm,by simp[putCells,hs],?_⟩;.show((putRowK cells n (Go.Sort.ahead w q) g o d).heap++os)[g]?=_;rw[Array.getElem?_append_left (by rw[size_putRowK];exact hlt)];show(w.heap.modify g _)[g]?=_;rw[Array.getElem?_modify,if_pos rfl,hh];rfl
  .rw[Array.length_toList,d3h (by rw[size_flatK]) (by omega),c6t hn]
def e7r{G:Nat->Prop}{g o q:Nat}{os:Array Obj}{d:Array α}(hg:G g):Ext G w (grow (putRowK cells n (Go.Sort.ahead w q) g o d) os):=⟨rfl,rfl,rfl,by show _<=((putRowK cells n (Go.Sort.ahead w q) g o d).heap++os).size;rw[Array.size_append,size_putRowK];exact Nat.le_add_right _ _,λb hb hn=>by show((putRowK cells n (Go.Sort.ahead w q) g o d).heap++os)[b]?=_;rw[Array.getElem?_append_left (by rw[size_putRowK];exact hb)];show(w.heap.modify g _)[b]?=_;rw[Array.getElem?_modify,if_neg (λe:g=b=>hn (e▸hg))]⟩
end
def e5t{α:Type}[Inhabited α](enc:α->Go.Value)(w:World)(b o:Nat)(d:Array α):putRow enc w b o d=putRowK (λx=>[enc x]) 1 w b o d:=by
 unfold putRowK putRow;congr 1;funext c;unfold putCells;refine Array.ext (by simp) λk h1 h2=>?_;simp only[Array.getElem_mapIdx,size_flatK,Nat.mul_one,id];split;.rename_i h;rw[get_flatK _ _ _ _ (by omega),Nat.div_one,Nat.mod_one];rfl
 .rfl
def e8y{α:Type}[Inhabited α]{enc:α->Go.Value}{w:World}{b o:Nat}{d:Array α}(h:HoldsK (λx=>[enc x]) 1 w b o d):Holds enc w b o d:=λj hj=>by have:=h j (by simpa using hj);rw[get_flatK _ _ _ _ (by omega),Nat.div_one,Nat.mod_one]at this;exact this
end Go.PL
namespace Go.Proofs
open Go.Shelf Go.RowKit Go.Lib Go.Sort
noncomputable def Tryz.spT:TypeInfo:=(Tryz.prog.info? 187).get (by kernel_rfl)
noncomputable def Tryz.spE:TypeInfo:=(Tryz.prog.info? 36).get (by kernel_rfl)
def Tryz.spK(n:Nat)(h2:2<=n):Lib.swapperK n Tryz.spE 25=9:=by
 have a:Tryz.spE.hasPointers=false:=by kernel_rfl
 have b:Tryz.spE.bytes=16:=by kernel_rfl
 have c:(n==0)=false:=by simp;omega
 have d:(n==1)=false:=by simp;omega
 simp[Lib.swapperK,a,b,c,d]
set_option maxHeartbeats 2000000 in
def Tryz.spLess (blk off c Bs size:Nat)(W:World)(G:Nat -> Int)(hs:W.cell? ⟨Bs,0,none⟩=some (.slice (some ⟨blk,off,none⟩) size c))
  (hc: ∀t,t<size -> W.cell? ⟨blk,off+t*2,none⟩=some (.int .i64 (G t))) (i j:Nat) (hi:i<size) (hj:j<size) (_hsz:size<4611686018427387904):
  Calls Tryz.prog 215 #[.int .i64 i,.int .i64 j,.pointer (some ⟨Bs,0,none⟩)] W λ e w'=>e= .returned (.bool (decide (G i<G j))) /\ ∃q,w'=W.drewN q:=by
 have ci:=hc i hi
 have cj:=hc j hj
 go_enter Tryz.func215,Tryz.ntmps215
 go_wp2
 go_quiet (fail)
 go_wp2
 go_ret
 exact ⟨rfl,nq,rfl⟩
end Go.Proofs
namespace Go.PL
open Go Go.Proofs Go.Sort
def Span.cells(x:Span):List Go.Value:=[.int .i64 x.From,.int .i64 x.To]
def e3o:SWO (λx y:Span=>decide (x.From<y.From)):=by
 constructor;.intro x;simp
 .intro x y z;simp only[decide_eq_true_eq];omega
 .intro x y z;simp only[decide_eq_false_iff_not];omega
set_option maxHeartbeats 2000000 in
def d0w {w0:World}(l:List Span){v:Go.Value}{B bc:Nat}(hO:Own B 36 2 Span.cells w0 v l)(hb:Mb w0 bc 187 [v])(hnb:Go.Value.ownBlock v≠some bc){r:List Span}(hF:b3w l=some r):
  Calls Tryz.prog 214 #[.iface 187 v,.func (.func 215) #[] #[.pointer (some ⟨bc,0,none⟩)]] w0 λ e w1=>e= .returned (.tuple #[]) /\ Ext (λ b=>Go.Value.ownBlock v=some b) w0 w1 /\ Own B 36 2 Span.cells w1 v r:=by
 unfold b3w f0f at hF
 by_cases h1:l.length <= 1
 ·rw [if_pos h1] at hF
  obtain rfl:=qH hF
  obtain ⟨a,cap,hv,_,_⟩:=hO.shape
  have key: ∀n,l.length=n -> Calls Tryz.prog 214 #[.iface 187 (.slice a n cap),.func (.func 215) #[] #[.pointer (some ⟨bc,0,none⟩)]] w0 (λ e w'=>e= .returned (.tuple #[]) /\ ∃os,w'=Go.Sort.grow w0 os) ->
    Calls Tryz.prog 214 #[.iface 187 v,.func (.func 215) #[] #[.pointer (some ⟨bc,0,none⟩)]] w0 λ e w1=>e= .returned (.tuple #[]) /\ Ext (λ b=>Go.Value.ownBlock v=some b) w0 w1 /\ Own B 36 2 Span.cells w1 v l:=by
   intro n hn h
   rw [hn] at hv
   rw [<- hv] at h
   refine Calls.mono h ?_
   rintro e w1 ⟨rfl,os,rfl⟩
   have hE:Ext noG w0 (Go.Sort.grow w0 os):=⟨rfl,rfl,rfl,by show _ <= (w0.heap++os).size;simp,λ b hb _=>by show (w0.heap++os)[b]? =_;rw [Array.getElem?_append_left hb]⟩
   exact ⟨rfl,hE.of_no,hO.exn hE⟩
  rcases (show l.length=0 \/ l.length=1 by omega) with h0 | h0
  ·exact key 0 h0 (Any.sort_Slice_tiny Tryz.sliceLay 187 36 Tryz.spT Tryz.spE (by kernel_rfl) (by kernel_rfl) (by kernel_rfl) (by kernel_rfl) 25 (λ _=>by kernel_rfl) a 0 cap (by omega) 332 (by kernel_rfl) (.func 215) #[] #[.pointer (some ⟨bc,0,none⟩)] w0)
  ·exact key 1 h0 (Any.sort_Slice_tiny Tryz.sliceLay 187 36 Tryz.spT Tryz.spE (by kernel_rfl) (by kernel_rfl) (by kernel_rfl) (by kernel_rfl) 25 (λ _=>by kernel_rfl) a 1 cap (by omega) 333 (by kernel_rfl) (.func 215) #[] #[.pointer (some ⟨bc,0,none⟩)] w0)
 ·rw [if_neg h1] at hF
  split at hF
  case isFalse=>cases hF
  rename_i hsz
  obtain rfl:=qH hF
  obtain ⟨a,cap,hv,hlc,hcm⟩:=hO.shape
  cases a with
  | none=>
    exfalso
    rcases hO with ⟨_,h⟩ | ⟨g,o,c',cur,hv',_⟩
    ·rw [h] at h1;simp at h1
    ·rw [hv] at hv';cases hv'
  | some ad=>
    obtain ⟨g,o,hg⟩: ∃g o,ad=⟨g,o,none⟩:=by
     rcases hO with ⟨h,_⟩ | ⟨g,o,c',cur,hv',_⟩
     ·rw [hv] at h;cases h
     ·rw [hv] at hv';cases hv';exact ⟨g,o,rfl⟩
    subst hg
    subst hv
    have hlt:g<w0.heap.size:=(hO.lt rfl).2
    have hbg:bc≠g:=λ e=>hnb (by rw [e];rfl)
    have hcell:w0.cell? ⟨bc,0,none⟩=some (.slice (some ⟨g,o,none⟩) l.toArray.size cap):=hb.ca 0 _ rfl
    have hH:=d6l (n:=2) (cells:=Span.cells) (λ _=>rfl) hO
    have h2:2 <= l.toArray.size:=by rw [List.size_toArray];omega
    have hsz':l.toArray.size<4611686018427387904:=by rw [List.size_toArray];exact hsz
    have hless:LessReadsK Tryz.prog 215 #[.pointer (some ⟨bc,0,none⟩)] Span.cells 2 (λ x y:Span=>decide (x.From<y.From)) g o l.toArray.size w0:=by
     intro m os dk hs i j hi hj
     have e:sortWorldK Span.cells 2 w0 g o m dk os=putRowK Span.cells 2 (grow (Go.Sort.ahead w0 m) os) g o dk:=by
      unfold sortWorldK;rw [putRowK_grow _ _ (Go.Sort.ahead w0 m) _ g o _ hlt]
     have hHg:HoldsK Span.cells 2 (grow (Go.Sort.ahead w0 m) os) g o l.toArray:=holdsK_grow _ _ _ _ g o _ hlt (holdsK_ahead _ _ _ _ _ _ _ hH)
     refine Tryz.spLess g o cap bc l.toArray.size _ (λ t=>dk[t]!.From) ?_ (λ t ht=> ?_) i j hi hj (by omega)
     ·rw [e,cell?_putRowK_other _ _ _ g o dk _ (by exact hbg),cell?_grow _ _ _ (by exact hb.lt)];exact hcell
     ·rw [e];exact ((holdsK_putRowK _ _ _ g o l.toArray dk hHg hs).cell (i:=t) (c:=0) (by omega) (by omega)).1
    have hS:=Any.sort_Slice_cells_eq Tryz.sliceLay 187 36 Tryz.spT Tryz.spE (by kernel_rfl) (by kernel_rfl) (by kernel_rfl) (by kernel_rfl) 25 (λ _=>by kernel_rfl) Span.cells 2 (λ _=>rfl) (by kernel_rfl) (λ _=>by kernel_rfl)
     (λ x u hu=>by simp [Span.cells] at hu;rcases hu with rfl | rfl<;>rfl) (λ x y:Span=>decide (x.From<y.From)) e3o 215 _
     (enters_of Tryz.func215 (by kernel_rfl) rfl) g o cap l.toArray h2 hsz' 340 (by rw [Tryz.spK _ h2];kernel_rfl) false
     (λ args W=>run_callFunc_extern Tryz.func340 (by kernel_rfl) (by kernel_rfl) (by kernel_rfl) (e:=Extern.ReflectliteSwapper.swap false) (by kernel_rfl) args W) w0 hless hH hlt
    have hp:=(pdq_sorts (λ x y:Span=>decide (x.From<y.From)) e3o l.toArray 0 l.toArray.size (Lib.bitLen l.toArray.size) true true (Nat.zero_le _) (Nat.le_refl _) (Or.inl rfl)).1.1
    rw [List.size_toArray] at hS hp
    generalize pdq (λ x y:Span=>decide (x.From<y.From)) l.toArray 0 l.length (Lib.bitLen l.length) true true=d at hS hp⊢
    refine Calls.mono hS ?_
    rintro e w1 ⟨rfl,q,os,rfl⟩
    exact ⟨rfl,e7r rfl,e97 (n:=2) (cells:=Span.cells) (λ _=>rfl) hO hp⟩
end Go.PL
namespace Go.PL
open Go Go.SX Go.Proofs
def mixed:Tryz.prog.follows .mixedOrders=true:=by kernel_rfl
noncomputable section
def k91:Fent VV:=⟨⟨[.v .yn,.v .yn,.v .yn],[.v .yn,.v .yn]⟩,Int×Int,λx=>c23 x.1 x.2.1 x.2.2.1,λn=>((n.1,n.2,()),()),none⟩
def l0y:d6d Tryz.prog 51 k91:=d2m (U:=VV) (g:=g7y) (l:=Extern.MathBitsCarry.rows) (λh _ he=>g34 h he) (fn:=Tryz.f51) (by kernel_rfl) (by kernel_rfl) (by kernel_rfl) (by kernel_rfl) (by kernel_rfl) (by kernel_rfl) (a:=.yn) (λx=>x) (λn=>n) (λ_=>rfl) (λ_=>rfl)
def k97:Fent VV:=⟨⟨[.v .yn,.v .yn,.v .yn],[.v .yn,.v .yn]⟩,Int×Int,λx=>c1u x.1 x.2.1 x.2.2.1,λn=>((n.1,n.2,()),()),none⟩
def l0p:d6d Tryz.prog 52 k97:=d2m (U:=VV) (g:=g8x) (l:=Extern.MathBitsCarry.rows.tail) (λh _ he=>g3o h he) (fn:=Tryz.f52) (by kernel_rfl) (by kernel_rfl) (by kernel_rfl) (by kernel_rfl) (by kernel_rfl) (by kernel_rfl) (a:=.yn) (λx=>x) (λn=>n) (λ_=>rfl) (λ_=>rfl)
def k80:Fent VV:=⟨⟨[.v .yl,.v .yo],[.v .z9]⟩,Int,λx=>a7v x.1 x.2.1,λn=>((n,()),()),none⟩
def k94:d6d Tryz.prog 420 k80:=f6g (U:=VV) (a:=.yl) (b:=.yo) (c:=.z9) (fn:=Tryz.f420) (by kernel_rfl) (by kernel_rfl) (by kernel_rfl) (by kernel_rfl) (by kernel_rfl) (λx=>x) (λx=>x) (λn=>n) (λ_=>rfl) (λ_=>rfl) (λ_=>rfl)
def k6b:Fent VV:=⟨⟨[.v .z9],[.v .yl]⟩,ByteArray,λx=>strconv_Itoa x.1,λb=>((b,()),()),none⟩
def k9a:SX.Spec Tryz.prog 379 k6b:=e8o (U:=VV) (a:=.z9) (c:=.yl) Tryz.laysItoa (λ_ h=>h) (λx=>x) (λ_=>rfl) (λx=>x) (λ_=>rfl)
def k9i:Fent VV:=⟨⟨[.ls .z9],[.ow 3 .z9]⟩,List Int,λx=>a7z x.1,w1,none⟩
def l0k:SX.Spec Tryz.prog 77 k9i:=b6g (U:=VV) (c:=.z9) (e:=3) (t:=23) (b:=4) (N:=8) uok mixed (fn:=Tryz.f77) (by kernel_rfl) (by kernel_rfl) rfl rfl (by kernel_rfl) (by kernel_rfl) (by kernel_rfl) (λl=>by kernel_rfl)
def k7j:Fent VV:=⟨⟨[.ls .zj],[.ow 265 .zj]⟩,List Credit,λx=>a5m x.1,w1,none⟩
def k96:SX.Spec Tryz.prog 137 k7j:=b6g (U:=VV) (c:=.zj) (e:=265) (t:=68) (b:=4) (N:=16) uok mixed (fn:=Tryz.f137) (by kernel_rfl) (by kernel_rfl) rfl rfl (by kernel_rfl) (by kernel_rfl) (by kernel_rfl) (λl=>by kernel_rfl)
def k6y:Fent VV:=⟨⟨[.ls .zo],[.ow 268 .zo]⟩,List Index,λx=>a6e x.1,w1,none⟩
def k98:SX.Spec Tryz.prog 138 k6y:=b6g (U:=VV) (c:=.zo) (e:=268) (t:=69) (b:=4) (N:=24) uok mixed (fn:=Tryz.f138) (by kernel_rfl) (by kernel_rfl) rfl rfl (by kernel_rfl) (by kernel_rfl) (by kernel_rfl) (λl=>by kernel_rfl)
def k7e:Fent VV:=⟨⟨[.ls .zq],[.ow 271 .zq]⟩,List Let,λx=>a86 x.1,w1,none⟩
def l0c:SX.Spec Tryz.prog 139 k7e:=b6g (U:=VV) (c:=.zq) (e:=271) (t:=70) (b:=4) (N:=88) uok mixed (fn:=Tryz.f139) (by kernel_rfl) (by kernel_rfl) rfl rfl (by kernel_rfl) (by kernel_rfl) (by kernel_rfl) (λl=>by kernel_rfl)
def k85:Fent VV:=⟨⟨[.ls .zn],[.ow 87 .zn]⟩,List Grant,λx=>a6f x.1,w1,none⟩
def l04:SX.Spec Tryz.prog 140 k85:=b6g (U:=VV) (c:=.zn) (e:=87) (t:=71) (b:=4) (N:=152) uok mixed (fn:=Tryz.f140) (by kernel_rfl) (by kernel_rfl) rfl rfl (by kernel_rfl) (by kernel_rfl) (by kernel_rfl) (λl=>by kernel_rfl)
def k6q:Fent VV:=⟨⟨[.ls .zv],[.ow 275 .zv]⟩,List Reduce,λx=>a5p x.1,w1,none⟩
def l05:SX.Spec Tryz.prog 141 k6q:=b6g (U:=VV) (c:=.zv) (e:=275) (t:=72) (b:=4) (N:=80) uok mixed (fn:=Tryz.f141) (by kernel_rfl) (by kernel_rfl) rfl rfl (by kernel_rfl) (by kernel_rfl) (by kernel_rfl) (λl=>by kernel_rfl)
def l02:Fent VV:=⟨⟨[],[]⟩,Unit,λ_=>none,λ_=>((),()),some (.qy (slQ 187 36 .y1 215 b3w))⟩
def K214:Kn Tryz.prog VV:=⟨214,l02,show d6v Tryz.prog 214 _ from g47 (U:=VV) (c:=.y1) (cells:=Span.cells) (a14 (fn:=Tryz.f214) (by kernel_rfl) (by kernel_rfl) (by kernel_rfl)) (λG w cs x h=>by obtain⟨_,css,rfl,hh⟩:=a91.1 h;match css,hh with|[a,b],⟨h1,h2,_⟩=>rw[show a=_ from h1,show b=_ from h2];rfl) (λG w x=>a91.2 ⟨rfl,[[.int .i64 x.From],[.int .i64 x.To]],rfl,⟨rfl,rfl,trivial⟩⟩) λl r w v bc hO hM hne hF=>d0w l hO hM hne hF⟩
def k9m:Fent VV:=⟨⟨[],[]⟩,Unit,λ_=>none,λ_=>((),()),some (.qy (soQ 3 .z9 b8s))⟩
def k9l:Fent VV:=⟨⟨[],[]⟩,Unit,λ_=>none,λ_=>((),()),some (.qy (skQ 252 312 3 .z9 λx=>x))⟩
def K77:Kn Tryz.prog VV:=⟨77,k9i,knS rfl ⟨l0k,λ_ _=>by kernel_rfl⟩⟩
def K137:Kn Tryz.prog VV:=⟨137,k7j,knS rfl ⟨k96,λ_ _=>by kernel_rfl⟩⟩
def K138:Kn Tryz.prog VV:=⟨138,k6y,knS rfl ⟨k98,λ_ _=>by kernel_rfl⟩⟩
def K139:Kn Tryz.prog VV:=⟨139,k7e,knS rfl ⟨l0c,λ_ _=>by kernel_rfl⟩⟩
def K140:Kn Tryz.prog VV:=⟨140,k85,knS rfl ⟨l04,λ_ _=>by kernel_rfl⟩⟩
def k22:Kn Tryz.prog VV:=⟨141,k6q,knS rfl ⟨l05,λ_ _=>by kernel_rfl⟩⟩
def K379:Kn Tryz.prog VV:=⟨379,k6b,knS rfl ⟨k9a,λ_ _=>by kernel_rfl⟩⟩
def l0q:Fent VV:=⟨⟨[],[]⟩,Unit,λ_=>none,λ_=>((),()),some (.seq 135 27 (some .zy))⟩
def K76:Kn Tryz.prog VV:=⟨76,l0q,show b9c _ _ _ _ from c5j (tS:=27) (tF:=180) (tG:=179) (p1:= "iter.go:26") (p2:= "iter.go:27") (a14 (fn:=Tryz.f76) (by kernel_rfl) (by kernel_rfl) (by kernel_rfl)) (fn:=Tryz.f76) (by kernel_rfl) (by kernel_rfl) rfl rfl⟩
def l0t:Fent VV:=⟨⟨[],[]⟩,Unit,λ_=>none,λ_=>((),()),some (.seq 136 59 (some .y8))⟩
def K78:Kn Tryz.prog VV:=⟨78,l0t,show b9c _ _ _ _ from c5j (tS:=59) (tF:=184) (tG:=183) (p1:= "iter.go:26") (p2:= "iter.go:27") (a14 (fn:=Tryz.f78) (by kernel_rfl) (by kernel_rfl) (by kernel_rfl)) (fn:=Tryz.f78) (by kernel_rfl) (by kernel_rfl) rfl rfl⟩
def e75:Fent VV:=⟨⟨[],[]⟩,Unit,λ_=>none,λ_=>((),()),some (.seq 252 312 none)⟩
def h1z:Kn Tryz.prog VV:=⟨188,e75,show b9c _ _ _ _ from c5j (tS:=312) (tF:=317) (tG:=316) (p1:= "iter.go:25") (p2:= "iter.go:26") (a14 (fn:=Tryz.f188) (by kernel_rfl) (by kernel_rfl) (by kernel_rfl)) (fn:=Tryz.f188) (by kernel_rfl) (by kernel_rfl) rfl rfl⟩
def k9x:Fent VV:=⟨⟨[],[]⟩,Unit,λ_=>none,λ_=>((),()),some (.seq 397 45 (some .y4))⟩
def K369:Kn Tryz.prog VV:=⟨369,k9x,show b9c _ _ _ _ from c5j (tS:=45) (tF:=456) (tG:=455) (p1:= "iter.go:26") (p2:= "iter.go:27") (a14 (fn:=Tryz.f369) (by kernel_rfl) (by kernel_rfl) (by kernel_rfl)) (fn:=Tryz.f369) (by kernel_rfl) (by kernel_rfl) rfl rfl⟩
def k8y:Fent VV:=⟨⟨[],[]⟩,Unit,λ_=>none,λ_=>((),()),some (.seq 398 23 (some .z9))⟩
def K370:Kn Tryz.prog VV:=⟨370,k8y,show b9c _ _ _ _ from c5j (tS:=23) (tF:=317) (tG:=316) (p1:= "iter.go:37") (p2:= "iter.go:38") (a14 (fn:=Tryz.f370) (by kernel_rfl) (by kernel_rfl) (by kernel_rfl)) (fn:=Tryz.f370) (by kernel_rfl) (by kernel_rfl) rfl rfl⟩
def k9z:Fent VV:=⟨⟨[],[]⟩,Unit,λ_=>none,λ_=>((),()),some (.seq 419 333 (some .zh))⟩
def K410:Kn Tryz.prog VV:=⟨410,k9z,show b9c _ _ _ _ from c5j (tS:=333) (tF:=484) (tG:=483) (p1:= "iter.go:26") (p2:= "iter.go:27") (a14 (fn:=Tryz.f410) (by kernel_rfl) (by kernel_rfl) (by kernel_rfl)) (fn:=Tryz.f410) (by kernel_rfl) (by kernel_rfl) rfl rfl⟩
def bkL:List (Nat×TypeId×TyC×Bool):=[(135,27,.zy,false),(136,59,.y8,false),(397,45,.y4,false),(398,23,.z9,true),(419,333,.zh,false)]
def bkA:h1j (U:=VV) Tryz.prog bkL:=⟨⟨82,⟨⟨Tryz.f135,3,4,261,by kernel_rfl,⟨by kernel_rfl,rfl⟩,rfl⟩,λ_ _=>a14 (fn:=Tryz.f135) (by kernel_rfl) (by kernel_rfl) (by kernel_rfl) _ _,by kernel_rfl,by kernel_rfl⟩,λ_=>by kernel_rfl,λ_=>by kernel_rfl⟩,⟨74,⟨⟨Tryz.f136,3,4,262,by kernel_rfl,⟨by kernel_rfl,rfl⟩,rfl⟩,λ_ _=>a14 (fn:=Tryz.f136) (by kernel_rfl) (by kernel_rfl) (by kernel_rfl) _ _,by kernel_rfl,by kernel_rfl⟩,λ_=>by kernel_rfl,λ_=>by kernel_rfl⟩,⟨117,⟨⟨Tryz.f397,3,4,473,by kernel_rfl,⟨by kernel_rfl,rfl⟩,rfl⟩,λ_ _=>a14 (fn:=Tryz.f397) (by kernel_rfl) (by kernel_rfl) (by kernel_rfl) _ _,by kernel_rfl,by kernel_rfl⟩,λ_=>by kernel_rfl,λ_=>by kernel_rfl⟩,⟨3,⟨⟨Tryz.f398,3,4,94,by kernel_rfl,⟨by kernel_rfl,rfl⟩,rfl⟩,λ_ _=>a14 (fn:=Tryz.f398) (by kernel_rfl) (by kernel_rfl) (by kernel_rfl) _ _,by kernel_rfl,by kernel_rfl⟩,λ_=>by kernel_rfl,λ_=>by kernel_rfl⟩,⟨384,⟨⟨Tryz.f419,3,4,491,by kernel_rfl,⟨by kernel_rfl,rfl⟩,rfl⟩,λ_ _=>a14 (fn:=Tryz.f419) (by kernel_rfl) (by kernel_rfl) (by kernel_rfl) _ _,by kernel_rfl,by kernel_rfl⟩,λ_=>by kernel_rfl,λ_=>by kernel_rfl⟩,trivial⟩
abbrev mkR:=@knR Tryz.prog VV uok mixed bkL bkA
def K51:Kn Tryz.prog VV:=⟨51,k91,knX rfl l0y⟩
def K52:Kn Tryz.prog VV:=⟨52,k97,knX rfl l0p⟩
def K420:Kn Tryz.prog VV:=⟨420,k80,knX rfl k94⟩
abbrev mk:=@kn Tryz.prog VV uok mixed
def K61:=mk 61 Tryz.f61 ⟨[.v .z9],[.v .yl]⟩ (cur1 i8) w1 u1 (sk 2 (.s (.l [] [] [.v 0 .z9,.v 3 .yl] .n) .n)) []
def K19:=mk 19 Tryz.f19 ⟨[.v .z9,.v .z9],[.v .z9]⟩ (cur2 b7) w1 u1 .n []
def K36:=mk 36 Tryz.f36 ⟨[.ls .z9,.v .z9],[.v .z9]⟩ (cur2 c5) w1 u1 .n [K19]
def g7z:=mk 107 Tryz.f107 ⟨[.v .z9],[.v .yl]⟩ (cur1 a01) w1 u1 .n [K61]
def K62:=mk 62 Tryz.f62 ⟨[.v .yl,.ls .z9,.v .z9],[.v .yl]⟩ (cur3 a38) w1 u1 (sk 3 (.j [] [.ls 1 .z9,.v 2 .z9,.v 7 .yl,.v 8 .yl] .n (.s .n (.j [] [.ls 1 .z9,.v 2 .z9,.v 7 .yl,.v 8 .yl] .n (.j [] [.ls 1 .z9,.v 2 .z9,.v 7 .yl,.v 8 .yl] .n (.s .n (.s .n (.s .n (.s .n (.j [] [.ls 1 .z9,.v 2 .z9,.v 8 .yl] .n (.s .n (.s .n (.j [] [.ls 1 .z9,.v 2 .z9,.v 8 .yl] .n .n))))))))))))) [K19,K36,K61,g7z]
def K35:=mk 35 Tryz.f35 ⟨[.v .z9,.ls .z9],[.v .yl]⟩ (cur2 b10) w1 u1 (sk 3 (.j [] [.v 0 .z9,.ls 1 .z9,.v 6 .yl] .n .n)) [K19,K36,K61,K62]
def K234:=mk 234 Tryz.f234 ⟨[.v .yl,.v .z9],[.v .z9]⟩ (cur2 b16) w1 u1 (sk 2 (.s (.l [0] [] [.v 1 .z9,.v 5 .z8] .n) .n)) []
def l0r:=mk 235 Tryz.f235 ⟨[.v .yo],[.v .z8]⟩ (cur1 a3q) w1 u1 .n []
def l0g:=mk 237 Tryz.f237 ⟨[.v .yo],[.v .z8]⟩ (cur1 a30) w1 u1 .n []
def K236:=mk 236 Tryz.f236 ⟨[.v .yl,.v .z9,.v .z8],[.v .z9]⟩ (cur3 a9f) w1 u1 (sk 2 (.s (.l [0,1,2] [] [.v 7 .z9] .n) .n)) [l0r,l0g]
def k1y:=mk 168 Tryz.f168 ⟨[.v .yl],[.v .yl,.v .yl,.v .z9,.v .z8]⟩ (cur1 a6z) (λb=>((b.1,(b.2.1,(b.2.2.1,(b.2.2.2,())))),())) (λp=>(p.1.1,p.1.2.1,p.1.2.2.1,p.1.2.2.2.1)) (sk 2 (.j [] [.v 0 .yl,.v 6 .z9] .n (.s .n (.s (.s .n (.l [0,6] [] [.v 8 .z9,.v 9 .z9] .n)) (.s .n (.j [] [.v 6 .z9,.v 10 .yl,.v 11 .yl] .n (.s (.s .n (.l [6,10,11] [] [.v 12 .z9] .n)) .n))))))) [l0g]
def K239:=mk 239 Tryz.f239 ⟨[.v .yl],[.v .z9,.v .z8]⟩ (cur1 a4m) w2 u2 (sk 2 (.s (.s .n (.l [0] [] [.v 4 .z9,.v 5 .z9] .n)) .n)) []
def K363:=mk 363 Tryz.f363 ⟨[.v .z9],[.v .z8]⟩ (cur1 b18) w1 u1 .n []
def K300:=mk 300 Tryz.f300 ⟨[.v .z9,.v .z9],[.v .z9]⟩ (cur2 a6b) w1 u1 .n [K363]
def K301:=mk 301 Tryz.f301 ⟨[.v .z9],[.v .z9]⟩ (cur1 a9y) w1 u1 (sk 2 (.s (.s .n (.l [0] [] [.v 3 .z9,.v 4 .z9] .n)) .n)) [K300]
def h3p:=mk 240 Tryz.f240 ⟨[.v .z9,.v .z9,.v .z9],[.v .z9,.v .z8]⟩ (cur3 b22) w2 u2 .n [K300,K301]
def K169:=mk 169 Tryz.f169 ⟨[.v .yl],[.v .z9,.v .z8]⟩ (cur1 a47) w2 u2 .n [K239,h3p]
def K238:=mk 238 Tryz.f238 ⟨[.v .yl,.v .z9],[.v .z9]⟩ (cur2 b1a) w1 u1 (.s .n (.j [] [.v 0 .yl,.v 1 .z9] .n .n)) []
def k0w:=mk 165 Tryz.f165 ⟨[.v .yl,.v .z9],[.v .y5,.v .z9,.v .z9]⟩ (cur2 b15) w3 u3 (sk 5 (.j [] [.v 0 .yl,.v 1 .z9,.bx 4 2 229 .y5,.v 7 .z9,.v 8 .z9,.v 9 .z8] .n .n)) [k1y,K169,K234,l0r,K236,l0g,K238]
def K97:=mk 97 Tryz.f97 ⟨[.v .yl],[.ow 229 .y5,.v .z9,.v .z9]⟩ (cur1 b25) w3 u3 (sk 4 (.l [0] [] [.ow 5 1 229 .y5,.v 6 .z9] .n)) [k0w]
def K53:=mk 53 Tryz.f53 ⟨[.v .yl],[.bo 146 .yi,.v .z9,.v .z9]⟩ (cur1 b02) w3 u3 .n [K97]
def k12:=mk 102 Tryz.f102 ⟨[.rp 146 .yi,.v .yl],[.v .z8]⟩ (cur2 u9) w1 u1 .n []
def K57:=mk 57 Tryz.f57 ⟨[.io 146 .yi,.v .yl],[.v .z8]⟩ (cur2 d7) (λb=>((b.1,()),(b.2,()))) (λp=>(p.1.1,p.2.1)) .n [k12]
def K98:=mk 98 Tryz.f98 ⟨[.io 146 .yi],[]⟩ (cur1 j8) (λb=>((),(b,()))) (λp=>p.2.1) .n []
def K54:=mk 54 Tryz.f54 ⟨[.io 146 .yi,.v .yl],[]⟩ (cur2 b9) (λb=>((),(b,()))) (λp=>p.2.1) .n [K57,K98]
def K99:=mk 99 Tryz.f99 ⟨[.rp 146 .yi,.v .z9],[.v .z8]⟩ (cur2 p8) w1 u1 .n []
def K166:=mk 166 Tryz.f166 ⟨[.v .yl],[.v .z8]⟩ (cur1 a99) w1 u1 (.s .n (.s (.s .n (.l [0] [] [.v 3 .z9] .n)) .n)) [l0r,l0g]
def K167:=mk 167 Tryz.f167 ⟨[.v .yl],[.v .z8]⟩ (cur1 a7o) w1 u1 .n []
def j39:=mk 100 Tryz.f100 ⟨[.v .yl],[.v .z8]⟩ (cur1 a2e) w1 u1 .n [K166,K167]
def K55:=mk 55 Tryz.f55 ⟨[.io 146 .yi],[.v .yl]⟩ (cur1 a0w) (λb=>((b.1,()),(b.2,()))) (λp=>(p.1.1,p.2.1)) .n [K98,K99,j39]
def K28:=mk 28 Tryz.f28 ⟨[.v .z9],[.v .yn]⟩ (cur1 a43) w1 u1 .n []
def K233:=mk 233 Tryz.f233 ⟨[.v .yn],[.v .z9]⟩ (cur1 b8x) w1 u1 (.s .n (.j [] [.v 0 .yn,.v 2 .z9] .n (.j [] [.v 0 .yn,.v 2 .z9] .n .n))) []
def K164:=mk 164 Tryz.f164 ⟨[.v .yn],[.v .z9]⟩ (cur1 a7n) w1 u1 .n [K233]
def K96:=mk 96 Tryz.f96 ⟨[.v .yn,.v .yn,.v .yn],[.v .yn,.v .yn]⟩ (cur3 a8o) w2 u2 (.s .n (.j [] [.v 0 .yn,.v 1 .yn,.v 2 .yn] .n (.j [] [.v 0 .yn,.v 1 .yn,.v 2 .yn] .n (.s .n (.s .n (.s .n (.s .n (.s .n (.s .n (.s .n (.s .n (.s .n (.s .n (.s .n (.j [] [.v 2 .yn,.v 8 .yn,.v 9 .yn,.v 10 .yn,.v 11 .yn,.v 13 .yn,.v 14 .yn,.v 15 .yn] (.l [2,8,9,10,11,13,14] [] [.v 15 .yn,.v 16 .yn] .n) (.s .n (.s .n (.s .n (.j [] [.v 2 .yn,.v 8 .yn,.v 14 .yn,.v 15 .yn,.v 17 .yn,.v 18 .yn] (.l [2,8,9,10,14,15,17] [] [.v 16 .yn,.v 18 .yn] .n) .n))))))))))))))))))) [K164]
def K48:=mk 48 Tryz.f48 ⟨[.v .yh,.v .yn],[.v .yh,.v .yn]⟩ (cur2 a3h) w2 u2 .n [K96]
def K49:=mk 49 Tryz.f49 ⟨[.v .yn,.v .yn],[.v .yn]⟩ (cur2 a9s) w1 u1 (.s .n (.s (.l [] [] [.v 0 .yn,.v 1 .yn] .n) .n)) []
def K27:=mk 27 Tryz.f27 ⟨[.v .z8,.v .yh,.v .yn],[.v .zm,.v .z9]⟩ (cur3 b2l) w2 u2 .n [K48,K49]
def K13:=mk 13 Tryz.f13 ⟨[.v .z9,.v .z9],[.v .zm,.v .z9]⟩ (cur2 a3r) w2 u2 .n [K27,K28]
def k1f:=mk 101 Tryz.f101 ⟨[.v .yl],[.v .zm,.v .z9,.v .z8]⟩ (cur1 a2x) w3 u3 (sk 4 (.s (.s .n (.l [5,6,7] [] [.bx 2 1 53 .zm,.v 9 .z9,.v 10 .z9,.v 11 .z9] .n)) .n)) [K13,k1y]
def K56:=mk 56 Tryz.f56 ⟨[.io 146 .yi,.v .z9,.v .z9],[.v .z9]⟩ (cur3 s7) (λb=>((b.1,()),(b.2,()))) (λp=>(p.1.1,p.2.1)) .n [K98,K99,k1f]
def k1q:=mk 103 Tryz.f103 ⟨[.v .yl],[.v .z9]⟩ (cur1 b09) w1 u1 .n [K169]
def K170:=mk 170 Tryz.f170 ⟨[.v .yl],[.v .z9]⟩ (cur1 a8l) w1 u1 .n []
def K171:=mk 171 Tryz.f171 ⟨[.v .yl],[.v .z9]⟩ (cur1 a52) w1 u1 .n []
def K172:=mk 172 Tryz.f172 ⟨[.v .yl],[.v .z9]⟩ (cur1 a8f) w1 u1 .n []
def k26:=mk 104 Tryz.f104 ⟨[.io 146 .yi,.v .z9],[.v .z9]⟩ (cur2 a0m) (λb=>((b.1,()),(b.2,()))) (λp=>(p.1.1,p.2.1)) .n [K98,K99,K170,K171,K172]
def l0h:=mk 306 Tryz.f306 ⟨[.v .z9],[.v .z9]⟩ (cur1 a8e) w1 u1 .n []
def K303:=mk 303 Tryz.f303 ⟨[.v .z9],[.v .z9]⟩ (cur1 b05) w1 u1 (.s .n (.s (.s .n (.s .n (.s .n (.s .n (.s .n (.s .n (.s .n (.s .n (.s .n (.j [] [.v 3 .z9,.v 12 .z8] .n (.s .n (.j [] [.v 3 .z9,.v 19 .z8] .n .n)))))))))))) .n)) []
def K304:=mk 304 Tryz.f304 ⟨[.v .z9],[.v .yl]⟩ (cur1 a96) w1 u1 .n []
def K242:=mk 242 Tryz.f242 ⟨[.rp 146 .yi,.v .z9],[.v .z9]⟩ (cur2 a3a) w1 u1 (.s .n (.s (.s .n (.l [0,1] [] [.v 5 .z9] .n)) .n)) [k12,K303,K304]
def k43:Sig VV:=⟨[.io 146 .yi,.v .z9],[.v .zl]⟩
def k2v(R:eQ):Fent VV:=⟨k43,Expr×rQ,λx=>R.f_pensionref5_reader_expr x.1 x.2.1,λb=>((b.1,()),(b.2,())),none⟩
def k9e:Fent VV:=k2v (c8 FU)
def k7w:Ress VV k43.rs×Outs VV k43.ps->Expr×rQ:=λp=>(p.1.1,p.2.1)
def k6g:Ann VV.C:=(.s .n (.s .n (.s .n (.s .n (.s (.l [1] [] [.bx 0 0 146 .yi,.of 4 4 3 85 .zl,.bm 4 2 85 .zl [(4,3)],.bx 8 4 85 .zl] .n) .n)))))
def k3r:Sig VV:=⟨[.io 146 .yi],[.v .zl]⟩
def k4s(R:eQ):Fent VV:=⟨k3r,Expr×rQ,λx=>R.f_pensionref5_reader_factor x.1,λb=>((b.1,()),(b.2,())),none⟩
def k7o:Ress VV k3r.rs×Outs VV k3r.ps->Expr×rQ:=λp=>(p.1.1,p.2.1)
def k6k:Ann VV.C:=.n
def d7d:Sig VV:=⟨[.io 146 .yi,.v .z9],[.v .zl]⟩
def d6m(R:eQ):Fent VV:=⟨d7d,Expr×rQ,λx=>R.f_pensionref5_reader_call x.1 x.2.1,λb=>((b.1,()),(b.2,())),none⟩
def g0b:Ress VV d7d.rs×Outs VV d7d.ps->Expr×rQ:=λp=>(p.1.1,p.2.1)
def g1b:Ann VV.C:=.n
def k81(R:eQ):Phi VV:=λf ys=>lkF f ys [K54.e,K57.e,(173,k2v R),(241,k4s R),K242.e]
def k8a(R:eQ)(hr173:SX.Spec Tryz.prog 173 (k2v R))(hr241:SX.Spec Tryz.prog 241 (k4s R)):OKΦ Tryz.prog (k81 R):=okl ⟨K54.ok,K57.ok,knS rfl ⟨hr173,λ_ _=>by kernel_rfl⟩,knS rfl ⟨hr241,λ_ _=>by kernel_rfl⟩,K242.ok,trivial⟩
def l08(R:eQ):∀x,c5v Tryz.prog (k81 R) k43 k7w Tryz.f173 k6g x=a3b R x.1 x.2.1:=λx=>by kernel_rfl
def k6d:c67 Tryz.f173 k43=true:=by kernel_rfl
def k6s(R:eQ):Phi VV:=λf ys=>lkF f ys [K54.e,K55.e,K56.e,K57.e,K99.e,k1f.e,k12.e,(173,k2v R),(302,d6m R)]
def k8n(R:eQ)(hr173:SX.Spec Tryz.prog 173 (k2v R))(hr302:SX.Spec Tryz.prog 302 (d6m R)):OKΦ Tryz.prog (k6s R):=okl ⟨K54.ok,K55.ok,K56.ok,K57.ok,K99.ok,k1f.ok,k12.ok,knS rfl ⟨hr173,λ_ _=>by kernel_rfl⟩,knS rfl ⟨hr302,λ_ _=>by kernel_rfl⟩,trivial⟩
def k99(R:eQ):∀x,c5v Tryz.prog (k6s R) k3r k7o Tryz.f241 k6k x=a2a R x.1:=λx=>by kernel_rfl
def k7d:c67 Tryz.f241 k3r=true:=by kernel_rfl
def g0e(R:eQ):Phi VV:=λf ys=>lkF f ys [K54.e,(173,k2v R),l0h.e]
def g61(R:eQ)(hr173:SX.Spec Tryz.prog 173 (k2v R)):OKΦ Tryz.prog (g0e R):=okl ⟨K54.ok,knS rfl ⟨hr173,λ_ _=>by kernel_rfl⟩,l0h.ok,trivial⟩
def g9g(R:eQ):∀x,c5v Tryz.prog (g0e R) d7d g0b Tryz.f302 g1b x=a3d R x.1 x.2.1:=λx=>by kernel_rfl
def f9v:c67 Tryz.f302 d7d=true:=by kernel_rfl
def a7d:∀n,SX.Spec Tryz.prog 173 (k2v (c8 n))/\SX.Spec Tryz.prog 241 (k4s (c8 n))/\SX.Spec Tryz.prog 302 (d6m (c8 n))|0=>⟨(λ_ _ h=>(by cases(show none=some _ from h))),(λ_ _ h=>(by cases(show none=some _ from h))),(λ_ _ h=>(by cases(show none=some _ from h)))⟩|n+1=>let⟨h173,h241,h302⟩:=a7d n;⟨a2m (fe:=k2v (c8 (n+1))) uok (k8a (c8 n) h173 h241) mixed (fn:=Tryz.f173) (by kernel_rfl) k7w k6g (d8 k6d).1 (d8 k6d).2 (λ_=>rfl) (l08 (c8 n)),a2m (fe:=k4s (c8 (n+1))) uok (k8n (c8 n) h173 h302) mixed (fn:=Tryz.f241) (by kernel_rfl) k7o k6k (d8 k7d).1 (d8 k7d).2 (λ_=>rfl) (k99 (c8 n)),a2m (fe:=d6m (c8 (n+1))) uok (g61 (c8 n) h173) mixed (fn:=Tryz.f302) (by kernel_rfl) g0b g1b (d8 f9v).1 (d8 f9v).2 (λ_=>rfl) (g9g (c8 n))⟩
def K173:Kn Tryz.prog VV:=⟨173,k9e,knS rfl ⟨(a7d FU).1,λ_ _=>by kernel_rfl⟩⟩
def K105:=mk 105 Tryz.f105 ⟨[.io 146 .yi,.im 74 .y8 [(2,2),(3,3),(4,4),(5,5),(6,6)],.po 1 2 265 .zj,.po 1 3 268 .zo,.po 1 4 271 .zq,.po 1 5 87 .zn,.po 1 6 275 .zv],[]⟩ (λx=>a39 x.1 x.2.1 x.2.2.1 x.2.2.2.1 x.2.2.2.2.1 x.2.2.2.2.2.1 x.2.2.2.2.2.2.1) (λb=>((),(b.1,(b.2.1,(b.2.2.1,(b.2.2.2.1,(b.2.2.2.2.1,(b.2.2.2.2.2.1,(b.2.2.2.2.2.2,()))))))))) (λp=>(p.2.1,p.2.2.1,p.2.2.2.1,p.2.2.2.2.1,p.2.2.2.2.2.1,p.2.2.2.2.2.2.1,p.2.2.2.2.2.2.2.1)) (.s (.s .n (.s (.s .n (.j [] [.bx 0 0 146 .yi,.of 1 2 7 265 .zj,.of 1 3 8 268 .zo,.of 1 4 9 271 .zq,.of 1 5 10 87 .zn,.of 1 6 11 275 .zv,.bm 1 1 74 .y8 [(2,7),(3,8),(4,9),(5,10),(6,11)],.bx 4 12 265 .zj] .n .n)) (.s .n (.s (.s .n (.j [] [.bx 0 0 146 .yi,.of 1 2 7 265 .zj,.of 1 3 8 268 .zo,.of 1 4 9 271 .zq,.of 1 5 10 87 .zn,.of 1 6 11 275 .zv,.bm 1 1 74 .y8 [(2,7),(3,8),(4,9),(5,10),(6,11)],.bx 6 12 268 .zo] .n (.j [] [.bx 0 0 146 .yi,.of 1 2 7 265 .zj,.of 1 3 8 268 .zo,.of 1 4 9 271 .zq,.of 1 5 10 87 .zn,.of 1 6 11 275 .zv,.bm 1 1 74 .y8 [(2,7),(3,8),(4,9),(5,10),(6,11)],.bx 6 12 268 .zo] .n .n))) .n)))) .n) [K54,K55,K56,K57,K98,K99,k1f,k26,K173]
def K58:=mk 58 Tryz.f58 ⟨[.io 146 .yi],[.v .y8]⟩ (cur1 a2o) (λb=>((b.1,()),(b.2,()))) (λp=>(p.1.1,p.2.1)) (sk 3 (.j [] [.bx 0 0 146 .yi,.of 2 2 2 265 .zj,.of 2 3 3 268 .zo,.of 2 4 4 271 .zq,.of 2 5 5 87 .zn,.of 2 6 6 275 .zv,.bm 2 1 74 .y8 [(2,2),(3,3),(4,4),(5,5),(6,6)],.of 3 2 8 265 .zj,.of 3 3 9 268 .zo,.of 3 4 10 271 .zq,.of 3 5 11 87 .zn,.of 3 6 12 275 .zv,.bm 3 7 74 .y8 [(2,8),(3,9),(4,10),(5,11),(6,12)]] .n (.s .n (.s .n (.s .n (.s .n (.s .n (.s (.l [] [] [.bx 0 0 146 .yi,.of 2 2 2 265 .zj,.of 2 3 3 268 .zo,.of 2 4 4 271 .zq,.of 2 5 5 87 .zn,.of 2 6 6 275 .zv,.bm 2 1 74 .y8 [(2,2),(3,3),(4,4),(5,5),(6,6)],.of 3 2 8 265 .zj,.of 3 3 9 268 .zo,.of 3 4 10 271 .zq,.of 3 5 11 87 .zn,.of 3 6 12 275 .zv,.bm 3 7 74 .y8 [(2,8),(3,9),(4,10),(5,11),(6,12)]] (.s (.s (.g [5]) .n) .n)) .n)))))))) [K54,K56,K57,K98,K99,k1q,k26,K105]
def K59:=mk 59 Tryz.f59 ⟨[.rp 146 .yi],[.v .z9]⟩ (cur1 a3s) w1 u1 .n []
def K174:=mk 174 Tryz.f174 ⟨[.v .z9],[.v .z8]⟩ (cur1 a6n) w1 u1 .n []
def K175:=mk 175 Tryz.f175 ⟨[.v .zx],[.v .z8]⟩ (cur1 a3c) w1 u1 .n []
def K176:=mk 176 Tryz.f176 ⟨[.v .z9,.v .z9],[.v .yl]⟩ (cur2 a3t) w1 u1 (sk 2 (.s (.s .n (.l [0,1] [] [.ow 5 2 9 .yl,.v 6 .z9] .n)) .n)) [K170,K171,K172]
def K29:=mk 29 Tryz.f29 ⟨[.v .zm],[.v .z8]⟩ (cur1 a1h) w1 u1 .n [K28,K49]
def k11:=mk 305 Tryz.f305 ⟨[.v .z9,.v .z9],[.v .yl]⟩ (cur2 a5w) w1 u1 (sk 2 (.s (.l [1] [] [.v 0 .z9,.v 5 .yl] .n) .n)) []
def K243:=mk 243 Tryz.f243 ⟨[.v .zm],[.v .yl]⟩ (cur1 a2n) w1 u1 (sk 3 (.j [] [.bx 1 1 53 .zm,.v 3 .yl] .n .n)) [K28,K29,k11]
def l0v:=mk 177 Tryz.f177 ⟨[.v .zm,.v .z9],[.v .yl,.v .z8]⟩ (cur2 a1g) w2 u2 (sk 6 (.j [] [.v 1 .z9,.v 7 .yl,.v 8 .z9] .n (.s (.s .n (.l [1] [] [.v 7 .yl,.v 8 .z9,.v 9 .z9] .n)) .n))) [K29,K243]
def k3u:Sig VV:=⟨[.v .zl],[.v .z9]⟩
def k47(R:Ring_pensionref5_Depth):Fent VV:=⟨k3u,Int,λx=>R.f_pensionref5_Depth x.1,λb=>((b,()),()),none⟩
def k9b:Fent VV:=k47 (s5 FU)
def k7n:Ress VV k3u.rs×Outs VV k3u.ps->Int:=λp=>p.1.1
def k7p:Ann VV.C:=(.s .n (.s .n (.s (.s .n (.l [] [] [.bx 1 1 85 .zl,.v 3 .z9,.v 4 .z9] .n)) .n)))
def k7x(R:Ring_pensionref5_Depth):Phi VV:=λf ys=>lkF f ys [(244,k47 R)]
def k89(R:Ring_pensionref5_Depth)(hr244:SX.Spec Tryz.prog 244 (k47 R)):OKΦ Tryz.prog (k7x R):=okl ⟨knS rfl ⟨hr244,λ_ _=>by kernel_rfl⟩,trivial⟩
def l01(R:Ring_pensionref5_Depth):∀x,c5v Tryz.prog (k7x R) k3u k7n Tryz.f244 k7p x=a7r R x.1:=λx=>by kernel_rfl
def k74:c67 Tryz.f244 k3u=true:=by kernel_rfl
def b0v:∀n,SX.Spec Tryz.prog 244 (k47 (s5 n))|0=>(λ_ _ h=>(by cases(show none=some _ from h)))|n+1=>let h244:=b0v n;a2m (fe:=k47 (s5 (n+1))) uok (k89 (s5 n) h244) mixed (fn:=Tryz.f244) (by kernel_rfl) k7n k7p (d8 k74).1 (d8 k74).2 (λ_=>rfl) (l01 (s5 n))
def K244:Kn Tryz.prog VV:=⟨244,k9b,knS rfl ⟨(b0v FU),λ_ _=>by kernel_rfl⟩⟩
def k46:Sig VV:=⟨[.v .zl],[.v .z9]⟩
def k49(R:Ring_pensionref5_Size):Fent VV:=⟨k46,Int,λx=>R.f_pensionref5_Size x.1,λb=>((b,()),()),none⟩
def l07:Fent VV:=k49 (u7 FU)
def k7h:Ress VV k46.rs×Outs VV k46.ps->Int:=λp=>p.1.1
def k6p:Ann VV.C:=(.s .n (.s .n (.s (.s .n (.l [] [] [.bx 1 1 85 .zl,.v 3 .z9,.v 4 .z9] .n)) .n)))
def k73(R:Ring_pensionref5_Size):Phi VV:=λf ys=>lkF f ys [(245,k49 R)]
def k8b(R:Ring_pensionref5_Size)(hr245:SX.Spec Tryz.prog 245 (k49 R)):OKΦ Tryz.prog (k73 R):=okl ⟨knS rfl ⟨hr245,λ_ _=>by kernel_rfl⟩,trivial⟩
def l09(R:Ring_pensionref5_Size):∀x,c5v Tryz.prog (k73 R) k46 k7h Tryz.f245 k6p x=a94 R x.1:=λx=>by kernel_rfl
def k88:c67 Tryz.f245 k46=true:=by kernel_rfl
def b1w:∀n,SX.Spec Tryz.prog 245 (k49 (u7 n))|0=>(λ_ _ h=>(by cases(show none=some _ from h)))|n+1=>let h245:=b1w n;a2m (fe:=k49 (u7 (n+1))) uok (k8b (u7 n) h245) mixed (fn:=Tryz.f245) (by kernel_rfl) k7h k6p (d8 k88).1 (d8 k88).2 (λ_=>rfl) (l09 (u7 n))
def K245:Kn Tryz.prog VV:=⟨245,l07,knS rfl ⟨(b1w FU),λ_ _=>by kernel_rfl⟩⟩
def k4a:Sig VV:=⟨[.v .zl],[.v .z8]⟩
def k4c(R:Ring_pensionref5_formed):Fent VV:=⟨k4a,Bool,λx=>R.f_pensionref5_formed x.1,λb=>((b,()),()),none⟩
def k9t:Fent VV:=k4c (p7 FU)
def k7a:Ress VV k4a.rs×Outs VV k4a.ps->Bool:=λp=>p.1.1
def k82:Ann VV.C:=(.s .n (.s .n (.s .n (.s .n (.s (.s .n (.l [3] [] [.bx 1 1 85 .zl,.v 6 .z9] .n)) .n)))))
def k6z(R:Ring_pensionref5_formed):Phi VV:=λf ys=>lkF f ys [j39.e,l0v.e,(246,k4c R),l0h.e]
def k8h(R:Ring_pensionref5_formed)(hr246:SX.Spec Tryz.prog 246 (k4c R)):OKΦ Tryz.prog (k6z R):=okl ⟨j39.ok,l0v.ok,knS rfl ⟨hr246,λ_ _=>by kernel_rfl⟩,l0h.ok,trivial⟩
def l06(R:Ring_pensionref5_formed):∀x,c5v Tryz.prog (k6z R) k4a k7a Tryz.f246 k82 x=a6s R x.1:=λx=>by kernel_rfl
def k6m:c67 Tryz.f246 k4a=true:=by kernel_rfl
def b0n:∀n,SX.Spec Tryz.prog 246 (k4c (p7 n))|0=>(λ_ _ h=>(by cases(show none=some _ from h)))|n+1=>let h246:=b0n n;a2m (fe:=k4c (p7 (n+1))) uok (k8h (p7 n) h246) mixed (fn:=Tryz.f246) (by kernel_rfl) k7a k82 (d8 k6m).1 (d8 k6m).2 (λ_=>rfl) (l06 (p7 n))
def k0x:Kn Tryz.prog VV:=⟨246,k9t,knS rfl ⟨(b0n FU),λ_ _=>by kernel_rfl⟩⟩
def K178:=mk 178 Tryz.f178 ⟨[.v .zl],[.v .z8]⟩ (cur1 a0g) w1 u1 .n [K244,K245,k0x]
def g7d:=mk 106 Tryz.f106 ⟨[.v .y8],[.v .z8]⟩ (cur1 a3n) w1 u1 (sk 2 (.s (.s .n (.l [] [] [.bx 1 1 74 .y8,.v 3 .z9] .n)) (.s (.s .n (.l [] [] [.bx 1 1 74 .y8,.v 4 .z9] .n)) (.s (.s .n (.l [] [] [.bx 1 1 74 .y8,.v 7 .z9] .n)) (.s (.s .n (.l [] [] [.bx 1 1 74 .y8,.v 8 .z9] .n)) (.s (.s .n (.l [] [] [.bx 1 1 74 .y8,.v 9 .z9] .n)) .n)))))) [j39,K174,K175,K176,l0v,K178]
def K60:=mk 60 Tryz.f60 ⟨[.v .y3],[.v .z8]⟩ (cur1 b00) w1 u1 (sk 2 (.s (.s .n (.l [] [] [.bx 1 1 61 .y3,.v 3 .z9] .n)) .n)) [j39,g7d]
def K34:=mk 34 Tryz.f34 ⟨[.v .yl],[.v .y3,.v .z9,.v .z9]⟩ (cur1 a9z) w3 u3 (sk 8 (.j [] [.of 2 2 2 74 .y8,.bm 2 1 61 .y3 [(2,2)],.bx 5 3 146 .yi,.of 8 2 5 74 .y8,.bm 8 4 61 .y3 [(2,5)]] (.s .n (.l [] [] [.of 2 2 2 74 .y8,.bm 2 1 61 .y3 [(2,2)],.bx 5 3 146 .yi,.of 8 2 5 74 .y8,.bm 8 4 61 .y3 [(2,5)],.v 9 .z8] (.j [] [.of 2 2 2 74 .y8,.bm 2 1 61 .y3 [(2,2)],.bx 5 3 146 .yi,.of 8 2 5 74 .y8,.bm 8 4 61 .y3 [(2,5)]] (.s (.g [5,7]) .n) .n))) .n)) [K53,K54,K55,K56,K57,K58,K59,K60]
def K15:=mk 15 Tryz.f15 ⟨[.ls .z9],[.v .zp]⟩ (cur1 b11) w1 u1 (sk 2 (.s (.s .n (.l [0] [] [.of 2 0 2 63 .y2,.of 2 1 3 82 .zy,.of 2 2 4 65 .zu,.bm 2 1 30 .zp [(0,2),(1,3),(2,4)],.of 3 0 6 63 .y2,.of 3 1 7 82 .zy,.bm 3 5 30 .zp [(0,6),(1,7)],.v 4 .z9] .n)) .n)) [K19,K34,K35,K36]
def K7:=mk 7 Tryz.f7 ⟨[.v .z9,.v .z9],[.v .z9]⟩ (cur2 a40) w1 u1 .n []
def K5:=mk 5 Tryz.f5 ⟨[.ls .z9,.v .z9],[.v .zp]⟩ (cur2 b3p) w1 u1 .n [K7,K15]
def K20:=mk 20 Tryz.f20 ⟨[.v .z9],[.v .z9]⟩ (cur1 a97) w1 u1 .n [K19]
def K21:=mk 21 Tryz.f21 ⟨[.v .z9],[.v .yl]⟩ (cur1 u4) w1 u1 .n []
def K8:=mk 8 Tryz.f8 ⟨[.v .yg],[.v .ya]⟩ (cur1 b1b) w1 u1 (sk 5 (.j [] [.bx 1 1 25 .yg,.bx 2 2 38 .ya,.bx 3 3 38 .ya,.v 4 .z9,.v 5 .z9] .n (.s .n (.s (.s .n (.l [4,5,6] [] [.bx 1 1 25 .yg,.bx 2 2 38 .ya,.bx 3 3 38 .ya,.v 7 .z9] .n)) .n)))) [K19,K20,K21]
def K17:=mk 17 Tryz.f17 ⟨[.ls .z9],[.ow 38 .ya]⟩ (cur1 b04) w1 u1 (sk 2 (.s (.s .n (.l [0] [] [.ow 3 1 38 .ya,.v 4 .z9] .n)) .n)) [K19,K36]
def K16:=mk 16 Tryz.f16 ⟨[.ls .ya,.v .z9],[.ow 38 .ya]⟩ (cur2 b2c) w1 u1 (sk 2 (.s (.s .n (.l [0,1] [] [.ow 5 2 38 .ya,.v 6 .z9] .n)) .n)) []
def h1l:=mk 108 Tryz.f108 ⟨[.v .z9,.v .yo],[.v .z8]⟩ (cur2 j6) w1 u1 (sk 2 (.s (.s .n (.l [1,5] [] [.v 6 .z9] .n)) .n)) [K21]
def K63:=mk 63 Tryz.f63 ⟨[.v .z9,.v .yo,.v .z9,.v .z9,.v .z9],[.v .z8]⟩ (cur5 a09) w1 u1 .n [h1l]
def K37:=mk 37 Tryz.f37 ⟨[.v .ya],[.v .z8]⟩ (cur1 m8) w1 u1 .n [K21,K63]
def K38:=mk 38 Tryz.f38 ⟨[.v .ya,.v .ya],[.v .z9]⟩ (cur2 a4v) w1 u1 .n []
def K109:=mk 109 Tryz.f109 ⟨[.ow 5 .yo,.v .z9,.v .z9],[.ow 5 .yo]⟩ (cur3 g7) w1 u1 (.s .n (.s (.s .n (.l [1] [] [.ow 0 3 5 .yo,.v 7 .z9] .n)) .n)) []
def K64:=mk 64 Tryz.f64 ⟨[.v .ya],[.ow 5 .yo]⟩ (cur1 a5z) w1 u1 (sk 3 (.j [] [.bx 1 1 38 .ya,.v 3 .z9] .n (.s .n (.s .n (.s (.s .n (.l [5] [] [.bx 1 1 38 .ya,.ow 4 2 5 .yo,.v 6 .z9] .n)) .n))))) [K21,K37,K109]
def K39:=mk 39 Tryz.f39 ⟨[.v .ya,.v .ya],[.v .z8]⟩ (cur2 b0f) w1 u1 .n [K37,K38,K64]
def K18:=mk 18 Tryz.f18 ⟨[.ls .ya,.ls .ya],[.ow 38 .ya]⟩ (cur2 a6c) w1 u1 (sk 2 (.s (.s .n (.l [0,1] [] [.ow 5 2 38 .ya,.v 6 .z9] (.s .n (.s (.s .n (.j [] [.ls 0 .ya,.ls 1 .ya,.ow 5 2 38 .ya,.v 6 .z9,.bx 7 3 38 .ya] .n (.s .n (.s .n (.s (.l [0,1,6] [] [.ow 5 2 38 .ya,.bx 7 3 38 .ya,.v 8 .z9] .n) (.s .n (.z [5] []))))))) .n)))) .n)) [K37,K38,K39]
def K6:=mk 6 Tryz.f6 ⟨[.ls .yg,.ls .z9,.v .z8],[.ow 38 .ya]⟩ (cur3 b0g) w1 u1 (sk 2 (.s (.s .n (.l [0,1,2] [] [.ow 7 3 38 .ya,.v 8 .z9] .n)) .n)) [K8,K16,K17,K18]
def K320:=mk 320 Tryz.f320 ⟨[.v .yo],[.v .z8]⟩ (cur1 b6l) w1 u1 .n []
def K378:=mk 378 Tryz.f378 ⟨[.v .yo],[.v .z8]⟩ (cur1 b74) w1 u1 .n []
def K321:=mk 321 Tryz.f321 ⟨[.v .yo],[.v .z8]⟩ (cur1 c1b) w1 u1 .n [K320,K378]
def K261:=mk 261 Tryz.f261 ⟨[.v .yl],[.v .z8]⟩ (cur1 b7f) w1 u1 (sk 2 (.s (.s .n (.l [0] [] [.v 3 .z9] .n)) .n)) [K320,K321]
def K262:=mk 262 Tryz.f262 ⟨[.v .yl],[.v .z8]⟩ (cur1 b49) w1 u1 .n []
def l13:=mk 201 Tryz.f201 ⟨[.v .yl],[.v .z8]⟩ (cur1 b0e) w1 u1 .n [K261,K262]
def K75:=mk 75 Tryz.f75 ⟨[.v .z9],[.v .z8]⟩ (cur1 m7) w1 u1 .n []
def K264:=mk 264 Tryz.f264 ⟨[],[.ow 426 .yk]⟩ (λx=>c0l) w1 u1 .n []
def k1k:=mk 323 Tryz.f323 ⟨[.v .yk,.rp 3 .z9],[.v .z8]⟩ (cur2 b3q) w1 u1 .n []
def k67:=mk 322 Tryz.f322 ⟨[.ls .yk,.cl 323 [.z9]],[.v .z9]⟩ (λx=>a0b x.1 x.2.1.1) w1 u1 (.s .n (.s (.s .n (.l [0,1,7] [] [.v 8 .z9] .n)) .n)) [k1k]
def K263:=mk 263 Tryz.f263 ⟨[.ls .yk,.v .z9],[.v .yl]⟩ (cur2 a4u) w1 u1 .n [k67]
def K265:=mk 265 Tryz.f265 ⟨[],[.ow 426 .yk]⟩ (λx=>c1i) w1 u1 .n []
def K412:=mk 412 Tryz.f412 ⟨[.v .yl,.v .yo],[.v .z9]⟩ (cur2 a9d) w1 u1 .n [K420]
def K421:=mk 421 Tryz.f421 ⟨[.v .yl],[.v .ym,.v .ym]⟩ (cur1 b0t) w2 u2 (sk 2 (.s (.s .n (.l [0] [] [.v 4 .ym,.v 5 .z9] .n)) (.s .n (.s (.s .n (.l [4] [] [.v 6 .ym,.v 7 .ym,.v 8 .z9] .n)) .n)))) []
def K415:=mk 415 Tryz.f415 ⟨[.v .yl,.v .yl],[.v .z9]⟩ (cur2 b36) w1 u1 (sk 4 (.s (.s .n (.l [0,1,5,6,7] [] [.v 8 .ym,.v 9 .z9] .n)) (.s .n (.s (.s .n (.l [0,1,5,6,7] [] [.v 8 .ym,.v 10 .z9] .n)) .n)))) [K421]
def K390:=mk 390 Tryz.f390 ⟨[.v .yl,.v .yl],[.v .z9]⟩ (cur2 a6y) w1 u1 .n [K412]
def K418:=mk 418 Tryz.f418 ⟨[.v .yl,.v .yl],[.v .yl,.v .yl,.v .z8]⟩ (cur2 b72) w3 u3 .n [K390]
def K407:=mk 407 Tryz.f407 ⟨[.v .yl,.v .yl],[.v .yl,.v .yl,.v .z8]⟩ (cur2 b9e) w3 u3 .n [K418]
def K408:=mk 408 Tryz.f408 ⟨[.v .yl],[.v .z9,.v .z8]⟩ (cur1 b2i) w2 u2 (.s .n (.s (.s .n (.l [0] [] [.v 2 .z9,.v 4 .z9] .n)) .n)) [K378]
def h2j:=mk 380 Tryz.f380 ⟨[.v .yl],[.v .zm,.v .z9,.v .z8]⟩ (cur1 b69) w3 u3 (sk 2 (.j [] [.v 0 .yl,.bx 2 1 53 .zm,.v 3 .z9] .n (.s .n (.s .n (.s .n (.s .n (.s .n (.s .n (.j [] [.bx 2 1 53 .zm,.v 3 .z9,.v 9 .z9,.v 11 .z9] (.s .n (.l [3,11] [] [.bx 2 1 53 .zm,.v 9 .z9,.it 100 2] .n)) (.s .n (.s (.s .n (.l [3,113] [] [.bx 2 1 53 .zm,.v 114 .z9] (.s .n (.s .n (.s (.s .n (.l [3,14,113,114] [] [.bx 2 1 53 .zm] .n)) .n))))) .n))))))))))) [K407,K408]
def K324:=mk 324 Tryz.f324 ⟨[.v .zm,.v .z9],[.v .yl,.v .z8]⟩ (cur2 a4y) w2 u2 (sk 4 (.s (.s .n (.l [1] [] [.bx 2 2 53 .zm,.v 6 .yl,.v 7 .z9,.v 8 .z9] (.s .n (.s (.j [] [.v 1 .z9,.bx 2 2 53 .zm,.v 6 .yl,.v 7 .z9,.v 8 .z9] .n .n) .n)))) (.j [] [.v 1 .z9,.bx 2 2 53 .zm,.v 6 .yl] .n .n))) [K379,h2j]
def K325:=mk 325 Tryz.f325 ⟨[.v .z9],[.v .z8]⟩ (cur1 b59) w1 u1 .n []
def K266:=mk 266 Tryz.f266 ⟨[.v .zo],[.v .z8]⟩ (cur1 b07) w1 u1 .n [K324,K325]
def k3z:Sig VV:=⟨[.v .zl],[.v .z9]⟩
def k44(R:Ring_syntax_Depth):Fent VV:=⟨k3z,Int,λx=>R.f_syntax_Depth x.1,λb=>((b,()),()),none⟩
def k9o:Fent VV:=k44 (a0r FU)
def k75:Ress VV k3z.rs×Outs VV k3z.ps->Int:=λp=>p.1.1
def k7s:Ann VV.C:=(.s .n (.s .n (.s (.s .n (.l [7,8] [] [.v 3 .z9,.v 9 .z9] .n)) .n)))
def k7u(R:Ring_syntax_Depth):Phi VV:=λf ys=>lkF f ys [(326,k44 R)]
def k8l(R:Ring_syntax_Depth)(hr326:SX.Spec Tryz.prog 326 (k44 R)):OKΦ Tryz.prog (k7u R):=okl ⟨knS rfl ⟨hr326,λ_ _=>by kernel_rfl⟩,trivial⟩
def k9k(R:Ring_syntax_Depth):∀x,c5v Tryz.prog (k7u R) k3z k75 Tryz.f326 k7s x=b86 R x.1:=λx=>by kernel_rfl
def k6u:c67 Tryz.f326 k3z=true:=by kernel_rfl
def b5h:∀n,SX.Spec Tryz.prog 326 (k44 (a0r n))|0=>(λ_ _ h=>(by cases(show none=some _ from h)))|n+1=>let h326:=b5h n;a2m (fe:=k44 (a0r (n+1))) uok (k8l (a0r n) h326) mixed (fn:=Tryz.f326) (by kernel_rfl) k75 k7s (d8 k6u).1 (d8 k6u).2 (λ_=>rfl) (k9k (a0r n))
def K326:Kn Tryz.prog VV:=⟨326,k9o,knS rfl ⟨(b5h FU),λ_ _=>by kernel_rfl⟩⟩
def k3w:Sig VV:=⟨[.v .zl],[.v .z9]⟩
def k3o(R:Ring_syntax_Size):Fent VV:=⟨k3w,Int,λx=>R.f_syntax_Size x.1,λb=>((b,()),()),none⟩
def k95:Fent VV:=k3o (a1j FU)
def k79:Ress VV k3w.rs×Outs VV k3w.ps->Int:=λp=>p.1.1
def k7c:Ann VV.C:=(.s .n (.s .n (.s (.s .n (.l [7,8] [] [.v 3 .z9,.v 9 .z9] .n)) .n)))
def k7k(R:Ring_syntax_Size):Phi VV:=λf ys=>lkF f ys [(327,k3o R)]
def k8r(R:Ring_syntax_Size)(hr327:SX.Spec Tryz.prog 327 (k3o R)):OKΦ Tryz.prog (k7k R):=okl ⟨knS rfl ⟨hr327,λ_ _=>by kernel_rfl⟩,trivial⟩
def k9h(R:Ring_syntax_Size):∀x,c5v Tryz.prog (k7k R) k3w k79 Tryz.f327 k7c x=b9x R x.1:=λx=>by kernel_rfl
def k7i:c67 Tryz.f327 k3w=true:=by kernel_rfl
def b6s:∀n,SX.Spec Tryz.prog 327 (k3o (a1j n))|0=>(λ_ _ h=>(by cases(show none=some _ from h)))|n+1=>let h327:=b6s n;a2m (fe:=k3o (a1j (n+1))) uok (k8r (a1j n) h327) mixed (fn:=Tryz.f327) (by kernel_rfl) k79 k7c (d8 k7i).1 (d8 k7i).2 (λ_=>rfl) (k9h (a1j n))
def K327:Kn Tryz.prog VV:=⟨327,k95,knS rfl ⟨(b6s FU),λ_ _=>by kernel_rfl⟩⟩
def K409:=mk 409 Tryz.f409 ⟨[.v .z9],[.v .z9]⟩ (cur1 b84) w1 u1 .n []
def K381:=mk 381 Tryz.f381 ⟨[.v .zl],[.v .z8]⟩ (cur1 c05) w1 u1 .n [l13,K324,K409]
def k45:Sig VV:=⟨[.v .zl],[.v .z8]⟩
def k3n(R:Ring_syntax_form):Fent VV:=⟨k45,Bool,λx=>R.f_syntax_form x.1,λb=>((b,()),()),none⟩
def k9s:Fent VV:=k3n (e6 FU)
def k7v:Ress VV k45.rs×Outs VV k45.ps->Bool:=λp=>p.1.1
def k76:Ann VV.C:=.n
def k3y:Sig VV:=⟨[.v .zl],[.v .z8]⟩
def k4x(R:Ring_syntax_form):Fent VV:=⟨k3y,Bool,λx=>R.f_syntax_form_1 x.1,λb=>((b,()),()),none⟩
def k83:Ress VV k3y.rs×Outs VV k3y.ps->Bool:=λp=>p.1.1
def k7y:Ann VV.C:=.n
def k2o:Sig VV:=⟨[.ls .zl,.cl 382 []],[.v .z8]⟩
def k2r(R:Ring_syntax_form):Fent VV:=⟨k2o,Bool,λx=>R.f_slices_ContainsFunc_of_api_Expr x.1,λb=>((b,()),()),none⟩
def k3g:Ress VV k2o.rs×Outs VV k2o.ps->Bool:=λp=>p.1.1
def k38:Ann VV.C:=.n
def k2n:Sig VV:=⟨[.ls .zl,.cl 382 []],[.v .z9]⟩
def k2s(R:Ring_syntax_form):Fent VV:=⟨k2n,Int,λx=>R.f_slices_IndexFunc_of_api_Expr x.1,λb=>((b,()),()),none⟩
def k3b:Ress VV k2n.rs×Outs VV k2n.ps->Int:=λp=>p.1.1
def k32:Ann VV.C:=(.s .n (.s (.s .n (.l [0,1,7] [] [.v 8 .z9] .n)) .n))
def k86(R:Ring_syntax_form):Phi VV:=λf ys=>lkF f ys [(366,k2r R),K381.e]
def k8g(R:Ring_syntax_form)(hr366:SX.Spec Tryz.prog 366 (k2r R)):OKΦ Tryz.prog (k86 R):=okl ⟨knS rfl ⟨hr366,λ_ _=>by kernel_rfl⟩,K381.ok,trivial⟩
def k9v(R:Ring_syntax_form):∀x,c5v Tryz.prog (k86 R) k45 k7v Tryz.f328 k76 x=b60 R x.1:=λx=>by kernel_rfl
def k6w:c67 Tryz.f328 k45=true:=by kernel_rfl
def k6i(R:Ring_syntax_form):Phi VV:=λf ys=>lkF f ys [(328,k3n R)]
def k8e(R:Ring_syntax_form)(hr328:SX.Spec Tryz.prog 328 (k3n R)):OKΦ Tryz.prog (k6i R):=okl ⟨knS rfl ⟨hr328,λ_ _=>by kernel_rfl⟩,trivial⟩
def k9f(R:Ring_syntax_form):∀x,c5v Tryz.prog (k6i R) k3y k83 Tryz.f382 k7y x=c0q R x.1:=λx=>by kernel_rfl
def k6h:c67 Tryz.f382 k3y=true:=by kernel_rfl
def k3k(R:Ring_syntax_form):Phi VV:=λf ys=>lkF f ys [(396,k2s R)]
def k4q(R:Ring_syntax_form)(hr396:SX.Spec Tryz.prog 396 (k2s R)):OKΦ Tryz.prog (k3k R):=okl ⟨knS rfl ⟨hr396,λ_ _=>by kernel_rfl⟩,trivial⟩
def k54(R:Ring_syntax_form):∀x,c5v Tryz.prog (k3k R) k2o k3g Tryz.f366 k38 x=a0y R x.1:=λx=>by kernel_rfl
def k3f:c67 Tryz.f366 k2o=true:=by kernel_rfl
def k31(R:Ring_syntax_form):Phi VV:=λf ys=>lkF f ys [(382,k4x R)]
def k4o(R:Ring_syntax_form)(hr382:SX.Spec Tryz.prog 382 (k4x R)):OKΦ Tryz.prog (k31 R):=okl ⟨knS rfl ⟨hr382,λ_ _=>by kernel_rfl⟩,trivial⟩
def k51(R:Ring_syntax_form):∀x,c5v Tryz.prog (k31 R) k2n k3b Tryz.f396 k32 x=a1m R x.1:=λx=>by kernel_rfl
def k37:c67 Tryz.f396 k2n=true:=by kernel_rfl
def b6p:∀n,SX.Spec Tryz.prog 328 (k3n (e6 n))/\SX.Spec Tryz.prog 382 (k4x (e6 n))/\SX.Spec Tryz.prog 366 (k2r (e6 n))/\SX.Spec Tryz.prog 396 (k2s (e6 n))|0=>⟨(λ_ _ h=>(by cases(show none=some _ from h))),(λ_ _ h=>(by cases(show none=some _ from h))),(λ_ _ h=>(by cases(show none=some _ from h))),(λ_ _ h=>(by cases(show none=some _ from h)))⟩|n+1=>let⟨h328,h382,h366,h396⟩:=b6p n;⟨a2m (fe:=k3n (e6 (n+1))) uok (k8g (e6 n) h366) mixed (fn:=Tryz.f328) (by kernel_rfl) k7v k76 (d8 k6w).1 (d8 k6w).2 (λ_=>rfl) (k9v (e6 n)),a2m (fe:=k4x (e6 (n+1))) uok (k8e (e6 n) h328) mixed (fn:=Tryz.f382) (by kernel_rfl) k83 k7y (d8 k6h).1 (d8 k6h).2 (λ_=>rfl) (k9f (e6 n)),a2m (fe:=k2r (e6 (n+1))) uok (k4q (e6 n) h396) mixed (fn:=Tryz.f366) (by kernel_rfl) k3g k38 (d8 k3f).1 (d8 k3f).2 (λ_=>rfl) (k54 (e6 n)),a2m (fe:=k2s (e6 (n+1))) uok (k4o (e6 n) h382) mixed (fn:=Tryz.f396) (by kernel_rfl) k3b k32 (d8 k37).1 (d8 k37).2 (λ_=>rfl) (k51 (e6 n))⟩
def K328:Kn Tryz.prog VV:=⟨328,k9s,knS rfl ⟨(b6p FU).1,λ_ _=>by kernel_rfl⟩⟩
def k1w:=mk 267 Tryz.f267 ⟨[.v .zl],[.v .z8]⟩ (cur1 a1k) w1 u1 .n [K326,K327,K328]
def K268:=mk 268 Tryz.f268 ⟨[],[.ow 426 .yk]⟩ (λx=>b2d) w1 u1 .n []
def K202:=mk 202 Tryz.f202 ⟨[.v .y8],[.v .z8]⟩ (cur1 a7q) w1 u1 (.s .n (.j [] [.bx 1 1 74 .y8] (.s (.g [4]) .n) (.s .n (.j [] [.bx 1 1 74 .y8] (.s .n (.l [66,67] [] [.bx 1 1 74 .y8,.v 68 .z9] .n)) (.j [] [.bx 1 1 74 .y8] (.s .n (.l [89,90] [] [.bx 1 1 74 .y8,.v 91 .z9] .n)) (.j [] [.bx 1 1 74 .y8] (.s .n (.l [100,101] [] [.bx 1 1 74 .y8,.v 102 .z9] .n)) (.j [] [.bx 1 1 74 .y8] (.s .n (.l [118,119] [] [.bx 1 1 74 .y8,.v 120 .z9] .n)) (.s (.s .n (.l [143,144] [] [.v 145 .z9] .n)) .n)))))))) [K75,l13,K263,K264,K265,K266,k1w,K268]
def K129:=mk 129 Tryz.f129 ⟨[.v .y3],[.v .z8]⟩ (cur1 b7h) w1 u1 (sk 2 (.s (.s .n (.l [32,33] [] [.v 34 .z9] .n)) .n)) [l13,K202]
def l0z:=mk 269 Tryz.f269 ⟨[.v .yl],[.v .z9,.v .z8]⟩ (cur1 b4n) w2 u2 (.s .n (.s (.s .n (.j [] [.v 4 .yl,.v 5 .z8] .n (.s .n (.j [] [.v 4 .yl,.v 9 .z8] .n .n)))) .n)) []
def K270:=mk 270 Tryz.f270 ⟨[.v .yl],[.v .z8]⟩ (cur1 b9o) w1 u1 .n [k1w]
def K272:=mk 272 Tryz.f272 ⟨[.v .zh,.rp 271 .zq],[.v .z8]⟩ (cur2 b9r) w1 u1 .n []
def K330:=mk 330 Tryz.f330 ⟨[.v .zh],[.v .z8]⟩ (cur1 b42) w1 u1 .n []
def K383:=mkR 383 Tryz.f383 ⟨[.v .yl,.ls .zh],[.v .z9,.v .z8]⟩ (cur2 b6c) w2 u2 (sk 2 (.s (.s .n (.l [] [] [.bx 2 2 9 .yl,.bx 4 3 3 .z9,.bx 5 4 4 .z8] (.s .n .n))) .n)) [l0z,K410]
def K384:=mk 384 Tryz.f384 ⟨[.v .z9,.ls .z9],[.v .z9,.v .z8]⟩ (cur2 b9i) w2 u2 (.s .n (.s (.s .n (.j [] [.ls 1 .z9,.v 6 .z9,.v 7 .z8] .n (.s .n (.s .n (.s .n (.j [] [.ls 1 .z9,.v 6 .z9,.v 23 .z8] .n (.s .n (.s .n (.s .n (.s .n (.s .n (.j [] [.ls 1 .z9,.v 6 .z9,.v 96 .z8] .n (.s .n (.j [] [.ls 1 .z9,.v 6 .z9,.v 116 .z8] .n .n)))))))))))))) .n)) []
def k3q:Sig VV:=⟨[.v .zl,.ls .zh],[.v .z9,.v .z9]⟩
def k42(R:Ring_typing_infer):Fent VV:=⟨k3q,Int×Int,λx=>R.f_typing_infer x.1 x.2.1,λb=>((b.1,(b.2,())),()),none⟩
def k9p:Fent VV:=k42 (a0v FU)
def k6e:Ress VV k3q.rs×Outs VV k3q.ps->Int×Int:=λp=>(p.1.1,p.1.2.1)
def k7g:Ann VV.C:=(.s .n (.s .n (.s .n (.s (.s .n (.l [1,36,37] [] [.bx 2 2 85 .zl,.ow 8 3 3 .z9,.v 38 .z9] .n)) .n))))
def k7f(R:Ring_typing_infer):Phi VV:=λf ys=>lkF f ys [(331,k42 R),K383.e,K384.e]
def k8j(R:Ring_typing_infer)(hr331:SX.Spec Tryz.prog 331 (k42 R)):OKΦ Tryz.prog (k7f R):=okl ⟨knS rfl ⟨hr331,λ_ _=>by kernel_rfl⟩,K383.ok,K384.ok,trivial⟩
def k9n(R:Ring_typing_infer):∀x,c5v Tryz.prog (k7f R) k3q k6e Tryz.f331 k7g x=b4g R x.1 x.2.1:=λx=>by kernel_rfl
def k78:c67 Tryz.f331 k3q=true:=by kernel_rfl
def b5q:∀n,SX.Spec Tryz.prog 331 (k42 (a0v n))|0=>(λ_ _ h=>(by cases(show none=some _ from h)))|n+1=>let h331:=b5q n;a2m (fe:=k42 (a0v (n+1))) uok (k8j (a0v n) h331) mixed (fn:=Tryz.f331) (by kernel_rfl) k6e k7g (d8 k78).1 (d8 k78).2 (λ_=>rfl) (k9n (a0v n))
def K331:Kn Tryz.prog VV:=⟨331,k9p,knS rfl ⟨(b5q FU),λ_ _=>by kernel_rfl⟩⟩
def j4q:=mk 329 Tryz.f329 ⟨[.ls .zh,.cl 330 []],[.v .z9]⟩ (λx=>a19 x.1) w1 u1 (.s .n (.s (.s .n (.l [0,1,7] [] [.v 8 .z9] .n)) .n)) [K330]
def k5q:=mk 271 Tryz.f271 ⟨[.ls .zh,.cl 330 []],[.v .z8]⟩ (λx=>a0i x.1) w1 u1 .n [j4q]
def K273:=mk 273 Tryz.f273 ⟨[.v .zl,.ls .zh],[.v .z9,.v .z9]⟩ (cur2 b4y) w2 u2 .n [k1w,k5q,K331]
def k5g:=mk 329 Tryz.f329 ⟨[.ls .zh,.cl 272 [.zq]],[.v .z9]⟩ (λx=>a1e x.1 x.2.1.1) w1 u1 (.s .n (.s (.s .n (.l [0,1,7] [] [.v 8 .z9] .n)) .n)) [K272]
def k5x:=mk 271 Tryz.f271 ⟨[.ls .zh,.cl 272 [.zq]],[.v .z8]⟩ (λx=>a0q x.1 x.2.1.1) w1 u1 .n [k5g]
def K203:=mk 203 Tryz.f203 ⟨[.ls .zq],[.ow 384 .zh,.v .z9]⟩ (cur1 b9n) w2 u2 (sk 3 (.s (.s .n (.l [14,15] [] [.ow 4 1 384 .zh,.v 16 .z9] .n)) .n)) [l0z,K270,k5x,K273]
def K205:=mk 205 Tryz.f205 ⟨[.v .zj,.rp 265 .zj],[.v .z8]⟩ (cur2 b5a) w1 u1 .n []
def h2k:=mk 207 Tryz.f207 ⟨[.v .zn,.rp 87 .zn],[.v .z8]⟩ (cur2 b57) w1 u1 .n []
def K208:=mk 208 Tryz.f208 ⟨[.v .zl,.ls .zh,.v .z9],[.v .z9]⟩ (cur3 b8w) w1 u1 .n [K273]
def K210:=mk 210 Tryz.f210 ⟨[.v .zv,.rp 275 .zv],[.v .z8]⟩ (cur2 b5b) w1 u1 .n []
def k62:=mk 145 Tryz.f145 ⟨[.ls .zj,.cl 205 [.zj]],[.v .z9]⟩ (λx=>a13 x.1 x.2.1.1) w1 u1 (.s .n (.s (.s .n (.l [0,1,7] [] [.v 8 .z9] .n)) .n)) [K205]
def k63:=mk 204 Tryz.f204 ⟨[.ls .zj,.cl 205 [.zj]],[.v .z8]⟩ (λx=>a0e x.1 x.2.1.1) w1 u1 .n [k62]
def k6a:=mk 195 Tryz.f195 ⟨[.ls .zn,.cl 207 [.zn]],[.v .z9]⟩ (λx=>a15 x.1 x.2.1.1) w1 u1 (.s .n (.s (.s .n (.l [0,1,7] [] [.v 8 .z9] .n)) .n)) [h2k]
def k5r:=mk 206 Tryz.f206 ⟨[.ls .zn,.cl 207 [.zn]],[.v .z8]⟩ (λx=>a0h x.1 x.2.1.1) w1 u1 .n [k6a]
def k5v:=mk 274 Tryz.f274 ⟨[.ls .zv,.cl 210 [.zv]],[.v .z9]⟩ (λx=>a0x x.1 x.2.1.1) w1 u1 (.s .n (.s (.s .n (.l [0,1,7] [] [.v 8 .z9] .n)) .n)) [K210]
def k60:=mk 209 Tryz.f209 ⟨[.ls .zv,.cl 210 [.zv]],[.v .z8]⟩ (λx=>a0d x.1 x.2.1.1) w1 u1 .n [k5v]
def K130:=mk 130 Tryz.f130 ⟨[.v .y8],[.v .z9]⟩ (cur1 b0q) w1 u1 (sk 3 (.s (.s .n (.l [26,27] [] [.bx 1 1 74 .y8,.ow 3 2 384 .zh,.v 28 .z9] .n)) (.s (.s .n (.l [41,42] [] [.bx 1 1 74 .y8,.ow 3 2 384 .zh,.v 43 .z9] .n)) (.s (.s .n (.l [64,65] [] [.bx 1 1 74 .y8,.ow 3 2 384 .zh,.v 66 .z9] .n)) (.s (.s .n (.l [93,94] [] [.bx 1 1 74 .y8,.ow 3 2 384 .zh,.v 95 .z9] .n)) .n))))) [K203,k63,k5r,K208,k60]
def K72:=mk 72 Tryz.f72 ⟨[.v .y3],[.v .z9,.v .z9]⟩ (cur1 b4b) w2 u2 (sk 2 (.s (.s .n (.l [11,12] [] [.bx 1 1 61 .y3,.v 13 .z9] .n)) .n)) [K129,K130]
def K211:=mk 211 Tryz.f211 ⟨[.v .z9,.v .z9],[.v .z8]⟩ (cur2 a7u) w1 u1 .n []
def h1r:=mk 131 Tryz.f131 ⟨[.v .zy],[.v .z8]⟩ (cur1 a5x) w1 u1 (sk 2 (.s (.s .n (.l [28,29] [] [.bx 1 1 82 .zy,.v 30 .z9] .n)) .n)) [K75,K211]
def K73:=mk 73 Tryz.f73 ⟨[.ls .zy],[.v .z9]⟩ (cur1 a9n) w1 u1 (sk 3 (.s (.s .n (.l [0,18,19] [] [.v 20 .z9] .n)) .n)) [h1r]
def g6w:=mk 132 Tryz.f132 ⟨[.v .z9],[.v .z8]⟩ (cur1 a8n) w1 u1 .n []
def K275:=mk 275 Tryz.f275 ⟨[.v .z9],[.v .z8]⟩ (cur1 b1k) w1 u1 .n []
def l18:=mk 247 Tryz.f247 ⟨[.v .z9],[.v .z8]⟩ (cur1 a7l) w1 u1 .n []
def l0x:=mk 184 Tryz.f184 ⟨[.v .z9,.v .z9],[.v .z9]⟩ (cur2 a05) w1 u1 .n [l18]
def h31:=mk 212 Tryz.f212 ⟨[.v .z9],[.v .z9]⟩ (cur1 a90) w1 u1 .n [l0x,K275]
def h0q:=mk 133 Tryz.f133 ⟨[.v .z9],[.v .z8]⟩ (cur1 b9g) w1 u1 .n [h31]
def k8t:=mk 200 Tryz.f200 ⟨[.v .z9],[.v .yn]⟩ (cur1 j5) w1 u1 .n []
def l0f:=mk 199 Tryz.f199 ⟨[.v .yn,.v .yn],[.v .yn]⟩ (cur2 a7g) w1 u1 (.s .n (.s (.l [] [] [.v 0 .yn,.v 1 .yn] .n) .n)) []
def f3f:=mk 125 Tryz.f125 ⟨[.v .zm],[.v .z8]⟩ (cur1 o7) w1 u1 .n [l0f,k8t]
def j9g:=mk 134 Tryz.f134 ⟨[.v .z9],[.v .z8]⟩ (cur1 b9l) w1 u1 .n []
def K74:=mk 74 Tryz.f74 ⟨[.ls .zu],[.v .z9]⟩ (cur1 a5r) w1 u1 (sk 2 (.s (.s .n (.l [0,8,9] [] [.v 10 .z9] .n)) .n)) [f3f,g6w,h0q,j9g]
def K41:=mk 41 Tryz.f41 ⟨[.v .zp],[.v .z9]⟩ (cur1 c02) w1 u1 (.s .n (.s (.s .n (.l [11,12] [] [.bx 1 1 30 .zp,.v 13 .z9] .n)) (.s (.s .n (.l [44,45] [] [.bx 1 1 30 .zp,.v 46 .z9] .n)) .n))) [K72,K73,K74]
def K42:=mkR 42 Tryz.f42 ⟨[.ls .zy,.v .z9],[.v .zy,.v .z8]⟩ (cur2 b2q) w2 u2 (sk 2 (.s (.s .n (.l [] [] [.bx 3 2 3 .z9,.bx 4 3 82 .zy,.bx 5 4 4 .z8] (.s .n .n))) .n)) [K75,K76,K77]
def K24:=mk 24 Tryz.f24 ⟨[.v .zp,.v .z9],[.v .yb,.v .z9]⟩ (cur2 b8v) w2 u2 .n [K41,K42]
def K110:=mk 110 Tryz.f110 ⟨[.v .yb,.v .z9],[.v .y3,.v .z8]⟩ (cur2 a7y) w2 u2 (.s .n (.s (.s .n (.l [1,10,11] [] [.of 4 2 3 74 .y8,.bm 4 2 61 .y3 [(2,3)],.v 12 .z9] .n)) .n)) []
def k4b:Sig VV:=⟨[.v .zl],[.v .zl]⟩
def k48(R:Ring_statute_cloneExpr):Fent VV:=⟨k4b,Expr,λx=>R.f_statute_cloneExpr x.1,λb=>((b,()),()),none⟩
def k9d:Fent VV:=k48 (s4 FU)
def k6r:Ress VV k4b.rs×Outs VV k4b.ps->Expr:=λp=>p.1.1
def k77:Ann VV.C:=(.s .n (.s .n (.s (.g [3001]) (.s (.s .n (.l [9,10] [] [.of 1 4 2 85 .zl,.bm 1 1 85 .zl [(4,2)],.of 2 4 4 85 .zl,.bm 2 3 85 .zl [(4,4)],.v 11 .z9] (.s .n (.s .n (.s (.s .n (.g [3007])) .n))))) .n))))
def k7r(R:Ring_statute_cloneExpr):Phi VV:=λf ys=>lkF f ys [(142,k48 R)]
def k8o(R:Ring_statute_cloneExpr)(hr142:SX.Spec Tryz.prog 142 (k48 R)):OKΦ Tryz.prog (k7r R):=okl ⟨knS rfl ⟨hr142,λ_ _=>by kernel_rfl⟩,trivial⟩
def l00(R:Ring_statute_cloneExpr):∀x,c5v Tryz.prog (k7r R) k4b k6r Tryz.f142 k77 x=a7s R x.1:=λx=>by kernel_rfl
def k6o:c67 Tryz.f142 k4b=true:=by kernel_rfl
def b0u:∀n,SX.Spec Tryz.prog 142 (k48 (s4 n))|0=>(λ_ _ h=>(by cases(show none=some _ from h)))|n+1=>let h142:=b0u n;a2m (fe:=k48 (s4 (n+1))) uok (k8o (s4 n) h142) mixed (fn:=Tryz.f142) (by kernel_rfl) k6r k77 (d8 k6o).1 (d8 k6o).2 (λ_=>rfl) (l00 (s4 n))
def k18:Kn Tryz.prog VV:=⟨142,k9d,knS rfl ⟨(b0u FU),λ_ _=>by kernel_rfl⟩⟩
def K79:=mk 79 Tryz.f79 ⟨[.v .y8],[.v .y8]⟩ (cur1 a6r) w1 u1 (.s .n (.s (.g [3007,3009]) (.s (.g [3010,3012,3014]) (.s (.s .n (.l [28] [] [.of 1 2 2 265 .zj,.of 1 3 3 268 .zo,.of 1 4 4 271 .zq,.of 1 5 5 87 .zn,.of 1 6 6 275 .zv,.bm 1 1 74 .y8 [(2,2),(3,3),(4,4),(5,5),(6,6)],.of 2 2 8 265 .zj,.of 2 3 9 268 .zo,.of 2 4 10 271 .zq,.of 2 5 11 87 .zn,.of 2 6 12 275 .zv,.bm 2 7 74 .y8 [(2,8),(3,9),(4,10),(5,11),(6,12)],.v 29 .z9] .n)) (.s (.s .n (.l [47] [] [.of 1 2 2 265 .zj,.of 1 3 3 268 .zo,.of 1 4 4 271 .zq,.of 1 5 5 87 .zn,.of 1 6 6 275 .zv,.bm 1 1 74 .y8 [(2,2),(3,3),(4,4),(5,5),(6,6)],.of 2 2 8 265 .zj,.of 2 3 9 268 .zo,.of 2 4 10 271 .zq,.of 2 5 11 87 .zn,.of 2 6 12 275 .zv,.bm 2 7 74 .y8 [(2,8),(3,9),(4,10),(5,11),(6,12)],.v 48 .z9] .n)) (.s (.s .n (.l [78] [] [.of 1 2 2 265 .zj,.of 1 3 3 268 .zo,.of 1 4 4 271 .zq,.of 1 5 5 87 .zn,.of 1 6 6 275 .zv,.bm 1 1 74 .y8 [(2,2),(3,3),(4,4),(5,5),(6,6)],.of 2 2 8 265 .zj,.of 2 3 9 268 .zo,.of 2 4 10 271 .zq,.of 2 5 11 87 .zn,.of 2 6 12 275 .zv,.bm 2 7 74 .y8 [(2,8),(3,9),(4,10),(5,11),(6,12)],.v 79 .z9] .n)) .n)))))) [K137,K138,K139,K140,k22,k18]
def K43:=mkR 43 Tryz.f43 ⟨[.v .y3,.v .z9],[.v .y8,.v .z8]⟩ (cur2 b1v) w2 u2 (sk 2 (.s (.s .n (.l [] [] [.bx 3 2 3 .z9,.bx 4 3 74 .y8,.bx 5 4 4 .z8] (.s .n .n))) .n)) [K75,K78,K79]
def K65:=mk 65 Tryz.f65 ⟨[.v .yb,.v .z9],[.v .y3,.v .y8,.v .z9]⟩ (cur2 a2v) w3 u3 .n [K43,K110]
def K95:=mk 95 Tryz.f95 ⟨[.ls .z9,.v .z9],[.v .z9]⟩ (cur2 a4p) w1 u1 (.s .n (.s (.s .n (.l [0,1,7] [] [.v 8 .z9] .n)) .n)) []
def K47:=mk 47 Tryz.f47 ⟨[.ls .z9,.v .z9],[.v .z8]⟩ (cur2 q9) w1 u1 .n [K95]
def K26:=mk 26 Tryz.f26 ⟨[.v .yb,.v .z9],[.v .z8]⟩ (cur2 a08) w1 u1 .n [K47]
def K280:=mk 280 Tryz.f280 ⟨[.v .z9],[.v .yl]⟩ (cur1 b2r) w1 u1 (.s .n (.s (.s .n (.s .n (.s .n (.j [] [.v 3 .z9,.v 6 .z8] .n (.s .n (.s .n (.s .n (.j [] [.v 3 .z9,.v 11 .z8] .n (.s .n (.s .n (.s .n (.s .n (.s .n (.j [] [.v 3 .z9,.v 20 .z8] .n .n)))))))))))))) .n)) []
def K349:=mk 349 Tryz.f349 ⟨[.v .yl,.v .yl],[.v .z9]⟩ (cur2 c3y) w1 u1 .n [K390]
def K282:=mk 282 Tryz.f282 ⟨[.v .yl,.v .yl],[.v .z8]⟩ (cur2 c0c) w1 u1 .n [K349]
def K281:=mk 281 Tryz.f281 ⟨[.v .yl,.rp 9 .yl],[.v .z8]⟩ (cur2 p9) w1 u1 .n [K282]
def K283:=mk 283 Tryz.f283 ⟨[.v .z9,.v .z9,.v .z9],[.v .z8]⟩ (cur3 a9w) w1 u1 .n []
def h1k:=mk 284 Tryz.f284 ⟨[.v .z8,.v .z9,.v .z9,.v .z9],[.v .z8]⟩ (cur4 b0d) w1 u1 .n [K283]
def K285:=mk 285 Tryz.f285 ⟨[.v .y1],[.v .z8]⟩ (cur1 b8g) w1 u1 .n []
def K216:=mk 216 Tryz.f216 ⟨[.v .ya],[.v .z8]⟩ (cur1 b3k) w1 u1 (sk 4 (.s (.s .n (.s .n (.s .n (.j [] [.bx 1 1 38 .ya,.v 89 .z9,.v 97 .z8] .n (.s .n (.j [] [.bx 1 1 38 .ya,.v 108 .z8] .n .n)))))) .n)) [K280,K281,K283,h1k,K285]
def h2b:=mk 147 Tryz.f147 ⟨[.v .ya],[.v .z8]⟩ (cur1 a4e) w1 u1 .n [K216]
def k64:=mk 218 Tryz.f218 ⟨[.ls .ya,.cl 147 []],[.ow 38 .ya]⟩ (λx=>a3f x.1) w1 u1 (sk 2 (.s (.s .n (.l [1,8,9] [] [.ow 5 2 38 .ya,.v 10 .z9] .n)) .n)) [h2b]
def k3t:Sig VV:=⟨[.ls .ya],[.ow 38 .ya]⟩
def k5d:Fent VV:=⟨k3t,List aQ,λx=>a4f x.1,λb=>((b,()),()),none⟩
def k9c:Ress VV k3t.rs×Outs VV k3t.ps->List aQ:=λp=>p.1.1
def k9q:Ann VV.C:=.n
def k90:SX.Spec Tryz.prog 149 k5d:=a2m (fe:=k5d) uok (okl (f8d [k64])) mixed (fn:=Tryz.f149) (by kernel_rfl) k9c k9q (d8 (s:=k3t) (by kernel_rfl)).1 (d8 (s:=k3t) (by kernel_rfl)).2 (λ_=>rfl) λx=>by kernel_rfl
def h2x:Kn Tryz.prog VV:=⟨149,k5d,knS rfl ⟨k90,λ_ _=>by kernel_rfl⟩⟩
def K180:=mk 180 Tryz.f180 ⟨[.ls .ya,.v .z9],[.v .z9,.v .z8]⟩ (cur2 b4r) w2 u2 (sk 2 (.s (.s .n (.l [1,10,11] [] [.v 6 .z9,.v 7 .z8,.v 12 .z9] .n)) .n)) [h2b]
def h2a:=mk 113 Tryz.f113 ⟨[.ls .ya],[.v .z9,.v .z8]⟩ (cur1 b4t) w2 u2 .n [K180]
def k25:=mk 217 Tryz.f217 ⟨[.ls .ya],[.v .z9,.v .z8]⟩ (cur1 b7l) w2 u2 .n [K180]
def k4e:Sig VV:=⟨[.ls .ya],[.v .y1]⟩
def k57:Fent VV:=⟨k4e,Span,λx=>a2i x.1,λb=>((b,()),()),none⟩
def k9g:Ress VV k4e.rs×Outs VV k4e.ps->Span:=λp=>p.1.1
def l0b:Ann VV.C:=(.s .n (.s .n (.s .n (.j [] [.bx 2 1 36 .y1,.v 3 .z9,.v 5 .z9] .n .n))))
def l03:SX.Spec Tryz.prog 148 k57:=a2m (fe:=k57) uok (okl (f8d [h2a,k25])) mixed (fn:=Tryz.f148) (by kernel_rfl) k9g l0b (d8 (s:=k4e) (by kernel_rfl)).1 (d8 (s:=k4e) (by kernel_rfl)).2 (λ_=>rfl) λx=>by kernel_rfl
def k8w:Kn Tryz.prog VV:=⟨148,k57,knS rfl ⟨l03,λ_ _=>by kernel_rfl⟩⟩
def K213:=mk 213 Tryz.f213 ⟨[.v .y1],[.v .y1]⟩ (cur1 c3q) w1 u1 .n []
def K224:=mk 224 Tryz.f224 ⟨[.v .yn],[.v .z9]⟩ (cur1 c7q) w1 u1 .n [K233]
def k5f:=mk 144 Tryz.f144 ⟨[.ls .y1],[.ow 36 .y1]⟩ (cur1 a2w) w1 u1 (.s .n (.s (.g [6000]) (.s (.s .n (.l [10,11] [] [.of 3 0 2 36 .y1,.bm 3 1 187 .zd [(0,2)],.v 12 .z9] (.s .n (.s .n (.s (.s .n (.s .n (.s .n (.s (.g [6000,6004]) .n)))) .n))))) (.s (.g [6000]) (.s .n (.s (.s (.g [6000]) (.l [33] [] [.ow 6 1 36 .y1,.ow 32 2 36 .y1,.v 34 .z9] .n)) .n)))))) [K213,K214]
def K143:=mk 143 Tryz.f143 ⟨[.ls .y1,.ls .y1],[.ow 36 .y1]⟩ (cur2 b2g) w1 u1 (sk 3 (.s (.s .n (.l [] [] [.ow 0 2 36 .y1,.ow 1 3 36 .y1,.ow 5 4 36 .y1,.v 6 .z9,.v 7 .z9] (.s .n (.s .n (.j [] [.ow 0 2 36 .y1,.ow 1 3 36 .y1,.ow 5 4 36 .y1,.v 6 .z9,.v 7 .z9] .n .n))))) .n)) [k5f]
def k5c:Sig VV:=⟨[.ls .y1,.v .y1],[.ow 36 .y1]⟩
def j9y:Fent VV:=⟨k5c,List Span,λx=>s6 x.1 x.2.1,λb=>((b,()),()),none⟩
def l15:Ress VV k5c.rs×Outs VV k5c.ps->List Span:=λp=>p.1.1
def l14:Ann VV.C:=.n
def k19:SX.Spec Tryz.prog 81 j9y:=a2m (fe:=j9y) uok (okl (f8d [K143])) mixed (fn:=Tryz.f81) (by kernel_rfl) l15 l14 (d8 (s:=k5c) (by kernel_rfl)).1 (d8 (s:=k5c) (by kernel_rfl)).2 (λ_=>rfl) λx=>by kernel_rfl
def K81:Kn Tryz.prog VV:=⟨81,j9y,knS rfl ⟨k19,λ_ _=>by kernel_rfl⟩⟩
def K287:=mk 287 Tryz.f287 ⟨[.v .z9],[.v .z8]⟩ (cur1 b1d) w1 u1 .n []
def j8e:=mk 222 Tryz.f222 ⟨[.v .z9,.v .z9],[.v .z9]⟩ (cur2 a2c) w1 u1 .n [K287]
def K221:=mk 221 Tryz.f221 ⟨[.ls .z9],[.v .z9]⟩ (cur1 b67) w1 u1 (sk 2 (.s (.s .n (.l [3,6,7] [] [.v 8 .z9] .n)) .n)) []
def d5l:Sig VV:=⟨[.v .zt,.v .zt],[.v .z9]⟩
def g9h:Fent VV:=⟨d5l,Int,λx=>a0j x.1 x.2.1,λb=>((b,()),()),none⟩
def g05:Ress VV d5l.rs×Outs VV d5l.ps->Int:=λp=>p.1.1
def g1g:Ann VV.C:=.n
def k00:SX.Spec Tryz.prog 220 g9h:=a2m (fe:=g9h) uok (okl (f8d [K221,j8e])) mixed (fn:=Tryz.f220) (by kernel_rfl) g05 g1g (d8 (s:=d5l) (by kernel_rfl)).1 (d8 (s:=d5l) (by kernel_rfl)).2 (λ_=>rfl) λx=>by kernel_rfl
def k13:Kn Tryz.prog VV:=⟨220,g9h,knS rfl ⟨k00,λ_ _=>by kernel_rfl⟩⟩
def k4v:=mk 350 Tryz.f350 ⟨[.so 285 .zt,.v .z9,.v .z9,.cl 220 []],[]⟩ (λx=>m6 x.1 x.2.1 x.2.2.1) (λb=>((),(b,()))) (λp=>p.2.1) (.s .n (.l [1,2,3] [] [.ow 0 0 285 .zt,.v 8 .z9] (.s .n (.s (.s .n (.l [1,2,3,8] [] [.ow 0 0 285 .zt,.v 9 .z9] .n)) .n)))) [k13]
def k2l:Sig VV:=⟨[.so 285 .zt,.v .z9,.v .z9,.v .z9,.cl 220 []],[]⟩
def k2y(R:oQ):Fent VV:=⟨k2l,List Posting,λx=>R.f_slices_pdqsortCmpFunc_of_api_Posting x.1 x.2.1 x.2.2.1 x.2.2.2.1,λb=>((),(b,())),none⟩
def k55:Fent VV:=k2y (c3 FU)
def k3d:Ress VV k2l.rs×Outs VV k2l.ps->List Posting:=λp=>p.2.1
def k39:Ann VV.C:=(.s .n (.s .n (.l [4] [] [.ow 0 0 285 .zt,.v 1 .z9,.v 2 .z9,.v 3 .z9,.v 10 .z8,.v 11 .z8] (.s .n (.s .n (.s .n (.j [] [.ow 0 0 285 .zt,.v 1 .z9,.v 2 .z9,.v 3 .z9,.cl 4 220 [],.v 10 .z8,.v 11 .z8,.v 12 .z9] .n .n)))))))
def k33(R:oQ):Phi VV:=λf ys=>lkF f ys [k4v.e]
def k4g(R:oQ):OKΦ Tryz.prog (k33 R):=okl ⟨k4v.ok,trivial⟩
def k50(R:oQ):∀x,c5v Tryz.prog (k33 R) k2l k3d Tryz.f286 k39 x=i7 R x.1 x.2.1 x.2.2.1 x.2.2.2.1:=λx=>by kernel_rfl
def k36:c67 Tryz.f286 k2l=true:=by kernel_rfl
def q8:∀n,SX.Spec Tryz.prog 286 (k2y (c3 n))|0=>(λ_ _ h=>(by cases(show none=some _ from h)))|n+1=>let h286:=q8 n;a2m (fe:=k2y (c3 (n+1))) uok (k4g (c3 n)) mixed (fn:=Tryz.f286) (by kernel_rfl) k3d k39 (d8 k36).1 (d8 k36).2 (λ_=>rfl) (k50 (c3 n))
def k66:Kn Tryz.prog VV:=⟨286,k55,knS rfl ⟨(q8 FU),λ_ _=>by kernel_rfl⟩⟩
def k5l:=mk 219 Tryz.f219 ⟨[.so 285 .zt,.cl 220 []],[]⟩ (λx=>c9 x.1) (λb=>((),(b,()))) (λp=>p.2.1) .n [K224,k66]
def k6x:Fent VV:=⟨⟨[.ls .ya],[.ow 285 .zt]⟩,List Posting,λx=>competence_Postings x.1,w1,none⟩
end
end Go.PL
