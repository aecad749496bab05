/- Texts of the proof, joined. -/
import Derived.Test.YtlnlddeandmbhaaGreatDoorP8
import Derived.Test.YtlnlddeandmbhaaGreatDoorProg
import Derived.KernelRfl
import Derived.Shelf.SlSortFuncK.WholeK
import Derived.Shelf.Strconv.Itoa3
import Derived.Shelf.SlSortFuncK.RowK2
import Derived.Shelf.GgSortFunc.Tiny
set_option linter.defProp false
set_option linter.unusedVariables false
set_option linter.unusedSimpArgs false
set_option maxRecDepth 100000
open List
namespace Go.PL
open Go Go.SX
inductive TyC where|z9|zy|zx|zj|zm|zo|yl|zl|zq|zn|zv|y8|z8|y7|y4|zh|yo|yn|y1|z2|y5|yi|yh|y3|y2|zu|zp|yg|ya|ym|yk|z1|z0|yb|zd|zt|yd|yc|y0|zr|zc|zz|zf|z7|z3|ze|zi|zb|zs|ye|zk|yj|y9|z5|z4|y6|z6|yf|za|zw|zg deriving DecidableEq
@[reducible] def TyC.T:TyC->Type|.z9=>Int|.zy=>Rules|.zx=>Rounding|.zj=>Credit|.zm=>fQ|.zo=>Index|.yl=>ByteArray|.zl=>Expr|.zq=>Let|.zn=>Grant|.zv=>Reduce|.y8=>Version|.z8=>Bool|.y7=>Value|.y4=>Step|.zh=>iQ|.yo=>Int|.yn=>Int|.y1=>Span|.z2=>Ar 3 ByteArray|.y5=>Token|.yi=>rQ|.yh=>pensionref1_wide|.y3=>Statute|.y2=>State|.zu=>Rate|.zp=>Laws|.yg=>tN|.ya=>aQ|.ym=>Int|.yk=>syntax_entry|.z1=>Ar 2 Int|.z0=>Ar 12 Int|.yb=>bQ|.zd=>List Span|.zt=>Posting|.yd=>uQ|.yc=>lQ|.y0=>gQ|.zr=>Period|.zc=>List Period|.zz=>Scheme|.zf=>Anon304|.z7=>Ar 7 (List Span)|.z3=>Ar 6 (Ar 7 (List Span))|.ze=>Ar 6 (Ar 7 (List Span))|.zi=>nQ|.zb=>List nQ|.zs=>Piece|.ye=>earnings_income|.zk=>Earning|.yj=>rational_wide|.y9=>View|.z5=>Ar 6 Int|.z4=>Ar 6 Bool|.y6=>Total|.z6=>Ar 7 Int|.yf=>vQ|.za=>List Int|.zw=>Result|.zg=>Award
abbrev VA:=AV TyC TyC.T
def dT:DecidableEq TyC:=inferInstance
def g93:Int->List VA:=λx=>[.int .i64 x]
def h0b:List VA->Option Int:=mkS (gI .i64) λx0=>mkE x0
def f0o:Rules->List VA:=λx=>[.int .i64 x.From,.int .i64 x.MinDays,.int .i64 x.PostingLimit,.int .i64 x.Substantial,.list .z9 x.Members]
def e9b:List VA->Option Rules:=mkS (gI .i64) λx0=>mkS (gI .i64) λx1=>mkS (gI .i64) λx2=>mkS (gI .i64) λx3=>mkS (SX.gL dT .z9) λx4=>mkE (⟨x0,x1,x2,x3,x4⟩:Rules)
def d66:Rounding->List VA:=λx=>[.int .i64 x.Mode,.int .i64 x.Unit]
def d85:List VA->Option Rounding:=mkS (gI .i64) λx0=>mkS (gI .i64) λx1=>mkE (⟨x0,x1⟩:Rounding)
def e4m:Credit->List VA:=λx=>[.int .i64 x.Kind,.int .i64 x.Limit]
def e6k:List VA->Option Credit:=mkS (gI .i64) λx0=>mkS (gI .i64) λx1=>mkE (⟨x0,x1⟩:Credit)
def d63:fQ->List VA:=λx=>[.int .i64 x.Num,.int .i64 x.Den]
def d90:List VA->Option fQ:=mkS (gI .i64) λx0=>mkS (gI .i64) λx1=>mkE (⟨x0,x1⟩:fQ)
def e9e:Index->List VA:=λx=>[.int .i64 x.Year,.val .zm x.Factor]
def e7q:List VA->Option Index:=mkS (gI .i64) λx0=>mkS (gV dT .zm) λx1=>mkE (⟨x0,x1⟩:Index)
def g78:ByteArray->List VA:=λx=>[.str x]
def g9e:List VA->Option ByteArray:=mkS (gS) λx0=>mkE x0
def f5y:Expr->List VA:=λx=>[.int .i64 x.Op,.val .zm x.Value,.int .i64 x.Dim,.str x.Name,.list .zl x.Args]
def f4s:List VA->Option Expr:=mkS (gI .i64) λx0=>mkS (gV dT .zm) λx1=>mkS (gI .i64) λx2=>mkS (gS) λx3=>mkS (SX.gL dT .zl) λx4=>mkE (⟨x0,x1,x2,x3,x4⟩:Expr)
def g3m:Let->List VA:=λx=>[.str x.Name,.val .zl x.Body]
def g4f:List VA->Option Let:=mkS (gS) λx0=>mkS (gV dT .zl) λx1=>mkE (⟨x0,x1⟩:Let)
def f1v:Grant->List VA:=λx=>[.int .i64 x.Benefit,.val .zl x.If,.val .zl x.Pay]
def e92:List VA->Option Grant:=mkS (gI .i64) λx0=>mkS (gV dT .zl) λx1=>mkS (gV dT .zl) λx2=>mkE (⟨x0,x1,x2⟩:Grant)
def e6t:Reduce->List VA:=λx=>[.int .i64 x.Benefit,.val .zl x.By]
def e6w:List VA->Option Reduce:=mkS (gI .i64) λx0=>mkS (gV dT .zl) λx1=>mkE (⟨x0,x1⟩:Reduce)
def e10:Version->List VA:=λx=>[.int .i64 x.From,.val .zx x.Rounding,.list .zj x.Credits,.list .zo x.Series,.list .zq x.Lets,.list .zn x.Grants,.list .zv x.Reduces]
def e1l:List VA->Option Version:=mkS (gI .i64) λx0=>mkS (gV dT .zx) λx1=>mkS (SX.gL dT .zj) λx2=>mkS (SX.gL dT .zo) λx3=>mkS (SX.gL dT .zq) λx4=>mkS (SX.gL dT .zn) λx5=>mkS (SX.gL dT .zv) λx6=>mkE (⟨x0,x1,x2,x3,x4,x5,x6⟩:Version)
def g3y:Bool->List VA:=λx=>[.bool x]
def g5e:List VA->Option Bool:=mkS (gB) λx0=>mkE x0
def f02:Value->List VA:=λx=>[.int .i64 x.Dim,.bool x.Yes,.val .zm x.Num]
def f05:List VA->Option Value:=mkS (gI .i64) λx0=>mkS (gB) λx1=>mkS (gV dT .zm) λx2=>mkE (⟨x0,x1,x2⟩:Value)
def f7b:Step->List VA:=λx=>[.str x.Name,.val .y7 x.Value]
def f5s:List VA->Option Step:=mkS (gS) λx0=>mkS (gV dT .y7) λx1=>mkE (⟨x0,x1⟩:Step)
def d9c:iQ->List VA:=λx=>[.str x.Name,.int .i64 x.Dim]
def e0b:List VA->Option iQ:=mkS (gS) λx0=>mkS (gI .i64) λx1=>mkE (⟨x0,x1⟩:iQ)
def h4b:Int->List VA:=λx=>[.int .u8 x]
def h2q:List VA->Option Int:=mkS (gI .u8) λx0=>mkE x0
def h1c:Int->List VA:=λx=>[.int .u64 x]
def g83:List VA->Option Int:=mkS (gI .u64) λx0=>mkE x0
def f4o:Span->List VA:=λx=>[.int .i64 x.From,.int .i64 x.To]
def f7t:List VA->Option Span:=mkS (gI .i64) λx0=>mkS (gI .i64) λx1=>mkE (⟨x0,x1⟩:Span)
def e7k:Ar 3 ByteArray->List VA:=λx=>x.l.map λy=>.str y
def d8g:List VA->Option (Ar 3 ByteArray):=mkA (gS) 3
def e9d:Token->List VA:=λx=>[.int .i64 x.Kind,.str x.Text,.int .i64 x.At]
def f0u:List VA->Option Token:=mkS (gI .i64) λx0=>mkS (gS) λx1=>mkS (gI .i64) λx2=>mkE (⟨x0,x1,x2⟩:Token)
def c0i:rQ->List VA:=λx=>[.list .y5 x.l,.int .i64 x.at_,.int .i64 x.end_,.bool x.bad]
def c0h:List VA->Option rQ:=mkS (SX.gL dT .y5) λx0=>mkS (gI .i64) λx1=>mkS (gI .i64) λx2=>mkS (gB) λx3=>mkE (⟨x0,x1,x2,x3⟩:rQ)
def c2q:pensionref1_wide->List VA:=λx=>[.int .u64 x.hi,.int .u64 x.lo]
def c2l:List VA->Option pensionref1_wide:=mkS (gI .u64) λx0=>mkS (gI .u64) λx1=>mkE (⟨x0,x1⟩:pensionref1_wide)
def e0x:Statute->List VA:=λx=>[.str x.Name,.int .i64 x.Currency,.list .y8 x.Versions]
def e0u:List VA->Option Statute:=mkS (gS) λx0=>mkS (gI .i64) λx1=>mkS (SX.gL dT .y8) λx2=>mkE (⟨x0,x1,x2⟩:Statute)
def f0d:State->List VA:=λx=>[.int .i64 x.State,.val .y3 x.Statute]
def e9c:List VA->Option State:=mkS (gI .i64) λx0=>mkS (gV dT .y3) λx1=>mkE (⟨x0,x1⟩:State)
def f3r:Rate->List VA:=λx=>[.int .i64 x.Currency,.int .i64 x.Month,.val .zm x.Value]
def f4z:List VA->Option Rate:=mkS (gI .i64) λx0=>mkS (gI .i64) λx1=>mkS (gV dT .zm) λx2=>mkE (⟨x0,x1,x2⟩:Rate)
def f7k:Laws->List VA:=λx=>[.list .y2 x.States,.list .zy x.Treaty,.list .zu x.Rates]
def f6x:List VA->Option Laws:=mkS (SX.gL dT .y2) λx0=>mkS (SX.gL dT .zy) λx1=>mkS (SX.gL dT .zu) λx2=>mkE (⟨x0,x1,x2⟩:Laws)
def c2o:tN->List VA:=λx=>[.int .i64 x.Issuer,.int .i64 x.Number,.int .i64 x.Version,.bool x.Withdrawn,.int .i64 x.Person,.int .i64 x.Kind,.int .i64 x.State,.int .i64 x.Seat,.int .i64 x.From,.int .i64 x.Length,.int .i64 x.Share,.int .i64 x.Amount,.int .i64 x.Ref]
def c2p:List VA->Option tN:=mkS (gI .i64) λx0=>mkS (gI .i64) λx1=>mkS (gI .i64) λx2=>mkS (gB) λx3=>mkS (gI .i64) λx4=>mkS (gI .i64) λx5=>mkS (gI .i64) λx6=>mkS (gI .i64) λx7=>mkS (gI .i64) λx8=>mkS (gI .i64) λx9=>mkS (gI .i64) λx10=>mkS (gI .i64) λx11=>mkS (gI .i64) λx12=>mkE (⟨x0,x1,x2,x3,x4,x5,x6,x7,x8,x9,x10,x11,x12⟩:tN)
def d8u:aQ->List VA:=λx=>[.int .i64 x.Issuer,.int .i64 x.Number,.int .i64 x.Version,.bool x.Withdrawn,.int .i64 x.Person,.int .i64 x.Kind,.int .i64 x.State,.val .y1 x.Span,.int .i64 x.Seat,.int .i64 x.Share,.int .i64 x.Currency,.int .i64 x.Amount,.int .i64 x.Ref]
def d83:List VA->Option aQ:=mkS (gI .i64) λx0=>mkS (gI .i64) λx1=>mkS (gI .i64) λx2=>mkS (gB) λx3=>mkS (gI .i64) λx4=>mkS (gI .i64) λx5=>mkS (gI .i64) λx6=>mkS (gV dT .y1) λx7=>mkS (gI .i64) λx8=>mkS (gI .i64) λx9=>mkS (gI .i64) λx10=>mkS (gI .i64) λx11=>mkS (gI .i64) λx12=>mkE (⟨x0,x1,x2,x3,x4,x5,x6,x7,x8,x9,x10,x11,x12⟩:aQ)
def h09:Int->List VA:=λx=>[.int .u32 x]
def h0n:List VA->Option Int:=mkS (gI .u32) λx0=>mkE x0
def c79:syntax_entry->List VA:=λx=>[.str x.name,.int .i64 x.number]
def c74:List VA->Option syntax_entry:=mkS (gS) λx0=>mkS (gI .i64) λx1=>mkE (⟨x0,x1⟩:syntax_entry)
def e7l:Ar 2 Int->List VA:=λx=>x.l.map λy=>.int .i64 y
def d5s:List VA->Option (Ar 2 Int):=mkA (gI .i64) 2
def e5w:Ar 12 Int->List VA:=λx=>x.l.map λy=>.int .i64 y
def d2q:List VA->Option (Ar 12 Int):=mkA (gI .i64) 12
def c8y:bQ->List VA:=λx=>[.val .zp x.laws,.int .i64 x.day,.val .zy x.rules]
def c7v:List VA->Option bQ:=mkS (gV dT .zp) λx0=>mkS (gI .i64) λx1=>mkS (gV dT .zy) λx2=>mkE (⟨x0,x1,x2⟩:bQ)
def f0l:List Span->List VA:=λx=>[.list .y1 x]
def e88:List VA->Option (List Span):=mkS (SX.gL dT .y1) λx0=>mkE x0
def e1h:Posting->List VA:=λx=>[.int .i64 x.Seat,.int .i64 x.State,.val .y1 x.Span]
def e0z:List VA->Option Posting:=mkS (gI .i64) λx0=>mkS (gI .i64) λx1=>mkS (gV dT .y1) λx2=>mkE (⟨x0,x1,x2⟩:Posting)
def c2m:uQ->List VA:=λx=>[.int .i64 x.seat,.int .i64 x.state]
def c2r:List VA->Option uQ:=mkS (gI .i64) λx0=>mkS (gI .i64) λx1=>mkE (⟨x0,x1⟩:uQ)
def c3f:lQ->List VA:=λx=>[.list .ya x.facts,.val .y1 x.span,.list .zt x.postings,.list .zy x.rules]
def c3t:List VA->Option lQ:=mkS (SX.gL dT .ya) λx0=>mkS (gV dT .y1) λx1=>mkS (SX.gL dT .zt) λx2=>mkS (SX.gL dT .zy) λx3=>mkE (⟨x0,x1,x2,x3⟩:lQ)
def d9y:gQ->List VA:=λx=>[.val .y1 x.Span,.int .i64 x.State,.int .i64 x.Rule]
def e1d:List VA->Option gQ:=mkS (gV dT .y1) λx0=>mkS (gI .i64) λx1=>mkS (gI .i64) λx2=>mkE (⟨x0,x1,x2⟩:gQ)
def e5s:Period->List VA:=λx=>[.int .i64 x.State,.int .i64 x.Rank,.val .y1 x.Span]
def e58:List VA->Option Period:=mkS (gI .i64) λx0=>mkS (gI .i64) λx1=>mkS (gV dT .y1) λx2=>mkE (⟨x0,x1,x2⟩:Period)
def e05:List Period->List VA:=λx=>[.list .zr x]
def d95:List VA->Option (List Period):=mkS (SX.gL dT .zr) λx0=>mkE x0
def e50:Scheme->List VA:=λx=>[.int .i64 x.State,.val .y8 x.Version]
def e62:List VA->Option Scheme:=mkS (gI .i64) λx0=>mkS (gV dT .y8) λx1=>mkE (⟨x0,x1⟩:Scheme)
def j0m:Anon304->List VA:=λx=>[.int .i64 x.kind,.int .i64 x.rank]
def j0f:List VA->Option Anon304:=mkS (gI .i64) λx0=>mkS (gI .i64) λx1=>mkE (⟨x0,x1⟩:Anon304)
def d8m:Ar 7 (List Span)->List VA:=λx=>x.l.map λy=>.list .y1 y
def c6h:List VA->Option (Ar 7 (List Span)):=mkA (SX.gL dT .y1) 7
def c7x:Ar 6 (Ar 7 (List Span))->List VA:=λx=>x.l.map λy=>.val .z7 y
def c16:List VA->Option (Ar 6 (Ar 7 (List Span))):=mkA (gV dT .z7) 6
def c73:Ar 6 (Ar 7 (List Span))->List VA:=λx=>[.rp (.val .z3 x)]
def c77:List VA->Option (Ar 6 (Ar 7 (List Span))):=mkS (gP dT .z3) λx0=>mkE x0
def e0m:nQ->List VA:=λx=>[.val .y1 x.Span,.int .i64 x.State,.int .i64 x.Rank]
def e1b:List VA->Option nQ:=mkS (gV dT .y1) λx0=>mkS (gI .i64) λx1=>mkS (gI .i64) λx2=>mkE (⟨x0,x1,x2⟩:nQ)
def d7t:List nQ->List VA:=λx=>[.list .zi x]
def d5c:List VA->Option (List nQ):=mkS (SX.gL dT .zi) λx0=>mkE x0
def f2h:Piece->List VA:=λx=>[.val .y1 x.Span,.list .z9 x.Members]
def e80:List VA->Option Piece:=mkS (gV dT .y1) λx0=>mkS (SX.gL dT .z9) λx1=>mkE (⟨x0,x1⟩:Piece)
def c35:earnings_income->List VA:=λx=>[.val .ya x.fact,.list .y1 x.days]
def c3a:List VA->Option earnings_income:=mkS (gV dT .ya) λx0=>mkS (SX.gL dT .y1) λx1=>mkE (⟨x0,x1⟩:earnings_income)
def d9p:Earning->List VA:=λx=>[.int .i64 x.Year,.int .i64 x.Amount]
def e08:List VA->Option Earning:=mkS (gI .i64) λx0=>mkS (gI .i64) λx1=>mkE (⟨x0,x1⟩:Earning)
def c5b:rational_wide->List VA:=λx=>[.int .u64 x.hi,.int .u64 x.lo]
def c5t:List VA->Option rational_wide:=mkS (gI .u64) λx0=>mkS (gI .u64) λx1=>mkE (⟨x0,x1⟩:rational_wide)
def f4f:View->List VA:=λx=>[.int .i64 x.Age,.int .i64 x.Year,.int .i64 x.Children,.int .i64 x.Insured,.int .i64 x.Worked,.int .i64 x.Voluntary,.int .i64 x.Service,.int .i64 x.Equated,.int .i64 x.Raising,.int .i64 x.Resident,.val .zm x.Base,.list .z9 x.Years]
def f6d:List VA->Option View:=mkS (gI .i64) λx0=>mkS (gI .i64) λx1=>mkS (gI .i64) λx2=>mkS (gI .i64) λx3=>mkS (gI .i64) λx4=>mkS (gI .i64) λx5=>mkS (gI .i64) λx6=>mkS (gI .i64) λx7=>mkS (gI .i64) λx8=>mkS (gI .i64) λx9=>mkS (gV dT .zm) λx10=>mkS (SX.gL dT .z9) λx11=>mkE (⟨x0,x1,x2,x3,x4,x5,x6,x7,x8,x9,x10,x11⟩:View)
def e96:Ar 6 Int->List VA:=λx=>x.l.map λy=>.int .i64 y
def d59:List VA->Option (Ar 6 Int):=mkA (gI .i64) 6
def e5x:Ar 6 Bool->List VA:=λx=>x.l.map λy=>.bool y
def d2a:List VA->Option (Ar 6 Bool):=mkA (gB) 6
def e8i:Total->List VA:=λx=>[.val .z5 x.Own,.val .z4 x.Few,.int .i64 x.Sum,.int .i64 x.Base,.int .i64 x.Last]
def e9r:List VA->Option Total:=mkS (gV dT .z5) λx0=>mkS (gV dT .z4) λx1=>mkS (gI .i64) λx2=>mkS (gI .i64) λx3=>mkS (gI .i64) λx4=>mkE (⟨x0,x1,x2,x3,x4⟩:Total)
def f2a:Ar 7 Int->List VA:=λx=>x.l.map λy=>.int .i64 y
def d8f:List VA->Option (Ar 7 Int):=mkA (gI .i64) 7
def c4s:vQ->List VA:=λx=>[.val .y9 x.view,.list .y4 x.steps]
def c4w:List VA->Option vQ:=mkS (gV dT .y9) λx0=>mkS (SX.gL dT .y4) λx1=>mkE (⟨x0,x1⟩:vQ)
def g56:List Int->List VA:=λx=>[.list .z9 x]
def g3l:List VA->Option (List Int):=mkS (SX.gL dT .z9) λx0=>mkE x0
def e56:Result->List VA:=λx=>[.bool x.Holds,.val .zm x.Pay,.list .y4 x.Steps]
def e6j:List VA->Option Result:=mkS (gB) λx0=>mkS (gV dT .zm) λx1=>mkS (SX.gL dT .y4) λx2=>mkE (⟨x0,x1,x2⟩:Result)
def f1u:Award->List VA:=λx=>[.int .i64 x.State,.int .i64 x.Benefit,.int .i64 x.Day,.int .i64 x.Code,.bool x.Few,.int .i64 x.Independent,.int .i64 x.Theoretical,.int .i64 x.ProRata,.int .i64 x.Num,.int .i64 x.Den,.int .i64 x.Amount,.list .y4 x.Steps]
def e79:List VA->Option Award:=mkS (gI .i64) λx0=>mkS (gI .i64) λx1=>mkS (gI .i64) λx2=>mkS (gI .i64) λx3=>mkS (gB) λx4=>mkS (gI .i64) λx5=>mkS (gI .i64) λx6=>mkS (gI .i64) λx7=>mkS (gI .i64) λx8=>mkS (gI .i64) λx9=>mkS (gI .i64) λx10=>mkS (SX.gL dT .y4) λx11=>mkE (⟨x0,x1,x2,x3,x4,x5,x6,x7,x8,x9,x10,x11⟩:Award)
def cdT(n:Nat):Option TyC:=bif Nat.blt n 152then(bif Nat.blt n 62then(bif Nat.blt n 35then(bif Nat.blt n 11then(bif Nat.blt n 5then(bif Nat.blt n 3then(bif Nat.beq n 2then some .z9 else none)else(bif Nat.blt n 4then(bif Nat.beq n 3then some .z9 else none)else(bif Nat.beq n 4then some .z8 else none)))else(bif Nat.blt n 9then(bif Nat.blt n 6then(bif Nat.beq n 5then some .yo else none)else(bif Nat.beq n 6then some .yo else none))else(bif Nat.blt n 10then(bif Nat.beq n 9then some .yl else none)else(bif Nat.beq n 10then some .yl else none))))else(bif Nat.blt n 27then(bif Nat.blt n 12then(bif Nat.beq n 11then some .yl else none)else(bif Nat.blt n 23then(bif Nat.beq n 12then some .yn else none)else(bif Nat.beq n 23then some .za else none)))else(bif Nat.blt n 33then(bif Nat.blt n 28then(bif Nat.beq n 27then some .zp else none)else(bif Nat.beq n 28then some .zp else none))else(bif Nat.blt n 34then(bif Nat.beq n 33then some .yg else none)else(bif Nat.beq n 34then some .yg else none)))))else(bif Nat.blt n 54then(bif Nat.blt n 38then(bif Nat.blt n 36then(bif Nat.beq n 35then some .y1 else none)else(bif Nat.blt n 37then(bif Nat.beq n 36then some .y1 else none)else(bif Nat.beq n 37then some .ya else none)))else(bif Nat.blt n 49then(bif Nat.blt n 47then(bif Nat.beq n 38then some .ya else none)else(bif Nat.beq n 47then some .z9 else none))else(bif Nat.blt n 50then(bif Nat.beq n 49then some .zg else none)else(bif Nat.beq n 50then some .zg else none))))else(bif Nat.blt n 58then(bif Nat.blt n 56then(bif Nat.blt n 55then(bif Nat.beq n 54then some .y3 else none)else(bif Nat.beq n 55then some .y3 else none))else(bif Nat.blt n 57then(bif Nat.beq n 56then some .y2 else none)else(bif Nat.beq n 57then some .y2 else none)))else(bif Nat.blt n 60then(bif Nat.blt n 59then(bif Nat.beq n 58then some .zm else none)else(bif Nat.beq n 59then some .zm else none))else(bif Nat.blt n 61then(bif Nat.beq n 60then some .zu else none)else(bif Nat.beq n 61then some .zu else none))))))else(bif Nat.blt n 101then(bif Nat.blt n 82then(bif Nat.blt n 70then(bif Nat.blt n 63then(bif Nat.beq n 62then some .zx else none)else(bif Nat.blt n 69then(bif Nat.beq n 63then some .zx else none)else(bif Nat.beq n 69then some .y8 else none)))else(bif Nat.blt n 79then(bif Nat.blt n 78then(bif Nat.beq n 70then some .y8 else none)else(bif Nat.beq n 78then some .zy else none))else(bif Nat.blt n 81then(bif Nat.beq n 79then some .zy else none)else(bif Nat.beq n 81then some .zl else none))))else(bif Nat.blt n 93then(bif Nat.blt n 83then(bif Nat.beq n 82then some .zl else none)else(bif Nat.blt n 84then(bif Nat.beq n 83then some .zn else none)else(bif Nat.beq n 84then some .zn else none)))else(bif Nat.blt n 99then(bif Nat.blt n 94then(bif Nat.beq n 93then some .yb else none)else(bif Nat.beq n 94then some .yb else none))else(bif Nat.blt n 100then(bif Nat.beq n 99then some .y7 else none)else(bif Nat.beq n 100then some .y7 else none)))))else(bif Nat.blt n 133then(bif Nat.blt n 110then(bif Nat.blt n 102then(bif Nat.beq n 101then some .y4 else none)else(bif Nat.blt n 109then(bif Nat.beq n 102then some .y4 else none)else(bif Nat.beq n 109then some .yi else none)))else(bif Nat.blt n 130then(bif Nat.blt n 115then(bif Nat.beq n 110then some .yi else none)else(bif Nat.beq n 115then some .z2 else none))else(bif Nat.blt n 132then(bif Nat.beq n 130then some .zb else none)else(bif Nat.beq n 132then some .y9 else none))))else(bif Nat.blt n 139then(bif Nat.blt n 137then(bif Nat.blt n 136then(bif Nat.beq n 133then some .y9 else none)else(bif Nat.beq n 136then some .z5 else none))else(bif Nat.blt n 138then(bif Nat.beq n 137then some .z4 else none)else(bif Nat.beq n 138then some .y6 else none)))else(bif Nat.blt n 144then(bif Nat.blt n 143then(bif Nat.beq n 139then some .y6 else none)else(bif Nat.beq n 143then some .zw else none))else(bif Nat.blt n 151then(bif Nat.beq n 144then some .zw else none)else(bif Nat.beq n 151then some .y5 else none)))))))else(bif Nat.blt n 311then(bif Nat.blt n 239then(bif Nat.blt n 211then(bif Nat.blt n 207then(bif Nat.blt n 189then(bif Nat.beq n 152then some .y5 else none)else(bif Nat.blt n 196then(bif Nat.beq n 189then some .zd else none)else(bif Nat.beq n 196then some .yn else none)))else(bif Nat.blt n 209then(bif Nat.blt n 208then(bif Nat.beq n 207then some .zj else none)else(bif Nat.beq n 208then some .zj else none))else(bif Nat.blt n 210then(bif Nat.beq n 209then some .zo else none)else(bif Nat.beq n 210then some .zo else none))))else(bif Nat.blt n 215then(bif Nat.blt n 212then(bif Nat.beq n 211then some .zq else none)else(bif Nat.blt n 214then(bif Nat.beq n 212then some .zq else none)else(bif Nat.beq n 214then some .zv else none)))else(bif Nat.blt n 229then(bif Nat.blt n 228then(bif Nat.beq n 215then some .zv else none)else(bif Nat.beq n 228then some .zz else none))else(bif Nat.blt n 230then(bif Nat.beq n 229then some .zz else none)else(bif Nat.beq n 230then some .zc else none)))))else(bif Nat.blt n 263then(bif Nat.blt n 246then(bif Nat.blt n 240then(bif Nat.beq n 239then some .zi else none)else(bif Nat.blt n 245then(bif Nat.beq n 240then some .zi else none)else(bif Nat.beq n 245then some .ye else none)))else(bif Nat.blt n 256then(bif Nat.blt n 255then(bif Nat.beq n 246then some .ye else none)else(bif Nat.beq n 255then some .zk else none))else(bif Nat.blt n 262then(bif Nat.beq n 256then some .zk else none)else(bif Nat.beq n 262then some .yf else none))))else(bif Nat.blt n 298then(bif Nat.blt n 274then(bif Nat.blt n 268then(bif Nat.beq n 263then some .yf else none)else(bif Nat.beq n 268then some .yn else none))else(bif Nat.blt n 275then(bif Nat.beq n 274then some .yh else none)else(bif Nat.beq n 275then some .yh else none)))else(bif Nat.blt n 304then(bif Nat.blt n 299then(bif Nat.beq n 298then some .zr else none)else(bif Nat.beq n 299then some .zr else none))else(bif Nat.blt n 310then(bif Nat.beq n 304then some .zf else none)else(bif Nat.beq n 310then some .yc else none))))))else(bif Nat.blt n 370then(bif Nat.blt n 330then(bif Nat.blt n 321then(bif Nat.blt n 316then(bif Nat.beq n 311then some .yc else none)else(bif Nat.blt n 317then(bif Nat.beq n 316then some .y0 else none)else(bif Nat.beq n 317then some .y0 else none)))else(bif Nat.blt n 323then(bif Nat.blt n 322then(bif Nat.beq n 321then some .z7 else none)else(bif Nat.beq n 322then some .z3 else none))else(bif Nat.blt n 329then(bif Nat.beq n 323then some .z3 else none)else(bif Nat.beq n 329then some .zs else none))))else(bif Nat.blt n 342then(bif Nat.blt n 333then(bif Nat.beq n 330then some .zs else none)else(bif Nat.blt n 341then(bif Nat.beq n 333then some .z0 else none)else(bif Nat.beq n 341then some .yj else none)))else(bif Nat.blt n 363then(bif Nat.blt n 355then(bif Nat.beq n 342then some .yj else none)else(bif Nat.beq n 355then some .ym else none))else(bif Nat.blt n 364then(bif Nat.beq n 363then some .zh else none)else(bif Nat.beq n 364then some .zh else none)))))else(bif Nat.blt n 415then(bif Nat.blt n 390then(bif Nat.blt n 371then(bif Nat.beq n 370then some .zt else none)else(bif Nat.blt n 380then(bif Nat.beq n 371then some .zt else none)else(bif Nat.beq n 380then some .z9 else none)))else(bif Nat.blt n 410then(bif Nat.blt n 399then(bif Nat.beq n 390then some .yn else none)else(bif Nat.beq n 399then some .z6 else none))else(bif Nat.blt n 411then(bif Nat.beq n 410then some .yk else none)else(bif Nat.beq n 411then some .yk else none))))else(bif Nat.blt n 458then(bif Nat.blt n 423then(bif Nat.blt n 416then(bif Nat.beq n 415then some .yd else none)else(bif Nat.beq n 416then some .yd else none))else(bif Nat.blt n 433then(bif Nat.beq n 423then some .yn else none)else(bif Nat.beq n 433then some .z9 else none)))else(bif Nat.blt n 503then(bif Nat.blt n 472then(bif Nat.beq n 458then some .yn else none)else(bif Nat.beq n 472then some .z1 else none))else(bif Nat.blt n 504then(bif Nat.beq n 503then some .yo else none)else(bif Nat.beq n 504then some .yo else none)))))))
def VV:Uni where C:=TyC;T:=TyC.T;dec:=dT;c0:=.z9;n:=λc=>match c with|.z9=>1|.zy=>5|.zo=>3|.yl=>1|.zl=>6|.zq=>7|.zn=>13|.zv=>7|.y8=>8|.z8=>1|.y7=>4|.y4=>5|.yo=>1|.yn=>1|.z2=>3|.y5=>3|.yi=>4|.y3=>3|.y2=>4|.zu=>4|.zp=>3|.yg=>13|.ya=>14|.ym=>1|.z0=>12|.yb=>9|.zd=>1|.zt=>4|.yc=>5|.y0=>4|.zr=>4|.zc=>1|.zz=>9|.z7=>7|.z3=>42|.ze=>1|.zi=>4|.zb=>1|.zs=>3|.ye=>15|.y9=>13|.z5=>6|.z4=>6|.y6=>15|.z6=>7|.yf=>14|.za=>1|.zw=>4|.zg=>12|_=>2;ag:=λc=>match c with|.z9=>false|.yl=>false|.z8=>false|.yo=>false|.yn=>false|.ym=>false|.zd=>false|.zc=>false|.ze=>false|.zb=>false|.za=>false|_=>true;lay:=λc=>match c with|.z9=>[none]|.zy=>[none,none,none,none,none]|.zx=>[none,none]|.zj=>[none,none]|.zm=>[none,none]|.zo=>[none,some .zm]|.yl=>[none]|.zl=>[none,some .zm,none,none,none]|.zq=>[none,some .zl]|.zn=>[none,some .zl,some .zl]|.zv=>[none,some .zl]|.y8=>[none,some .zx,none,none,none,none,none]|.z8=>[none]|.y7=>[none,none,some .zm]|.y4=>[none,some .y7]|.zh=>[none,none]|.yo=>[none]|.yn=>[none]|.y1=>[none,none]|.z2=>List.replicate 3 (none)|.y5=>[none,none,none]|.yi=>[none,none,none,none]|.yh=>[none,none]|.y3=>[none,none,none]|.y2=>[none,some .y3]|.zu=>[none,none,some .zm]|.zp=>[none,none,none]|.yg=>[none,none,none,none,none,none,none,none,none,none,none,none,none]|.ya=>[none,none,none,none,none,none,none,some .y1,none,none,none,none,none]|.ym=>[none]|.yk=>[none,none]|.z1=>List.replicate 2 (none)|.z0=>List.replicate 12 (none)|.yb=>[some .zp,none,some .zy]|.zd=>[none]|.zt=>[none,none,some .y1]|.yd=>[none,none]|.yc=>[none,some .y1,none,none]|.y0=>[some .y1,none,none]|.zr=>[none,none,some .y1]|.zc=>[none]|.zz=>[none,some .y8]|.zf=>[none,none]|.z7=>List.replicate 7 (none)|.z3=>List.replicate 6 (some .z7)|.ze=>[none]|.zi=>[some .y1,none,none]|.zb=>[none]|.zs=>[some .y1,none]|.ye=>[some .ya,none]|.zk=>[none,none]|.yj=>[none,none]|.y9=>[none,none,none,none,none,none,none,none,none,none,some .zm,none]|.z5=>List.replicate 6 (none)|.z4=>List.replicate 6 (none)|.y6=>[some .z5,some .z4,none,none,none]|.z6=>List.replicate 7 (none)|.yf=>[some .y9,none]|.za=>[none]|.zw=>[none,some .zm,none]|.zg=>[none,none,none,none,none,none,none,none,none,none,none,none];flds:=λc=>match c with|.z9=>g93|.zy=>f0o|.zx=>d66|.zj=>e4m|.zm=>d63|.zo=>e9e|.yl=>g78|.zl=>f5y|.zq=>g3m|.zn=>f1v|.zv=>e6t|.y8=>e10|.z8=>g3y|.y7=>f02|.y4=>f7b|.zh=>d9c|.yo=>h4b|.yn=>h1c|.y1=>f4o|.z2=>e7k|.y5=>e9d|.yi=>c0i|.yh=>c2q|.y3=>e0x|.y2=>f0d|.zu=>f3r|.zp=>f7k|.yg=>c2o|.ya=>d8u|.ym=>h09|.yk=>c79|.z1=>e7l|.z0=>e5w|.yb=>c8y|.zd=>f0l|.zt=>e1h|.yd=>c2m|.yc=>c3f|.y0=>d9y|.zr=>e5s|.zc=>e05|.zz=>e50|.zf=>j0m|.z7=>d8m|.z3=>c7x|.ze=>c73|.zi=>e0m|.zb=>d7t|.zs=>f2h|.ye=>c35|.zk=>d9p|.yj=>c5b|.y9=>f4f|.z5=>e96|.z4=>e5x|.y6=>e8i|.z6=>f2a|.yf=>c4s|.za=>g56|.zw=>e56|.zg=>f1u;mkv:=λc=>match c with|.z9=>h0b|.zy=>e9b|.zx=>d85|.zj=>e6k|.zm=>d90|.zo=>e7q|.yl=>g9e|.zl=>f4s|.zq=>g4f|.zn=>e92|.zv=>e6w|.y8=>e1l|.z8=>g5e|.y7=>f05|.y4=>f5s|.zh=>e0b|.yo=>h2q|.yn=>g83|.y1=>f7t|.z2=>d8g|.y5=>f0u|.yi=>c0h|.yh=>c2l|.y3=>e0u|.y2=>e9c|.zu=>f4z|.zp=>f6x|.yg=>c2p|.ya=>d83|.ym=>h0n|.yk=>c74|.z1=>d5s|.z0=>d2q|.yb=>c7v|.zd=>e88|.zt=>e0z|.yd=>c2r|.yc=>c3t|.y0=>e1d|.zr=>e58|.zc=>d95|.zz=>e62|.zf=>j0f|.z7=>c6h|.z3=>c16|.ze=>c77|.zi=>e1b|.zb=>d5c|.zs=>e80|.ye=>c3a|.zk=>e08|.yj=>c5t|.y9=>f6d|.z5=>d59|.z4=>d2a|.y6=>e9r|.z6=>d8f|.yf=>c4w|.za=>g3l|.zw=>e6j|.zg=>e79;cd:=cdT;flat:=λc=>match c with|.zy=>false|.zl=>false|.zq=>false|.zn=>false|.zv=>false|.y8=>false|.yi=>false|.y3=>false|.y2=>false|.zp=>false|.yb=>false|.zd=>false|.yc=>false|.zc=>false|.zz=>false|.z7=>false|.z3=>false|.ze=>false|.zb=>false|.zs=>false|.ye=>false|.y9=>false|.yf=>false|.za=>false|.zw=>false|.zg=>false|_=>true;isA:=λc=>match c with|.z2=>true|.z1=>true|.z0=>true|.z7=>true|.z3=>true|.z5=>true|.z4=>true|.z6=>true|_=>false;ae:=λc=>match c with|.z2=>.yl|.z1=>.z9|.z0=>.z9|.z7=>.zd|.z3=>.z7|.z5=>.z9|.z4=>.z8|.z6=>.z9|c=>c;an:=λc=>match c with|.z2=>3|.z1=>2|.z0=>12|.z7=>7|.z3=>6|.z5=>6|.z4=>6|.z6=>7|_=>0;al:=λc=>match c with|.z2=>λx=>x.l|.z1=>λx=>x.l|.z0=>λx=>x.l|.z7=>λx=>x.l|.z3=>λx=>x.l|.z5=>λx=>x.l|.z4=>λx=>x.l|.z6=>λx=>x.l|_=>λ_=>[];ast:=λc=>match c with|.z2=>λx i y=>x.set i y|.z1=>λx i y=>x.set i y|.z0=>λx i y=>x.set i y|.z7=>λx i y=>x.set i y|.z3=>λx i y=>x.set i y|.z5=>λx i y=>x.set i y|.z4=>λx i y=>x.set i y|.z6=>λx i y=>x.set i y|_=>λx _ _=>x;gt:=λc=>match c with|.z9=>λx _=>x|.zy=>λx _=>x|.zx=>λx _=>x|.zj=>λx _=>x|.zm=>λx _=>x|.zo=>λx _=>x|.yl=>λx _=>x|.zl=>λx _=>x|.zq=>λx _=>x|.zn=>λx _=>x|.zv=>λx _=>x|.y8=>λx _=>x|.z8=>λx _=>x|.y7=>λx _=>x|.y4=>λx _=>x|.zh=>λx _=>x|.yo=>λx _=>x|.yn=>λx _=>x|.y1=>λx _=>x|.z2=>λx i=>Ar.gt ByteArray.empty x i|.y5=>λx _=>x|.yi=>λx _=>x|.yh=>λx _=>x|.y3=>λx _=>x|.y2=>λx _=>x|.zu=>λx _=>x|.zp=>λx _=>x|.yg=>λx _=>x|.ya=>λx _=>x|.ym=>λx _=>x|.yk=>λx _=>x|.z1=>λx i=>Ar.gt 0 x i|.z0=>λx i=>Ar.gt 0 x i|.yb=>λx _=>x|.zd=>λx _=>x|.zt=>λx _=>x|.yd=>λx _=>x|.yc=>λx _=>x|.y0=>λx _=>x|.zr=>λx _=>x|.zc=>λx _=>x|.zz=>λx _=>x|.zf=>λx _=>x|.z7=>λx i=>Ar.gt [] x i|.z3=>λx i=>Ar.gt (arZ 7 []) x i|.ze=>λx _=>x|.zi=>λx _=>x|.zb=>λx _=>x|.zs=>λx _=>x|.ye=>λx _=>x|.zk=>λx _=>x|.yj=>λx _=>x|.y9=>λx _=>x|.z5=>λx i=>Ar.gt 0 x i|.z4=>λx i=>Ar.gt false x i|.y6=>λx _=>x|.z6=>λx i=>Ar.gt 0 x i|.yf=>λx _=>x|.za=>λx _=>x|.zw=>λx _=>x|.zg=>λx _=>x;b8:=λc=>match c with|.yo=>true|_=>false;t8:=λc=>match c with|.yo=>λx=>x|_=>λ_=>0;tab:=λw=>Lib.TabIs Go.Proofs.Tryz.prog w "internal/strconv.uint64pow10" .u64 Lib.pow10Tab;tb:=λb=>b=3
set_option maxHeartbeats 2000000 in
def uok:UOK VV where
 lay:=λc x=>by cases c<;>first|rfl|exact g3z (U:=VV) x λ_=>rfl
 kind:=λc x=>by cases c<;>first|rfl|exact f1p (U:=VV) x λ_=>rfl
 sum:=λc=>by cases c<;>rfl
 sc:=λc h=>by cases c<;>first|rfl|cases h
 mkl:=λc zs y h=>by cases c;all_goals first
   | (repeat(obtain⟨_,zs,_,rfl,_,h⟩:=h0y h)
      obtain⟨rfl,rfl⟩:=h00 h;repeat' first|exact trivial|exact e7i (U:=VV) (by assumption)|exact g76 (U:=VV) (by assumption)|exact h0c (U:=VV) (by assumption)|exact g88 (U:=VV) (by assumption)|exact g9w (U:=VV) (by assumption)|exact h4a (U:=VV) (by assumption)|exact gN_ok (U:=VV) (by assumption)|refine⟨?_,?_⟩)|exact c6w (λ_ _ h=>h0c (U:=VV) h) (show d8g zs=some y from h)|exact c6w (λ_ _ h=>e7i (U:=VV) h) (show d5s zs=some y from h)|exact c6w (λ_ _ h=>e7i (U:=VV) h) (show d2q zs=some y from h)|exact c6w (λ_ _ h=>g9w (U:=VV) h) (show c6h zs=some y from h)|exact c6w (λ_ _ h=>g88 (U:=VV) h) (show c16 zs=some y from h)|exact c6w (λ_ _ h=>e7i (U:=VV) h) (show d59 zs=some y from h)|exact c6w (λ_ _ h=>g76 (U:=VV) h) (show d2a zs=some y from h)|exact c6w (λ_ _ h=>e7i (U:=VV) h) (show d8f zs=some y from h)
 flat:=λc x h=>by cases c<;>first|exact Bool.noConfusion (show false=true from h)|rfl|exact f1p (U:=VV) x λ_=>rfl
 arr:=λc x h=>by cases c<;>first|exact Bool.noConfusion (show false=true from h)|exact⟨rfl,x.h⟩
 ars:=λc x i y h=>by cases c<;>first|exact Bool.noConfusion (show false=true from h)|rfl
 gt:=λc x i y h=>by cases c<;>first|exact Bool.noConfusion (show false=true from h)|exactλhg=>Ar.gt_ok hg
 by8:=λc x h=>by cases c<;>first|exact Bool.noConfusion (show false=true from h)|rfl
 tabK:=λw w2 h hb=>f8r (g:=3) (show Go.Proofs.Tryz.prog.globalNamed "internal/strconv.uint64pow10"=some 3by kernel_rfl) h (hb 3 rfl)
end Go.PL
namespace Go.Proofs
open Go.Shelf
def Tryz.sliceLay_ren:Go.Shelf.Ren:=⟨λ|6=>232|10=>292|11=>293|12=>294|13=>216|14=>295|24=>287|25=>288|26=>345|27=>346|28=>347|29=>348|30=>349|31=>350|32=>351|33=>352|34=>378|35=>379|36=>380|37=>381|38=>382|39=>407|n=>n,λ|20=>20|26=>290|35=>392|0=>0|37=>326|3=>3|41=>268|44=>397|49=>355|51=>196|4=>4|54=>434|53=>433|58=>174|5=>5|9=>9|60=>458|64=>427|66=>481|67=>141|17=>17|32=>389|33=>390|82=>510|12=>12|75=>503|76=>504|77=>505|78=>506|79=>507|80=>508|n=>n,λ|n=>n⟩
def Tryz.sliceLay:Go.Proofs.LaysGg.n6 Tryz.prog Tryz.sliceLay_ren:={
 mixed:=by kernel_rfl
 f6:=Tryz.func232.trans (congrArg some (by kernel_rfl))
 f10:=Tryz.func292.trans (congrArg some (by kernel_rfl))
 f11:=Tryz.func293.trans (congrArg some (by kernel_rfl))
 f12:=Tryz.func294.trans (congrArg some (by kernel_rfl))
 f13:=Tryz.func216.trans (congrArg some (by kernel_rfl))
 f14:=Tryz.func295.trans (congrArg some (by kernel_rfl))
 f24:=Tryz.func287.trans (congrArg some (by kernel_rfl))
 f25:=Tryz.func288.trans (congrArg some (by kernel_rfl))
 f26:=Tryz.func345.trans (congrArg some (by kernel_rfl))
 f27:=Tryz.func346.trans (congrArg some (by kernel_rfl))
 f28:=Tryz.func347.trans (congrArg some (by kernel_rfl))
 f29:=Tryz.func348.trans (congrArg some (by kernel_rfl))
 f30:=Tryz.func349.trans (congrArg some (by kernel_rfl))
 f31:=Tryz.func350.trans (congrArg some (by kernel_rfl))
 f32:=Tryz.func351.trans (congrArg some (by kernel_rfl))
 f33:=Tryz.func352.trans (congrArg some (by kernel_rfl))
 f34:=Tryz.func378.trans (congrArg some (by kernel_rfl))
 f35:=Tryz.func379.trans (congrArg some (by kernel_rfl))
 f36:=Tryz.func380.trans (congrArg some (by kernel_rfl))
 f37:=Tryz.func381.trans (congrArg some (by kernel_rfl))
 f38:=Tryz.func382.trans (congrArg some (by kernel_rfl))
 f39:=Tryz.func407.trans (congrArg some (by kernel_rfl))
 t0:=Tryz.underlying0
 a0:=Tryz.isAgg0
 z0:=Tryz.sizeOf0
 v0:=Tryz.zeroValue0
 i0:=by kernel_rfl
 t3:=Tryz.underlying3
 a3:=Tryz.isAgg3
 z3:=Tryz.sizeOf3
 v3:=Tryz.zeroValue3
 i3:=by kernel_rfl
 t4:=Tryz.underlying4
 a4:=Tryz.isAgg4
 z4:=Tryz.sizeOf4
 v4:=Tryz.zeroValue4
 i4:=by kernel_rfl
 t5:=Tryz.underlying5
 a5:=Tryz.isAgg5
 z5:=Tryz.sizeOf5
 v5:=Tryz.zeroValue5
 i5:=by kernel_rfl
 t9:=Tryz.underlying9
 a9:=Tryz.isAgg9
 z9:=Tryz.sizeOf9
 v9:=Tryz.zeroValue9
 i9:=by kernel_rfl
 t12:=Tryz.underlying12
 a12:=Tryz.isAgg12
 z12:=Tryz.sizeOf12
 v12:=Tryz.zeroValue12
 i12:=by kernel_rfl
 t17:=Tryz.underlying17
 a17:=Tryz.isAgg17
 z17:=Tryz.sizeOf17
 v17:=Tryz.zeroValue17
 i17:=by kernel_rfl
 t20:=Tryz.underlying20
 a20:=Tryz.isAgg20
 z20:=Tryz.sizeOf20
 v20:=Tryz.zeroValue20
 i20:=by kernel_rfl
 t26:=Tryz.underlying290
 a26:=Tryz.isAgg290
 z26:=Tryz.sizeOf290
 v26:=Tryz.zeroValue290
 i26:=by kernel_rfl
 t32:=Tryz.underlying389
 a32:=Tryz.isAgg389
 z32:=Tryz.sizeOf389
 v32:=Tryz.zeroValue389
 i32:=by kernel_rfl
 t33:=Tryz.underlying390
 a33:=Tryz.isAgg390
 z33:=Tryz.sizeOf390
 v33:=Tryz.zeroValue390
 i33:=by kernel_rfl
 t35:=Tryz.underlying392
 a35:=Tryz.isAgg392
 z35:=Tryz.sizeOf392
 v35:=Tryz.zeroValue392
 i35:=by kernel_rfl
 t37:=Tryz.underlying326
 a37:=Tryz.isAgg326
 z37:=Tryz.sizeOf326
 v37:=Tryz.zeroValue326
 i37:=by kernel_rfl
 t41:=Tryz.underlying268
 a41:=Tryz.isAgg268
 z41:=Tryz.sizeOf268
 v41:=Tryz.zeroValue268
 i41:=by kernel_rfl
 t44:=Tryz.underlying397
 a44:=Tryz.isAgg397
 z44:=Tryz.sizeOf397
 v44:=Tryz.zeroValue397
 i44:=by kernel_rfl
 t49:=Tryz.underlying355
 a49:=Tryz.isAgg355
 z49:=Tryz.sizeOf355
 v49:=Tryz.zeroValue355
 i49:=by kernel_rfl
 t51:=Tryz.underlying196
 a51:=Tryz.isAgg196
 z51:=Tryz.sizeOf196
 v51:=Tryz.zeroValue196
 i51:=by kernel_rfl
 t53:=Tryz.underlying433
 a53:=Tryz.isAgg433
 z53:=Tryz.sizeOf433
 v53:=Tryz.zeroValue433
 i53:=by kernel_rfl
 t54:=Tryz.underlying434
 a54:=Tryz.isAgg434
 z54:=Tryz.sizeOf434
 v54:=Tryz.zeroValue434
 i54:=by kernel_rfl
 t58:=Tryz.underlying174
 a58:=Tryz.isAgg174
 z58:=Tryz.sizeOf174
 v58:=Tryz.zeroValue174
 i58:=by kernel_rfl
 t60:=Tryz.underlying458
 a60:=Tryz.isAgg458
 z60:=Tryz.sizeOf458
 v60:=Tryz.zeroValue458
 i60:=by kernel_rfl
 t64:=Tryz.underlying427
 a64:=Tryz.isAgg427
 z64:=Tryz.sizeOf427
 v64:=Tryz.zeroValue427
 i64:=by kernel_rfl
 t66:=Tryz.underlying481
 a66:=Tryz.isAgg481
 z66:=Tryz.sizeOf481
 v66:=Tryz.zeroValue481
 i66:=by kernel_rfl
 t67:=Tryz.underlying141
 a67:=Tryz.isAgg141
 z67:=Tryz.sizeOf141
 v67:=Tryz.zeroValue141
 i67:=by kernel_rfl
 t75:=Tryz.underlying503
 a75:=Tryz.isAgg503
 z75:=Tryz.sizeOf503
 v75:=Tryz.zeroValue503
 i75:=by kernel_rfl
 t76:=Tryz.underlying504
 a76:=Tryz.isAgg504
 z76:=Tryz.sizeOf504
 v76:=Tryz.zeroValue504
 i76:=by kernel_rfl
 t77:=Tryz.underlying505
 a77:=Tryz.isAgg505
 z77:=Tryz.sizeOf505
 v77:=Tryz.zeroValue505
 i77:=by kernel_rfl
 t78:=Tryz.underlying506
 a78:=Tryz.isAgg506
 z78:=Tryz.sizeOf506
 v78:=Tryz.zeroValue506
 i78:=by kernel_rfl
 t79:=Tryz.underlying507
 a79:=Tryz.isAgg507
 z79:=Tryz.sizeOf507
 v79:=Tryz.zeroValue507
 i79:=by kernel_rfl
 t80:=Tryz.underlying508
 a80:=Tryz.isAgg508
 z80:=Tryz.sizeOf508
 v80:=Tryz.zeroValue508
 i80:=by kernel_rfl
 t82:=Tryz.underlying510
 a82:=Tryz.isAgg510
 z82:=Tryz.sizeOf510
 v82:=Tryz.zeroValue510
 i82:=by kernel_rfl}
def Tryz.laysItoa_ren:Go.Shelf.Ren:=⟨λ|171=>368|243=>394|246=>410|283=>416|284=>417|285=>418|286=>419|129=>288|317=>421|318=>422|319=>423|320=>424|337=>425|338=>426|n=>n,λ|3=>3|9=>9|2=>2|4=>4|171=>487|0=>0|53=>196|37=>123|5=>5|173=>489|212=>493|51=>355|20=>20|213=>494|46=>268|232=>495|233=>496|n=>n,λ|17=>3|18=>4|19=>5|n=>n⟩
def Tryz.laysItoa:Go.Proofs.LaysM.n171 Tryz.prog Tryz.laysItoa_ren:={
 mixed:=by kernel_rfl
 f129:=Tryz.func288.trans (congrArg some (by kernel_rfl))
 f171:=Tryz.func368.trans (congrArg some (by kernel_rfl))
 f243:=Tryz.func394.trans (congrArg some (by kernel_rfl))
 f246:=Tryz.func410.trans (congrArg some (by kernel_rfl))
 f283:=Tryz.func416.trans (congrArg some (by kernel_rfl))
 f284:=Tryz.func417.trans (congrArg some (by kernel_rfl))
 f285:=Tryz.func418.trans (congrArg some (by kernel_rfl))
 f286:=Tryz.func419.trans (congrArg some (by kernel_rfl))
 f317:=Tryz.func421.trans (congrArg some (by kernel_rfl))
 f318:=Tryz.func422.trans (congrArg some (by kernel_rfl))
 f319:=Tryz.func423.trans (congrArg some (by kernel_rfl))
 f320:=Tryz.func424.trans (congrArg some (by kernel_rfl))
 f337:=Tryz.func425.trans (congrArg some (by kernel_rfl))
 f338:=Tryz.func426.trans (congrArg some (by kernel_rfl))
 t0:=Tryz.underlying0
 a0:=Tryz.isAgg0
 z0:=Tryz.sizeOf0
 v0:=Tryz.zeroValue0
 t2:=Tryz.underlying2
 a2:=Tryz.isAgg2
 z2:=Tryz.sizeOf2
 v2:=Tryz.zeroValue2
 t3:=Tryz.underlying3
 a3:=Tryz.isAgg3
 z3:=Tryz.sizeOf3
 v3:=Tryz.zeroValue3
 t4:=Tryz.underlying4
 a4:=Tryz.isAgg4
 z4:=Tryz.sizeOf4
 v4:=Tryz.zeroValue4
 t5:=Tryz.underlying5
 a5:=Tryz.isAgg5
 z5:=Tryz.sizeOf5
 v5:=Tryz.zeroValue5
 t9:=Tryz.underlying9
 a9:=Tryz.isAgg9
 z9:=Tryz.sizeOf9
 v9:=Tryz.zeroValue9
 t20:=Tryz.underlying20
 a20:=Tryz.isAgg20
 z20:=Tryz.sizeOf20
 v20:=Tryz.zeroValue20
 t37:=Tryz.underlying123
 a37:=Tryz.isAgg123
 z37:=Tryz.sizeOf123
 v37:=Tryz.zeroValue123
 t46:=Tryz.underlying268
 a46:=Tryz.isAgg268
 z46:=Tryz.sizeOf268
 v46:=Tryz.zeroValue268
 t51:=Tryz.underlying355
 a51:=Tryz.isAgg355
 z51:=Tryz.sizeOf355
 v51:=Tryz.zeroValue355
 t53:=Tryz.underlying196
 a53:=Tryz.isAgg196
 z53:=Tryz.sizeOf196
 v53:=Tryz.zeroValue196
 t171:=Tryz.underlying487
 a171:=Tryz.isAgg487
 z171:=Tryz.sizeOf487
 v171:=Tryz.zeroValue487
 t173:=Tryz.underlying489
 a173:=Tryz.isAgg489
 z173:=Tryz.sizeOf489
 v173:=Tryz.zeroValue489
 t212:=Tryz.underlying493
 a212:=Tryz.isAgg493
 z212:=Tryz.sizeOf493
 v212:=Tryz.zeroValue493
 t213:=Tryz.underlying494
 a213:=Tryz.isAgg494
 z213:=Tryz.sizeOf494
 t232:=Tryz.underlying495
 a232:=Tryz.isAgg495
 z232:=Tryz.sizeOf495
 v232:=Tryz.zeroValue495
 t233:=Tryz.underlying496
 a233:=Tryz.isAgg496
 z233:=Tryz.sizeOf496
 v233:=Tryz.zeroValue496
 g17:=by kernel_rfl
 g18:=by kernel_rfl
 g19:=by kernel_rfl
 i0:=by kernel_rfl
 i2:=by kernel_rfl
 i3:=by kernel_rfl
 i4:=by kernel_rfl
 i5:=by kernel_rfl
 i9:=by kernel_rfl
 i20:=by kernel_rfl
 i37:=by kernel_rfl
 i46:=by kernel_rfl
 i51:=by kernel_rfl
 i53:=by kernel_rfl
 i171:=by kernel_rfl
 i173:=by kernel_rfl
 i212:=by kernel_rfl
 i232:=by kernel_rfl
 i233:=by kernel_rfl
 m17:=by kernel_rfl
 m18:=by kernel_rfl
 m19:=by kernel_rfl}
end Go.Proofs
namespace Go.PL
open Go Go.Proofs Go.Sort
def d29{α:Type}[Inhabited α]{cells:α->List Go.Value}{n:Nat}(hn:∀x,(cells x).length=n):∀(l:List α)(t:Nat),t<l.length*n->(l.flatMap cells)[t]?=(cells (l[t/n]!))[t%n]?
 |[],t,h=>by simp at h|x::r,t,h=>by
   have hp:0<n:=by
    rcases Nat.eq_zero_or_pos n with h0|h0;.rw[h0]at h;simp at h
    .exact h0
   rw[flatMap_cons];by_cases ht:t<n;.rw[getElem?_append_left (by rw[hn];exact ht),Nat.div_eq_of_lt ht,Nat.mod_eq_of_lt ht];rfl
   .have h1:t=(t-n)+n:=by omega
    have h2:t/n=(t-n)/n+1:=by rw[h1,Nat.add_div_right _ hp];simp
    have h3:t%n=(t-n)%n:=by rw[h1,Nat.add_mod_right];simp
    rw[getElem?_append_right (by rw[hn];omega),hn,d29 hn r (t-n) (by simp only[qR,Nat.succ_mul]at h;omega),h2,h3];rfl
def c6t{α:Type}[Inhabited α]{cells:α->List Go.Value}{n:Nat}(hn:∀x,(cells x).length=n)(d:Array α):(flatK cells n d).toList=d.toList.flatMap cells:=by
 apply ext_getElem?;intro t;by_cases ht:t<d.size*n
 .rw[d29 hn d.toList t (by simpa using ht)];have h1:(flatK cells n d)[t]?=some ((cells (d[t/n]!))[t%n]!):=by rw[<-get_flatK cells n d t ht,getElem!_pos (flatK cells n d) t (by rw[size_flatK];exact ht)];simp
  have hp:0<n:=by
   rcases Nat.eq_zero_or_pos n with h0|h0;.rw[h0]at ht;simp at ht
   .exact h0
  have hlt:t%n<(cells (d[t/n]!)).length:=by rw[hn];exact Nat.mod_lt _ hp
  have h2:d.toList[t/n]! =d[t/n]!:=by simp[getElem!_eq_getElem?_getD,Array.getElem!_eq_getD,Array.getD_eq_getD_getElem?]
  rw[Array.getElem?_toList,h1,h2,getElem!_pos (cells (d[t/n]!)) (t%n) hlt,qG hlt]
 .rw[getElem?_eq_none (by simp;omega),getElem?_eq_none (by rw[a0p hn];simp;omega)]
section
variable {α:Type} [Inhabited α] {B:Nat} {E:TypeId} {n:Nat} {cells:α -> List Go.Value} {w w':World} {v:Go.Value} {l:List α}
def d6l(hn:∀x,(cells x).length=n){g o cap m:Nat}(h:Own B E n cells w (.slice (some ⟨g,o,none⟩) m cap) l):HoldsK cells n w g o l.toArray:=by
 intro j hj;rw[size_flatK]at hj;have hk:=c6t hn l.toArray;have hu:(l.flatMap cells)[j]?=some ((flatK cells n l.toArray)[j]!):=by
  have:(flatK cells n l.toArray).toList[j]?=some ((flatK cells n l.toArray)[j]!):=by rw[getElem!_pos (flatK cells n l.toArray) j (by rw[size_flatK];exact hj)];simp
  rw[hk]at this;simpa using this
 refine⟨?_,?_⟩;.have:=h.ca rfl j _ hu;rwa[Addr.add_lit]at this
 .rcases h with⟨hv,_⟩|⟨g',o',cap',cur,hv,_,hh,_⟩;.cases hv
  .simp only[Go.Value.slice.injEq,Option.some.injEq,Addr.mk.injEq]at hv;obtain⟨⟨rfl,_,_⟩,_,_⟩:=hv;have hM:Mb w g E cur.toList:=by show _=_;rw[hh]
   exact hM.frozen _
def d3h{F cur:Array Go.Value}{m o:Nat}(hF:F.size=m)(hc:o+m<=cur.size):((putCells id o F cur).toList.drop o).take m=F.toList:=by
 apply ext_getElem?;intro t;by_cases ht:t<m;.rw[getElem?_take_of_lt ht,getElem?_drop,Array.getElem?_toList];simp only[putCells,Array.getElem?_mapIdx,id];rw[Array.getElem?_eq_getElem (show o+t<cur.size by omega),Option.map_some,if_pos ⟨Nat.le_add_right _ _,by omega⟩,Array.getElem?_toList,Nat.add_sub_cancel_left,getElem!_pos F t (by omega),Array.getElem?_eq_getElem (show t<F.size by omega)]
 .rw[getElem?_eq_none (by simp;omega),getElem?_eq_none (by simp;omega)]
def e97(hn:∀x,(cells x).length=n){g o cap m q:Nat}{os:Array Obj}{d:Array α}(h:Own B E n cells w (.slice (some ⟨g,o,none⟩) m cap) l)(hd:d.size=l.length):Own B E n cells (grow (putRowK cells n (Go.Sort.ahead w q) g o d) os) (.slice (some ⟨g,o,none⟩) m cap) d.toList:=by
 rcases h with⟨hv,_⟩|⟨g',o',cap',cur,hv,hB,hh,hc,hm,hs,ht⟩;.cases hv
 .simp only[Go.Value.slice.injEq,Option.some.injEq,Addr.mk.injEq]at hv;obtain⟨⟨rfl,rfl,_⟩,hml,rfl⟩:=hv;have hlt:g<w.heap.size:=(qN.1 hh).1;have hmn:d.size*n<=cap*n:=by rw[hd];exact Nat.mul_le_mul_right _ hc
  refine .inr ⟨g,o,cap,putCells id o (flatK cells n d) cur,by rw[Array.length_toList,hd,hml],hB,?_,by rw[Array.length_toList,hd];exact hc,hm,by simp[putCells,hs],?_⟩;.show((putRowK cells n (Go.Sort.ahead w q) g o d).heap++os)[g]?=_;rw[Array.getElem?_append_left (by rw[size_putRowK];exact hlt)];show(w.heap.modify g _)[g]?=_;rw[Array.getElem?_modify,if_pos rfl,hh];rfl
  .rw[Array.length_toList,d3h (by rw[size_flatK]) (by omega),c6t hn]
def e7r{G:Nat->Prop}{g o q:Nat}{os:Array Obj}{d:Array α}(hg:G g):Ext G w (grow (putRowK cells n (Go.Sort.ahead w q) g o d) os):=⟨rfl,rfl,rfl,by show _<=((putRowK cells n (Go.Sort.ahead w q) g o d).heap++os).size;rw[Array.size_append,size_putRowK];exact Nat.le_add_right _ _,λb hb hn=>by show((putRowK cells n (Go.Sort.ahead w q) g o d).heap++os)[b]?=_;rw[Array.getElem?_append_left (by rw[size_putRowK];exact hb)];show(w.heap.modify g _)[b]?=_;rw[Array.getElem?_modify,if_neg (λe:g=b=>hn (e▸hg))]⟩
end
def e5t{α:Type}[Inhabited α](enc:α->Go.Value)(w:World)(b o:Nat)(d:Array α):putRow enc w b o d=putRowK (λx=>[enc x]) 1 w b o d:=by
 unfold putRowK putRow;congr 1;funext c;unfold putCells;refine Array.ext (by simp) λk h1 h2=>?_;simp only[Array.getElem_mapIdx,size_flatK,Nat.mul_one,id];split;.rename_i h;rw[get_flatK _ _ _ _ (by omega),Nat.div_one,Nat.mod_one];rfl
 .rfl
def e8y{α:Type}[Inhabited α]{enc:α->Go.Value}{w:World}{b o:Nat}{d:Array α}(h:HoldsK (λx=>[enc x]) 1 w b o d):Holds enc w b o d:=λj hj=>by have:=h j (by simpa using hj);rw[get_flatK _ _ _ _ (by omega),Nat.div_one,Nat.mod_one]at this;exact this
end Go.PL
namespace Go.Proofs
open Go.Shelf Go.RowKit Go.Lib Go.Sort
noncomputable def Tryz.spT:TypeInfo:=(Tryz.prog.info? 189).get (by kernel_rfl)
noncomputable def Tryz.spE:TypeInfo:=(Tryz.prog.info? 36).get (by kernel_rfl)
def Tryz.spK(n:Nat)(h2:2<=n):Lib.swapperK n Tryz.spE 25=9:=by
 have a:Tryz.spE.hasPointers=false:=by kernel_rfl
 have b:Tryz.spE.bytes=16:=by kernel_rfl
 have c:(n==0)=false:=by simp;omega
 have d:(n==1)=false:=by simp;omega
 simp[Lib.swapperK,a,b,c,d]
set_option maxHeartbeats 2000000 in
def Tryz.spLess (blk off c Bs size:Nat)(W:World)(G:Nat -> Int)(hs:W.cell? ⟨Bs,0,none⟩=some (.slice (some ⟨blk,off,none⟩) size c))
  (hc: ∀t,t<size -> W.cell? ⟨blk,off+t*2,none⟩=some (.int .i64 (G t))) (i j:Nat) (hi:i<size) (hj:j<size) (_hsz:size<4611686018427387904):
  Calls Tryz.prog 233 #[.int .i64 i,.int .i64 j,.pointer (some ⟨Bs,0,none⟩)] W λ e w'=>e= .returned (.bool (decide (G i<G j))) /\ ∃q,w'=W.drewN q:=by
 have ci:=hc i hi
 have cj:=hc j hj
 go_enter Tryz.func233,Tryz.ntmps233
 go_wp2
 go_quiet (fail)
 go_wp2
 go_ret
 exact ⟨rfl,nq,rfl⟩
end Go.Proofs
namespace Go.PL
open Go Go.Proofs Go.Sort
def Span.cells(x:Span):List Go.Value:=[.int .i64 x.From,.int .i64 x.To]
def e3o:SWO (λx y:Span=>decide (x.From<y.From)):=by
 constructor;.intro x;simp
 .intro x y z;simp only[decide_eq_true_eq];omega
 .intro x y z;simp only[decide_eq_false_iff_not];omega
set_option maxHeartbeats 2000000 in
def d0w {w0:World}(l:List Span){v:Go.Value}{B bc:Nat}(hO:Own B 36 2 Span.cells w0 v l)(hb:Mb w0 bc 189 [v])(hnb:Go.Value.ownBlock v≠some bc){r:List Span}(hF:b3w l=some r):
  Calls Tryz.prog 232 #[.iface 189 v,.func (.func 233) #[] #[.pointer (some ⟨bc,0,none⟩)]] w0 λ e w1=>e= .returned (.tuple #[]) /\ Ext (λ b=>Go.Value.ownBlock v=some b) w0 w1 /\ Own B 36 2 Span.cells w1 v r:=by
 unfold b3w f0f at hF
 by_cases h1:l.length <= 1
 ·rw [if_pos h1] at hF
  obtain rfl:=qH hF
  obtain ⟨a,cap,hv,_,_⟩:=hO.shape
  have key: ∀n,l.length=n -> Calls Tryz.prog 232 #[.iface 189 (.slice a n cap),.func (.func 233) #[] #[.pointer (some ⟨bc,0,none⟩)]] w0 (λ e w'=>e= .returned (.tuple #[]) /\ ∃os,w'=Go.Sort.grow w0 os) ->
    Calls Tryz.prog 232 #[.iface 189 v,.func (.func 233) #[] #[.pointer (some ⟨bc,0,none⟩)]] w0 λ e w1=>e= .returned (.tuple #[]) /\ Ext (λ b=>Go.Value.ownBlock v=some b) w0 w1 /\ Own B 36 2 Span.cells w1 v l:=by
   intro n hn h
   rw [hn] at hv
   rw [<- hv] at h
   refine Calls.mono h ?_
   rintro e w1 ⟨rfl,os,rfl⟩
   have hE:Ext noG w0 (Go.Sort.grow w0 os):=⟨rfl,rfl,rfl,by show _ <= (w0.heap++os).size;simp,λ b hb _=>by show (w0.heap++os)[b]? =_;rw [Array.getElem?_append_left hb]⟩
   exact ⟨rfl,hE.of_no,hO.exn hE⟩
  rcases (show l.length=0 \/ l.length=1 by omega) with h0 | h0
  ·exact key 0 h0 (Any.sort_Slice_tiny Tryz.sliceLay 189 36 Tryz.spT Tryz.spE (by kernel_rfl) (by kernel_rfl) (by kernel_rfl) (by kernel_rfl) 25 (λ _=>by kernel_rfl) a 0 cap (by omega) 336 (by kernel_rfl) (.func 233) #[] #[.pointer (some ⟨bc,0,none⟩)] w0)
  ·exact key 1 h0 (Any.sort_Slice_tiny Tryz.sliceLay 189 36 Tryz.spT Tryz.spE (by kernel_rfl) (by kernel_rfl) (by kernel_rfl) (by kernel_rfl) 25 (λ _=>by kernel_rfl) a 1 cap (by omega) 337 (by kernel_rfl) (.func 233) #[] #[.pointer (some ⟨bc,0,none⟩)] w0)
 ·rw [if_neg h1] at hF
  split at hF
  case isFalse=>cases hF
  rename_i hsz
  obtain rfl:=qH hF
  obtain ⟨a,cap,hv,hlc,hcm⟩:=hO.shape
  cases a with
  | none=>
    exfalso
    rcases hO with ⟨_,h⟩ | ⟨g,o,c',cur,hv',_⟩
    ·rw [h] at h1;simp at h1
    ·rw [hv] at hv';cases hv'
  | some ad=>
    obtain ⟨g,o,hg⟩: ∃g o,ad=⟨g,o,none⟩:=by
     rcases hO with ⟨h,_⟩ | ⟨g,o,c',cur,hv',_⟩
     ·rw [hv] at h;cases h
     ·rw [hv] at hv';cases hv';exact ⟨g,o,rfl⟩
    subst hg
    subst hv
    have hlt:g<w0.heap.size:=(hO.lt rfl).2
    have hbg:bc≠g:=λ e=>hnb (by rw [e];rfl)
    have hcell:w0.cell? ⟨bc,0,none⟩=some (.slice (some ⟨g,o,none⟩) l.toArray.size cap):=hb.ca 0 _ rfl
    have hH:=d6l (n:=2) (cells:=Span.cells) (λ _=>rfl) hO
    have h2:2 <= l.toArray.size:=by rw [size_toArray];omega
    have hsz':l.toArray.size<4611686018427387904:=by rw [size_toArray];exact hsz
    have hless:LessReadsK Tryz.prog 233 #[.pointer (some ⟨bc,0,none⟩)] Span.cells 2 (λ x y:Span=>decide (x.From<y.From)) g o l.toArray.size w0:=by
     intro m os dk hs i j hi hj
     have e:sortWorldK Span.cells 2 w0 g o m dk os=putRowK Span.cells 2 (grow (Go.Sort.ahead w0 m) os) g o dk:=by
      unfold sortWorldK;rw [putRowK_grow _ _ (Go.Sort.ahead w0 m) _ g o _ hlt]
     have hHg:HoldsK Span.cells 2 (grow (Go.Sort.ahead w0 m) os) g o l.toArray:=holdsK_grow _ _ _ _ g o _ hlt (holdsK_ahead _ _ _ _ _ _ _ hH)
     refine Tryz.spLess g o cap bc l.toArray.size _ (λ t=>dk[t]!.From) ?_ (λ t ht=> ?_) i j hi hj (by omega)
     ·rw [e,cell?_putRowK_other _ _ _ g o dk _ (by exact hbg),cell?_grow _ _ _ (by exact hb.lt)];exact hcell
     ·rw [e];exact ((holdsK_putRowK _ _ _ g o l.toArray dk hHg hs).cell (i:=t) (c:=0) (by omega) (by omega)).1
    have hS:=Any.sort_Slice_cells_eq Tryz.sliceLay 189 36 Tryz.spT Tryz.spE (by kernel_rfl) (by kernel_rfl) (by kernel_rfl) (by kernel_rfl) 25 (λ _=>by kernel_rfl) Span.cells 2 (λ _=>rfl) (by kernel_rfl) (λ _=>by kernel_rfl)
     (λ x u hu=>by simp [Span.cells] at hu;rcases hu with rfl | rfl<;>rfl) (λ x y:Span=>decide (x.From<y.From)) e3o 233 _
     (enters_of Tryz.func233 (by kernel_rfl) rfl) g o cap l.toArray h2 hsz' 344 (by rw [Tryz.spK _ h2];kernel_rfl) false
     (λ args W=>run_callFunc_extern Tryz.func344 (by kernel_rfl) (by kernel_rfl) (by kernel_rfl) (e:=Extern.ReflectliteSwapper.swap false) (by kernel_rfl) args W) w0 hless hH hlt
    have hp:=(pdq_sorts (λ x y:Span=>decide (x.From<y.From)) e3o l.toArray 0 l.toArray.size (Lib.bitLen l.toArray.size) true true (Nat.zero_le _) (Nat.le_refl _) (Or.inl rfl)).1.1
    rw [size_toArray] at hS hp
    generalize pdq (λ x y:Span=>decide (x.From<y.From)) l.toArray 0 l.length (Lib.bitLen l.length) true true=d at hS hp⊢
    refine Calls.mono hS ?_
    rintro e w1 ⟨rfl,q,os,rfl⟩
    exact ⟨rfl,e7r rfl,e97 (n:=2) (cells:=Span.cells) (λ _=>rfl) hO hp⟩
end Go.PL
namespace Go.PL
open Go Go.SX Go.Proofs
def mixed:Tryz.prog.follows .mixedOrders=true:=by kernel_rfl
noncomputable section
def j9w:Fent VV:=⟨⟨[.ls .yo,.ls .yo],[.v .z9]⟩,Int,λx=>i59 x.1 x.2.1,λn=>((n,()),()),none⟩
def k21:d6d Tryz.prog 74 j9w:=j4v (U:=VV) (a:=.yo) (c:=.z9) uok (fn:=Tryz.f74) (by kernel_rfl) (by kernel_rfl) (by kernel_rfl) (by kernel_rfl) (by kernel_rfl) rfl (λn=>n) (λ_=>rfl)
def j50:Fent VV:=⟨⟨[.v .yl,.v .yo],[.v .z9]⟩,Int,λx=>a7v x.1 x.2.1,λn=>((n,()),()),none⟩
def j94:d6d Tryz.prog 247 j50:=f6g (U:=VV) (a:=.yl) (b:=.yo) (c:=.z9) (fn:=Tryz.f247) (by kernel_rfl) (by kernel_rfl) (by kernel_rfl) (by kernel_rfl) (by kernel_rfl) (λx=>x) (λx=>x) (λn=>n) (λ_=>rfl) (λ_=>rfl) (λ_=>rfl)
def j7b:Fent VV:=⟨⟨[.v .yn,.v .yn,.v .yn],[.v .yn,.v .yn]⟩,Int×Int,λx=>c23 x.1 x.2.1 x.2.2.1,λn=>((n.1,n.2,()),()),none⟩
def j9l:d6d Tryz.prog 408 j7b:=d2m (U:=VV) (g:=g7y) (l:=Extern.MathBitsCarry.rows) (λh _ he=>g34 h he) (fn:=Tryz.f408) (by kernel_rfl) (by kernel_rfl) (by kernel_rfl) (by kernel_rfl) (by kernel_rfl) (by kernel_rfl) (a:=.yn) (λx=>x) (λn=>n) (λ_=>rfl) (λ_=>rfl)
def j59:Fent VV:=⟨⟨[.v .yn,.v .yn,.v .yn],[.v .yn,.v .yn]⟩,Int×Int,λx=>c1u x.1 x.2.1 x.2.2.1,λn=>((n.1,n.2,()),()),none⟩
def j8y:d6d Tryz.prog 409 j59:=d2m (U:=VV) (g:=g8x) (l:=Extern.MathBitsCarry.rows.tail) (λh _ he=>g3o h he) (fn:=Tryz.f409) (by kernel_rfl) (by kernel_rfl) (by kernel_rfl) (by kernel_rfl) (by kernel_rfl) (by kernel_rfl) (a:=.yn) (λx=>x) (λn=>n) (λ_=>rfl) (λ_=>rfl)
def j68:Fent VV:=⟨⟨[.v .z9],[.v .yl]⟩,ByteArray,λx=>strconv_Itoa x.1,λb=>((b,()),()),none⟩
def j9b:SX.Spec Tryz.prog 368 j68:=e8o (U:=VV) (a:=.z9) (c:=.yl) Tryz.laysItoa (λ_ h=>h) (λx=>x) (λ_=>rfl) (λx=>x) (λ_=>rfl)
def j9y:Fent VV:=⟨⟨[.ls .z9],[.ow 3 .z9]⟩,List Int,λx=>a7z x.1,w1,none⟩
def k19:SX.Spec Tryz.prog 81 j9y:=b6g (U:=VV) (c:=.z9) (e:=3) (t:=23) (b:=4) (N:=8) uok mixed (fn:=Tryz.f81) (by kernel_rfl) (by kernel_rfl) rfl rfl (by kernel_rfl) (by kernel_rfl) (by kernel_rfl) (λl=>by kernel_rfl)
def j5x:Fent VV:=⟨⟨[.ls .zj],[.ow 208 .zj]⟩,List Credit,λx=>a5m x.1,w1,none⟩
def k0e:SX.Spec Tryz.prog 195 j5x:=b6g (U:=VV) (c:=.zj) (e:=208) (t:=64) (b:=4) (N:=16) uok mixed (fn:=Tryz.f195) (by kernel_rfl) (by kernel_rfl) rfl rfl (by kernel_rfl) (by kernel_rfl) (by kernel_rfl) (λl=>by kernel_rfl)
def j6f:Fent VV:=⟨⟨[.ls .zo],[.ow 210 .zo]⟩,List Index,λx=>a6e x.1,w1,none⟩
def j9f:SX.Spec Tryz.prog 196 j6f:=b6g (U:=VV) (c:=.zo) (e:=210) (t:=65) (b:=4) (N:=24) uok mixed (fn:=Tryz.f196) (by kernel_rfl) (by kernel_rfl) rfl rfl (by kernel_rfl) (by kernel_rfl) (by kernel_rfl) (λl=>by kernel_rfl)
def j64:Fent VV:=⟨⟨[.ls .zq],[.ow 212 .zq]⟩,List Let,λx=>a86 x.1,w1,none⟩
def j99:SX.Spec Tryz.prog 197 j64:=b6g (U:=VV) (c:=.zq) (e:=212) (t:=66) (b:=4) (N:=88) uok mixed (fn:=Tryz.f197) (by kernel_rfl) (by kernel_rfl) rfl rfl (by kernel_rfl) (by kernel_rfl) (by kernel_rfl) (λl=>by kernel_rfl)
def j69:Fent VV:=⟨⟨[.ls .zn],[.ow 84 .zn]⟩,List Grant,λx=>a6f x.1,w1,none⟩
def j8z:SX.Spec Tryz.prog 198 j69:=b6g (U:=VV) (c:=.zn) (e:=84) (t:=67) (b:=4) (N:=152) uok mixed (fn:=Tryz.f198) (by kernel_rfl) (by kernel_rfl) rfl rfl (by kernel_rfl) (by kernel_rfl) (by kernel_rfl) (λl=>by kernel_rfl)
def j5l:Fent VV:=⟨⟨[.ls .zv],[.ow 215 .zv]⟩,List Reduce,λx=>a5p x.1,w1,none⟩
def j9d:SX.Spec Tryz.prog 199 j5l:=b6g (U:=VV) (c:=.zv) (e:=215) (t:=68) (b:=4) (N:=80) uok mixed (fn:=Tryz.f199) (by kernel_rfl) (by kernel_rfl) rfl rfl (by kernel_rfl) (by kernel_rfl) (by kernel_rfl) (λl=>by kernel_rfl)
def j9u:Fent VV:=⟨⟨[],[]⟩,Unit,λ_=>none,λ_=>((),()),some (.qy (slQ 189 36 .y1 233 b3w))⟩
def K232:Kn Tryz.prog VV:=⟨232,j9u,show d6v Tryz.prog 232 _ from g47 (U:=VV) (c:=.y1) (cells:=Span.cells) (a14 (fn:=Tryz.f232) (by kernel_rfl) (by kernel_rfl) (by kernel_rfl)) (λG w cs x h=>by obtain⟨_,css,rfl,hh⟩:=a91.1 h;match css,hh with|[a,b],⟨h1,h2,_⟩=>rw[show a=_ from h1,show b=_ from h2];rfl) (λG w x=>a91.2 ⟨rfl,[[.int .i64 x.From],[.int .i64 x.To]],rfl,⟨rfl,rfl,trivial⟩⟩) λl r w v bc hO hM hne hF=>d0w l hO hM hne hF⟩
def j9c:Fent VV:=⟨⟨[],[]⟩,Unit,λ_=>none,λ_=>((),()),some (.qy (soQ 3 .z9 b8s))⟩
def j8p:Fent VV:=⟨⟨[],[]⟩,Unit,λ_=>none,λ_=>((),()),some (.qy (skQ 224 244 3 .z9 λx=>x))⟩
def K81:Kn Tryz.prog VV:=⟨81,j9y,knS rfl ⟨k19,λ_ _=>by kernel_rfl⟩⟩
def K195:Kn Tryz.prog VV:=⟨195,j5x,knS rfl ⟨k0e,λ_ _=>by kernel_rfl⟩⟩
def K196:Kn Tryz.prog VV:=⟨196,j6f,knS rfl ⟨j9f,λ_ _=>by kernel_rfl⟩⟩
def K197:Kn Tryz.prog VV:=⟨197,j64,knS rfl ⟨j99,λ_ _=>by kernel_rfl⟩⟩
def h3r:Kn Tryz.prog VV:=⟨198,j69,knS rfl ⟨j8z,λ_ _=>by kernel_rfl⟩⟩
def K199:Kn Tryz.prog VV:=⟨199,j5l,knS rfl ⟨j9d,λ_ _=>by kernel_rfl⟩⟩
def K368:Kn Tryz.prog VV:=⟨368,j68,knS rfl ⟨j9b,λ_ _=>by kernel_rfl⟩⟩
def k1r:Fent VV:=⟨⟨[],[]⟩,Unit,λ_=>none,λ_=>((),()),some (.seq 127 25 (some .zy))⟩
def K80:Kn Tryz.prog VV:=⟨80,k1r,show b9c _ _ _ _ from c5j (tS:=25) (tF:=165) (tG:=164) (p1:= "iter.go:26") (p2:= "iter.go:27") (a14 (fn:=Tryz.f80) (by kernel_rfl) (by kernel_rfl) (by kernel_rfl)) (fn:=Tryz.f80) (by kernel_rfl) (by kernel_rfl) rfl rfl⟩
def j9j:Fent VV:=⟨⟨[],[]⟩,Unit,λ_=>none,λ_=>((),()),some (.seq 194 53 (some .y8))⟩
def K128:Kn Tryz.prog VV:=⟨128,j9j,show b9c _ _ _ _ from c5j (tS:=53) (tF:=224) (tG:=223) (p1:= "iter.go:26") (p2:= "iter.go:27") (a14 (fn:=Tryz.f128) (by kernel_rfl) (by kernel_rfl) (by kernel_rfl)) (fn:=Tryz.f128) (by kernel_rfl) (by kernel_rfl) rfl rfl⟩
def j9m:Fent VV:=⟨⟨[],[]⟩,Unit,λ_=>none,λ_=>((),()),some (.seq 224 244 none)⟩
def K145:Kn Tryz.prog VV:=⟨145,j9m,show b9c _ _ _ _ from c5j (tS:=244) (tF:=249) (tG:=248) (p1:= "iter.go:25") (p2:= "iter.go:26") (a14 (fn:=Tryz.f145) (by kernel_rfl) (by kernel_rfl) (by kernel_rfl)) (fn:=Tryz.f145) (by kernel_rfl) (by kernel_rfl) rfl rfl⟩
def k0o:Fent VV:=⟨⟨[],[]⟩,Unit,λ_=>none,λ_=>((),()),some (.seq 385 48 (some .y4))⟩
def K358:Kn Tryz.prog VV:=⟨358,k0o,show b9c _ _ _ _ from c5j (tS:=48) (tF:=444) (tG:=443) (p1:= "iter.go:26") (p2:= "iter.go:27") (a14 (fn:=Tryz.f358) (by kernel_rfl) (by kernel_rfl) (by kernel_rfl)) (fn:=Tryz.f358) (by kernel_rfl) (by kernel_rfl) rfl rfl⟩
def j9o:Fent VV:=⟨⟨[],[]⟩,Unit,λ_=>none,λ_=>((),()),some (.seq 386 23 (some .z9))⟩
def K359:Kn Tryz.prog VV:=⟨359,j9o,show b9c _ _ _ _ from c5j (tS:=23) (tF:=249) (tG:=248) (p1:= "iter.go:37") (p2:= "iter.go:38") (a14 (fn:=Tryz.f359) (by kernel_rfl) (by kernel_rfl) (by kernel_rfl)) (fn:=Tryz.f359) (by kernel_rfl) (by kernel_rfl) rfl rfl⟩
def j8g:Fent VV:=⟨⟨[],[]⟩,Unit,λ_=>none,λ_=>((),()),some (.seq 412 281 (some .zh))⟩
def K398:Kn Tryz.prog VV:=⟨398,j8g,show b9c _ _ _ _ from c5j (tS:=281) (tF:=474) (tG:=473) (p1:= "iter.go:26") (p2:= "iter.go:27") (a14 (fn:=Tryz.f398) (by kernel_rfl) (by kernel_rfl) (by kernel_rfl)) (fn:=Tryz.f398) (by kernel_rfl) (by kernel_rfl) rfl rfl⟩
def bkL:List (Nat×TypeId×TyC×Bool):=[(127,25,.zy,false),(194,53,.y8,false),(385,48,.y4,false),(386,23,.z9,true),(412,281,.zh,false)]
def bkA:h1j (U:=VV) Tryz.prog bkL:=⟨⟨79,⟨⟨Tryz.f127,3,4,222,by kernel_rfl,⟨by kernel_rfl,rfl⟩,rfl⟩,λ_ _=>a14 (fn:=Tryz.f127) (by kernel_rfl) (by kernel_rfl) (by kernel_rfl) _ _,by kernel_rfl,by kernel_rfl⟩,λ_=>by kernel_rfl,λ_=>by kernel_rfl⟩,⟨70,⟨⟨Tryz.f194,3,4,291,by kernel_rfl,⟨by kernel_rfl,rfl⟩,rfl⟩,λ_ _=>a14 (fn:=Tryz.f194) (by kernel_rfl) (by kernel_rfl) (by kernel_rfl) _ _,by kernel_rfl,by kernel_rfl⟩,λ_=>by kernel_rfl,λ_=>by kernel_rfl⟩,⟨102,⟨⟨Tryz.f385,3,4,463,by kernel_rfl,⟨by kernel_rfl,rfl⟩,rfl⟩,λ_ _=>a14 (fn:=Tryz.f385) (by kernel_rfl) (by kernel_rfl) (by kernel_rfl) _ _,by kernel_rfl,by kernel_rfl⟩,λ_=>by kernel_rfl,λ_=>by kernel_rfl⟩,⟨3,⟨⟨Tryz.f386,3,4,121,by kernel_rfl,⟨by kernel_rfl,rfl⟩,rfl⟩,λ_ _=>a14 (fn:=Tryz.f386) (by kernel_rfl) (by kernel_rfl) (by kernel_rfl) _ _,by kernel_rfl,by kernel_rfl⟩,λ_=>by kernel_rfl,λ_=>by kernel_rfl⟩,⟨364,⟨⟨Tryz.f412,3,4,484,by kernel_rfl,⟨by kernel_rfl,rfl⟩,rfl⟩,λ_ _=>a14 (fn:=Tryz.f412) (by kernel_rfl) (by kernel_rfl) (by kernel_rfl) _ _,by kernel_rfl,by kernel_rfl⟩,λ_=>by kernel_rfl,λ_=>by kernel_rfl⟩,trivial⟩
abbrev mkR:=@knR Tryz.prog VV uok mixed bkL bkA
def K74:Kn Tryz.prog VV:=⟨74,j9w,knX rfl k21⟩
def K247:Kn Tryz.prog VV:=⟨247,j50,knX rfl j94⟩
def K408:Kn Tryz.prog VV:=⟨408,j7b,knX rfl j9l⟩
def K409:Kn Tryz.prog VV:=⟨409,j59,knX rfl j8y⟩
abbrev mk:=@kn Tryz.prog VV uok mixed
def K41:=mk 41 Tryz.f41 ⟨[.v .z9],[.v .yl]⟩ (cur1 i8) w1 u1 (sk 2 (.s (.l [] [] [.v 0 .z9,.v 3 .yl] .n) .n)) []
def K15:=mk 15 Tryz.f15 ⟨[.v .z9,.v .z9],[.v .z9]⟩ (cur2 b7) w1 u1 .n []
def K18:=mk 18 Tryz.f18 ⟨[.ls .z9,.v .z9],[.v .z9]⟩ (cur2 c5) w1 u1 .n [K15]
def K72:=mk 72 Tryz.f72 ⟨[.v .z9],[.v .yl]⟩ (cur1 a01) w1 u1 .n [K41]
def K42:=mk 42 Tryz.f42 ⟨[.v .yl,.ls .z9,.v .z9],[.v .yl]⟩ (cur3 a38) w1 u1 (sk 3 (.j [] [.ls 1 .z9,.v 2 .z9,.v 7 .yl,.v 8 .yl] .n (.s .n (.j [] [.ls 1 .z9,.v 2 .z9,.v 7 .yl,.v 8 .yl] .n (.j [] [.ls 1 .z9,.v 2 .z9,.v 7 .yl,.v 8 .yl] .n (.s .n (.s .n (.s .n (.s .n (.j [] [.ls 1 .z9,.v 2 .z9,.v 8 .yl] .n (.s .n (.s .n (.j [] [.ls 1 .z9,.v 2 .z9,.v 8 .yl] .n .n))))))))))))) [K15,K18,K41,K72]
def K26:=mk 26 Tryz.f26 ⟨[.v .z9,.ls .z9],[.v .yl]⟩ (cur2 b10) w1 u1 (sk 3 (.j [] [.v 0 .z9,.ls 1 .z9,.v 6 .yl] .n .n)) [K15,K18,K41,K42]
def K162:=mk 162 Tryz.f162 ⟨[.v .yl,.v .z9],[.v .z9]⟩ (cur2 b16) w1 u1 (sk 2 (.s (.l [0] [] [.v 1 .z9,.v 5 .z8] .n) .n)) []
def k1x:=mk 163 Tryz.f163 ⟨[.v .yo],[.v .z8]⟩ (cur1 a3q) w1 u1 .n []
def k0w:=mk 165 Tryz.f165 ⟨[.v .yo],[.v .z8]⟩ (cur1 a30) w1 u1 .n []
def K164:=mk 164 Tryz.f164 ⟨[.v .yl,.v .z9,.v .z8],[.v .z9]⟩ (cur3 a9f) w1 u1 (sk 2 (.s (.l [0,1,2] [] [.v 7 .z9] .n) .n)) [k1x,k0w]
def h1l:=mk 108 Tryz.f108 ⟨[.v .yl],[.v .yl,.v .yl,.v .z9,.v .z8]⟩ (cur1 a6z) (λb=>((b.1,(b.2.1,(b.2.2.1,(b.2.2.2,())))),())) (λp=>(p.1.1,p.1.2.1,p.1.2.2.1,p.1.2.2.2.1)) (sk 2 (.j [] [.v 0 .yl,.v 6 .z9] .n (.s .n (.s (.s .n (.l [0,6] [] [.v 8 .z9,.v 9 .z9] .n)) (.s .n (.j [] [.v 6 .z9,.v 10 .yl,.v 11 .yl] .n (.s (.s .n (.l [6,10,11] [] [.v 12 .z9] .n)) .n))))))) [k0w]
def K169:=mk 169 Tryz.f169 ⟨[.v .yl],[.v .z9,.v .z8]⟩ (cur1 a4m) w2 u2 (sk 2 (.s (.s .n (.l [0] [] [.v 4 .z9,.v 5 .z9] .n)) .n)) []
def K308:=mk 308 Tryz.f308 ⟨[.v .z9],[.v .z8]⟩ (cur1 b18) w1 u1 .n []
def h3p:=mk 240 Tryz.f240 ⟨[.v .z9,.v .z9],[.v .z9]⟩ (cur2 a6b) w1 u1 .n [K308]
def K241:=mk 241 Tryz.f241 ⟨[.v .z9],[.v .z9]⟩ (cur1 a9y) w1 u1 (sk 2 (.s (.s .n (.l [0] [] [.v 3 .z9,.v 4 .z9] .n)) .n)) [h3p]
def K170:=mk 170 Tryz.f170 ⟨[.v .z9,.v .z9,.v .z9],[.v .z9,.v .z8]⟩ (cur3 b22) w2 u2 .n [h3p,K241]
def K110:=mk 110 Tryz.f110 ⟨[.v .yl],[.v .z9,.v .z8]⟩ (cur1 a47) w2 u2 .n [K169,K170]
def K166:=mk 166 Tryz.f166 ⟨[.v .yl,.v .z9],[.v .z9]⟩ (cur2 b1a) w1 u1 (.s .n (.j [] [.v 0 .yl,.v 1 .z9] .n .n)) []
def K105:=mk 105 Tryz.f105 ⟨[.v .yl,.v .z9],[.v .y5,.v .z9,.v .z9]⟩ (cur2 b15) w3 u3 (sk 5 (.j [] [.v 0 .yl,.v 1 .z9,.bx 4 2 152 .y5,.v 7 .z9,.v 8 .z9,.v 9 .z8] .n .n)) [h1l,K110,K162,k1x,K164,k0w,K166]
def K62:=mk 62 Tryz.f62 ⟨[.v .yl],[.ow 152 .y5,.v .z9,.v .z9]⟩ (cur1 b25) w3 u3 (sk 4 (.l [0] [] [.ow 5 1 152 .y5,.v 6 .z9] .n)) [K105]
def K33:=mk 33 Tryz.f33 ⟨[.v .yl],[.bo 110 .yi,.v .z9,.v .z9]⟩ (cur1 b02) w3 u3 .n [K62]
def K67:=mk 67 Tryz.f67 ⟨[.rp 110 .yi,.v .yl],[.v .z8]⟩ (cur2 u9) w1 u1 .n []
def K37:=mk 37 Tryz.f37 ⟨[.io 110 .yi,.v .yl],[.v .z8]⟩ (cur2 d7) (λb=>((b.1,()),(b.2,()))) (λp=>(p.1.1,p.2.1)) .n [K67]
def K63:=mk 63 Tryz.f63 ⟨[.io 110 .yi],[]⟩ (cur1 j8) (λb=>((),(b,()))) (λp=>p.2.1) .n []
def K34:=mk 34 Tryz.f34 ⟨[.io 110 .yi,.v .yl],[]⟩ (cur2 b9) (λb=>((),(b,()))) (λp=>p.2.1) .n [K37,K63]
def K64:=mk 64 Tryz.f64 ⟨[.rp 110 .yi,.v .z9],[.v .z8]⟩ (cur2 p8) w1 u1 .n []
def g7d:=mk 106 Tryz.f106 ⟨[.v .yl],[.v .z8]⟩ (cur1 a99) w1 u1 (.s .n (.s (.s .n (.l [0] [] [.v 3 .z9] .n)) .n)) [k1x,k0w]
def g7z:=mk 107 Tryz.f107 ⟨[.v .yl],[.v .z8]⟩ (cur1 a7o) w1 u1 .n []
def K65:=mk 65 Tryz.f65 ⟨[.v .yl],[.v .z8]⟩ (cur1 a2e) w1 u1 .n [g7d,g7z]
def K35:=mk 35 Tryz.f35 ⟨[.io 110 .yi],[.v .yl]⟩ (cur1 a0w) (λb=>((b.1,()),(b.2,()))) (λp=>(p.1.1,p.2.1)) .n [K63,K64,K65]
def k1y:=mk 168 Tryz.f168 ⟨[.v .z9],[.v .yn]⟩ (cur1 a43) w1 u1 .n []
def K288:=mk 288 Tryz.f288 ⟨[.v .yn],[.v .z9]⟩ (cur1 b8x) w1 u1 (.s .n (.j [] [.v 0 .yn,.v 2 .z9] .n (.j [] [.v 0 .yn,.v 2 .z9] .n .n))) []
def K237:=mk 237 Tryz.f237 ⟨[.v .yn],[.v .z9]⟩ (cur1 a7n) w1 u1 .n [K288]
def j8l:=mk 161 Tryz.f161 ⟨[.v .yn,.v .yn,.v .yn],[.v .yn,.v .yn]⟩ (cur3 a8o) w2 u2 (.s .n (.j [] [.v 0 .yn,.v 1 .yn,.v 2 .yn] .n (.j [] [.v 0 .yn,.v 1 .yn,.v 2 .yn] .n (.s .n (.s .n (.s .n (.s .n (.s .n (.s .n (.s .n (.s .n (.s .n (.s .n (.s .n (.j [] [.v 2 .yn,.v 8 .yn,.v 9 .yn,.v 10 .yn,.v 11 .yn,.v 13 .yn,.v 14 .yn,.v 15 .yn] (.l [2,8,9,10,11,13,14] [] [.v 15 .yn,.v 16 .yn] .n) (.s .n (.s .n (.s .n (.j [] [.v 2 .yn,.v 8 .yn,.v 14 .yn,.v 15 .yn,.v 17 .yn,.v 18 .yn] (.l [2,8,9,10,14,15,17] [] [.v 16 .yn,.v 18 .yn] .n) .n))))))))))))))))))) [K237]
def K238:=mk 238 Tryz.f238 ⟨[.v .yh,.v .yn],[.v .yh,.v .yn]⟩ (cur2 a3h) w2 u2 .n [j8l]
def K239:=mk 239 Tryz.f239 ⟨[.v .yn,.v .yn],[.v .yn]⟩ (cur2 a9s) w1 u1 (.s .n (.s (.l [] [] [.v 0 .yn,.v 1 .yn] .n) .n)) []
def K167:=mk 167 Tryz.f167 ⟨[.v .z8,.v .yh,.v .yn],[.v .zm,.v .z9]⟩ (cur3 b2l) w2 u2 .n [K238,K239]
def K109:=mk 109 Tryz.f109 ⟨[.v .z9,.v .z9],[.v .zm,.v .z9]⟩ (cur2 a3r) w2 u2 .n [K167,k1y]
def K66:=mk 66 Tryz.f66 ⟨[.v .yl],[.v .zm,.v .z9,.v .z8]⟩ (cur1 a2x) w3 u3 (sk 4 (.s (.s .n (.l [5,6,7] [] [.bx 2 1 59 .zm,.v 9 .z9,.v 10 .z9,.v 11 .z9] .n)) .n)) [h1l,K109]
def K36:=mk 36 Tryz.f36 ⟨[.io 110 .yi,.v .z9,.v .z9],[.v .z9]⟩ (cur3 s7) (λb=>((b.1,()),(b.2,()))) (λp=>(p.1.1,p.2.1)) .n [K63,K64,K66]
def K68:=mk 68 Tryz.f68 ⟨[.v .yl],[.v .z9]⟩ (cur1 b09) w1 u1 .n [K110]
def K111:=mk 111 Tryz.f111 ⟨[.v .yl],[.v .z9]⟩ (cur1 a8l) w1 u1 .n []
def K112:=mk 112 Tryz.f112 ⟨[.v .yl],[.v .z9]⟩ (cur1 a52) w1 u1 .n []
def h2a:=mk 113 Tryz.f113 ⟨[.v .yl],[.v .z9]⟩ (cur1 a8f) w1 u1 .n []
def K69:=mk 69 Tryz.f69 ⟨[.io 110 .yi,.v .z9],[.v .z9]⟩ (cur2 a0m) (λb=>((b.1,()),(b.2,()))) (λp=>(p.1.1,p.2.1)) .n [K63,K64,K111,K112,h2a]
def k0x:=mk 246 Tryz.f246 ⟨[.v .z9],[.v .z9]⟩ (cur1 a8e) w1 u1 .n []
def K243:=mk 243 Tryz.f243 ⟨[.v .z9],[.v .z9]⟩ (cur1 b05) w1 u1 (.s .n (.s (.s .n (.s .n (.s .n (.s .n (.s .n (.s .n (.s .n (.s .n (.s .n (.j [] [.v 3 .z9,.v 12 .z8] .n (.s .n (.j [] [.v 3 .z9,.v 19 .z8] .n .n)))))))))))) .n)) []
def K244:=mk 244 Tryz.f244 ⟨[.v .z9],[.v .yl]⟩ (cur1 a96) w1 u1 .n []
def K172:=mk 172 Tryz.f172 ⟨[.rp 110 .yi,.v .z9],[.v .z9]⟩ (cur2 a3a) w1 u1 (.s .n (.s (.s .n (.l [0,1] [] [.v 5 .z9] .n)) .n)) [K67,K243,K244]
def j07:Sig VV:=⟨[.io 110 .yi,.v .z9],[.v .zl]⟩
def i6m(R:eQ):Fent VV:=⟨j07,Expr×rQ,λx=>R.f_pensionref5_reader_expr x.1 x.2.1,λb=>((b.1,()),(b.2,())),none⟩
def j8i:Fent VV:=i6m (c8 FU)
def j5p:Ress VV j07.rs×Outs VV j07.ps->Expr×rQ:=λp=>(p.1.1,p.2.1)
def j7c:Ann VV.C:=(.s .n (.s .n (.s .n (.s .n (.s (.l [1] [] [.bx 0 0 110 .yi,.of 4 4 3 82 .zl,.bm 4 2 82 .zl [(4,3)],.bx 8 4 82 .zl] .n) .n)))))
def i95:Sig VV:=⟨[.io 110 .yi],[.v .zl]⟩
def j1h(R:eQ):Fent VV:=⟨i95,Expr×rQ,λx=>R.f_pensionref5_reader_factor x.1,λb=>((b.1,()),(b.2,())),none⟩
def j56:Ress VV i95.rs×Outs VV i95.ps->Expr×rQ:=λp=>(p.1.1,p.2.1)
def j5w:Ann VV.C:=.n
def i93:Sig VV:=⟨[.io 110 .yi,.v .z9],[.v .zl]⟩
def j19(R:eQ):Fent VV:=⟨i93,Expr×rQ,λx=>R.f_pensionref5_reader_call x.1 x.2.1,λb=>((b.1,()),(b.2,())),none⟩
def j7d:Ress VV i93.rs×Outs VV i93.ps->Expr×rQ:=λp=>(p.1.1,p.2.1)
def j5f:Ann VV.C:=.n
def j6c(R:eQ):Phi VV:=λf ys=>lkF f ys [K34.e,K37.e,(114,i6m R),(171,j1h R),K172.e]
def j81(R:eQ)(hr114:SX.Spec Tryz.prog 114 (i6m R))(hr171:SX.Spec Tryz.prog 171 (j1h R)):OKΦ Tryz.prog (j6c R):=okl ⟨K34.ok,K37.ok,knS rfl ⟨hr114,λ_ _=>by kernel_rfl⟩,knS rfl ⟨hr171,λ_ _=>by kernel_rfl⟩,K172.ok,trivial⟩
def j8r(R:eQ):∀x,c5v Tryz.prog (j6c R) j07 j5p Tryz.f114 j7c x=a3b R x.1 x.2.1:=λx=>by kernel_rfl
def j79:c67 Tryz.f114 j07=true:=by kernel_rfl
def j6u(R:eQ):Phi VV:=λf ys=>lkF f ys [K34.e,K35.e,K36.e,K37.e,K64.e,K66.e,K67.e,(114,i6m R),(242,j19 R)]
def j89(R:eQ)(hr114:SX.Spec Tryz.prog 114 (i6m R))(hr242:SX.Spec Tryz.prog 242 (j19 R)):OKΦ Tryz.prog (j6u R):=okl ⟨K34.ok,K35.ok,K36.ok,K37.ok,K64.ok,K66.ok,K67.ok,knS rfl ⟨hr114,λ_ _=>by kernel_rfl⟩,knS rfl ⟨hr242,λ_ _=>by kernel_rfl⟩,trivial⟩
def j95(R:eQ):∀x,c5v Tryz.prog (j6u R) i95 j56 Tryz.f171 j5w x=a2a R x.1:=λx=>by kernel_rfl
def j5t:c67 Tryz.f171 i95=true:=by kernel_rfl
def j6r(R:eQ):Phi VV:=λf ys=>lkF f ys [K34.e,(114,i6m R),k0x.e]
def j85(R:eQ)(hr114:SX.Spec Tryz.prog 114 (i6m R)):OKΦ Tryz.prog (j6r R):=okl ⟨K34.ok,knS rfl ⟨hr114,λ_ _=>by kernel_rfl⟩,k0x.ok,trivial⟩
def j90(R:eQ):∀x,c5v Tryz.prog (j6r R) i93 j7d Tryz.f242 j5f x=a3d R x.1 x.2.1:=λx=>by kernel_rfl
def j77:c67 Tryz.f242 i93=true:=by kernel_rfl
def a7d:∀n,SX.Spec Tryz.prog 114 (i6m (c8 n))/\SX.Spec Tryz.prog 171 (j1h (c8 n))/\SX.Spec Tryz.prog 242 (j19 (c8 n))|0=>⟨(λ_ _ h=>(by cases(show none=some _ from h))),(λ_ _ h=>(by cases(show none=some _ from h))),(λ_ _ h=>(by cases(show none=some _ from h)))⟩|n+1=>let⟨h114,h171,h242⟩:=a7d n;⟨a2m (fe:=i6m (c8 (n+1))) uok (j81 (c8 n) h114 h171) mixed (fn:=Tryz.f114) (by kernel_rfl) j5p j7c (d8 j79).1 (d8 j79).2 (λ_=>rfl) (j8r (c8 n)),a2m (fe:=j1h (c8 (n+1))) uok (j89 (c8 n) h114 h242) mixed (fn:=Tryz.f171) (by kernel_rfl) j56 j5w (d8 j5t).1 (d8 j5t).2 (λ_=>rfl) (j95 (c8 n)),a2m (fe:=j19 (c8 (n+1))) uok (j85 (c8 n) h114) mixed (fn:=Tryz.f242) (by kernel_rfl) j7d j5f (d8 j77).1 (d8 j77).2 (λ_=>rfl) (j90 (c8 n))⟩
def h4g:Kn Tryz.prog VV:=⟨114,j8i,knS rfl ⟨(a7d FU).1,λ_ _=>by kernel_rfl⟩⟩
def K70:=mk 70 Tryz.f70 ⟨[.io 110 .yi,.im 70 .y8 [(2,2),(3,3),(4,4),(5,5),(6,6)],.po 1 2 208 .zj,.po 1 3 210 .zo,.po 1 4 212 .zq,.po 1 5 84 .zn,.po 1 6 215 .zv],[]⟩ (λx=>a39 x.1 x.2.1 x.2.2.1 x.2.2.2.1 x.2.2.2.2.1 x.2.2.2.2.2.1 x.2.2.2.2.2.2.1) (λb=>((),(b.1,(b.2.1,(b.2.2.1,(b.2.2.2.1,(b.2.2.2.2.1,(b.2.2.2.2.2.1,(b.2.2.2.2.2.2,()))))))))) (λp=>(p.2.1,p.2.2.1,p.2.2.2.1,p.2.2.2.2.1,p.2.2.2.2.2.1,p.2.2.2.2.2.2.1,p.2.2.2.2.2.2.2.1)) (.s (.s .n (.s (.s .n (.j [] [.bx 0 0 110 .yi,.of 1 2 7 208 .zj,.of 1 3 8 210 .zo,.of 1 4 9 212 .zq,.of 1 5 10 84 .zn,.of 1 6 11 215 .zv,.bm 1 1 70 .y8 [(2,7),(3,8),(4,9),(5,10),(6,11)],.bx 4 12 208 .zj] .n .n)) (.s .n (.s (.s .n (.j [] [.bx 0 0 110 .yi,.of 1 2 7 208 .zj,.of 1 3 8 210 .zo,.of 1 4 9 212 .zq,.of 1 5 10 84 .zn,.of 1 6 11 215 .zv,.bm 1 1 70 .y8 [(2,7),(3,8),(4,9),(5,10),(6,11)],.bx 6 12 210 .zo] .n (.j [] [.bx 0 0 110 .yi,.of 1 2 7 208 .zj,.of 1 3 8 210 .zo,.of 1 4 9 212 .zq,.of 1 5 10 84 .zn,.of 1 6 11 215 .zv,.bm 1 1 70 .y8 [(2,7),(3,8),(4,9),(5,10),(6,11)],.bx 6 12 210 .zo] .n .n))) .n)))) .n) [K34,K35,K36,K37,K63,K64,K66,K69,h4g]
def K38:=mk 38 Tryz.f38 ⟨[.io 110 .yi],[.v .y8]⟩ (cur1 a2o) (λb=>((b.1,()),(b.2,()))) (λp=>(p.1.1,p.2.1)) (sk 3 (.j [] [.bx 0 0 110 .yi,.of 2 2 2 208 .zj,.of 2 3 3 210 .zo,.of 2 4 4 212 .zq,.of 2 5 5 84 .zn,.of 2 6 6 215 .zv,.bm 2 1 70 .y8 [(2,2),(3,3),(4,4),(5,5),(6,6)],.of 3 2 8 208 .zj,.of 3 3 9 210 .zo,.of 3 4 10 212 .zq,.of 3 5 11 84 .zn,.of 3 6 12 215 .zv,.bm 3 7 70 .y8 [(2,8),(3,9),(4,10),(5,11),(6,12)]] .n (.s .n (.s .n (.s .n (.s .n (.s .n (.s (.l [] [] [.bx 0 0 110 .yi,.of 2 2 2 208 .zj,.of 2 3 3 210 .zo,.of 2 4 4 212 .zq,.of 2 5 5 84 .zn,.of 2 6 6 215 .zv,.bm 2 1 70 .y8 [(2,2),(3,3),(4,4),(5,5),(6,6)],.of 3 2 8 208 .zj,.of 3 3 9 210 .zo,.of 3 4 10 212 .zq,.of 3 5 11 84 .zn,.of 3 6 12 215 .zv,.bm 3 7 70 .y8 [(2,8),(3,9),(4,10),(5,11),(6,12)]] (.s (.s (.g [5]) .n) .n)) .n)))))))) [K34,K36,K37,K63,K64,K68,K69,K70]
def K39:=mk 39 Tryz.f39 ⟨[.rp 110 .yi],[.v .z9]⟩ (cur1 a3s) w1 u1 .n []
def K115:=mk 115 Tryz.f115 ⟨[.v .z9],[.v .z8]⟩ (cur1 a6n) w1 u1 .n []
def K116:=mk 116 Tryz.f116 ⟨[.v .zx],[.v .z8]⟩ (cur1 a3c) w1 u1 .n []
def K117:=mk 117 Tryz.f117 ⟨[.v .z9,.v .z9],[.v .yl]⟩ (cur2 a3t) w1 u1 (sk 2 (.s (.s .n (.l [0,1] [] [.ow 5 2 9 .yl,.v 6 .z9] .n)) .n)) [K111,K112,h2a]
def K173:=mk 173 Tryz.f173 ⟨[.v .zm],[.v .z8]⟩ (cur1 a1h) w1 u1 .n [k1y,K239]
def K245:=mk 245 Tryz.f245 ⟨[.v .z9,.v .z9],[.v .yl]⟩ (cur2 a5w) w1 u1 (sk 2 (.s (.l [1] [] [.v 0 .z9,.v 5 .yl] .n) .n)) []
def K174:=mk 174 Tryz.f174 ⟨[.v .zm],[.v .yl]⟩ (cur1 a2n) w1 u1 (sk 3 (.j [] [.bx 1 1 59 .zm,.v 3 .yl] .n .n)) [k1y,K173,K245]
def g25:=mk 118 Tryz.f118 ⟨[.v .zm,.v .z9],[.v .yl,.v .z8]⟩ (cur2 a1g) w2 u2 (sk 6 (.j [] [.v 1 .z9,.v 7 .yl,.v 8 .z9] .n (.s (.s .n (.l [1] [] [.v 7 .yl,.v 8 .z9,.v 9 .z9] .n)) .n))) [K173,K174]
def i9t:Sig VV:=⟨[.v .zl],[.v .z9]⟩
def i94(R:Ring_pensionref5_Depth):Fent VV:=⟨i9t,Int,λx=>R.f_pensionref5_Depth x.1,λb=>((b,()),()),none⟩
def k0n:Fent VV:=i94 (s5 FU)
def j52:Ress VV i9t.rs×Outs VV i9t.ps->Int:=λp=>p.1.1
def j51:Ann VV.C:=(.s .n (.s .n (.s (.s .n (.l [] [] [.bx 1 1 82 .zl,.v 3 .z9,.v 4 .z9] .n)) .n)))
def j76(R:Ring_pensionref5_Depth):Phi VV:=λf ys=>lkF f ys [(175,i94 R)]
def j7s(R:Ring_pensionref5_Depth)(hr175:SX.Spec Tryz.prog 175 (i94 R)):OKΦ Tryz.prog (j76 R):=okl ⟨knS rfl ⟨hr175,λ_ _=>by kernel_rfl⟩,trivial⟩
def j8w(R:Ring_pensionref5_Depth):∀x,c5v Tryz.prog (j76 R) i9t j52 Tryz.f175 j51 x=a7r R x.1:=λx=>by kernel_rfl
def j6z:c67 Tryz.f175 i9t=true:=by kernel_rfl
def b0v:∀n,SX.Spec Tryz.prog 175 (i94 (s5 n))|0=>(λ_ _ h=>(by cases(show none=some _ from h)))|n+1=>let h175:=b0v n;a2m (fe:=i94 (s5 (n+1))) uok (j7s (s5 n) h175) mixed (fn:=Tryz.f175) (by kernel_rfl) j52 j51 (d8 j6z).1 (d8 j6z).2 (λ_=>rfl) (j8w (s5 n))
def K175:Kn Tryz.prog VV:=⟨175,k0n,knS rfl ⟨(b0v FU),λ_ _=>by kernel_rfl⟩⟩
def i9f:Sig VV:=⟨[.v .zl],[.v .z9]⟩
def j04(R:Ring_pensionref5_Size):Fent VV:=⟨i9f,Int,λx=>R.f_pensionref5_Size x.1,λb=>((b,()),()),none⟩
def j8t:Fent VV:=j04 (u7 FU)
def j5v:Ress VV i9f.rs×Outs VV i9f.ps->Int:=λp=>p.1.1
def j5j:Ann VV.C:=(.s .n (.s .n (.s (.s .n (.l [] [] [.bx 1 1 82 .zl,.v 3 .z9,.v 4 .z9] .n)) .n)))
def j6n(R:Ring_pensionref5_Size):Phi VV:=λf ys=>lkF f ys [(176,j04 R)]
def j86(R:Ring_pensionref5_Size)(hr176:SX.Spec Tryz.prog 176 (j04 R)):OKΦ Tryz.prog (j6n R):=okl ⟨knS rfl ⟨hr176,λ_ _=>by kernel_rfl⟩,trivial⟩
def j9x(R:Ring_pensionref5_Size):∀x,c5v Tryz.prog (j6n R) i9f j5v Tryz.f176 j5j x=a94 R x.1:=λx=>by kernel_rfl
def j6x:c67 Tryz.f176 i9f=true:=by kernel_rfl
def b1w:∀n,SX.Spec Tryz.prog 176 (j04 (u7 n))|0=>(λ_ _ h=>(by cases(show none=some _ from h)))|n+1=>let h176:=b1w n;a2m (fe:=j04 (u7 (n+1))) uok (j86 (u7 n) h176) mixed (fn:=Tryz.f176) (by kernel_rfl) j5v j5j (d8 j6x).1 (d8 j6x).2 (λ_=>rfl) (j9x (u7 n))
def K176:Kn Tryz.prog VV:=⟨176,j8t,knS rfl ⟨(b1w FU),λ_ _=>by kernel_rfl⟩⟩
def i9e:Sig VV:=⟨[.v .zl],[.v .z8]⟩
def i99(R:Ring_pensionref5_formed):Fent VV:=⟨i9e,Bool,λx=>R.f_pensionref5_formed x.1,λb=>((b,()),()),none⟩
def k01:Fent VV:=i99 (p7 FU)
def j5h:Ress VV i9e.rs×Outs VV i9e.ps->Bool:=λp=>p.1.1
def j6d:Ann VV.C:=(.s .n (.s .n (.s .n (.s .n (.s (.s .n (.l [3] [] [.bx 1 1 82 .zl,.v 6 .z9] .n)) .n)))))
def j72(R:Ring_pensionref5_formed):Phi VV:=λf ys=>lkF f ys [K65.e,g25.e,(177,i99 R),k0x.e]
def j8b(R:Ring_pensionref5_formed)(hr177:SX.Spec Tryz.prog 177 (i99 R)):OKΦ Tryz.prog (j72 R):=okl ⟨K65.ok,g25.ok,knS rfl ⟨hr177,λ_ _=>by kernel_rfl⟩,k0x.ok,trivial⟩
def k09(R:Ring_pensionref5_formed):∀x,c5v Tryz.prog (j72 R) i9e j5h Tryz.f177 j6d x=a6s R x.1:=λx=>by kernel_rfl
def j5q:c67 Tryz.f177 i9e=true:=by kernel_rfl
def b0n:∀n,SX.Spec Tryz.prog 177 (i99 (p7 n))|0=>(λ_ _ h=>(by cases(show none=some _ from h)))|n+1=>let h177:=b0n n;a2m (fe:=i99 (p7 (n+1))) uok (j8b (p7 n) h177) mixed (fn:=Tryz.f177) (by kernel_rfl) j5h j6d (d8 j5q).1 (d8 j5q).2 (λ_=>rfl) (k09 (p7 n))
def K177:Kn Tryz.prog VV:=⟨177,k01,knS rfl ⟨(b0n FU),λ_ _=>by kernel_rfl⟩⟩
def K119:=mk 119 Tryz.f119 ⟨[.v .zl],[.v .z8]⟩ (cur1 a0g) w1 u1 .n [K175,K176,K177]
def K71:=mk 71 Tryz.f71 ⟨[.v .y8],[.v .z8]⟩ (cur1 a3n) w1 u1 (sk 2 (.s (.s .n (.l [] [] [.bx 1 1 70 .y8,.v 3 .z9] .n)) (.s (.s .n (.l [] [] [.bx 1 1 70 .y8,.v 4 .z9] .n)) (.s (.s .n (.l [] [] [.bx 1 1 70 .y8,.v 7 .z9] .n)) (.s (.s .n (.l [] [] [.bx 1 1 70 .y8,.v 8 .z9] .n)) (.s (.s .n (.l [] [] [.bx 1 1 70 .y8,.v 9 .z9] .n)) .n)))))) [K65,K115,K116,K117,g25,K119]
def K40:=mk 40 Tryz.f40 ⟨[.v .y3],[.v .z8]⟩ (cur1 b00) w1 u1 (sk 2 (.s (.s .n (.l [] [] [.bx 1 1 55 .y3,.v 3 .z9] .n)) .n)) [K65,K71]
def K25:=mk 25 Tryz.f25 ⟨[.v .yl],[.v .y3,.v .z9,.v .z9]⟩ (cur1 a9z) w3 u3 (sk 8 (.j [] [.of 2 2 2 70 .y8,.bm 2 1 55 .y3 [(2,2)],.bx 5 3 110 .yi,.of 8 2 5 70 .y8,.bm 8 4 55 .y3 [(2,5)]] (.s .n (.l [] [] [.of 2 2 2 70 .y8,.bm 2 1 55 .y3 [(2,2)],.bx 5 3 110 .yi,.of 8 2 5 70 .y8,.bm 8 4 55 .y3 [(2,5)],.v 9 .z8] (.j [] [.of 2 2 2 70 .y8,.bm 2 1 55 .y3 [(2,2)],.bx 5 3 110 .yi,.of 8 2 5 70 .y8,.bm 8 4 55 .y3 [(2,5)]] (.s (.g [5,7]) .n) .n))) .n)) [K33,K34,K35,K36,K37,K38,K39,K40]
def K14:=mk 14 Tryz.f14 ⟨[.ls .z9],[.v .zp]⟩ (cur1 b11) w1 u1 (sk 2 (.s (.s .n (.l [0] [] [.of 2 0 2 57 .y2,.of 2 1 3 79 .zy,.of 2 2 4 61 .zu,.bm 2 1 28 .zp [(0,2),(1,3),(2,4)],.of 3 0 6 57 .y2,.of 3 1 7 79 .zy,.bm 3 5 28 .zp [(0,6),(1,7)],.v 4 .z9] .n)) .n)) [K15,K18,K25,K26]
def K6:=mk 6 Tryz.f6 ⟨[.v .z9,.v .z9],[.v .z9]⟩ (cur2 a40) w1 u1 .n []
def K4:=mk 4 Tryz.f4 ⟨[.ls .z9,.v .z9],[.v .zp]⟩ (cur2 b3p) w1 u1 .n [K6,K14]
def K5:=mk 5 Tryz.f5 ⟨[.v .z9],[.v .z9]⟩ (cur1 b5f) w1 u1 .n [K6]
def K16:=mk 16 Tryz.f16 ⟨[.v .z9],[.v .z9]⟩ (cur1 a97) w1 u1 .n [K15]
def K17:=mk 17 Tryz.f17 ⟨[.v .z9],[.v .yl]⟩ (cur1 u4) w1 u1 .n []
def K7:=mk 7 Tryz.f7 ⟨[.v .yg],[.v .ya]⟩ (cur1 b1b) w1 u1 (sk 5 (.j [] [.bx 1 1 34 .yg,.bx 2 2 38 .ya,.bx 3 3 38 .ya,.v 4 .z9,.v 5 .z9] .n (.s .n (.s (.s .n (.l [4,5,6] [] [.bx 1 1 34 .yg,.bx 2 2 38 .ya,.bx 3 3 38 .ya,.v 7 .z9] .n)) .n)))) [K15,K16,K17]
def K9:=mk 9 Tryz.f9 ⟨[.ls .z9],[.ow 38 .ya]⟩ (cur1 b04) w1 u1 (sk 2 (.s (.s .n (.l [0] [] [.ow 3 1 38 .ya,.v 4 .z9] .n)) .n)) [K15,K18]
def K8:=mk 8 Tryz.f8 ⟨[.ls .ya,.v .z9],[.ow 38 .ya]⟩ (cur2 b2c) w1 u1 (sk 2 (.s (.s .n (.l [0,1] [] [.ow 5 2 38 .ya,.v 6 .z9] .n)) .n)) []
def K43:=mk 43 Tryz.f43 ⟨[.v .z9],[.v .yl]⟩ (cur1 b2r) w1 u1 (.s .n (.s (.s .n (.s .n (.s .n (.j [] [.v 3 .z9,.v 6 .z8] .n (.s .n (.s .n (.s .n (.j [] [.v 3 .z9,.v 11 .z8] .n (.s .n (.s .n (.s .n (.s .n (.s .n (.j [] [.v 3 .z9,.v 20 .z8] .n .n)))))))))))))) .n)) []
def K178:=mk 178 Tryz.f178 ⟨[.v .yl,.v .yo],[.v .z9]⟩ (cur2 a9d) w1 u1 .n [K247]
def K248:=mk 248 Tryz.f248 ⟨[.v .yl],[.v .ym,.v .ym]⟩ (cur1 b0t) w2 u2 (sk 2 (.s (.s .n (.l [0] [] [.v 4 .ym,.v 5 .z9] .n)) (.s .n (.s (.s .n (.l [4] [] [.v 6 .ym,.v 7 .ym,.v 8 .z9] .n)) .n)))) []
def K181:=mk 181 Tryz.f181 ⟨[.v .yl,.v .yl],[.v .z9]⟩ (cur2 b36) w1 u1 (sk 4 (.s (.s .n (.l [0,1,5,6,7] [] [.v 8 .ym,.v 9 .z9] .n)) (.s .n (.s (.s .n (.l [0,1,5,6,7] [] [.v 8 .ym,.v 10 .z9] .n)) .n)))) [K248]
def K120:=mk 120 Tryz.f120 ⟨[.v .yl,.v .yl],[.v .z9]⟩ (cur2 a6y) w1 u1 .n [K178]
def K73:=mk 73 Tryz.f73 ⟨[.v .yl,.v .yl],[.v .z9]⟩ (cur2 c3y) w1 u1 .n [K120]
def K45:=mk 45 Tryz.f45 ⟨[.v .yl,.v .yl],[.v .z8]⟩ (cur2 c0c) w1 u1 .n [K73]
def K44:=mk 44 Tryz.f44 ⟨[.v .yl,.rp 9 .yl],[.v .z8]⟩ (cur2 p9) w1 u1 .n [K45]
def K46:=mk 46 Tryz.f46 ⟨[.v .z9,.v .z9,.v .z9],[.v .z8]⟩ (cur3 a9w) w1 u1 .n []
def K47:=mk 47 Tryz.f47 ⟨[.v .z8,.v .z9,.v .z9,.v .z9],[.v .z8]⟩ (cur4 b0d) w1 u1 .n [K46]
def K48:=mk 48 Tryz.f48 ⟨[.v .y1],[.v .z8]⟩ (cur1 b8g) w1 u1 .n []
def K27:=mk 27 Tryz.f27 ⟨[.v .ya],[.v .z8]⟩ (cur1 b3k) w1 u1 (sk 4 (.s (.s .n (.s .n (.s .n (.j [] [.bx 1 1 38 .ya,.v 89 .z9,.v 97 .z8] .n (.s .n (.j [] [.bx 1 1 38 .ya,.v 108 .z8] .n .n)))))) .n)) [K43,K44,K46,K47,K48]
def K49:=mk 49 Tryz.f49 ⟨[.v .z9],[.v .z8]⟩ (cur1 b1d) w1 u1 .n []
def K29:=mk 29 Tryz.f29 ⟨[.v .z9,.v .z9],[.v .z9]⟩ (cur2 a2c) w1 u1 .n [K49]
def K28:=mk 28 Tryz.f28 ⟨[.ls .z9],[.v .z9]⟩ (cur1 b67) w1 u1 (sk 2 (.s (.s .n (.l [3,6,7] [] [.v 8 .z9] .n)) .n)) []
def K21:=mk 21 Tryz.f21 ⟨[.v .ya,.v .ya],[.v .z9]⟩ (cur2 i4q) w1 u1 .n [K28,K29]
def K75:=mk 75 Tryz.f75 ⟨[.ow 5 .yo,.v .z9,.ls .z9],[.ow 5 .yo]⟩ (cur3 i3x) w1 u1 (.s .n (.s (.s .n (.l [1,10,11] [] [.ow 0 3 5 .yo,.v 12 .z9] (.s .n (.s .n (.s (.s .n (.s .n (.l [1,8,10,11,12] [] [.ow 0 3 5 .yo,.v 9 .z9] .n))) .n))))) .n)) []
def K51:=mk 51 Tryz.f51 ⟨[.v .ya],[.ow 5 .yo]⟩ (cur1 i5l) w1 u1 (sk 3 (.j [] [.bx 1 1 38 .ya,.v 3 .z9] .n (.s .n (.s .n (.s .n (.s (.s .n (.l [] [] [.bx 1 1 38 .ya,.ow 4 2 5 .yo,.it 34 3] .n)) .n)))))) [K27,K43,K75]
def K50:=mk 50 Tryz.f50 ⟨[.ls .yo,.ls .yo],[.v .z9]⟩ (cur2 i5n) w1 u1 .n [K74]
def K30:=mk 30 Tryz.f30 ⟨[.v .ya,.v .ya],[.v .z8]⟩ (cur2 i6i) w1 u1 .n [K27,K50,K51]
def K22:=mk 22 Tryz.f22 ⟨[.v .ya,.v .ya],[.v .ya]⟩ (cur2 i52) w1 u1 .n [K30]
def i9d:=mk 19 Tryz.f19 ⟨[.ls .ya,.ls .ya,.cl 21 [],.cl 22 []],[.ow 38 .ya]⟩ (λx=>i3v x.1 x.2.1) w1 u1 (sk 2 (.s (.l [2,3] [] [.ls 0 .ya,.ls 1 .ya,.ow 9 4 38 .ya] .n) .n)) [K21,K22]
def K20:=mk 20 Tryz.f20 ⟨[.ls .ya],[.ow 38 .ya]⟩ (cur1 i4i) w1 u1 (sk 2 (.s (.s .n (.l [6,7] [] [.ow 3 1 38 .ya,.v 8 .z9] .n)) .n)) [i9d,K27]
def K10:=mk 10 Tryz.f10 ⟨[.ls .ya,.ls .ya],[.ow 38 .ya]⟩ (cur2 i4d) w1 u1 .n [i9d,K20]
def K309:=mk 309 Tryz.f309 ⟨[.v .yo],[.v .z8]⟩ (cur1 b6l) w1 u1 .n []
def K367:=mk 367 Tryz.f367 ⟨[.v .yo],[.v .z8]⟩ (cur1 b74) w1 u1 .n []
def K310:=mk 310 Tryz.f310 ⟨[.v .yo],[.v .z8]⟩ (cur1 c1b) w1 u1 .n [K309,K367]
def h3t:=mk 249 Tryz.f249 ⟨[.v .yl],[.v .z8]⟩ (cur1 b7f) w1 u1 (sk 2 (.s (.s .n (.l [0] [] [.v 3 .z9] .n)) .n)) [K309,K310]
def K250:=mk 250 Tryz.f250 ⟨[.v .yl],[.v .z8]⟩ (cur1 b49) w1 u1 .n []
def k1s:=mk 182 Tryz.f182 ⟨[.v .yl],[.v .z8]⟩ (cur1 b0e) w1 u1 .n [h3t,K250]
def K79:=mk 79 Tryz.f79 ⟨[.v .z9],[.v .z8]⟩ (cur1 m7) w1 u1 .n []
def K252:=mk 252 Tryz.f252 ⟨[],[.ow 411 .yk]⟩ (λx=>c0l) w1 u1 .n []
def h3j:=mk 312 Tryz.f312 ⟨[.v .yk,.rp 3 .z9],[.v .z8]⟩ (cur2 b3q) w1 u1 .n []
def j48:=mk 311 Tryz.f311 ⟨[.ls .yk,.cl 312 [.z9]],[.v .z9]⟩ (λx=>a0b x.1 x.2.1.1) w1 u1 (.s .n (.s (.s .n (.l [0,1,7] [] [.v 8 .z9] .n)) .n)) [h3j]
def K251:=mk 251 Tryz.f251 ⟨[.ls .yk,.v .z9],[.v .yl]⟩ (cur2 a4u) w1 u1 .n [j48]
def K253:=mk 253 Tryz.f253 ⟨[],[.ow 411 .yk]⟩ (λx=>c1i) w1 u1 .n []
def K411:=mk 411 Tryz.f411 ⟨[.v .yl,.v .yl],[.v .yl,.v .yl,.v .z8]⟩ (cur2 b72) w3 u3 .n [K120]
def K395:=mk 395 Tryz.f395 ⟨[.v .yl,.v .yl],[.v .yl,.v .yl,.v .z8]⟩ (cur2 b9e) w3 u3 .n [K411]
def K396:=mk 396 Tryz.f396 ⟨[.v .yl],[.v .z9,.v .z8]⟩ (cur1 b2i) w2 u2 (.s .n (.s (.s .n (.l [0] [] [.v 2 .z9,.v 4 .z9] .n)) .n)) [K367]
def K369:=mk 369 Tryz.f369 ⟨[.v .yl],[.v .zm,.v .z9,.v .z8]⟩ (cur1 b69) w3 u3 (sk 2 (.j [] [.v 0 .yl,.bx 2 1 59 .zm,.v 3 .z9] .n (.s .n (.s .n (.s .n (.s .n (.s .n (.s .n (.j [] [.bx 2 1 59 .zm,.v 3 .z9,.v 9 .z9,.v 11 .z9] (.s .n (.l [3,11] [] [.bx 2 1 59 .zm,.v 9 .z9,.it 100 2] .n)) (.s .n (.s (.s .n (.l [3,113] [] [.bx 2 1 59 .zm,.v 114 .z9] (.s .n (.s .n (.s (.s .n (.l [3,14,113,114] [] [.bx 2 1 59 .zm] .n)) .n))))) .n))))))))))) [K395,K396]
def K313:=mk 313 Tryz.f313 ⟨[.v .zm,.v .z9],[.v .yl,.v .z8]⟩ (cur2 a4y) w2 u2 (sk 4 (.s (.s .n (.l [1] [] [.bx 2 2 59 .zm,.v 6 .yl,.v 7 .z9,.v 8 .z9] (.s .n (.s (.j [] [.v 1 .z9,.bx 2 2 59 .zm,.v 6 .yl,.v 7 .z9,.v 8 .z9] .n .n) .n)))) (.j [] [.v 1 .z9,.bx 2 2 59 .zm,.v 6 .yl] .n .n))) [K368,K369]
def K314:=mk 314 Tryz.f314 ⟨[.v .z9],[.v .z8]⟩ (cur1 b59) w1 u1 .n []
def K254:=mk 254 Tryz.f254 ⟨[.v .zo],[.v .z8]⟩ (cur1 b07) w1 u1 .n [K313,K314]
def i97:Sig VV:=⟨[.v .zl],[.v .z9]⟩
def i9v(R:Ring_syntax_Depth):Fent VV:=⟨i97,Int,λx=>R.f_syntax_Depth x.1,λb=>((b,()),()),none⟩
def j9h:Fent VV:=i9v (a0r FU)
def j5i:Ress VV i97.rs×Outs VV i97.ps->Int:=λp=>p.1.1
def j54:Ann VV.C:=(.s .n (.s .n (.s (.s .n (.l [7,8] [] [.v 3 .z9,.v 9 .z9] .n)) .n)))
def j63(R:Ring_syntax_Depth):Phi VV:=λf ys=>lkF f ys [(315,i9v R)]
def j8a(R:Ring_syntax_Depth)(hr315:SX.Spec Tryz.prog 315 (i9v R)):OKΦ Tryz.prog (j63 R):=okl ⟨knS rfl ⟨hr315,λ_ _=>by kernel_rfl⟩,trivial⟩
def k0d(R:Ring_syntax_Depth):∀x,c5v Tryz.prog (j63 R) i97 j5i Tryz.f315 j54 x=b86 R x.1:=λx=>by kernel_rfl
def j5o:c67 Tryz.f315 i97=true:=by kernel_rfl
def b5h:∀n,SX.Spec Tryz.prog 315 (i9v (a0r n))|0=>(λ_ _ h=>(by cases(show none=some _ from h)))|n+1=>let h315:=b5h n;a2m (fe:=i9v (a0r (n+1))) uok (j8a (a0r n) h315) mixed (fn:=Tryz.f315) (by kernel_rfl) j5i j54 (d8 j5o).1 (d8 j5o).2 (λ_=>rfl) (k0d (a0r n))
def K315:Kn Tryz.prog VV:=⟨315,j9h,knS rfl ⟨(b5h FU),λ_ _=>by kernel_rfl⟩⟩
def i9g:Sig VV:=⟨[.v .zl],[.v .z9]⟩
def i9u(R:Ring_syntax_Size):Fent VV:=⟨i9g,Int,λx=>R.f_syntax_Size x.1,λb=>((b,()),()),none⟩
def j98:Fent VV:=i9u (a1j FU)
def j6q:Ress VV i9g.rs×Outs VV i9g.ps->Int:=λp=>p.1.1
def j6h:Ann VV.C:=(.s .n (.s .n (.s (.s .n (.l [7,8] [] [.v 3 .z9,.v 9 .z9] .n)) .n)))
def j5d(R:Ring_syntax_Size):Phi VV:=λf ys=>lkF f ys [(316,i9u R)]
def j7o(R:Ring_syntax_Size)(hr316:SX.Spec Tryz.prog 316 (i9u R)):OKΦ Tryz.prog (j5d R):=okl ⟨knS rfl ⟨hr316,λ_ _=>by kernel_rfl⟩,trivial⟩
def k0c(R:Ring_syntax_Size):∀x,c5v Tryz.prog (j5d R) i9g j6q Tryz.f316 j6h x=b9x R x.1:=λx=>by kernel_rfl
def j5s:c67 Tryz.f316 i9g=true:=by kernel_rfl
def b6s:∀n,SX.Spec Tryz.prog 316 (i9u (a1j n))|0=>(λ_ _ h=>(by cases(show none=some _ from h)))|n+1=>let h316:=b6s n;a2m (fe:=i9u (a1j (n+1))) uok (j7o (a1j n) h316) mixed (fn:=Tryz.f316) (by kernel_rfl) j6q j6h (d8 j5s).1 (d8 j5s).2 (λ_=>rfl) (k0c (a1j n))
def K316:Kn Tryz.prog VV:=⟨316,j98,knS rfl ⟨(b6s FU),λ_ _=>by kernel_rfl⟩⟩
def K397:=mk 397 Tryz.f397 ⟨[.v .z9],[.v .z9]⟩ (cur1 b84) w1 u1 .n []
def K370:=mk 370 Tryz.f370 ⟨[.v .zl],[.v .z8]⟩ (cur1 c05) w1 u1 .n [k1s,K313,K397]
def i9a:Sig VV:=⟨[.v .zl],[.v .z8]⟩
def i9n(R:Ring_syntax_form):Fent VV:=⟨i9a,Bool,λx=>R.f_syntax_form x.1,λb=>((b,()),()),none⟩
def j9k:Fent VV:=i9n (e6 FU)
def j61:Ress VV i9a.rs×Outs VV i9a.ps->Bool:=λp=>p.1.1
def j6a:Ann VV.C:=.n
def j03:Sig VV:=⟨[.v .zl],[.v .z8]⟩
def j0z(R:Ring_syntax_form):Fent VV:=⟨j03,Bool,λx=>R.f_syntax_form_1 x.1,λb=>((b,()),()),none⟩
def j55:Ress VV j03.rs×Outs VV j03.ps->Bool:=λp=>p.1.1
def j5m:Ann VV.C:=.n
def i5k:Sig VV:=⟨[.ls .zl,.cl 371 []],[.v .z8]⟩
def i5w(R:Ring_syntax_form):Fent VV:=⟨i5k,Bool,λx=>R.f_slices_ContainsFunc_of_api_Expr x.1,λb=>((b,()),()),none⟩
def i8l:Ress VV i5k.rs×Outs VV i5k.ps->Bool:=λp=>p.1.1
def i8o:Ann VV.C:=.n
def i5i:Sig VV:=⟨[.ls .zl,.cl 371 []],[.v .z9]⟩
def i61(R:Ring_syntax_form):Fent VV:=⟨i5i,Int,λx=>R.f_slices_IndexFunc_of_api_Expr x.1,λb=>((b,()),()),none⟩
def i8e:Ress VV i5i.rs×Outs VV i5i.ps->Int:=λp=>p.1.1
def i8g:Ann VV.C:=(.s .n (.s (.s .n (.l [0,1,7] [] [.v 8 .z9] .n)) .n))
def j6v(R:Ring_syntax_form):Phi VV:=λf ys=>lkF f ys [(355,i5w R),K370.e]
def j84(R:Ring_syntax_form)(hr355:SX.Spec Tryz.prog 355 (i5w R)):OKΦ Tryz.prog (j6v R):=okl ⟨knS rfl ⟨hr355,λ_ _=>by kernel_rfl⟩,K370.ok,trivial⟩
def j9v(R:Ring_syntax_form):∀x,c5v Tryz.prog (j6v R) i9a j61 Tryz.f317 j6a x=b60 R x.1:=λx=>by kernel_rfl
def j65:c67 Tryz.f317 i9a=true:=by kernel_rfl
def j71(R:Ring_syntax_form):Phi VV:=λf ys=>lkF f ys [(317,i9n R)]
def j7x(R:Ring_syntax_form)(hr317:SX.Spec Tryz.prog 317 (i9n R)):OKΦ Tryz.prog (j71 R):=okl ⟨knS rfl ⟨hr317,λ_ _=>by kernel_rfl⟩,trivial⟩
def j8h(R:Ring_syntax_form):∀x,c5v Tryz.prog (j71 R) j03 j55 Tryz.f371 j5m x=c0q R x.1:=λx=>by kernel_rfl
def j6i:c67 Tryz.f371 j03=true:=by kernel_rfl
def i87(R:Ring_syntax_form):Phi VV:=λf ys=>lkF f ys [(384,i61 R)]
def j0e(R:Ring_syntax_form)(hr384:SX.Spec Tryz.prog 384 (i61 R)):OKΦ Tryz.prog (i87 R):=okl ⟨knS rfl ⟨hr384,λ_ _=>by kernel_rfl⟩,trivial⟩
def j1o(R:Ring_syntax_form):∀x,c5v Tryz.prog (i87 R) i5k i8l Tryz.f355 i8o x=a0y R x.1:=λx=>by kernel_rfl
def i8b:c67 Tryz.f355 i5k=true:=by kernel_rfl
def i8f(R:Ring_syntax_form):Phi VV:=λf ys=>lkF f ys [(371,j0z R)]
def j0c(R:Ring_syntax_form)(hr371:SX.Spec Tryz.prog 371 (j0z R)):OKΦ Tryz.prog (i8f R):=okl ⟨knS rfl ⟨hr371,λ_ _=>by kernel_rfl⟩,trivial⟩
def j1u(R:Ring_syntax_form):∀x,c5v Tryz.prog (i8f R) i5i i8e Tryz.f384 i8g x=a1m R x.1:=λx=>by kernel_rfl
def i8i:c67 Tryz.f384 i5i=true:=by kernel_rfl
def b6p:∀n,SX.Spec Tryz.prog 317 (i9n (e6 n))/\SX.Spec Tryz.prog 371 (j0z (e6 n))/\SX.Spec Tryz.prog 355 (i5w (e6 n))/\SX.Spec Tryz.prog 384 (i61 (e6 n))|0=>⟨(λ_ _ h=>(by cases(show none=some _ from h))),(λ_ _ h=>(by cases(show none=some _ from h))),(λ_ _ h=>(by cases(show none=some _ from h))),(λ_ _ h=>(by cases(show none=some _ from h)))⟩|n+1=>let⟨h317,h371,h355,h384⟩:=b6p n;⟨a2m (fe:=i9n (e6 (n+1))) uok (j84 (e6 n) h355) mixed (fn:=Tryz.f317) (by kernel_rfl) j61 j6a (d8 j65).1 (d8 j65).2 (λ_=>rfl) (j9v (e6 n)),a2m (fe:=j0z (e6 (n+1))) uok (j7x (e6 n) h317) mixed (fn:=Tryz.f371) (by kernel_rfl) j55 j5m (d8 j6i).1 (d8 j6i).2 (λ_=>rfl) (j8h (e6 n)),a2m (fe:=i5w (e6 (n+1))) uok (j0e (e6 n) h384) mixed (fn:=Tryz.f355) (by kernel_rfl) i8l i8o (d8 i8b).1 (d8 i8b).2 (λ_=>rfl) (j1o (e6 n)),a2m (fe:=i61 (e6 (n+1))) uok (j0c (e6 n) h371) mixed (fn:=Tryz.f384) (by kernel_rfl) i8e i8g (d8 i8i).1 (d8 i8i).2 (λ_=>rfl) (j1u (e6 n))⟩
def K317:Kn Tryz.prog VV:=⟨317,j9k,knS rfl ⟨(b6p FU).1,λ_ _=>by kernel_rfl⟩⟩
def k1e:=mk 255 Tryz.f255 ⟨[.v .zl],[.v .z8]⟩ (cur1 a1k) w1 u1 .n [K315,K316,K317]
def K256:=mk 256 Tryz.f256 ⟨[],[.ow 411 .yk]⟩ (λx=>b2d) w1 u1 .n []
def K183:=mk 183 Tryz.f183 ⟨[.v .y8],[.v .z8]⟩ (cur1 a7q) w1 u1 (.s .n (.j [] [.bx 1 1 70 .y8] (.s (.g [4]) .n) (.s .n (.j [] [.bx 1 1 70 .y8] (.s .n (.l [66,67] [] [.bx 1 1 70 .y8,.v 68 .z9] .n)) (.j [] [.bx 1 1 70 .y8] (.s .n (.l [89,90] [] [.bx 1 1 70 .y8,.v 91 .z9] .n)) (.j [] [.bx 1 1 70 .y8] (.s .n (.l [100,101] [] [.bx 1 1 70 .y8,.v 102 .z9] .n)) (.j [] [.bx 1 1 70 .y8] (.s .n (.l [118,119] [] [.bx 1 1 70 .y8,.v 120 .z9] .n)) (.s (.s .n (.l [143,144] [] [.v 145 .z9] .n)) .n)))))))) [K79,k1s,K251,K252,K253,K254,k1e,K256]
def K121:=mk 121 Tryz.f121 ⟨[.v .y3],[.v .z8]⟩ (cur1 b7h) w1 u1 (sk 2 (.s (.s .n (.l [32,33] [] [.v 34 .z9] .n)) .n)) [k1s,K183]
def k20:=mk 257 Tryz.f257 ⟨[.v .yl],[.v .z9,.v .z8]⟩ (cur1 b4n) w2 u2 (.s .n (.s (.s .n (.j [] [.v 4 .yl,.v 5 .z8] .n (.s .n (.j [] [.v 4 .yl,.v 9 .z8] .n .n)))) .n)) []
def K258:=mk 258 Tryz.f258 ⟨[.v .yl],[.v .z8]⟩ (cur1 b9o) w1 u1 .n [k1e]
def K260:=mk 260 Tryz.f260 ⟨[.v .zh,.rp 212 .zq],[.v .z8]⟩ (cur2 b9r) w1 u1 .n []
def K319:=mk 319 Tryz.f319 ⟨[.v .zh],[.v .z8]⟩ (cur1 b42) w1 u1 .n []
def K372:=mkR 372 Tryz.f372 ⟨[.v .yl,.ls .zh],[.v .z9,.v .z8]⟩ (cur2 b6c) w2 u2 (sk 2 (.s (.s .n (.l [] [] [.bx 2 2 9 .yl,.bx 4 3 3 .z9,.bx 5 4 4 .z8] (.s .n .n))) .n)) [k20,K398]
def K373:=mk 373 Tryz.f373 ⟨[.v .z9,.ls .z9],[.v .z9,.v .z8]⟩ (cur2 b9i) w2 u2 (.s .n (.s (.s .n (.j [] [.ls 1 .z9,.v 6 .z9,.v 7 .z8] .n (.s .n (.s .n (.s .n (.j [] [.ls 1 .z9,.v 6 .z9,.v 23 .z8] .n (.s .n (.s .n (.s .n (.s .n (.s .n (.j [] [.ls 1 .z9,.v 6 .z9,.v 96 .z8] .n (.s .n (.j [] [.ls 1 .z9,.v 6 .z9,.v 116 .z8] .n .n)))))))))))))) .n)) []
def i9s:Sig VV:=⟨[.v .zl,.ls .zh],[.v .z9,.v .z9]⟩
def j02(R:Ring_typing_infer):Fent VV:=⟨i9s,Int×Int,λx=>R.f_typing_infer x.1 x.2.1,λb=>((b.1,(b.2,())),()),none⟩
def j8q:Fent VV:=j02 (a0v FU)
def j5c:Ress VV i9s.rs×Outs VV i9s.ps->Int×Int:=λp=>(p.1.1,p.1.2.1)
def j58:Ann VV.C:=(.s .n (.s .n (.s .n (.s (.s .n (.l [1,36,37] [] [.bx 2 2 82 .zl,.ow 8 3 3 .z9,.v 38 .z9] .n)) .n))))
def j6e(R:Ring_typing_infer):Phi VV:=λf ys=>lkF f ys [(320,j02 R),K372.e,K373.e]
def j7z(R:Ring_typing_infer)(hr320:SX.Spec Tryz.prog 320 (j02 R)):OKΦ Tryz.prog (j6e R):=okl ⟨knS rfl ⟨hr320,λ_ _=>by kernel_rfl⟩,K372.ok,K373.ok,trivial⟩
def j8x(R:Ring_typing_infer):∀x,c5v Tryz.prog (j6e R) i9s j5c Tryz.f320 j58 x=b4g R x.1 x.2.1:=λx=>by kernel_rfl
def j5g:c67 Tryz.f320 i9s=true:=by kernel_rfl
def b5q:∀n,SX.Spec Tryz.prog 320 (j02 (a0v n))|0=>(λ_ _ h=>(by cases(show none=some _ from h)))|n+1=>let h320:=b5q n;a2m (fe:=j02 (a0v (n+1))) uok (j7z (a0v n) h320) mixed (fn:=Tryz.f320) (by kernel_rfl) j5c j58 (d8 j5g).1 (d8 j5g).2 (λ_=>rfl) (j8x (a0v n))
def K320:Kn Tryz.prog VV:=⟨320,j8q,knS rfl ⟨(b5q FU),λ_ _=>by kernel_rfl⟩⟩
def f4b:=mk 318 Tryz.f318 ⟨[.ls .zh,.cl 319 []],[.v .z9]⟩ (λx=>a19 x.1) w1 u1 (.s .n (.s (.s .n (.l [0,1,7] [] [.v 8 .z9] .n)) .n)) [K319]
def j4j:=mk 259 Tryz.f259 ⟨[.ls .zh,.cl 319 []],[.v .z8]⟩ (λx=>a0i x.1) w1 u1 .n [f4b]
def K261:=mk 261 Tryz.f261 ⟨[.v .zl,.ls .zh],[.v .z9,.v .z9]⟩ (cur2 b4y) w2 u2 .n [k1e,j4j,K320]
def j3y:=mk 318 Tryz.f318 ⟨[.ls .zh,.cl 260 [.zq]],[.v .z9]⟩ (λx=>a1e x.1 x.2.1.1) w1 u1 (.s .n (.s (.s .n (.l [0,1,7] [] [.v 8 .z9] .n)) .n)) [K260]
def j4z:=mk 259 Tryz.f259 ⟨[.ls .zh,.cl 260 [.zq]],[.v .z8]⟩ (λx=>a0q x.1 x.2.1.1) w1 u1 .n [j3y]
def K184:=mk 184 Tryz.f184 ⟨[.ls .zq],[.ow 364 .zh,.v .z9]⟩ (cur1 b9n) w2 u2 (sk 3 (.s (.s .n (.l [14,15] [] [.ow 4 1 364 .zh,.v 16 .z9] .n)) .n)) [k20,K258,j4z,K261]
def K186:=mk 186 Tryz.f186 ⟨[.v .zj,.rp 208 .zj],[.v .z8]⟩ (cur2 b5a) w1 u1 .n []
def h1z:=mk 188 Tryz.f188 ⟨[.v .zn,.rp 84 .zn],[.v .z8]⟩ (cur2 b57) w1 u1 .n []
def K189:=mk 189 Tryz.f189 ⟨[.v .zl,.ls .zh,.v .z9],[.v .z9]⟩ (cur3 b8w) w1 u1 .n [K261]
def K191:=mk 191 Tryz.f191 ⟨[.v .zv,.rp 215 .zv],[.v .z8]⟩ (cur2 b5b) w1 u1 .n []
def j4d:=mk 262 Tryz.f262 ⟨[.ls .zj,.cl 186 [.zj]],[.v .z9]⟩ (λx=>a13 x.1 x.2.1.1) w1 u1 (.s .n (.s (.s .n (.l [0,1,7] [] [.v 8 .z9] .n)) .n)) [K186]
def j4n:=mk 185 Tryz.f185 ⟨[.ls .zj,.cl 186 [.zj]],[.v .z8]⟩ (λx=>a0e x.1 x.2.1.1) w1 u1 .n [j4d]
def j4o:=mk 155 Tryz.f155 ⟨[.ls .zn,.cl 188 [.zn]],[.v .z9]⟩ (λx=>a15 x.1 x.2.1.1) w1 u1 (.s .n (.s (.s .n (.l [0,1,7] [] [.v 8 .z9] .n)) .n)) [h1z]
def j4g:=mk 187 Tryz.f187 ⟨[.ls .zn,.cl 188 [.zn]],[.v .z8]⟩ (λx=>a0h x.1 x.2.1.1) w1 u1 .n [j4o]
def j4k:=mk 263 Tryz.f263 ⟨[.ls .zv,.cl 191 [.zv]],[.v .z9]⟩ (λx=>a0x x.1 x.2.1.1) w1 u1 (.s .n (.s (.s .n (.l [0,1,7] [] [.v 8 .z9] .n)) .n)) [K191]
def j47:=mk 190 Tryz.f190 ⟨[.ls .zv,.cl 191 [.zv]],[.v .z8]⟩ (λx=>a0d x.1 x.2.1.1) w1 u1 .n [j4k]
def K122:=mk 122 Tryz.f122 ⟨[.v .y8],[.v .z9]⟩ (cur1 b0q) w1 u1 (sk 3 (.s (.s .n (.l [26,27] [] [.bx 1 1 70 .y8,.ow 3 2 364 .zh,.v 28 .z9] .n)) (.s (.s .n (.l [41,42] [] [.bx 1 1 70 .y8,.ow 3 2 364 .zh,.v 43 .z9] .n)) (.s (.s .n (.l [64,65] [] [.bx 1 1 70 .y8,.ow 3 2 364 .zh,.v 66 .z9] .n)) (.s (.s .n (.l [93,94] [] [.bx 1 1 70 .y8,.ow 3 2 364 .zh,.v 95 .z9] .n)) .n))))) [K184,j4n,j4g,K189,j47]
def K76:=mk 76 Tryz.f76 ⟨[.v .y3],[.v .z9,.v .z9]⟩ (cur1 b4b) w2 u2 (sk 2 (.s (.s .n (.l [11,12] [] [.bx 1 1 55 .y3,.v 13 .z9] .n)) .n)) [K121,K122]
def K192:=mk 192 Tryz.f192 ⟨[.v .z9,.v .z9],[.v .z8]⟩ (cur2 a7u) w1 u1 .n []
def K123:=mk 123 Tryz.f123 ⟨[.v .zy],[.v .z8]⟩ (cur1 a5x) w1 u1 (sk 2 (.s (.s .n (.l [28,29] [] [.bx 1 1 79 .zy,.v 30 .z9] .n)) .n)) [K79,K192]
def K77:=mk 77 Tryz.f77 ⟨[.ls .zy],[.v .z9]⟩ (cur1 a9n) w1 u1 (sk 3 (.s (.s .n (.l [0,18,19] [] [.v 20 .z9] .n)) .n)) [K123]
def K124:=mk 124 Tryz.f124 ⟨[.v .z9],[.v .z8]⟩ (cur1 a8n) w1 u1 .n []
def K264:=mk 264 Tryz.f264 ⟨[.v .z9],[.v .z8]⟩ (cur1 b1k) w1 u1 .n []
def k25:=mk 217 Tryz.f217 ⟨[.v .z9],[.v .z8]⟩ (cur1 a7l) w1 u1 .n []
def k22:=mk 141 Tryz.f141 ⟨[.v .z9,.v .z9],[.v .z9]⟩ (cur2 a05) w1 u1 .n [k25]
def K193:=mk 193 Tryz.f193 ⟨[.v .z9],[.v .z9]⟩ (cur1 a90) w1 u1 .n [k22,K264]
def f3f:=mk 125 Tryz.f125 ⟨[.v .z9],[.v .z8]⟩ (cur1 b9g) w1 u1 .n [K193]
def j8f:=mk 160 Tryz.f160 ⟨[.v .z9],[.v .yn]⟩ (cur1 j5) w1 u1 .n []
def k0z:=mk 159 Tryz.f159 ⟨[.v .yn,.v .yn],[.v .yn]⟩ (cur2 a7g) w1 u1 (.s .n (.s (.l [] [] [.v 0 .yn,.v 1 .yn] .n) .n)) []
def j39:=mk 100 Tryz.f100 ⟨[.v .zm],[.v .z8]⟩ (cur1 o7) w1 u1 .n [k0z,j8f]
def K126:=mk 126 Tryz.f126 ⟨[.v .z9],[.v .z8]⟩ (cur1 b9l) w1 u1 .n []
def K78:=mk 78 Tryz.f78 ⟨[.ls .zu],[.v .z9]⟩ (cur1 a5r) w1 u1 (sk 2 (.s (.s .n (.l [0,8,9] [] [.v 10 .z9] .n)) .n)) [j39,K124,f3f,K126]
def K52:=mk 52 Tryz.f52 ⟨[.v .zp],[.v .z9]⟩ (cur1 c02) w1 u1 (.s .n (.s (.s .n (.l [11,12] [] [.bx 1 1 28 .zp,.v 13 .z9] .n)) (.s (.s .n (.l [44,45] [] [.bx 1 1 28 .zp,.v 46 .z9] .n)) .n))) [K76,K77,K78]
def K53:=mkR 53 Tryz.f53 ⟨[.ls .zy,.v .z9],[.v .zy,.v .z8]⟩ (cur2 b2q) w2 u2 (sk 2 (.s (.s .n (.l [] [] [.bx 3 2 3 .z9,.bx 4 3 79 .zy,.bx 5 4 4 .z8] (.s .n .n))) .n)) [K79,K80,K81]
def K31:=mk 31 Tryz.f31 ⟨[.v .zp,.v .z9],[.v .yb,.v .z9]⟩ (cur2 b8v) w2 u2 .n [K52,K53]
def K82:=mk 82 Tryz.f82 ⟨[.v .yb,.v .z9],[.v .y3,.v .z8]⟩ (cur2 a7y) w2 u2 (.s .n (.s (.s .n (.l [1,10,11] [] [.of 4 2 3 70 .y8,.bm 4 2 55 .y3 [(2,3)],.v 12 .z9] .n)) .n)) []
def i98:Sig VV:=⟨[.v .zl],[.v .zl]⟩
def i9j(R:Ring_statute_cloneExpr):Fent VV:=⟨i98,Expr,λx=>R.f_statute_cloneExpr x.1,λb=>((b,()),()),none⟩
def h02:Fent VV:=i9j (s4 FU)
def j53:Ress VV i98.rs×Outs VV i98.ps->Expr:=λp=>p.1.1
def j7e:Ann VV.C:=(.s .n (.s .n (.s (.g [3001]) (.s (.s .n (.l [9,10] [] [.of 1 4 2 82 .zl,.bm 1 1 82 .zl [(4,2)],.of 2 4 4 82 .zl,.bm 2 3 82 .zl [(4,4)],.v 11 .z9] (.s .n (.s .n (.s (.s .n (.g [3007])) .n))))) .n))))
def j6j(R:Ring_statute_cloneExpr):Phi VV:=λf ys=>lkF f ys [(200,i9j R)]
def j7j(R:Ring_statute_cloneExpr)(hr200:SX.Spec Tryz.prog 200 (i9j R)):OKΦ Tryz.prog (j6j R):=okl ⟨knS rfl ⟨hr200,λ_ _=>by kernel_rfl⟩,trivial⟩
def k0m(R:Ring_statute_cloneExpr):∀x,c5v Tryz.prog (j6j R) i98 j53 Tryz.f200 j7e x=a7s R x.1:=λx=>by kernel_rfl
def j78:c67 Tryz.f200 i98=true:=by kernel_rfl
def b0u:∀n,SX.Spec Tryz.prog 200 (i9j (s4 n))|0=>(λ_ _ h=>(by cases(show none=some _ from h)))|n+1=>let h200:=b0u n;a2m (fe:=i9j (s4 (n+1))) uok (j7j (s4 n) h200) mixed (fn:=Tryz.f200) (by kernel_rfl) j53 j7e (d8 j78).1 (d8 j78).2 (λ_=>rfl) (k0m (s4 n))
def K200:Kn Tryz.prog VV:=⟨200,h02,knS rfl ⟨(b0u FU),λ_ _=>by kernel_rfl⟩⟩
def K129:=mk 129 Tryz.f129 ⟨[.v .y8],[.v .y8]⟩ (cur1 a6r) w1 u1 (.s .n (.s (.g [3007,3009]) (.s (.g [3010,3012,3014]) (.s (.s .n (.l [28] [] [.of 1 2 2 208 .zj,.of 1 3 3 210 .zo,.of 1 4 4 212 .zq,.of 1 5 5 84 .zn,.of 1 6 6 215 .zv,.bm 1 1 70 .y8 [(2,2),(3,3),(4,4),(5,5),(6,6)],.of 2 2 8 208 .zj,.of 2 3 9 210 .zo,.of 2 4 10 212 .zq,.of 2 5 11 84 .zn,.of 2 6 12 215 .zv,.bm 2 7 70 .y8 [(2,8),(3,9),(4,10),(5,11),(6,12)],.v 29 .z9] .n)) (.s (.s .n (.l [47] [] [.of 1 2 2 208 .zj,.of 1 3 3 210 .zo,.of 1 4 4 212 .zq,.of 1 5 5 84 .zn,.of 1 6 6 215 .zv,.bm 1 1 70 .y8 [(2,2),(3,3),(4,4),(5,5),(6,6)],.of 2 2 8 208 .zj,.of 2 3 9 210 .zo,.of 2 4 10 212 .zq,.of 2 5 11 84 .zn,.of 2 6 12 215 .zv,.bm 2 7 70 .y8 [(2,8),(3,9),(4,10),(5,11),(6,12)],.v 48 .z9] .n)) (.s (.s .n (.l [78] [] [.of 1 2 2 208 .zj,.of 1 3 3 210 .zo,.of 1 4 4 212 .zq,.of 1 5 5 84 .zn,.of 1 6 6 215 .zv,.bm 1 1 70 .y8 [(2,2),(3,3),(4,4),(5,5),(6,6)],.of 2 2 8 208 .zj,.of 2 3 9 210 .zo,.of 2 4 10 212 .zq,.of 2 5 11 84 .zn,.of 2 6 12 215 .zv,.bm 2 7 70 .y8 [(2,8),(3,9),(4,10),(5,11),(6,12)],.v 79 .z9] .n)) .n)))))) [K195,K196,K197,h3r,K199,K200]
def K83:=mkR 83 Tryz.f83 ⟨[.v .y3,.v .z9],[.v .y8,.v .z8]⟩ (cur2 b1v) w2 u2 (sk 2 (.s (.s .n (.l [] [] [.bx 3 2 3 .z9,.bx 4 3 70 .y8,.bx 5 4 4 .z8] (.s .n .n))) .n)) [K79,K128,K129]
def K54:=mk 54 Tryz.f54 ⟨[.v .yb,.v .z9],[.v .y3,.v .y8,.v .z9]⟩ (cur2 a2v) w3 u3 .n [K82,K83]
def K152:=mk 152 Tryz.f152 ⟨[.ls .z9,.v .z9],[.v .z9]⟩ (cur2 a4p) w1 u1 (.s .n (.s (.s .n (.l [0,1,7] [] [.v 8 .z9] .n)) .n)) []
def K94:=mk 94 Tryz.f94 ⟨[.ls .z9,.v .z9],[.v .z8]⟩ (cur2 q9) w1 u1 .n [K152]
def K57:=mk 57 Tryz.f57 ⟨[.v .yb,.v .z9],[.v .z8]⟩ (cur2 a08) w1 u1 .n [K94]
def j9g:=mk 134 Tryz.f134 ⟨[.v .ya],[.v .z8]⟩ (cur1 a4e) w1 u1 .n [K27]
def j49:=mk 289 Tryz.f289 ⟨[.ls .ya,.cl 134 []],[.ow 38 .ya]⟩ (λx=>a3f x.1) w1 u1 (sk 2 (.s (.s .n (.l [1,8,9] [] [.ow 5 2 38 .ya,.v 10 .z9] .n)) .n)) [j9g]
def d5l:Sig VV:=⟨[.ls .ya],[.ow 38 .ya]⟩
def g9h:Fent VV:=⟨d5l,List aQ,λx=>a4f x.1,λb=>((b,()),()),none⟩
def g05:Ress VV d5l.rs×Outs VV d5l.ps->List aQ:=λp=>p.1.1
def g1g:Ann VV.C:=.n
def k00:SX.Spec Tryz.prog 220 g9h:=a2m (fe:=g9h) uok (okl (f8d [j49])) mixed (fn:=Tryz.f220) (by kernel_rfl) g05 g1g (d8 (s:=d5l) (by kernel_rfl)).1 (d8 (s:=d5l) (by kernel_rfl)).2 (λ_=>rfl) λx=>by kernel_rfl
def k13:Kn Tryz.prog VV:=⟨220,g9h,knS rfl ⟨k00,λ_ _=>by kernel_rfl⟩⟩
def K137:=mk 137 Tryz.f137 ⟨[.ls .ya,.v .z9],[.v .z9,.v .z8]⟩ (cur2 b4r) w2 u2 (sk 2 (.s (.s .n (.l [1,10,11] [] [.v 6 .z9,.v 7 .z8,.v 12 .z9] .n)) .n)) [j9g]
def K87:=mk 87 Tryz.f87 ⟨[.ls .ya],[.v .z9,.v .z8]⟩ (cur1 b4t) w2 u2 .n [K137]
def K290:=mk 290 Tryz.f290 ⟨[.ls .ya],[.v .z9,.v .z8]⟩ (cur1 b7l) w2 u2 .n [K137]
def j08:Sig VV:=⟨[.ls .ya],[.v .y1]⟩
def j3g:Fent VV:=⟨j08,Span,λx=>a2i x.1,λb=>((b,()),()),none⟩
def k05:Ress VV j08.rs×Outs VV j08.ps->Span:=λp=>p.1.1
def j8v:Ann VV.C:=(.s .n (.s .n (.s .n (.j [] [.bx 2 1 36 .y1,.v 3 .z9,.v 5 .z9] .n .n))))
def k0g:SX.Spec Tryz.prog 222 j3g:=a2m (fe:=j3g) uok (okl (f8d [K87,K290])) mixed (fn:=Tryz.f222) (by kernel_rfl) k05 j8v (d8 (s:=j08) (by kernel_rfl)).1 (d8 (s:=j08) (by kernel_rfl)).2 (λ_=>rfl) λx=>by kernel_rfl
def j8e:Kn Tryz.prog VV:=⟨222,j3g,knS rfl ⟨k0g,λ_ _=>by kernel_rfl⟩⟩
def K231:=mk 231 Tryz.f231 ⟨[.v .y1],[.v .y1]⟩ (cur1 c3q) w1 u1 .n []
def K216:=mk 216 Tryz.f216 ⟨[.v .yn],[.v .z9]⟩ (cur1 c7q) w1 u1 .n [K288]
def j3q:=mk 153 Tryz.f153 ⟨[.ls .y1],[.ow 36 .y1]⟩ (cur1 a2w) w1 u1 (.s .n (.s (.g [6000]) (.s (.s .n (.l [10,11] [] [.of 3 0 2 36 .y1,.bm 3 1 189 .zd [(0,2)],.v 12 .z9] (.s .n (.s .n (.s (.s .n (.s .n (.s .n (.s (.g [6000,6004]) .n)))) .n))))) (.s (.g [6000]) (.s .n (.s (.s (.g [6000]) (.l [33] [] [.ow 6 1 36 .y1,.ow 32 2 36 .y1,.v 34 .z9] .n)) .n)))))) [K231,K232]
def K225:=mk 225 Tryz.f225 ⟨[.ls .y1,.ls .y1],[.ow 36 .y1]⟩ (cur2 b2g) w1 u1 (sk 3 (.s (.s .n (.l [] [] [.ow 0 2 36 .y1,.ow 1 3 36 .y1,.ow 5 4 36 .y1,.v 6 .z9,.v 7 .z9] (.s .n (.s .n (.j [] [.ow 0 2 36 .y1,.ow 1 3 36 .y1,.ow 5 4 36 .y1,.v 6 .z9,.v 7 .z9] .n .n))))) .n)) [j3q]
def j0a:Sig VV:=⟨[.ls .y1,.v .y1],[.ow 36 .y1]⟩
def j2b:Fent VV:=⟨j0a,List Span,λx=>s6 x.1 x.2.1,λb=>((b,()),()),none⟩
def j8k:Ress VV j0a.rs×Outs VV j0a.ps->List Span:=λp=>p.1.1
def j9z:Ann VV.C:=.n
def k06:SX.Spec Tryz.prog 146 j2b:=a2m (fe:=j2b) uok (okl (f8d [K225])) mixed (fn:=Tryz.f146) (by kernel_rfl) j8k j9z (d8 (s:=j0a) (by kernel_rfl)).1 (d8 (s:=j0a) (by kernel_rfl)).2 (λ_=>rfl) λx=>by kernel_rfl
def j6o:Kn Tryz.prog VV:=⟨146,j2b,knS rfl ⟨k06,λ_ _=>by kernel_rfl⟩⟩
def i96:Sig VV:=⟨[.v .zt,.v .zt],[.v .z9]⟩
def j28:Fent VV:=⟨i96,Int,λx=>a0j x.1 x.2.1,λb=>((b,()),()),none⟩
def k02:Ress VV i96.rs×Outs VV i96.ps->Int:=λp=>p.1.1
def k07:Ann VV.C:=.n
def k08:SX.Spec Tryz.prog 322 j28:=a2m (fe:=j28) uok (okl (f8d [K28,K29])) mixed (fn:=Tryz.f322) (by kernel_rfl) k02 k07 (d8 (s:=i96) (by kernel_rfl)).1 (d8 (s:=i96) (by kernel_rfl)).2 (λ_=>rfl) λx=>by kernel_rfl
def K322:Kn Tryz.prog VV:=⟨322,j28,knS rfl ⟨k08,λ_ _=>by kernel_rfl⟩⟩
def j0x:=mk 399 Tryz.f399 ⟨[.so 371 .zt,.v .z9,.v .z9,.cl 322 []],[]⟩ (λx=>m6 x.1 x.2.1 x.2.2.1) (λb=>((),(b,()))) (λp=>p.2.1) (.s .n (.l [1,2,3] [] [.ow 0 0 371 .zt,.v 8 .z9] (.s .n (.s (.s .n (.l [1,2,3,8] [] [.ow 0 0 371 .zt,.v 9 .z9] .n)) .n)))) [K322]
def i5e:Sig VV:=⟨[.so 371 .zt,.v .z9,.v .z9,.v .z9,.cl 322 []],[]⟩
def i6x(R:oQ):Fent VV:=⟨i5e,List Posting,λx=>R.f_slices_pdqsortCmpFunc_of_api_Posting x.1 x.2.1 x.2.2.1 x.2.2.2.1,λb=>((),(b,())),none⟩
def j22:Fent VV:=i6x (c3 FU)
def i7t:Ress VV i5e.rs×Outs VV i5e.ps->List Posting:=λp=>p.2.1
def i86:Ann VV.C:=(.s .n (.s .n (.l [4] [] [.ow 0 0 371 .zt,.v 1 .z9,.v 2 .z9,.v 3 .z9,.v 10 .z8,.v 11 .z8] (.s .n (.s .n (.s .n (.j [] [.ow 0 0 371 .zt,.v 1 .z9,.v 2 .z9,.v 3 .z9,.cl 4 322 [],.v 10 .z8,.v 11 .z8,.v 12 .z9] .n .n)))))))
def i89(R:oQ):Phi VV:=λf ys=>lkF f ys [j0x.e]
def j0p(R:oQ):OKΦ Tryz.prog (i89 R):=okl ⟨j0x.ok,trivial⟩
def j1j(R:oQ):∀x,c5v Tryz.prog (i89 R) i5e i7t Tryz.f374 i86 x=i7 R x.1 x.2.1 x.2.2.1 x.2.2.2.1:=λx=>by kernel_rfl
def i8c:c67 Tryz.f374 i5e=true:=by kernel_rfl
def q8:∀n,SX.Spec Tryz.prog 374 (i6x (c3 n))|0=>(λ_ _ h=>(by cases(show none=some _ from h)))|n+1=>let h374:=q8 n;a2m (fe:=i6x (c3 (n+1))) uok (j0p (c3 n)) mixed (fn:=Tryz.f374) (by kernel_rfl) i7t i86 (d8 i8c).1 (d8 i8c).2 (λ_=>rfl) (j1j (c3 n))
def j4x:Kn Tryz.prog VV:=⟨374,j22,knS rfl ⟨(q8 FU),λ_ _=>by kernel_rfl⟩⟩
def j4b:=mk 321 Tryz.f321 ⟨[.so 371 .zt,.cl 322 []],[]⟩ (λx=>c9 x.1) (λb=>((),(b,()))) (λp=>p.2.1) .n [K216,j4x]
def j6b:Fent VV:=⟨⟨[.ls .ya],[.ow 371 .zt]⟩,List Posting,λx=>competence_Postings x.1,w1,none⟩
end
end Go.PL
