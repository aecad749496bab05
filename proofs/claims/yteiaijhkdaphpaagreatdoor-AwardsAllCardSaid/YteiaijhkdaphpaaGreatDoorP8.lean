/- Texts of the proof, joined. -/
import Derived.Test.YteiaijhkdaphpaaGreatDoorP7
import Derived.Test.YteiaijhkdaphpaaGreatDoorProg
import Derived.KernelRfl
import Derived.Shelf.SlSortFuncK.WholeK
import Derived.Shelf.Strconv.Itoa3
import Derived.Shelf.SlSortFuncK.RowK2
import Derived.Shelf.GgSortFunc.Tiny
set_option linter.unusedVariables false
set_option linter.unusedSimpArgs false
set_option maxRecDepth 100000
namespace Go.PL
open Go Go.SX
inductive TyC where|z9|zy|zx|zj|zm|zo|yl|zl|zq|zn|zv|y8|z8|y7|y4|zh|yn|yo|y1|z2|y5|yi|yh|y3|y2|zu|zp|yg|ya|yk|ym|z1|z0|yb|zd|zt|yd|yc|y0|zr|zc|zz|zf|z7|z3|ze|zi|zb|zs|ye|zk|yj|y9|z5|z4|y6|z6|yf|za|zw|zg deriving DecidableEq
@[reducible] def TyC.T:TyC->Type|.z9=>Int|.zy=>Rules|.zx=>Rounding|.zj=>Credit|.zm=>fQ|.zo=>Index|.yl=>ByteArray|.zl=>Expr|.zq=>Let|.zn=>Grant|.zv=>Reduce|.y8=>Version|.z8=>Bool|.y7=>Value|.y4=>Step|.zh=>iQ|.yn=>Int|.yo=>Int|.y1=>Span|.z2=>Ar 3 ByteArray|.y5=>Token|.yi=>rQ|.yh=>pensionref1_wide|.y3=>Statute|.y2=>State|.zu=>Rate|.zp=>Laws|.yg=>tH|.ya=>aQ|.yk=>syntax_entry|.ym=>Int|.z1=>Ar 2 Int|.z0=>Ar 12 Int|.yb=>bQ|.zd=>List Span|.zt=>Posting|.yd=>uQ|.yc=>lQ|.y0=>gQ|.zr=>Period|.zc=>List Period|.zz=>Scheme|.zf=>Anon286|.z7=>Ar 7 (List Span)|.z3=>Ar 6 (Ar 7 (List Span))|.ze=>Ar 6 (Ar 7 (List Span))|.zi=>nQ|.zb=>List nQ|.zs=>Piece|.ye=>earnings_income|.zk=>Earning|.yj=>rational_wide|.y9=>View|.z5=>Ar 6 Int|.z4=>Ar 6 Bool|.y6=>Total|.z6=>Ar 7 Int|.yf=>vQ|.za=>List Int|.zw=>Result|.zg=>Award
abbrev VA:=AV TyC TyC.T
def dT:DecidableEq TyC:=inferInstance
def g93:Int->List VA:=λx=>[.int .i64 x]
def h0b:List VA->Option Int:=mkS (gI .i64) λx0=>mkE x0
def f0o:Rules->List VA:=λx=>[.int .i64 x.From,.int .i64 x.MinDays,.int .i64 x.PostingLimit,.int .i64 x.Substantial,.list .z9 x.Members]
def e9b:List VA->Option Rules:=mkS (gI .i64) λx0=>mkS (gI .i64) λx1=>mkS (gI .i64) λx2=>mkS (gI .i64) λx3=>mkS (SX.gL dT .z9) λx4=>mkE (⟨x0,x1,x2,x3,x4⟩:Rules)
def d66:Rounding->List VA:=λx=>[.int .i64 x.Mode,.int .i64 x.Unit]
def d85:List VA->Option Rounding:=mkS (gI .i64) λx0=>mkS (gI .i64) λx1=>mkE (⟨x0,x1⟩:Rounding)
def e4m:Credit->List VA:=λx=>[.int .i64 x.Kind,.int .i64 x.Limit]
def e6k:List VA->Option Credit:=mkS (gI .i64) λx0=>mkS (gI .i64) λx1=>mkE (⟨x0,x1⟩:Credit)
def d63:fQ->List VA:=λx=>[.int .i64 x.Num,.int .i64 x.Den]
def d90:List VA->Option fQ:=mkS (gI .i64) λx0=>mkS (gI .i64) λx1=>mkE (⟨x0,x1⟩:fQ)
def e9e:Index->List VA:=λx=>[.int .i64 x.Year,.val .zm x.Factor]
def e7q:List VA->Option Index:=mkS (gI .i64) λx0=>mkS (gV dT .zm) λx1=>mkE (⟨x0,x1⟩:Index)
def g78:ByteArray->List VA:=λx=>[.str x]
def g9e:List VA->Option ByteArray:=mkS (gS) λx0=>mkE x0
def f5y:Expr->List VA:=λx=>[.int .i64 x.Op,.val .zm x.Value,.int .i64 x.Dim,.str x.Name,.list .zl x.Args]
def f4s:List VA->Option Expr:=mkS (gI .i64) λx0=>mkS (gV dT .zm) λx1=>mkS (gI .i64) λx2=>mkS (gS) λx3=>mkS (SX.gL dT .zl) λx4=>mkE (⟨x0,x1,x2,x3,x4⟩:Expr)
def g3m:Let->List VA:=λx=>[.str x.Name,.val .zl x.Body]
def g4f:List VA->Option Let:=mkS (gS) λx0=>mkS (gV dT .zl) λx1=>mkE (⟨x0,x1⟩:Let)
def f1v:Grant->List VA:=λx=>[.int .i64 x.Benefit,.val .zl x.If,.val .zl x.Pay]
def e92:List VA->Option Grant:=mkS (gI .i64) λx0=>mkS (gV dT .zl) λx1=>mkS (gV dT .zl) λx2=>mkE (⟨x0,x1,x2⟩:Grant)
def e6t:Reduce->List VA:=λx=>[.int .i64 x.Benefit,.val .zl x.By]
def e6w:List VA->Option Reduce:=mkS (gI .i64) λx0=>mkS (gV dT .zl) λx1=>mkE (⟨x0,x1⟩:Reduce)
def e10:Version->List VA:=λx=>[.int .i64 x.From,.val .zx x.Rounding,.list .zj x.Credits,.list .zo x.Series,.list .zq x.Lets,.list .zn x.Grants,.list .zv x.Reduces]
def e1l:List VA->Option Version:=mkS (gI .i64) λx0=>mkS (gV dT .zx) λx1=>mkS (SX.gL dT .zj) λx2=>mkS (SX.gL dT .zo) λx3=>mkS (SX.gL dT .zq) λx4=>mkS (SX.gL dT .zn) λx5=>mkS (SX.gL dT .zv) λx6=>mkE (⟨x0,x1,x2,x3,x4,x5,x6⟩:Version)
def g3y:Bool->List VA:=λx=>[.bool x]
def g5e:List VA->Option Bool:=mkS (gB) λx0=>mkE x0
def f02:Value->List VA:=λx=>[.int .i64 x.Dim,.bool x.Yes,.val .zm x.Num]
def f05:List VA->Option Value:=mkS (gI .i64) λx0=>mkS (gB) λx1=>mkS (gV dT .zm) λx2=>mkE (⟨x0,x1,x2⟩:Value)
def f7b:Step->List VA:=λx=>[.str x.Name,.val .y7 x.Value]
def f5s:List VA->Option Step:=mkS (gS) λx0=>mkS (gV dT .y7) λx1=>mkE (⟨x0,x1⟩:Step)
def d9c:iQ->List VA:=λx=>[.str x.Name,.int .i64 x.Dim]
def e0b:List VA->Option iQ:=mkS (gS) λx0=>mkS (gI .i64) λx1=>mkE (⟨x0,x1⟩:iQ)
def h1c:Int->List VA:=λx=>[.int .u64 x]
def g83:List VA->Option Int:=mkS (gI .u64) λx0=>mkE x0
def h4b:Int->List VA:=λx=>[.int .u8 x]
def h2q:List VA->Option Int:=mkS (gI .u8) λx0=>mkE x0
def f4o:Span->List VA:=λx=>[.int .i64 x.From,.int .i64 x.To]
def f7t:List VA->Option Span:=mkS (gI .i64) λx0=>mkS (gI .i64) λx1=>mkE (⟨x0,x1⟩:Span)
def e7k:Ar 3 ByteArray->List VA:=λx=>x.l.map λy=>.str y
def d8g:List VA->Option (Ar 3 ByteArray):=mkA (gS) 3
def e9d:Token->List VA:=λx=>[.int .i64 x.Kind,.str x.Text,.int .i64 x.At]
def f0u:List VA->Option Token:=mkS (gI .i64) λx0=>mkS (gS) λx1=>mkS (gI .i64) λx2=>mkE (⟨x0,x1,x2⟩:Token)
def c0i:rQ->List VA:=λx=>[.list .y5 x.l,.int .i64 x.at_,.int .i64 x.end_,.bool x.bad]
def c0h:List VA->Option rQ:=mkS (SX.gL dT .y5) λx0=>mkS (gI .i64) λx1=>mkS (gI .i64) λx2=>mkS (gB) λx3=>mkE (⟨x0,x1,x2,x3⟩:rQ)
def c2q:pensionref1_wide->List VA:=λx=>[.int .u64 x.hi,.int .u64 x.lo]
def c2l:List VA->Option pensionref1_wide:=mkS (gI .u64) λx0=>mkS (gI .u64) λx1=>mkE (⟨x0,x1⟩:pensionref1_wide)
def e0x:Statute->List VA:=λx=>[.str x.Name,.int .i64 x.Currency,.list .y8 x.Versions]
def e0u:List VA->Option Statute:=mkS (gS) λx0=>mkS (gI .i64) λx1=>mkS (SX.gL dT .y8) λx2=>mkE (⟨x0,x1,x2⟩:Statute)
def f0d:State->List VA:=λx=>[.int .i64 x.State,.val .y3 x.Statute]
def e9c:List VA->Option State:=mkS (gI .i64) λx0=>mkS (gV dT .y3) λx1=>mkE (⟨x0,x1⟩:State)
def f3r:Rate->List VA:=λx=>[.int .i64 x.Currency,.int .i64 x.Month,.val .zm x.Value]
def f4z:List VA->Option Rate:=mkS (gI .i64) λx0=>mkS (gI .i64) λx1=>mkS (gV dT .zm) λx2=>mkE (⟨x0,x1,x2⟩:Rate)
def f7k:Laws->List VA:=λx=>[.list .y2 x.States,.list .zy x.Treaty,.list .zu x.Rates]
def f6x:List VA->Option Laws:=mkS (SX.gL dT .y2) λx0=>mkS (SX.gL dT .zy) λx1=>mkS (SX.gL dT .zu) λx2=>mkE (⟨x0,x1,x2⟩:Laws)
def c2o:tH->List VA:=λx=>[.int .i64 x.Issuer,.int .i64 x.Number,.int .i64 x.Version,.bool x.Withdrawn,.int .i64 x.Person,.int .i64 x.Kind,.int .i64 x.State,.int .i64 x.Seat,.int .i64 x.From,.int .i64 x.Length,.int .i64 x.Share,.int .i64 x.Amount,.int .i64 x.Ref]
def c2p:List VA->Option tH:=mkS (gI .i64) λx0=>mkS (gI .i64) λx1=>mkS (gI .i64) λx2=>mkS (gB) λx3=>mkS (gI .i64) λx4=>mkS (gI .i64) λx5=>mkS (gI .i64) λx6=>mkS (gI .i64) λx7=>mkS (gI .i64) λx8=>mkS (gI .i64) λx9=>mkS (gI .i64) λx10=>mkS (gI .i64) λx11=>mkS (gI .i64) λx12=>mkE (⟨x0,x1,x2,x3,x4,x5,x6,x7,x8,x9,x10,x11,x12⟩:tH)
def d8u:aQ->List VA:=λx=>[.int .i64 x.Issuer,.int .i64 x.Number,.int .i64 x.Version,.bool x.Withdrawn,.int .i64 x.Person,.int .i64 x.Kind,.int .i64 x.State,.val .y1 x.Span,.int .i64 x.Seat,.int .i64 x.Share,.int .i64 x.Currency,.int .i64 x.Amount,.int .i64 x.Ref]
def d83:List VA->Option aQ:=mkS (gI .i64) λx0=>mkS (gI .i64) λx1=>mkS (gI .i64) λx2=>mkS (gB) λx3=>mkS (gI .i64) λx4=>mkS (gI .i64) λx5=>mkS (gI .i64) λx6=>mkS (gV dT .y1) λx7=>mkS (gI .i64) λx8=>mkS (gI .i64) λx9=>mkS (gI .i64) λx10=>mkS (gI .i64) λx11=>mkS (gI .i64) λx12=>mkE (⟨x0,x1,x2,x3,x4,x5,x6,x7,x8,x9,x10,x11,x12⟩:aQ)
def c79:syntax_entry->List VA:=λx=>[.str x.name,.int .i64 x.number]
def c74:List VA->Option syntax_entry:=mkS (gS) λx0=>mkS (gI .i64) λx1=>mkE (⟨x0,x1⟩:syntax_entry)
def h09:Int->List VA:=λx=>[.int .u32 x]
def h0n:List VA->Option Int:=mkS (gI .u32) λx0=>mkE x0
def e7l:Ar 2 Int->List VA:=λx=>x.l.map λy=>.int .i64 y
def d5s:List VA->Option (Ar 2 Int):=mkA (gI .i64) 2
def e5w:Ar 12 Int->List VA:=λx=>x.l.map λy=>.int .i64 y
def d2q:List VA->Option (Ar 12 Int):=mkA (gI .i64) 12
def c8y:bQ->List VA:=λx=>[.val .zp x.laws,.int .i64 x.day,.val .zy x.rules]
def c7v:List VA->Option bQ:=mkS (gV dT .zp) λx0=>mkS (gI .i64) λx1=>mkS (gV dT .zy) λx2=>mkE (⟨x0,x1,x2⟩:bQ)
def f0l:List Span->List VA:=λx=>[.list .y1 x]
def e88:List VA->Option (List Span):=mkS (SX.gL dT .y1) λx0=>mkE x0
def e1h:Posting->List VA:=λx=>[.int .i64 x.Seat,.int .i64 x.State,.val .y1 x.Span]
def e0z:List VA->Option Posting:=mkS (gI .i64) λx0=>mkS (gI .i64) λx1=>mkS (gV dT .y1) λx2=>mkE (⟨x0,x1,x2⟩:Posting)
def c2m:uQ->List VA:=λx=>[.int .i64 x.seat,.int .i64 x.state]
def c2r:List VA->Option uQ:=mkS (gI .i64) λx0=>mkS (gI .i64) λx1=>mkE (⟨x0,x1⟩:uQ)
def c3f:lQ->List VA:=λx=>[.list .ya x.facts,.val .y1 x.span,.list .zt x.postings,.list .zy x.rules]
def c3t:List VA->Option lQ:=mkS (SX.gL dT .ya) λx0=>mkS (gV dT .y1) λx1=>mkS (SX.gL dT .zt) λx2=>mkS (SX.gL dT .zy) λx3=>mkE (⟨x0,x1,x2,x3⟩:lQ)
def d9y:gQ->List VA:=λx=>[.val .y1 x.Span,.int .i64 x.State,.int .i64 x.Rule]
def e1d:List VA->Option gQ:=mkS (gV dT .y1) λx0=>mkS (gI .i64) λx1=>mkS (gI .i64) λx2=>mkE (⟨x0,x1,x2⟩:gQ)
def e5s:Period->List VA:=λx=>[.int .i64 x.State,.int .i64 x.Rank,.val .y1 x.Span]
def e58:List VA->Option Period:=mkS (gI .i64) λx0=>mkS (gI .i64) λx1=>mkS (gV dT .y1) λx2=>mkE (⟨x0,x1,x2⟩:Period)
def e05:List Period->List VA:=λx=>[.list .zr x]
def d95:List VA->Option (List Period):=mkS (SX.gL dT .zr) λx0=>mkE x0
def e50:Scheme->List VA:=λx=>[.int .i64 x.State,.val .y8 x.Version]
def e62:List VA->Option Scheme:=mkS (gI .i64) λx0=>mkS (gV dT .y8) λx1=>mkE (⟨x0,x1⟩:Scheme)
def d9g:Anon286->List VA:=λx=>[.int .i64 x.kind,.int .i64 x.rank]
def d9j:List VA->Option Anon286:=mkS (gI .i64) λx0=>mkS (gI .i64) λx1=>mkE (⟨x0,x1⟩:Anon286)
def d8m:Ar 7 (List Span)->List VA:=λx=>x.l.map λy=>.list .y1 y
def c6h:List VA->Option (Ar 7 (List Span)):=mkA (SX.gL dT .y1) 7
def c7x:Ar 6 (Ar 7 (List Span))->List VA:=λx=>x.l.map λy=>.val .z7 y
def c16:List VA->Option (Ar 6 (Ar 7 (List Span))):=mkA (gV dT .z7) 6
def c73:Ar 6 (Ar 7 (List Span))->List VA:=λx=>[.rp (.val .z3 x)]
def c77:List VA->Option (Ar 6 (Ar 7 (List Span))):=mkS (gP dT .z3) λx0=>mkE x0
def e0m:nQ->List VA:=λx=>[.val .y1 x.Span,.int .i64 x.State,.int .i64 x.Rank]
def e1b:List VA->Option nQ:=mkS (gV dT .y1) λx0=>mkS (gI .i64) λx1=>mkS (gI .i64) λx2=>mkE (⟨x0,x1,x2⟩:nQ)
def d7t:List nQ->List VA:=λx=>[.list .zi x]
def d5c:List VA->Option (List nQ):=mkS (SX.gL dT .zi) λx0=>mkE x0
def f2h:Piece->List VA:=λx=>[.val .y1 x.Span,.list .z9 x.Members]
def e80:List VA->Option Piece:=mkS (gV dT .y1) λx0=>mkS (SX.gL dT .z9) λx1=>mkE (⟨x0,x1⟩:Piece)
def c35:earnings_income->List VA:=λx=>[.val .ya x.fact,.list .y1 x.days]
def c3a:List VA->Option earnings_income:=mkS (gV dT .ya) λx0=>mkS (SX.gL dT .y1) λx1=>mkE (⟨x0,x1⟩:earnings_income)
def d9p:Earning->List VA:=λx=>[.int .i64 x.Year,.int .i64 x.Amount]
def e08:List VA->Option Earning:=mkS (gI .i64) λx0=>mkS (gI .i64) λx1=>mkE (⟨x0,x1⟩:Earning)
def c5b:rational_wide->List VA:=λx=>[.int .u64 x.hi,.int .u64 x.lo]
def c5t:List VA->Option rational_wide:=mkS (gI .u64) λx0=>mkS (gI .u64) λx1=>mkE (⟨x0,x1⟩:rational_wide)
def f4f:View->List VA:=λx=>[.int .i64 x.Age,.int .i64 x.Year,.int .i64 x.Children,.int .i64 x.Insured,.int .i64 x.Worked,.int .i64 x.Voluntary,.int .i64 x.Service,.int .i64 x.Equated,.int .i64 x.Raising,.int .i64 x.Resident,.val .zm x.Base,.list .z9 x.Years]
def f6d:List VA->Option View:=mkS (gI .i64) λx0=>mkS (gI .i64) λx1=>mkS (gI .i64) λx2=>mkS (gI .i64) λx3=>mkS (gI .i64) λx4=>mkS (gI .i64) λx5=>mkS (gI .i64) λx6=>mkS (gI .i64) λx7=>mkS (gI .i64) λx8=>mkS (gI .i64) λx9=>mkS (gV dT .zm) λx10=>mkS (SX.gL dT .z9) λx11=>mkE (⟨x0,x1,x2,x3,x4,x5,x6,x7,x8,x9,x10,x11⟩:View)
def e96:Ar 6 Int->List VA:=λx=>x.l.map λy=>.int .i64 y
def d59:List VA->Option (Ar 6 Int):=mkA (gI .i64) 6
def e5x:Ar 6 Bool->List VA:=λx=>x.l.map λy=>.bool y
def d2a:List VA->Option (Ar 6 Bool):=mkA (gB) 6
def e8i:Total->List VA:=λx=>[.val .z5 x.Own,.val .z4 x.Few,.int .i64 x.Sum,.int .i64 x.Base,.int .i64 x.Last]
def e9r:List VA->Option Total:=mkS (gV dT .z5) λx0=>mkS (gV dT .z4) λx1=>mkS (gI .i64) λx2=>mkS (gI .i64) λx3=>mkS (gI .i64) λx4=>mkE (⟨x0,x1,x2,x3,x4⟩:Total)
def f2a:Ar 7 Int->List VA:=λx=>x.l.map λy=>.int .i64 y
def d8f:List VA->Option (Ar 7 Int):=mkA (gI .i64) 7
def c4s:vQ->List VA:=λx=>[.val .y9 x.view,.list .y4 x.steps]
def c4w:List VA->Option vQ:=mkS (gV dT .y9) λx0=>mkS (SX.gL dT .y4) λx1=>mkE (⟨x0,x1⟩:vQ)
def g56:List Int->List VA:=λx=>[.list .z9 x]
def g3l:List VA->Option (List Int):=mkS (SX.gL dT .z9) λx0=>mkE x0
def e56:Result->List VA:=λx=>[.bool x.Holds,.val .zm x.Pay,.list .y4 x.Steps]
def e6j:List VA->Option Result:=mkS (gB) λx0=>mkS (gV dT .zm) λx1=>mkS (SX.gL dT .y4) λx2=>mkE (⟨x0,x1,x2⟩:Result)
def f1u:Award->List VA:=λx=>[.int .i64 x.State,.int .i64 x.Benefit,.int .i64 x.Day,.int .i64 x.Code,.bool x.Few,.int .i64 x.Independent,.int .i64 x.Theoretical,.int .i64 x.ProRata,.int .i64 x.Num,.int .i64 x.Den,.int .i64 x.Amount,.list .y4 x.Steps]
def e79:List VA->Option Award:=mkS (gI .i64) λx0=>mkS (gI .i64) λx1=>mkS (gI .i64) λx2=>mkS (gI .i64) λx3=>mkS (gB) λx4=>mkS (gI .i64) λx5=>mkS (gI .i64) λx6=>mkS (gI .i64) λx7=>mkS (gI .i64) λx8=>mkS (gI .i64) λx9=>mkS (gI .i64) λx10=>mkS (SX.gL dT .y4) λx11=>mkE (⟨x0,x1,x2,x3,x4,x5,x6,x7,x8,x9,x10,x11⟩:Award)
def cdT(n:Nat):Option TyC:=bif Nat.blt n 177then(bif Nat.blt n 65then(bif Nat.blt n 41then(bif Nat.blt n 11then(bif Nat.blt n 5then(bif Nat.blt n 3then(bif Nat.beq n 2then some .z9 else none)else(bif Nat.blt n 4then(bif Nat.beq n 3then some .z9 else none)else(bif Nat.beq n 4then some .z8 else none)))else(bif Nat.blt n 9then(bif Nat.blt n 6then(bif Nat.beq n 5then some .yo else none)else(bif Nat.beq n 6then some .yo else none))else(bif Nat.blt n 10then(bif Nat.beq n 9then some .yl else none)else(bif Nat.beq n 10then some .yl else none))))else(bif Nat.blt n 27then(bif Nat.blt n 12then(bif Nat.beq n 11then some .yl else none)else(bif Nat.blt n 23then(bif Nat.beq n 12then some .yn else none)else(bif Nat.beq n 23then some .za else none)))else(bif Nat.blt n 38then(bif Nat.blt n 28then(bif Nat.beq n 27then some .zp else none)else(bif Nat.beq n 28then some .zp else none))else(bif Nat.blt n 40then(bif Nat.beq n 38then some .z9 else none)else(bif Nat.beq n 40then some .zg else none)))))else(bif Nat.blt n 52then(bif Nat.blt n 46then(bif Nat.blt n 44then(bif Nat.beq n 41then some .zg else none)else(bif Nat.blt n 45then(bif Nat.beq n 44then some .y3 else none)else(bif Nat.beq n 45then some .y3 else none)))else(bif Nat.blt n 50then(bif Nat.blt n 47then(bif Nat.beq n 46then some .y2 else none)else(bif Nat.beq n 47then some .y2 else none))else(bif Nat.blt n 51then(bif Nat.beq n 50then some .zm else none)else(bif Nat.beq n 51then some .zm else none))))else(bif Nat.blt n 61then(bif Nat.blt n 54then(bif Nat.blt n 53then(bif Nat.beq n 52then some .zu else none)else(bif Nat.beq n 53then some .zu else none))else(bif Nat.blt n 55then(bif Nat.beq n 54then some .zx else none)else(bif Nat.beq n 55then some .zx else none)))else(bif Nat.blt n 63then(bif Nat.blt n 62then(bif Nat.beq n 61then some .y8 else none)else(bif Nat.beq n 62then some .y8 else none))else(bif Nat.blt n 64then(bif Nat.beq n 63then some .yg else none)else(bif Nat.beq n 64then some .yg else none))))))else(bif Nat.blt n 97then(bif Nat.blt n 77then(bif Nat.blt n 68then(bif Nat.blt n 66then(bif Nat.beq n 65then some .y1 else none)else(bif Nat.blt n 67then(bif Nat.beq n 66then some .y1 else none)else(bif Nat.beq n 67then some .ya else none)))else(bif Nat.blt n 74then(bif Nat.blt n 73then(bif Nat.beq n 68then some .ya else none)else(bif Nat.beq n 73then some .zy else none))else(bif Nat.blt n 76then(bif Nat.beq n 74then some .zy else none)else(bif Nat.beq n 76then some .zl else none))))else(bif Nat.blt n 81then(bif Nat.blt n 78then(bif Nat.beq n 77then some .zl else none)else(bif Nat.blt n 79then(bif Nat.beq n 78then some .zn else none)else(bif Nat.beq n 79then some .zn else none)))else(bif Nat.blt n 95then(bif Nat.blt n 82then(bif Nat.beq n 81then some .yb else none)else(bif Nat.beq n 82then some .yb else none))else(bif Nat.blt n 96then(bif Nat.beq n 95then some .y7 else none)else(bif Nat.beq n 96then some .y7 else none)))))else(bif Nat.blt n 113then(bif Nat.blt n 106then(bif Nat.blt n 98then(bif Nat.beq n 97then some .y4 else none)else(bif Nat.blt n 104then(bif Nat.beq n 98then some .y4 else none)else(bif Nat.beq n 104then some .zb else none)))else(bif Nat.blt n 111then(bif Nat.blt n 107then(bif Nat.beq n 106then some .y9 else none)else(bif Nat.beq n 107then some .y9 else none))else(bif Nat.blt n 112then(bif Nat.beq n 111then some .z5 else none)else(bif Nat.beq n 112then some .z4 else none))))else(bif Nat.blt n 130then(bif Nat.blt n 118then(bif Nat.blt n 114then(bif Nat.beq n 113then some .y6 else none)else(bif Nat.beq n 114then some .y6 else none))else(bif Nat.blt n 119then(bif Nat.beq n 118then some .zw else none)else(bif Nat.beq n 119then some .zw else none)))else(bif Nat.blt n 136then(bif Nat.blt n 131then(bif Nat.beq n 130then some .yi else none)else(bif Nat.beq n 131then some .yi else none))else(bif Nat.blt n 170then(bif Nat.beq n 136then some .z2 else none)else(bif Nat.beq n 170then some .zd else none)))))))else(bif Nat.blt n 299then(bif Nat.blt n 243then(bif Nat.blt n 214then(bif Nat.blt n 202then(bif Nat.blt n 184then(bif Nat.beq n 177then some .yn else none)else(bif Nat.blt n 185then(bif Nat.beq n 184then some .y5 else none)else(bif Nat.beq n 185then some .y5 else none)))else(bif Nat.blt n 204then(bif Nat.blt n 203then(bif Nat.beq n 202then some .zz else none)else(bif Nat.beq n 203then some .zz else none))else(bif Nat.blt n 213then(bif Nat.beq n 204then some .zc else none)else(bif Nat.beq n 213then some .zi else none))))else(bif Nat.blt n 229then(bif Nat.blt n 219then(bif Nat.beq n 214then some .zi else none)else(bif Nat.blt n 220then(bif Nat.beq n 219then some .ye else none)else(bif Nat.beq n 220then some .ye else none)))else(bif Nat.blt n 237then(bif Nat.blt n 230then(bif Nat.beq n 229then some .zk else none)else(bif Nat.beq n 230then some .zk else none))else(bif Nat.blt n 238then(bif Nat.beq n 237then some .yf else none)else(bif Nat.beq n 238then some .yf else none)))))else(bif Nat.blt n 257then(bif Nat.blt n 252then(bif Nat.blt n 250then(bif Nat.beq n 243then some .yn else none)else(bif Nat.blt n 251then(bif Nat.beq n 250then some .zj else none)else(bif Nat.beq n 251then some .zj else none)))else(bif Nat.blt n 254then(bif Nat.blt n 253then(bif Nat.beq n 252then some .zo else none)else(bif Nat.beq n 253then some .zo else none))else(bif Nat.blt n 255then(bif Nat.beq n 254then some .zq else none)else(bif Nat.beq n 255then some .zq else none))))else(bif Nat.blt n 286then(bif Nat.blt n 280then(bif Nat.blt n 258then(bif Nat.beq n 257then some .zv else none)else(bif Nat.beq n 258then some .zv else none))else(bif Nat.blt n 281then(bif Nat.beq n 280then some .zr else none)else(bif Nat.beq n 281then some .zr else none)))else(bif Nat.blt n 293then(bif Nat.blt n 292then(bif Nat.beq n 286then some .zf else none)else(bif Nat.beq n 292then some .yc else none))else(bif Nat.blt n 298then(bif Nat.beq n 293then some .yc else none)else(bif Nat.beq n 298then some .y0 else none))))))else(bif Nat.blt n 359then(bif Nat.blt n 325then(bif Nat.blt n 305then(bif Nat.blt n 303then(bif Nat.beq n 299then some .y0 else none)else(bif Nat.blt n 304then(bif Nat.beq n 303then some .z7 else none)else(bif Nat.beq n 304then some .z3 else none)))else(bif Nat.blt n 312then(bif Nat.blt n 311then(bif Nat.beq n 305then some .z3 else none)else(bif Nat.beq n 311then some .zs else none))else(bif Nat.blt n 316then(bif Nat.beq n 312then some .zs else none)else(bif Nat.beq n 316then some .z0 else none))))else(bif Nat.blt n 342then(bif Nat.blt n 326then(bif Nat.beq n 325then some .yj else none)else(bif Nat.blt n 341then(bif Nat.beq n 326then some .yj else none)else(bif Nat.beq n 341then some .yh else none)))else(bif Nat.blt n 352then(bif Nat.blt n 351then(bif Nat.beq n 342then some .yh else none)else(bif Nat.beq n 351then some .zh else none))else(bif Nat.blt n 358then(bif Nat.beq n 352then some .zh else none)else(bif Nat.beq n 358then some .zt else none)))))else(bif Nat.blt n 410then(bif Nat.blt n 383then(bif Nat.blt n 372then(bif Nat.beq n 359then some .zt else none)else(bif Nat.blt n 379then(bif Nat.beq n 372then some .z9 else none)else(bif Nat.beq n 379then some .ym else none)))else(bif Nat.blt n 405then(bif Nat.blt n 392then(bif Nat.beq n 383then some .yn else none)else(bif Nat.beq n 392then some .z6 else none))else(bif Nat.blt n 406then(bif Nat.beq n 405then some .yk else none)else(bif Nat.beq n 406then some .yk else none))))else(bif Nat.blt n 455then(bif Nat.blt n 420then(bif Nat.blt n 411then(bif Nat.beq n 410then some .yd else none)else(bif Nat.beq n 411then some .yd else none))else(bif Nat.blt n 430then(bif Nat.beq n 420then some .yn else none)else(bif Nat.beq n 430then some .z9 else none)))else(bif Nat.blt n 503then(bif Nat.blt n 469then(bif Nat.beq n 455then some .yn else none)else(bif Nat.beq n 469then some .z1 else none))else(bif Nat.blt n 504then(bif Nat.beq n 503then some .yo else none)else(bif Nat.beq n 504then some .yo else none)))))))
def VV:Uni where C:=TyC;T:=TyC.T;dec:=dT;c0:=.z9;n:=λc=>match c with|.z9=>1|.zy=>5|.zo=>3|.yl=>1|.zl=>6|.zq=>7|.zn=>13|.zv=>7|.y8=>8|.z8=>1|.y7=>4|.y4=>5|.yn=>1|.yo=>1|.z2=>3|.y5=>3|.yi=>4|.y3=>3|.y2=>4|.zu=>4|.zp=>3|.yg=>13|.ya=>14|.ym=>1|.z0=>12|.yb=>9|.zd=>1|.zt=>4|.yc=>5|.y0=>4|.zr=>4|.zc=>1|.zz=>9|.z7=>7|.z3=>42|.ze=>1|.zi=>4|.zb=>1|.zs=>3|.ye=>15|.y9=>13|.z5=>6|.z4=>6|.y6=>15|.z6=>7|.yf=>14|.za=>1|.zw=>4|.zg=>12|_=>2;ag:=λc=>match c with|.z9=>false|.yl=>false|.z8=>false|.yn=>false|.yo=>false|.ym=>false|.zd=>false|.zc=>false|.ze=>false|.zb=>false|.za=>false|_=>true;lay:=λc=>match c with|.z9=>[none]|.zy=>[none,none,none,none,none]|.zx=>[none,none]|.zj=>[none,none]|.zm=>[none,none]|.zo=>[none,some .zm]|.yl=>[none]|.zl=>[none,some .zm,none,none,none]|.zq=>[none,some .zl]|.zn=>[none,some .zl,some .zl]|.zv=>[none,some .zl]|.y8=>[none,some .zx,none,none,none,none,none]|.z8=>[none]|.y7=>[none,none,some .zm]|.y4=>[none,some .y7]|.zh=>[none,none]|.yn=>[none]|.yo=>[none]|.y1=>[none,none]|.z2=>List.replicate 3 (none)|.y5=>[none,none,none]|.yi=>[none,none,none,none]|.yh=>[none,none]|.y3=>[none,none,none]|.y2=>[none,some .y3]|.zu=>[none,none,some .zm]|.zp=>[none,none,none]|.yg=>[none,none,none,none,none,none,none,none,none,none,none,none,none]|.ya=>[none,none,none,none,none,none,none,some .y1,none,none,none,none,none]|.yk=>[none,none]|.ym=>[none]|.z1=>List.replicate 2 (none)|.z0=>List.replicate 12 (none)|.yb=>[some .zp,none,some .zy]|.zd=>[none]|.zt=>[none,none,some .y1]|.yd=>[none,none]|.yc=>[none,some .y1,none,none]|.y0=>[some .y1,none,none]|.zr=>[none,none,some .y1]|.zc=>[none]|.zz=>[none,some .y8]|.zf=>[none,none]|.z7=>List.replicate 7 (none)|.z3=>List.replicate 6 (some .z7)|.ze=>[none]|.zi=>[some .y1,none,none]|.zb=>[none]|.zs=>[some .y1,none]|.ye=>[some .ya,none]|.zk=>[none,none]|.yj=>[none,none]|.y9=>[none,none,none,none,none,none,none,none,none,none,some .zm,none]|.z5=>List.replicate 6 (none)|.z4=>List.replicate 6 (none)|.y6=>[some .z5,some .z4,none,none,none]|.z6=>List.replicate 7 (none)|.yf=>[some .y9,none]|.za=>[none]|.zw=>[none,some .zm,none]|.zg=>[none,none,none,none,none,none,none,none,none,none,none,none];flds:=λc=>match c with|.z9=>g93|.zy=>f0o|.zx=>d66|.zj=>e4m|.zm=>d63|.zo=>e9e|.yl=>g78|.zl=>f5y|.zq=>g3m|.zn=>f1v|.zv=>e6t|.y8=>e10|.z8=>g3y|.y7=>f02|.y4=>f7b|.zh=>d9c|.yn=>h1c|.yo=>h4b|.y1=>f4o|.z2=>e7k|.y5=>e9d|.yi=>c0i|.yh=>c2q|.y3=>e0x|.y2=>f0d|.zu=>f3r|.zp=>f7k|.yg=>c2o|.ya=>d8u|.yk=>c79|.ym=>h09|.z1=>e7l|.z0=>e5w|.yb=>c8y|.zd=>f0l|.zt=>e1h|.yd=>c2m|.yc=>c3f|.y0=>d9y|.zr=>e5s|.zc=>e05|.zz=>e50|.zf=>d9g|.z7=>d8m|.z3=>c7x|.ze=>c73|.zi=>e0m|.zb=>d7t|.zs=>f2h|.ye=>c35|.zk=>d9p|.yj=>c5b|.y9=>f4f|.z5=>e96|.z4=>e5x|.y6=>e8i|.z6=>f2a|.yf=>c4s|.za=>g56|.zw=>e56|.zg=>f1u;mkv:=λc=>match c with|.z9=>h0b|.zy=>e9b|.zx=>d85|.zj=>e6k|.zm=>d90|.zo=>e7q|.yl=>g9e|.zl=>f4s|.zq=>g4f|.zn=>e92|.zv=>e6w|.y8=>e1l|.z8=>g5e|.y7=>f05|.y4=>f5s|.zh=>e0b|.yn=>g83|.yo=>h2q|.y1=>f7t|.z2=>d8g|.y5=>f0u|.yi=>c0h|.yh=>c2l|.y3=>e0u|.y2=>e9c|.zu=>f4z|.zp=>f6x|.yg=>c2p|.ya=>d83|.yk=>c74|.ym=>h0n|.z1=>d5s|.z0=>d2q|.yb=>c7v|.zd=>e88|.zt=>e0z|.yd=>c2r|.yc=>c3t|.y0=>e1d|.zr=>e58|.zc=>d95|.zz=>e62|.zf=>d9j|.z7=>c6h|.z3=>c16|.ze=>c77|.zi=>e1b|.zb=>d5c|.zs=>e80|.ye=>c3a|.zk=>e08|.yj=>c5t|.y9=>f6d|.z5=>d59|.z4=>d2a|.y6=>e9r|.z6=>d8f|.yf=>c4w|.za=>g3l|.zw=>e6j|.zg=>e79;cd:=cdT;flat:=λc=>match c with|.zy=>false|.zl=>false|.zq=>false|.zn=>false|.zv=>false|.y8=>false|.yi=>false|.y3=>false|.y2=>false|.zp=>false|.yb=>false|.zd=>false|.yc=>false|.zc=>false|.zz=>false|.z7=>false|.z3=>false|.ze=>false|.zb=>false|.zs=>false|.ye=>false|.y9=>false|.yf=>false|.za=>false|.zw=>false|.zg=>false|_=>true;isA:=λc=>match c with|.z2=>true|.z1=>true|.z0=>true|.z7=>true|.z3=>true|.z5=>true|.z4=>true|.z6=>true|_=>false;ae:=λc=>match c with|.z2=>.yl|.z1=>.z9|.z0=>.z9|.z7=>.zd|.z3=>.z7|.z5=>.z9|.z4=>.z8|.z6=>.z9|c=>c;an:=λc=>match c with|.z2=>3|.z1=>2|.z0=>12|.z7=>7|.z3=>6|.z5=>6|.z4=>6|.z6=>7|_=>0;al:=λc=>match c with|.z2=>λx=>x.l|.z1=>λx=>x.l|.z0=>λx=>x.l|.z7=>λx=>x.l|.z3=>λx=>x.l|.z5=>λx=>x.l|.z4=>λx=>x.l|.z6=>λx=>x.l|_=>λ_=>[];ast:=λc=>match c with|.z2=>λx i y=>x.set i y|.z1=>λx i y=>x.set i y|.z0=>λx i y=>x.set i y|.z7=>λx i y=>x.set i y|.z3=>λx i y=>x.set i y|.z5=>λx i y=>x.set i y|.z4=>λx i y=>x.set i y|.z6=>λx i y=>x.set i y|_=>λx _ _=>x;gt:=λc=>match c with|.z9=>λx _=>x|.zy=>λx _=>x|.zx=>λx _=>x|.zj=>λx _=>x|.zm=>λx _=>x|.zo=>λx _=>x|.yl=>λx _=>x|.zl=>λx _=>x|.zq=>λx _=>x|.zn=>λx _=>x|.zv=>λx _=>x|.y8=>λx _=>x|.z8=>λx _=>x|.y7=>λx _=>x|.y4=>λx _=>x|.zh=>λx _=>x|.yn=>λx _=>x|.yo=>λx _=>x|.y1=>λx _=>x|.z2=>λx i=>Ar.gt ByteArray.empty x i|.y5=>λx _=>x|.yi=>λx _=>x|.yh=>λx _=>x|.y3=>λx _=>x|.y2=>λx _=>x|.zu=>λx _=>x|.zp=>λx _=>x|.yg=>λx _=>x|.ya=>λx _=>x|.yk=>λx _=>x|.ym=>λx _=>x|.z1=>λx i=>Ar.gt 0 x i|.z0=>λx i=>Ar.gt 0 x i|.yb=>λx _=>x|.zd=>λx _=>x|.zt=>λx _=>x|.yd=>λx _=>x|.yc=>λx _=>x|.y0=>λx _=>x|.zr=>λx _=>x|.zc=>λx _=>x|.zz=>λx _=>x|.zf=>λx _=>x|.z7=>λx i=>Ar.gt [] x i|.z3=>λx i=>Ar.gt (arZ 7 []) x i|.ze=>λx _=>x|.zi=>λx _=>x|.zb=>λx _=>x|.zs=>λx _=>x|.ye=>λx _=>x|.zk=>λx _=>x|.yj=>λx _=>x|.y9=>λx _=>x|.z5=>λx i=>Ar.gt 0 x i|.z4=>λx i=>Ar.gt false x i|.y6=>λx _=>x|.z6=>λx i=>Ar.gt 0 x i|.yf=>λx _=>x|.za=>λx _=>x|.zw=>λx _=>x|.zg=>λx _=>x;b8:=λc=>match c with|.yo=>true|_=>false;t8:=λc=>match c with|.yo=>λx=>x|_=>λ_=>0;tab:=λw=>Lib.TabIs Go.Proofs.Tryz.prog w "internal/strconv.uint64pow10" .u64 Lib.pow10Tab;tb:=λb=>b=3
theorem uok:UOK VV where
 lay:=λc x=>by cases c<;>first|rfl|exact g3z (U:=VV) x λ_=>rfl
 kind:=λc x=>by cases c<;>first|rfl|exact f1p (U:=VV) x λ_=>rfl
 sum:=λc=>by cases c<;>rfl
 sc:=λc h=>by cases c<;>first|rfl|cases h
 mkl:=λc zs y h=>by cases c;all_goals first
   | (repeat(obtain⟨_,zs,_,rfl,_,h⟩:=h0y h)
      obtain⟨rfl,rfl⟩:=h00 h;repeat' first|exact trivial|exact e7i (U:=VV) (by assumption)|exact g76 (U:=VV) (by assumption)|exact h0c (U:=VV) (by assumption)|exact g88 (U:=VV) (by assumption)|exact g9w (U:=VV) (by assumption)|exact h4a (U:=VV) (by assumption)|exact gN_ok (U:=VV) (by assumption)|refine⟨?_,?_⟩)|exact c6w (λ_ _ h=>h0c (U:=VV) h) (show d8g zs=some y from h)|exact c6w (λ_ _ h=>e7i (U:=VV) h) (show d5s zs=some y from h)|exact c6w (λ_ _ h=>e7i (U:=VV) h) (show d2q zs=some y from h)|exact c6w (λ_ _ h=>g9w (U:=VV) h) (show c6h zs=some y from h)|exact c6w (λ_ _ h=>g88 (U:=VV) h) (show c16 zs=some y from h)|exact c6w (λ_ _ h=>e7i (U:=VV) h) (show d59 zs=some y from h)|exact c6w (λ_ _ h=>g76 (U:=VV) h) (show d2a zs=some y from h)|exact c6w (λ_ _ h=>e7i (U:=VV) h) (show d8f zs=some y from h)
 flat:=λc x h=>by cases c<;>first|exact Bool.noConfusion (show false=true from h)|rfl|exact f1p (U:=VV) x λ_=>rfl
 arr:=λc x h=>by cases c<;>first|exact Bool.noConfusion (show false=true from h)|exact⟨rfl,x.h⟩
 ars:=λc x i y h=>by cases c<;>first|exact Bool.noConfusion (show false=true from h)|rfl
 gt:=λc x i y h=>by cases c<;>first|exact Bool.noConfusion (show false=true from h)|exactλhg=>Ar.gt_ok hg
 by8:=λc x h=>by cases c<;>first|exact Bool.noConfusion (show false=true from h)|rfl
 tabK:=λw w2 h hb=>f8r (g:=3) (show Go.Proofs.Tryz.prog.globalNamed "internal/strconv.uint64pow10"=some 3by kernel_rfl) h (hb 3 rfl)
end Go.PL
namespace Go.Proofs
open Go.Shelf
def Tryz.sliceLay_ren:Go.Shelf.Ren:=⟨λ|6=>200|10=>271|11=>272|12=>273|13=>184|14=>274|24=>266|25=>267|26=>336|27=>337|28=>338|29=>339|30=>340|31=>341|32=>342|33=>343|34=>371|35=>372|36=>373|37=>374|38=>375|39=>404|n=>n,λ|20=>20|26=>272|35=>385|0=>0|37=>308|3=>3|41=>243|44=>390|49=>379|51=>177|4=>4|54=>431|53=>430|58=>155|5=>5|9=>9|60=>455|64=>424|66=>479|67=>116|17=>17|32=>382|33=>383|82=>510|12=>12|75=>503|76=>504|77=>505|78=>506|79=>507|80=>508|n=>n,λ|n=>n⟩
theorem Tryz.sliceLay:Go.Proofs.LaysGg.n6 Tryz.prog Tryz.sliceLay_ren:={
 mixed:=by kernel_rfl
 f6:=Tryz.func200.trans (congrArg some (by kernel_rfl))
 f10:=Tryz.func271.trans (congrArg some (by kernel_rfl))
 f11:=Tryz.func272.trans (congrArg some (by kernel_rfl))
 f12:=Tryz.func273.trans (congrArg some (by kernel_rfl))
 f13:=Tryz.func184.trans (congrArg some (by kernel_rfl))
 f14:=Tryz.func274.trans (congrArg some (by kernel_rfl))
 f24:=Tryz.func266.trans (congrArg some (by kernel_rfl))
 f25:=Tryz.func267.trans (congrArg some (by kernel_rfl))
 f26:=Tryz.func336.trans (congrArg some (by kernel_rfl))
 f27:=Tryz.func337.trans (congrArg some (by kernel_rfl))
 f28:=Tryz.func338.trans (congrArg some (by kernel_rfl))
 f29:=Tryz.func339.trans (congrArg some (by kernel_rfl))
 f30:=Tryz.func340.trans (congrArg some (by kernel_rfl))
 f31:=Tryz.func341.trans (congrArg some (by kernel_rfl))
 f32:=Tryz.func342.trans (congrArg some (by kernel_rfl))
 f33:=Tryz.func343.trans (congrArg some (by kernel_rfl))
 f34:=Tryz.func371.trans (congrArg some (by kernel_rfl))
 f35:=Tryz.func372.trans (congrArg some (by kernel_rfl))
 f36:=Tryz.func373.trans (congrArg some (by kernel_rfl))
 f37:=Tryz.func374.trans (congrArg some (by kernel_rfl))
 f38:=Tryz.func375.trans (congrArg some (by kernel_rfl))
 f39:=Tryz.func404.trans (congrArg some (by kernel_rfl))
 t0:=Tryz.underlying0
 a0:=Tryz.isAgg0
 z0:=Tryz.sizeOf0
 v0:=Tryz.zeroValue0
 i0:=by kernel_rfl
 t3:=Tryz.underlying3
 a3:=Tryz.isAgg3
 z3:=Tryz.sizeOf3
 v3:=Tryz.zeroValue3
 i3:=by kernel_rfl
 t4:=Tryz.underlying4
 a4:=Tryz.isAgg4
 z4:=Tryz.sizeOf4
 v4:=Tryz.zeroValue4
 i4:=by kernel_rfl
 t5:=Tryz.underlying5
 a5:=Tryz.isAgg5
 z5:=Tryz.sizeOf5
 v5:=Tryz.zeroValue5
 i5:=by kernel_rfl
 t9:=Tryz.underlying9
 a9:=Tryz.isAgg9
 z9:=Tryz.sizeOf9
 v9:=Tryz.zeroValue9
 i9:=by kernel_rfl
 t12:=Tryz.underlying12
 a12:=Tryz.isAgg12
 z12:=Tryz.sizeOf12
 v12:=Tryz.zeroValue12
 i12:=by kernel_rfl
 t17:=Tryz.underlying17
 a17:=Tryz.isAgg17
 z17:=Tryz.sizeOf17
 v17:=Tryz.zeroValue17
 i17:=by kernel_rfl
 t20:=Tryz.underlying20
 a20:=Tryz.isAgg20
 z20:=Tryz.sizeOf20
 v20:=Tryz.zeroValue20
 i20:=by kernel_rfl
 t26:=Tryz.underlying272
 a26:=Tryz.isAgg272
 z26:=Tryz.sizeOf272
 v26:=Tryz.zeroValue272
 i26:=by kernel_rfl
 t32:=Tryz.underlying382
 a32:=Tryz.isAgg382
 z32:=Tryz.sizeOf382
 v32:=Tryz.zeroValue382
 i32:=by kernel_rfl
 t33:=Tryz.underlying383
 a33:=Tryz.isAgg383
 z33:=Tryz.sizeOf383
 v33:=Tryz.zeroValue383
 i33:=by kernel_rfl
 t35:=Tryz.underlying385
 a35:=Tryz.isAgg385
 z35:=Tryz.sizeOf385
 v35:=Tryz.zeroValue385
 i35:=by kernel_rfl
 t37:=Tryz.underlying308
 a37:=Tryz.isAgg308
 z37:=Tryz.sizeOf308
 v37:=Tryz.zeroValue308
 i37:=by kernel_rfl
 t41:=Tryz.underlying243
 a41:=Tryz.isAgg243
 z41:=Tryz.sizeOf243
 v41:=Tryz.zeroValue243
 i41:=by kernel_rfl
 t44:=Tryz.underlying390
 a44:=Tryz.isAgg390
 z44:=Tryz.sizeOf390
 v44:=Tryz.zeroValue390
 i44:=by kernel_rfl
 t49:=Tryz.underlying379
 a49:=Tryz.isAgg379
 z49:=Tryz.sizeOf379
 v49:=Tryz.zeroValue379
 i49:=by kernel_rfl
 t51:=Tryz.underlying177
 a51:=Tryz.isAgg177
 z51:=Tryz.sizeOf177
 v51:=Tryz.zeroValue177
 i51:=by kernel_rfl
 t53:=Tryz.underlying430
 a53:=Tryz.isAgg430
 z53:=Tryz.sizeOf430
 v53:=Tryz.zeroValue430
 i53:=by kernel_rfl
 t54:=Tryz.underlying431
 a54:=Tryz.isAgg431
 z54:=Tryz.sizeOf431
 v54:=Tryz.zeroValue431
 i54:=by kernel_rfl
 t58:=Tryz.underlying155
 a58:=Tryz.isAgg155
 z58:=Tryz.sizeOf155
 v58:=Tryz.zeroValue155
 i58:=by kernel_rfl
 t60:=Tryz.underlying455
 a60:=Tryz.isAgg455
 z60:=Tryz.sizeOf455
 v60:=Tryz.zeroValue455
 i60:=by kernel_rfl
 t64:=Tryz.underlying424
 a64:=Tryz.isAgg424
 z64:=Tryz.sizeOf424
 v64:=Tryz.zeroValue424
 i64:=by kernel_rfl
 t66:=Tryz.underlying479
 a66:=Tryz.isAgg479
 z66:=Tryz.sizeOf479
 v66:=Tryz.zeroValue479
 i66:=by kernel_rfl
 t67:=Tryz.underlying116
 a67:=Tryz.isAgg116
 z67:=Tryz.sizeOf116
 v67:=Tryz.zeroValue116
 i67:=by kernel_rfl
 t75:=Tryz.underlying503
 a75:=Tryz.isAgg503
 z75:=Tryz.sizeOf503
 v75:=Tryz.zeroValue503
 i75:=by kernel_rfl
 t76:=Tryz.underlying504
 a76:=Tryz.isAgg504
 z76:=Tryz.sizeOf504
 v76:=Tryz.zeroValue504
 i76:=by kernel_rfl
 t77:=Tryz.underlying505
 a77:=Tryz.isAgg505
 z77:=Tryz.sizeOf505
 v77:=Tryz.zeroValue505
 i77:=by kernel_rfl
 t78:=Tryz.underlying506
 a78:=Tryz.isAgg506
 z78:=Tryz.sizeOf506
 v78:=Tryz.zeroValue506
 i78:=by kernel_rfl
 t79:=Tryz.underlying507
 a79:=Tryz.isAgg507
 z79:=Tryz.sizeOf507
 v79:=Tryz.zeroValue507
 i79:=by kernel_rfl
 t80:=Tryz.underlying508
 a80:=Tryz.isAgg508
 z80:=Tryz.sizeOf508
 v80:=Tryz.zeroValue508
 i80:=by kernel_rfl
 t82:=Tryz.underlying510
 a82:=Tryz.isAgg510
 z82:=Tryz.sizeOf510
 v82:=Tryz.zeroValue510
 i82:=by kernel_rfl}
end Go.Proofs
namespace Go.Proofs
open Go.Shelf
def Tryz.laysItoa_ren:Go.Shelf.Ren:=⟨λ|171=>360|243=>387|246=>407|283=>415|284=>416|285=>417|286=>418|129=>267|317=>420|318=>421|319=>422|320=>423|337=>424|338=>425|n=>n,λ|3=>3|9=>9|2=>2|4=>4|171=>487|0=>0|53=>177|37=>140|5=>5|173=>489|212=>493|51=>379|20=>20|213=>494|46=>243|232=>495|233=>496|n=>n,λ|17=>3|18=>4|19=>5|n=>n⟩
theorem Tryz.laysItoa:Go.Proofs.LaysM.n171 Tryz.prog Tryz.laysItoa_ren:={
 mixed:=by kernel_rfl
 f129:=Tryz.func267.trans (congrArg some (by kernel_rfl))
 f171:=Tryz.func360.trans (congrArg some (by kernel_rfl))
 f243:=Tryz.func387.trans (congrArg some (by kernel_rfl))
 f246:=Tryz.func407.trans (congrArg some (by kernel_rfl))
 f283:=Tryz.func415.trans (congrArg some (by kernel_rfl))
 f284:=Tryz.func416.trans (congrArg some (by kernel_rfl))
 f285:=Tryz.func417.trans (congrArg some (by kernel_rfl))
 f286:=Tryz.func418.trans (congrArg some (by kernel_rfl))
 f317:=Tryz.func420.trans (congrArg some (by kernel_rfl))
 f318:=Tryz.func421.trans (congrArg some (by kernel_rfl))
 f319:=Tryz.func422.trans (congrArg some (by kernel_rfl))
 f320:=Tryz.func423.trans (congrArg some (by kernel_rfl))
 f337:=Tryz.func424.trans (congrArg some (by kernel_rfl))
 f338:=Tryz.func425.trans (congrArg some (by kernel_rfl))
 t0:=Tryz.underlying0
 a0:=Tryz.isAgg0
 z0:=Tryz.sizeOf0
 v0:=Tryz.zeroValue0
 t2:=Tryz.underlying2
 a2:=Tryz.isAgg2
 z2:=Tryz.sizeOf2
 v2:=Tryz.zeroValue2
 t3:=Tryz.underlying3
 a3:=Tryz.isAgg3
 z3:=Tryz.sizeOf3
 v3:=Tryz.zeroValue3
 t4:=Tryz.underlying4
 a4:=Tryz.isAgg4
 z4:=Tryz.sizeOf4
 v4:=Tryz.zeroValue4
 t5:=Tryz.underlying5
 a5:=Tryz.isAgg5
 z5:=Tryz.sizeOf5
 v5:=Tryz.zeroValue5
 t9:=Tryz.underlying9
 a9:=Tryz.isAgg9
 z9:=Tryz.sizeOf9
 v9:=Tryz.zeroValue9
 t20:=Tryz.underlying20
 a20:=Tryz.isAgg20
 z20:=Tryz.sizeOf20
 v20:=Tryz.zeroValue20
 t37:=Tryz.underlying140
 a37:=Tryz.isAgg140
 z37:=Tryz.sizeOf140
 v37:=Tryz.zeroValue140
 t46:=Tryz.underlying243
 a46:=Tryz.isAgg243
 z46:=Tryz.sizeOf243
 v46:=Tryz.zeroValue243
 t51:=Tryz.underlying379
 a51:=Tryz.isAgg379
 z51:=Tryz.sizeOf379
 v51:=Tryz.zeroValue379
 t53:=Tryz.underlying177
 a53:=Tryz.isAgg177
 z53:=Tryz.sizeOf177
 v53:=Tryz.zeroValue177
 t171:=Tryz.underlying487
 a171:=Tryz.isAgg487
 z171:=Tryz.sizeOf487
 v171:=Tryz.zeroValue487
 t173:=Tryz.underlying489
 a173:=Tryz.isAgg489
 z173:=Tryz.sizeOf489
 v173:=Tryz.zeroValue489
 t212:=Tryz.underlying493
 a212:=Tryz.isAgg493
 z212:=Tryz.sizeOf493
 v212:=Tryz.zeroValue493
 t213:=Tryz.underlying494
 a213:=Tryz.isAgg494
 z213:=Tryz.sizeOf494
 t232:=Tryz.underlying495
 a232:=Tryz.isAgg495
 z232:=Tryz.sizeOf495
 v232:=Tryz.zeroValue495
 t233:=Tryz.underlying496
 a233:=Tryz.isAgg496
 z233:=Tryz.sizeOf496
 v233:=Tryz.zeroValue496
 g17:=by kernel_rfl
 g18:=by kernel_rfl
 g19:=by kernel_rfl
 i0:=by kernel_rfl
 i2:=by kernel_rfl
 i3:=by kernel_rfl
 i4:=by kernel_rfl
 i5:=by kernel_rfl
 i9:=by kernel_rfl
 i20:=by kernel_rfl
 i37:=by kernel_rfl
 i46:=by kernel_rfl
 i51:=by kernel_rfl
 i53:=by kernel_rfl
 i171:=by kernel_rfl
 i173:=by kernel_rfl
 i212:=by kernel_rfl
 i232:=by kernel_rfl
 i233:=by kernel_rfl
 m17:=by kernel_rfl
 m18:=by kernel_rfl
 m19:=by kernel_rfl}
end Go.Proofs
namespace Go.PL
open Go Go.Proofs Go.Sort
theorem d29{α:Type}[Inhabited α]{cells:α->List Go.Value}{n:Nat}(hn:∀x,(cells x).length=n):∀(l:List α)(t:Nat),t<l.length*n->(l.flatMap cells)[t]?=(cells (l[t/n]!))[t%n]?
 |[],t,h=>by simp at h|x::r,t,h=>by
   have hp:0<n:=by
    rcases Nat.eq_zero_or_pos n with h0|h0;.rw[h0]at h;simp at h
    .exact h0
   rw[List.flatMap_cons];by_cases ht:t<n;.rw[List.getElem?_append_left (by rw[hn];exact ht),Nat.div_eq_of_lt ht,Nat.mod_eq_of_lt ht];rfl
   .have h1:t=(t-n)+n:=by omega
    have h2:t/n=(t-n)/n+1:=by rw[h1,Nat.add_div_right _ hp];simp
    have h3:t%n=(t-n)%n:=by rw[h1,Nat.add_mod_right];simp
    rw[List.getElem?_append_right (by rw[hn];omega),hn,d29 hn r (t-n) (by simp only[List.length_cons,Nat.succ_mul]at h;omega),h2,h3];rfl
theorem c6t{α:Type}[Inhabited α]{cells:α->List Go.Value}{n:Nat}(hn:∀x,(cells x).length=n)(d:Array α):(flatK cells n d).toList=d.toList.flatMap cells:=by
 apply List.ext_getElem?;intro t;by_cases ht:t<d.size*n
 .rw[d29 hn d.toList t (by simpa using ht)];have h1:(flatK cells n d)[t]?=some ((cells (d[t/n]!))[t%n]!):=by rw[<-get_flatK cells n d t ht,getElem!_pos (flatK cells n d) t (by rw[size_flatK];exact ht)];simp
  have hp:0<n:=by
   rcases Nat.eq_zero_or_pos n with h0|h0;.rw[h0]at ht;simp at ht
   .exact h0
  have hlt:t%n<(cells (d[t/n]!)).length:=by rw[hn];exact Nat.mod_lt _ hp
  have h2:d.toList[t/n]! =d[t/n]!:=by simp[List.getElem!_eq_getElem?_getD,Array.getElem!_eq_getD,Array.getD_eq_getD_getElem?]
  rw[Array.getElem?_toList,h1,h2,getElem!_pos (cells (d[t/n]!)) (t%n) hlt,qG hlt]
 .rw[List.getElem?_eq_none (by simp;omega),List.getElem?_eq_none (by rw[a0p hn];simp;omega)]
section
variable {α:Type} [Inhabited α] {B:Nat} {E:TypeId} {n:Nat} {cells:α -> List Go.Value} {w w':World} {v:Go.Value} {l:List α}
theorem d6l(hn:∀x,(cells x).length=n){g o cap m:Nat}(h:Own B E n cells w (.slice (some ⟨g,o,none⟩) m cap) l):HoldsK cells n w g o l.toArray:=by
 intro j hj;rw[size_flatK]at hj;have hk:=c6t hn l.toArray;have hu:(l.flatMap cells)[j]?=some ((flatK cells n l.toArray)[j]!):=by
  have:(flatK cells n l.toArray).toList[j]?=some ((flatK cells n l.toArray)[j]!):=by rw[getElem!_pos (flatK cells n l.toArray) j (by rw[size_flatK];exact hj)];simp
  rw[hk]at this;simpa using this
 refine⟨?_,?_⟩;.have:=h.ca rfl j _ hu;rwa[Addr.add_lit]at this
 .rcases h with⟨hv,_⟩|⟨g',o',cap',cur,hv,_,hh,_⟩;.cases hv
  .simp only[Go.Value.slice.injEq,Option.some.injEq,Addr.mk.injEq]at hv;obtain⟨⟨rfl,_,_⟩,_,_⟩:=hv;have hM:Mb w g E cur.toList:=by show _=_;rw[hh]
   exact hM.frozen _
theorem d3h{F cur:Array Go.Value}{m o:Nat}(hF:F.size=m)(hc:o+m<=cur.size):((putCells id o F cur).toList.drop o).take m=F.toList:=by
 apply List.ext_getElem?;intro t;by_cases ht:t<m;.rw[List.getElem?_take_of_lt ht,List.getElem?_drop,Array.getElem?_toList];simp only[putCells,Array.getElem?_mapIdx,id];rw[Array.getElem?_eq_getElem (show o+t<cur.size by omega),Option.map_some,if_pos ⟨Nat.le_add_right _ _,by omega⟩,Array.getElem?_toList,Nat.add_sub_cancel_left,getElem!_pos F t (by omega),Array.getElem?_eq_getElem (show t<F.size by omega)]
 .rw[List.getElem?_eq_none (by simp;omega),List.getElem?_eq_none (by simp;omega)]
theorem e97(hn:∀x,(cells x).length=n){g o cap m q:Nat}{os:Array Obj}{d:Array α}(h:Own B E n cells w (.slice (some ⟨g,o,none⟩) m cap) l)(hd:d.size=l.length):Own B E n cells (grow (putRowK cells n (Go.Sort.ahead w q) g o d) os) (.slice (some ⟨g,o,none⟩) m cap) d.toList:=by
 rcases h with⟨hv,_⟩|⟨g',o',cap',cur,hv,hB,hh,hc,hm,hs,ht⟩;.cases hv
 .simp only[Go.Value.slice.injEq,Option.some.injEq,Addr.mk.injEq]at hv;obtain⟨⟨rfl,rfl,_⟩,hml,rfl⟩:=hv;have hlt:g<w.heap.size:=(qN.1 hh).1;have hmn:d.size*n<=cap*n:=by rw[hd];exact Nat.mul_le_mul_right _ hc
  refine .inr ⟨g,o,cap,putCells id o (flatK cells n d) cur,by rw[Array.length_toList,hd,hml],hB,?_,by rw[Array.length_toList,hd];exact hc,hm,by simp[putCells,hs],?_⟩;.show((putRowK cells n (Go.Sort.ahead w q) g o d).heap++os)[g]?=_;rw[Array.getElem?_append_left (by rw[size_putRowK];exact hlt)];show(w.heap.modify g _)[g]?=_;rw[Array.getElem?_modify,if_pos rfl,hh];rfl
  .rw[Array.length_toList,d3h (by rw[size_flatK]) (by omega),c6t hn]
theorem e7r{G:Nat->Prop}{g o q:Nat}{os:Array Obj}{d:Array α}(hg:G g):Ext G w (grow (putRowK cells n (Go.Sort.ahead w q) g o d) os):=⟨rfl,rfl,rfl,by show _<=((putRowK cells n (Go.Sort.ahead w q) g o d).heap++os).size;rw[Array.size_append,size_putRowK];exact Nat.le_add_right _ _,λb hb hn=>by show((putRowK cells n (Go.Sort.ahead w q) g o d).heap++os)[b]?=_;rw[Array.getElem?_append_left (by rw[size_putRowK];exact hb)];show(w.heap.modify g _)[b]?=_;rw[Array.getElem?_modify,if_neg (λe:g=b=>hn (e▸hg))]⟩
end
theorem e5t{α:Type}[Inhabited α](enc:α->Go.Value)(w:World)(b o:Nat)(d:Array α):putRow enc w b o d=putRowK (λx=>[enc x]) 1 w b o d:=by
 unfold putRowK putRow;congr 1;funext c;unfold putCells;refine Array.ext (by simp) λk h1 h2=>?_;simp only[Array.getElem_mapIdx,size_flatK,Nat.mul_one,id];split;.rename_i h;rw[get_flatK _ _ _ _ (by omega),Nat.div_one,Nat.mod_one];rfl
 .rfl
theorem e8y{α:Type}[Inhabited α]{enc:α->Go.Value}{w:World}{b o:Nat}{d:Array α}(h:HoldsK (λx=>[enc x]) 1 w b o d):Holds enc w b o d:=λj hj=>by have:=h j (by simpa using hj);rw[get_flatK _ _ _ _ (by omega),Nat.div_one,Nat.mod_one]at this;exact this
end Go.PL
namespace Go.Proofs
open Go.Shelf Go.RowKit Go.Lib Go.Sort
noncomputable def Tryz.spT:TypeInfo:=(Tryz.prog.info? 170).get (by kernel_rfl)
noncomputable def Tryz.spE:TypeInfo:=(Tryz.prog.info? 66).get (by kernel_rfl)
theorem Tryz.spK(n:Nat)(h2:2<=n):Lib.swapperK n Tryz.spE 25=9:=by
 have a:Tryz.spE.hasPointers=false:=by kernel_rfl
 have b:Tryz.spE.bytes=16:=by kernel_rfl
 have c:(n==0)=false:=by simp;omega
 have d:(n==1)=false:=by simp;omega
 simp[Lib.swapperK,a,b,c,d]
set_option maxHeartbeats 2000000 in
theorem Tryz.spLess (blk off c Bs size:Nat) (W:World) (G:Nat -> Int) (hs:W.cell? ⟨Bs,0,none⟩=some (.slice (some ⟨blk,off,none⟩) size c))
  (hc: ∀t,t<size -> W.cell? ⟨blk,off+t*2,none⟩=some (.int .i64 (G t))) (i j:Nat) (hi:i<size) (hj:j<size) (_hsz:size<4611686018427387904):
  Calls Tryz.prog 201 #[.int .i64 i,.int .i64 j,.pointer (some ⟨Bs,0,none⟩)] W λ e w'=>e= .returned (.bool (decide (G i<G j))) /\ ∃q,w'=W.drewN q:=by
 have ci:=hc i hi
 have cj:=hc j hj
 go_enter Tryz.func201,Tryz.ntmps201
 go_wp2
 go_quiet (fail)
 go_wp2
 go_ret
 exact ⟨rfl,nq,rfl⟩
end Go.Proofs
namespace Go.PL
open Go Go.Proofs Go.Sort
def Span.cells(x:Span):List Go.Value:=[.int .i64 x.From,.int .i64 x.To]
theorem e3o:SWO (λx y:Span=>decide (x.From<y.From)):=by
 constructor;.intro x;simp
 .intro x y z;simp only[decide_eq_true_eq];omega
 .intro x y z;simp only[decide_eq_false_iff_not];omega
set_option maxHeartbeats 2000000 in
theorem d0w {w0:World} (l:List Span) {v:Go.Value} {B bc:Nat} (hO:Own B 66 2 Span.cells w0 v l) (hb:Mb w0 bc 170 [v]) (hnb:Go.Value.ownBlock v≠some bc) {r:List Span} (hF:b3w l=some r):
  Calls Tryz.prog 200 #[.iface 170 v,.func (.func 201) #[] #[.pointer (some ⟨bc,0,none⟩)]] w0 λ e w1=>e= .returned (.tuple #[]) /\ Ext (λ b=>Go.Value.ownBlock v=some b) w0 w1 /\ Own B 66 2 Span.cells w1 v r:=by
 unfold b3w f0f at hF
 by_cases h1:l.length <= 1
 ·rw [if_pos h1] at hF
  obtain rfl:=qH hF
  obtain ⟨a,cap,hv,_,_⟩:=hO.shape
  have key: ∀n,l.length=n -> Calls Tryz.prog 200 #[.iface 170 (.slice a n cap),.func (.func 201) #[] #[.pointer (some ⟨bc,0,none⟩)]] w0 (λ e w'=>e= .returned (.tuple #[]) /\ ∃os,w'=Go.Sort.grow w0 os) ->
    Calls Tryz.prog 200 #[.iface 170 v,.func (.func 201) #[] #[.pointer (some ⟨bc,0,none⟩)]] w0 λ e w1=>e= .returned (.tuple #[]) /\ Ext (λ b=>Go.Value.ownBlock v=some b) w0 w1 /\ Own B 66 2 Span.cells w1 v l:=by
   intro n hn h
   rw [hn] at hv
   rw [<- hv] at h
   refine Calls.mono h ?_
   rintro e w1 ⟨rfl,os,rfl⟩
   have hE:Ext noG w0 (Go.Sort.grow w0 os):=⟨rfl,rfl,rfl,by show _ <= (w0.heap++os).size;simp,λ b hb _=>by show (w0.heap++os)[b]? =_;rw [Array.getElem?_append_left hb]⟩
   exact ⟨rfl,hE.of_no,hO.exn hE⟩
  rcases (show l.length=0 \/ l.length=1 by omega) with h0 | h0
  ·exact key 0 h0 (Any.sort_Slice_tiny Tryz.sliceLay 170 66 Tryz.spT Tryz.spE (by kernel_rfl) (by kernel_rfl) (by kernel_rfl) (by kernel_rfl) 25 (λ _=>by kernel_rfl) a 0 cap (by omega) 327 (by kernel_rfl) (.func 201) #[] #[.pointer (some ⟨bc,0,none⟩)] w0)
  ·exact key 1 h0 (Any.sort_Slice_tiny Tryz.sliceLay 170 66 Tryz.spT Tryz.spE (by kernel_rfl) (by kernel_rfl) (by kernel_rfl) (by kernel_rfl) 25 (λ _=>by kernel_rfl) a 1 cap (by omega) 328 (by kernel_rfl) (.func 201) #[] #[.pointer (some ⟨bc,0,none⟩)] w0)
 ·rw [if_neg h1] at hF
  split at hF
  case isFalse=>cases hF
  rename_i hsz
  obtain rfl:=qH hF
  obtain ⟨a,cap,hv,hlc,hcm⟩:=hO.shape
  cases a with
  | none=>
    exfalso
    rcases hO with ⟨_,h⟩ | ⟨g,o,c',cur,hv',_⟩
    ·rw [h] at h1;simp at h1
    ·rw [hv] at hv';cases hv'
  | some ad=>
    obtain ⟨g,o,hg⟩: ∃g o,ad=⟨g,o,none⟩:=by
     rcases hO with ⟨h,_⟩ | ⟨g,o,c',cur,hv',_⟩
     ·rw [hv] at h;cases h
     ·rw [hv] at hv';cases hv';exact ⟨g,o,rfl⟩
    subst hg
    subst hv
    have hlt:g<w0.heap.size:=(hO.lt rfl).2
    have hbg:bc≠g:=λ e=>hnb (by rw [e];rfl)
    have hcell:w0.cell? ⟨bc,0,none⟩=some (.slice (some ⟨g,o,none⟩) l.toArray.size cap):=hb.ca 0 _ rfl
    have hH:=d6l (n:=2) (cells:=Span.cells) (λ _=>rfl) hO
    have h2:2 <= l.toArray.size:=by rw [List.size_toArray];omega
    have hsz':l.toArray.size<4611686018427387904:=by rw [List.size_toArray];exact hsz
    have hless:LessReadsK Tryz.prog 201 #[.pointer (some ⟨bc,0,none⟩)] Span.cells 2 (λ x y:Span=>decide (x.From<y.From)) g o l.toArray.size w0:=by
     intro m os dk hs i j hi hj
     have e:sortWorldK Span.cells 2 w0 g o m dk os=putRowK Span.cells 2 (grow (Go.Sort.ahead w0 m) os) g o dk:=by
      unfold sortWorldK;rw [putRowK_grow _ _ (Go.Sort.ahead w0 m) _ g o _ hlt]
     have hHg:HoldsK Span.cells 2 (grow (Go.Sort.ahead w0 m) os) g o l.toArray:=holdsK_grow _ _ _ _ g o _ hlt (holdsK_ahead _ _ _ _ _ _ _ hH)
     refine Tryz.spLess g o cap bc l.toArray.size _ (λ t=>dk[t]!.From) ?_ (λ t ht=> ?_) i j hi hj (by omega)
     ·rw [e,cell?_putRowK_other _ _ _ g o dk _ (by exact hbg),cell?_grow _ _ _ (by exact hb.lt)];exact hcell
     ·rw [e];exact ((holdsK_putRowK _ _ _ g o l.toArray dk hHg hs).cell (i:=t) (c:=0) (by omega) (by omega)).1
    have hS:=Any.sort_Slice_cells_eq Tryz.sliceLay 170 66 Tryz.spT Tryz.spE (by kernel_rfl) (by kernel_rfl) (by kernel_rfl) (by kernel_rfl) 25 (λ _=>by kernel_rfl) Span.cells 2 (λ _=>rfl) (by kernel_rfl) (λ _=>by kernel_rfl)
     (λ x u hu=>by simp [Span.cells] at hu;rcases hu with rfl | rfl<;>rfl) (λ x y:Span=>decide (x.From<y.From)) e3o 201 _
     (enters_of Tryz.func201 (by kernel_rfl) rfl) g o cap l.toArray h2 hsz' 335 (by rw [Tryz.spK _ h2];kernel_rfl) false
     (λ args W=>run_callFunc_extern Tryz.func335 (by kernel_rfl) (by kernel_rfl) (by kernel_rfl) (e:=Extern.ReflectliteSwapper.swap false) (by kernel_rfl) args W) w0 hless hH hlt
    have hp:=(pdq_sorts (λ x y:Span=>decide (x.From<y.From)) e3o l.toArray 0 l.toArray.size (Lib.bitLen l.toArray.size) true true (Nat.zero_le _) (Nat.le_refl _) (Or.inl rfl)).1.1
    rw [List.size_toArray] at hS hp
    generalize pdq (λ x y:Span=>decide (x.From<y.From)) l.toArray 0 l.length (Lib.bitLen l.length) true true=d at hS hp⊢
    refine Calls.mono hS ?_
    rintro e w1 ⟨rfl,q,os,rfl⟩
    exact ⟨rfl,e7r rfl,e97 (n:=2) (cells:=Span.cells) (λ _=>rfl) hO hp⟩
end Go.PL
namespace Go.PL
open Go Go.SX Go.Proofs
theorem mixed:Tryz.prog.follows .mixedOrders=true:=by kernel_rfl
noncomputable section
def g1q:Fent VV:=⟨⟨[.v .yn,.v .yn,.v .yn],[.v .yn,.v .yn]⟩,Int×Int,λx=>c23 x.1 x.2.1 x.2.2.1,λn=>((n.1,n.2,()),()),none⟩
theorem h0a:d6d Tryz.prog 405 g1q:=d2m (U:=VV) (g:=g7y) (l:=Extern.MathBitsCarry.rows) (λh _ he=>g34 h he) (fn:=Tryz.f405) (by kernel_rfl) (by kernel_rfl) (by kernel_rfl) (by kernel_rfl) (by kernel_rfl) (by kernel_rfl) (a:=.yn) (λx=>x) (λn=>n) (λ_=>rfl) (λ_=>rfl)
def g2b:Fent VV:=⟨⟨[.v .yn,.v .yn,.v .yn],[.v .yn,.v .yn]⟩,Int×Int,λx=>c1u x.1 x.2.1 x.2.2.1,λn=>((n.1,n.2,()),()),none⟩
theorem g9m:d6d Tryz.prog 406 g2b:=d2m (U:=VV) (g:=g8x) (l:=Extern.MathBitsCarry.rows.tail) (λh _ he=>g3o h he) (fn:=Tryz.f406) (by kernel_rfl) (by kernel_rfl) (by kernel_rfl) (by kernel_rfl) (by kernel_rfl) (by kernel_rfl) (a:=.yn) (λx=>x) (λn=>n) (λ_=>rfl) (λ_=>rfl)
def g23:Fent VV:=⟨⟨[.v .yl,.v .yo],[.v .z9]⟩,Int,λx=>a7v x.1 x.2.1,λn=>((n,()),()),none⟩
theorem g7q:d6d Tryz.prog 413 g23:=f6g (U:=VV) (a:=.yl) (b:=.yo) (c:=.z9) (fn:=Tryz.f413) (by kernel_rfl) (by kernel_rfl) (by kernel_rfl) (by kernel_rfl) (by kernel_rfl) (λx=>x) (λx=>x) (λn=>n) (λ_=>rfl) (λ_=>rfl) (λ_=>rfl)
def g08:Fent VV:=⟨⟨[.v .z9],[.v .yl]⟩,ByteArray,λx=>strconv_Itoa x.1,λb=>((b,()),()),none⟩
theorem g7s:SX.Spec Tryz.prog 360 g08:=e8o (U:=VV) (a:=.z9) (c:=.yl) Tryz.laysItoa (λ_ h=>h) (λx=>x) (λ_=>rfl) (λx=>x) (λ_=>rfl)
def g9x:Fent VV:=⟨⟨[.ls .z9],[.ow 3 .z9]⟩,List Int,λx=>a7z x.1,w1,none⟩
theorem h2o:SX.Spec Tryz.prog 56 g9x:=b6g (U:=VV) (c:=.z9) (e:=3) (t:=23) (b:=4) (N:=8) uok mixed (fn:=Tryz.f56) (by kernel_rfl) (by kernel_rfl) rfl rfl (by kernel_rfl) (by kernel_rfl) (by kernel_rfl) (λl=>by kernel_rfl)
def g1z:Fent VV:=⟨⟨[.ls .zj],[.ow 251 .zj]⟩,List Credit,λx=>a5m x.1,w1,none⟩
theorem h0p:SX.Spec Tryz.prog 162 g1z:=b6g (U:=VV) (c:=.zj) (e:=251) (t:=56) (b:=4) (N:=16) uok mixed (fn:=Tryz.f162) (by kernel_rfl) (by kernel_rfl) rfl rfl (by kernel_rfl) (by kernel_rfl) (by kernel_rfl) (λl=>by kernel_rfl)
def g0h:Fent VV:=⟨⟨[.ls .zo],[.ow 253 .zo]⟩,List Index,λx=>a6e x.1,w1,none⟩
theorem g7o:SX.Spec Tryz.prog 163 g0h:=b6g (U:=VV) (c:=.zo) (e:=253) (t:=57) (b:=4) (N:=24) uok mixed (fn:=Tryz.f163) (by kernel_rfl) (by kernel_rfl) rfl rfl (by kernel_rfl) (by kernel_rfl) (by kernel_rfl) (λl=>by kernel_rfl)
def g21:Fent VV:=⟨⟨[.ls .zq],[.ow 255 .zq]⟩,List Let,λx=>a86 x.1,w1,none⟩
theorem g7p:SX.Spec Tryz.prog 164 g21:=b6g (U:=VV) (c:=.zq) (e:=255) (t:=58) (b:=4) (N:=88) uok mixed (fn:=Tryz.f164) (by kernel_rfl) (by kernel_rfl) rfl rfl (by kernel_rfl) (by kernel_rfl) (by kernel_rfl) (λl=>by kernel_rfl)
def g2c:Fent VV:=⟨⟨[.ls .zn],[.ow 79 .zn]⟩,List Grant,λx=>a6f x.1,w1,none⟩
theorem g8u:SX.Spec Tryz.prog 165 g2c:=b6g (U:=VV) (c:=.zn) (e:=79) (t:=59) (b:=4) (N:=152) uok mixed (fn:=Tryz.f165) (by kernel_rfl) (by kernel_rfl) rfl rfl (by kernel_rfl) (by kernel_rfl) (by kernel_rfl) (λl=>by kernel_rfl)
def g0x:Fent VV:=⟨⟨[.ls .zv],[.ow 258 .zv]⟩,List Reduce,λx=>a5p x.1,w1,none⟩
theorem g9z:SX.Spec Tryz.prog 166 g0x:=b6g (U:=VV) (c:=.zv) (e:=258) (t:=60) (b:=4) (N:=80) uok mixed (fn:=Tryz.f166) (by kernel_rfl) (by kernel_rfl) rfl rfl (by kernel_rfl) (by kernel_rfl) (by kernel_rfl) (λl=>by kernel_rfl)
def h02:Fent VV:=⟨⟨[],[]⟩,Unit,λ_=>none,λ_=>((),()),some (.qy (slQ 170 66 .y1 201 b3w))⟩
def K200:Kn Tryz.prog VV:=⟨200,h02,show d6v Tryz.prog 200 _ from g47 (U:=VV) (c:=.y1) (cells:=Span.cells) (a14 (fn:=Tryz.f200) (by kernel_rfl) (by kernel_rfl) (by kernel_rfl)) (λG w cs x h=>by obtain⟨_,css,rfl,hh⟩:=a91.1 h;match css,hh with|[a,b],⟨h1,h2,_⟩=>rw[show a=_ from h1,show b=_ from h2];rfl) (λG w x=>a91.2 ⟨rfl,[[.int .i64 x.From],[.int .i64 x.To]],rfl,⟨rfl,rfl,trivial⟩⟩) λl r w v bc hO hM hne hF=>d0w l hO hM hne hF⟩
def g9l:Fent VV:=⟨⟨[],[]⟩,Unit,λ_=>none,λ_=>((),()),some (.qy (soQ 3 .z9 b8s))⟩
def g80:Fent VV:=⟨⟨[],[]⟩,Unit,λ_=>none,λ_=>((),()),some (.qy (skQ 192 218 3 .z9 λx=>x))⟩
def K56:Kn Tryz.prog VV:=⟨56,g9x,knS rfl ⟨h2o,λ_ _=>by kernel_rfl⟩⟩
def K162:Kn Tryz.prog VV:=⟨162,g1z,knS rfl ⟨h0p,λ_ _=>by kernel_rfl⟩⟩
def K163:Kn Tryz.prog VV:=⟨163,g0h,knS rfl ⟨g7o,λ_ _=>by kernel_rfl⟩⟩
def K164:Kn Tryz.prog VV:=⟨164,g21,knS rfl ⟨g7p,λ_ _=>by kernel_rfl⟩⟩
def K165:Kn Tryz.prog VV:=⟨165,g2c,knS rfl ⟨g8u,λ_ _=>by kernel_rfl⟩⟩
def K166:Kn Tryz.prog VV:=⟨166,g0x,knS rfl ⟨g9z,λ_ _=>by kernel_rfl⟩⟩
def K360:Kn Tryz.prog VV:=⟨360,g08,knS rfl ⟨g7s,λ_ _=>by kernel_rfl⟩⟩
def h3x:Fent VV:=⟨⟨[],[]⟩,Unit,λ_=>none,λ_=>((),()),some (.seq 99 25 (some .zy))⟩
def K55:Kn Tryz.prog VV:=⟨55,h3x,show b9c _ _ _ _ from c5j (tS:=25) (tF:=146) (tG:=145) (p1:= "iter.go:26") (p2:= "iter.go:27") (a14 (fn:=Tryz.f55) (by kernel_rfl) (by kernel_rfl) (by kernel_rfl)) (fn:=Tryz.f55) (by kernel_rfl) (by kernel_rfl) rfl rfl⟩
def g81:Fent VV:=⟨⟨[],[]⟩,Unit,λ_=>none,λ_=>((),()),some (.seq 161 43 (some .y8))⟩
def K100:Kn Tryz.prog VV:=⟨100,g81,show b9c _ _ _ _ from c5j (tS:=43) (tF:=198) (tG:=197) (p1:= "iter.go:26") (p2:= "iter.go:27") (a14 (fn:=Tryz.f100) (by kernel_rfl) (by kernel_rfl) (by kernel_rfl)) (fn:=Tryz.f100) (by kernel_rfl) (by kernel_rfl) rfl rfl⟩
def g9i:Fent VV:=⟨⟨[],[]⟩,Unit,λ_=>none,λ_=>((),()),some (.seq 192 218 none)⟩
def K117:Kn Tryz.prog VV:=⟨117,g9i,show b9c _ _ _ _ from c5j (tS:=218) (tF:=223) (tG:=222) (p1:= "iter.go:25") (p2:= "iter.go:26") (a14 (fn:=Tryz.f117) (by kernel_rfl) (by kernel_rfl) (by kernel_rfl)) (fn:=Tryz.f117) (by kernel_rfl) (by kernel_rfl) rfl rfl⟩
def h04:Fent VV:=⟨⟨[],[]⟩,Unit,λ_=>none,λ_=>((),()),some (.seq 378 39 (some .y4))⟩
def K349:Kn Tryz.prog VV:=⟨349,h04,show b9c _ _ _ _ from c5j (tS:=39) (tF:=441) (tG:=440) (p1:= "iter.go:26") (p2:= "iter.go:27") (a14 (fn:=Tryz.f349) (by kernel_rfl) (by kernel_rfl) (by kernel_rfl)) (fn:=Tryz.f349) (by kernel_rfl) (by kernel_rfl) rfl rfl⟩
def g87:Fent VV:=⟨⟨[],[]⟩,Unit,λ_=>none,λ_=>((),()),some (.seq 379 23 (some .z9))⟩
def K350:Kn Tryz.prog VV:=⟨350,g87,show b9c _ _ _ _ from c5j (tS:=23) (tF:=223) (tG:=222) (p1:= "iter.go:37") (p2:= "iter.go:38") (a14 (fn:=Tryz.f350) (by kernel_rfl) (by kernel_rfl) (by kernel_rfl)) (fn:=Tryz.f350) (by kernel_rfl) (by kernel_rfl) rfl rfl⟩
def g8g:Fent VV:=⟨⟨[],[]⟩,Unit,λ_=>none,λ_=>((),()),some (.seq 409 263 (some .zh))⟩
def K391:Kn Tryz.prog VV:=⟨391,g8g,show b9c _ _ _ _ from c5j (tS:=263) (tF:=471) (tG:=470) (p1:= "iter.go:26") (p2:= "iter.go:27") (a14 (fn:=Tryz.f391) (by kernel_rfl) (by kernel_rfl) (by kernel_rfl)) (fn:=Tryz.f391) (by kernel_rfl) (by kernel_rfl) rfl rfl⟩
def bkL:List (Nat×TypeId×TyC×Bool):=[(99,25,.zy,false),(161,43,.y8,false),(378,39,.y4,false),(379,23,.z9,true),(409,263,.zh,false)]
theorem bkA:h1j (U:=VV) Tryz.prog bkL:=⟨⟨74,⟨⟨Tryz.f99,3,4,196,by kernel_rfl,⟨by kernel_rfl,rfl⟩,rfl⟩,λ_ _=>a14 (fn:=Tryz.f99) (by kernel_rfl) (by kernel_rfl) (by kernel_rfl) _ _,by kernel_rfl,by kernel_rfl⟩,λ_=>by kernel_rfl,λ_=>by kernel_rfl⟩,⟨62,⟨⟨Tryz.f161,3,4,273,by kernel_rfl,⟨by kernel_rfl,rfl⟩,rfl⟩,λ_ _=>a14 (fn:=Tryz.f161) (by kernel_rfl) (by kernel_rfl) (by kernel_rfl) _ _,by kernel_rfl,by kernel_rfl⟩,λ_=>by kernel_rfl,λ_=>by kernel_rfl⟩,⟨98,⟨⟨Tryz.f378,3,4,460,by kernel_rfl,⟨by kernel_rfl,rfl⟩,rfl⟩,λ_ _=>a14 (fn:=Tryz.f378) (by kernel_rfl) (by kernel_rfl) (by kernel_rfl) _ _,by kernel_rfl,by kernel_rfl⟩,λ_=>by kernel_rfl,λ_=>by kernel_rfl⟩,⟨3,⟨⟨Tryz.f379,3,4,110,by kernel_rfl,⟨by kernel_rfl,rfl⟩,rfl⟩,λ_ _=>a14 (fn:=Tryz.f379) (by kernel_rfl) (by kernel_rfl) (by kernel_rfl) _ _,by kernel_rfl,by kernel_rfl⟩,λ_=>by kernel_rfl,λ_=>by kernel_rfl⟩,⟨352,⟨⟨Tryz.f409,3,4,482,by kernel_rfl,⟨by kernel_rfl,rfl⟩,rfl⟩,λ_ _=>a14 (fn:=Tryz.f409) (by kernel_rfl) (by kernel_rfl) (by kernel_rfl) _ _,by kernel_rfl,by kernel_rfl⟩,λ_=>by kernel_rfl,λ_=>by kernel_rfl⟩,trivial⟩
abbrev mkR:=@knR Tryz.prog VV uok mixed bkL bkA
def K405:Kn Tryz.prog VV:=⟨405,g1q,knX rfl h0a⟩
def K406:Kn Tryz.prog VV:=⟨406,g2b,knX rfl g9m⟩
def K413:Kn Tryz.prog VV:=⟨413,g23,knX rfl g7q⟩
abbrev mk:=@kn Tryz.prog VV uok mixed
def K47:=mk 47 Tryz.f47 ⟨[.v .z9],[.v .yl]⟩ (λx=>i8 x.1) w1 u1 (sk 2 (.s (.l [] [] [.v 0 .z9,.v 3 .yl] .n) .n)) []
def K22:=mk 22 Tryz.f22 ⟨[.v .z9,.v .z9],[.v .z9]⟩ (λx=>b7 x.1 x.2.1) w1 u1 .n []
def K23:=mk 23 Tryz.f23 ⟨[.ls .z9,.v .z9],[.v .z9]⟩ (λx=>c5 x.1 x.2.1) w1 u1 .n [K22]
def K90:=mk 90 Tryz.f90 ⟨[.v .z9],[.v .yl]⟩ (λx=>a01 x.1) w1 u1 .n [K47]
def K48:=mk 48 Tryz.f48 ⟨[.v .yl,.ls .z9,.v .z9],[.v .yl]⟩ (λx=>a38 x.1 x.2.1 x.2.2.1) w1 u1 (sk 3 (.j [] [.ls 1 .z9,.v 2 .z9,.v 7 .yl,.v 8 .yl] .n (.s .n (.j [] [.ls 1 .z9,.v 2 .z9,.v 7 .yl,.v 8 .yl] .n (.j [] [.ls 1 .z9,.v 2 .z9,.v 7 .yl,.v 8 .yl] .n (.s .n (.s .n (.s .n (.s .n (.j [] [.ls 1 .z9,.v 2 .z9,.v 8 .yl] .n (.s .n (.s .n (.j [] [.ls 1 .z9,.v 2 .z9,.v 8 .yl] .n .n))))))))))))) [K22,K23,K47,K90]
def K21:=mk 21 Tryz.f21 ⟨[.v .z9,.ls .z9],[.v .yl]⟩ (λx=>b10 x.1 x.2.1) w1 u1 (sk 3 (.j [] [.v 0 .z9,.ls 1 .z9,.v 6 .yl] .n .n)) [K22,K23,K47,K48]
def K206:=mk 206 Tryz.f206 ⟨[.v .yl,.v .z9],[.v .z9]⟩ (λx=>b16 x.1 x.2.1) w1 u1 (sk 2 (.s (.l [0] [] [.v 1 .z9,.v 5 .z8] .n) .n)) []
def h2k:=mk 207 Tryz.f207 ⟨[.v .yo],[.v .z8]⟩ (λx=>a3q x.1) w1 u1 .n []
def h1y:=mk 209 Tryz.f209 ⟨[.v .yo],[.v .z8]⟩ (λx=>a30 x.1) w1 u1 .n []
def K208:=mk 208 Tryz.f208 ⟨[.v .yl,.v .z9,.v .z8],[.v .z9]⟩ (λx=>a9f x.1 x.2.1 x.2.2.1) w1 u1 (sk 2 (.s (.l [0,1,2] [] [.v 7 .z9] .n) .n)) [h2k,h1y]
def K137:=mk 137 Tryz.f137 ⟨[.v .yl],[.v .yl,.v .yl,.v .z9,.v .z8]⟩ (λx=>a6z x.1) (λb=>((b.1,(b.2.1,(b.2.2.1,(b.2.2.2,())))),())) (λp=>(p.1.1,p.1.2.1,p.1.2.2.1,p.1.2.2.2.1)) (sk 2 (.j [] [.v 0 .yl,.v 6 .z9] .n (.s .n (.s (.s .n (.l [0,6] [] [.v 8 .z9,.v 9 .z9] .n)) (.s .n (.j [] [.v 6 .z9,.v 10 .yl,.v 11 .yl] .n (.s (.s .n (.l [6,10,11] [] [.v 12 .z9] .n)) .n))))))) [h1y]
def K213:=mk 213 Tryz.f213 ⟨[.v .yl],[.v .z9,.v .z8]⟩ (λx=>a4m x.1) w2 u2 (sk 2 (.s (.s .n (.l [0] [] [.v 4 .z9,.v 5 .z9] .n)) .n)) []
def K358:=mk 358 Tryz.f358 ⟨[.v .z9],[.v .z8]⟩ (λx=>b18 x.1) w1 u1 .n []
def K289:=mk 289 Tryz.f289 ⟨[.v .z9,.v .z9],[.v .z9]⟩ (λx=>a6b x.1 x.2.1) w1 u1 .n [K358]
def K290:=mk 290 Tryz.f290 ⟨[.v .z9],[.v .z9]⟩ (λx=>a9y x.1) w1 u1 (sk 2 (.s (.s .n (.l [0] [] [.v 3 .z9,.v 4 .z9] .n)) .n)) [K289]
def K214:=mk 214 Tryz.f214 ⟨[.v .z9,.v .z9,.v .z9],[.v .z9,.v .z8]⟩ (λx=>b22 x.1 x.2.1 x.2.2.1) w2 u2 .n [K289,K290]
def K139:=mk 139 Tryz.f139 ⟨[.v .yl],[.v .z9,.v .z8]⟩ (λx=>a47 x.1) w2 u2 .n [K213,K214]
def K210:=mk 210 Tryz.f210 ⟨[.v .yl,.v .z9],[.v .z9]⟩ (λx=>b1a x.1 x.2.1) w1 u1 (.s .n (.j [] [.v 0 .yl,.v 1 .z9] .n .n)) []
def K134:=mk 134 Tryz.f134 ⟨[.v .yl,.v .z9],[.v .y5,.v .z9,.v .z9]⟩ (λx=>b15 x.1 x.2.1) (λb=>((b.1,(b.2.1,(b.2.2,()))),())) (λp=>(p.1.1,p.1.2.1,p.1.2.2.1)) (sk 5 (.j [] [.v 0 .yl,.v 1 .z9,.bx 4 2 185 .y5,.v 7 .z9,.v 8 .z9,.v 9 .z8] .n .n)) [K137,K139,K206,h2k,K208,h1y,K210]
def K80:=mk 80 Tryz.f80 ⟨[.v .yl],[.ow 185 .y5,.v .z9,.v .z9]⟩ (λx=>b25 x.1) (λb=>((b.1,(b.2.1,(b.2.2,()))),())) (λp=>(p.1.1,p.1.2.1,p.1.2.2.1)) (sk 4 (.l [0] [] [.ow 5 1 185 .y5,.v 6 .z9] .n)) [K134]
def K39:=mk 39 Tryz.f39 ⟨[.v .yl],[.bo 131 .yi,.v .z9,.v .z9]⟩ (λx=>b02 x.1) (λb=>((b.1,(b.2.1,(b.2.2,()))),())) (λp=>(p.1.1,p.1.2.1,p.1.2.2.1)) .n [K80]
def K85:=mk 85 Tryz.f85 ⟨[.rp 131 .yi,.v .yl],[.v .z8]⟩ (λx=>u9 x.1 x.2.1) w1 u1 .n []
def K43:=mk 43 Tryz.f43 ⟨[.io 131 .yi,.v .yl],[.v .z8]⟩ (λx=>d7 x.1 x.2.1) (λb=>((b.1,()),(b.2,()))) (λp=>(p.1.1,p.2.1)) .n [K85]
def K81:=mk 81 Tryz.f81 ⟨[.io 131 .yi],[]⟩ (λx=>j8 x.1) (λb=>((),(b,()))) (λp=>p.2.1) .n []
def K40:=mk 40 Tryz.f40 ⟨[.io 131 .yi,.v .yl],[]⟩ (λx=>b9 x.1 x.2.1) (λb=>((),(b,()))) (λp=>p.2.1) .n [K43,K81]
def K82:=mk 82 Tryz.f82 ⟨[.rp 131 .yi,.v .z9],[.v .z8]⟩ (λx=>p8 x.1 x.2.1) w1 u1 .n []
def K135:=mk 135 Tryz.f135 ⟨[.v .yl],[.v .z8]⟩ (λx=>a99 x.1) w1 u1 (.s .n (.s (.s .n (.l [0] [] [.v 3 .z9] .n)) .n)) [h2k,h1y]
def K136:=mk 136 Tryz.f136 ⟨[.v .yl],[.v .z8]⟩ (λx=>a7o x.1) w1 u1 .n []
def K83:=mk 83 Tryz.f83 ⟨[.v .yl],[.v .z8]⟩ (λx=>a2e x.1) w1 u1 .n [K135,K136]
def K41:=mk 41 Tryz.f41 ⟨[.io 131 .yi],[.v .yl]⟩ (λx=>a0w x.1) (λb=>((b.1,()),(b.2,()))) (λp=>(p.1.1,p.2.1)) .n [K81,K82,K83]
def h31:=mk 212 Tryz.f212 ⟨[.v .z9],[.v .yn]⟩ (λx=>a43 x.1) w1 u1 .n []
def K267:=mk 267 Tryz.f267 ⟨[.v .yn],[.v .z9]⟩ (λx=>b8x x.1) w1 u1 (.s .n (.j [] [.v 0 .yn,.v 2 .z9] .n (.j [] [.v 0 .yn,.v 2 .z9] .n .n))) []
def K205:=mk 205 Tryz.f205 ⟨[.v .yn],[.v .z9]⟩ (λx=>a7n x.1) w1 u1 .n [K267]
def h0q:=mk 133 Tryz.f133 ⟨[.v .yn,.v .yn,.v .yn],[.v .yn,.v .yn]⟩ (λx=>a8o x.1 x.2.1 x.2.2.1) w2 u2 (.s .n (.j [] [.v 0 .yn,.v 1 .yn,.v 2 .yn] .n (.j [] [.v 0 .yn,.v 1 .yn,.v 2 .yn] .n (.s .n (.s .n (.s .n (.s .n (.s .n (.s .n (.s .n (.s .n (.s .n (.s .n (.s .n (.j [] [.v 2 .yn,.v 8 .yn,.v 9 .yn,.v 10 .yn,.v 11 .yn,.v 13 .yn,.v 14 .yn,.v 15 .yn] (.l [2,8,9,10,11,13,14] [] [.v 15 .yn,.v 16 .yn] .n) (.s .n (.s .n (.s .n (.j [] [.v 2 .yn,.v 8 .yn,.v 14 .yn,.v 15 .yn,.v 17 .yn,.v 18 .yn] (.l [2,8,9,10,14,15,17] [] [.v 16 .yn,.v 18 .yn] .n) .n))))))))))))))))))) [K205]
def K287:=mk 287 Tryz.f287 ⟨[.v .yh,.v .yn],[.v .yh,.v .yn]⟩ (λx=>a3h x.1 x.2.1) w2 u2 .n [h0q]
def K288:=mk 288 Tryz.f288 ⟨[.v .yn,.v .yn],[.v .yn]⟩ (λx=>a9s x.1 x.2.1) w1 u1 (.s .n (.s (.l [] [] [.v 0 .yn,.v 1 .yn] .n) .n)) []
def K211:=mk 211 Tryz.f211 ⟨[.v .z8,.v .yh,.v .yn],[.v .zm,.v .z9]⟩ (λx=>b2l x.1 x.2.1 x.2.2.1) w2 u2 .n [K287,K288]
def K138:=mk 138 Tryz.f138 ⟨[.v .z9,.v .z9],[.v .zm,.v .z9]⟩ (λx=>a3r x.1 x.2.1) w2 u2 .n [K211,h31]
def K84:=mk 84 Tryz.f84 ⟨[.v .yl],[.v .zm,.v .z9,.v .z8]⟩ (λx=>a2x x.1) (λb=>((b.1,(b.2.1,(b.2.2,()))),())) (λp=>(p.1.1,p.1.2.1,p.1.2.2.1)) (sk 4 (.s (.s .n (.l [5,6,7] [] [.bx 2 1 51 .zm,.v 9 .z9,.v 10 .z9,.v 11 .z9] .n)) .n)) [K137,K138]
def K42:=mk 42 Tryz.f42 ⟨[.io 131 .yi,.v .z9,.v .z9],[.v .z9]⟩ (λx=>s7 x.1 x.2.1 x.2.2.1) (λb=>((b.1,()),(b.2,()))) (λp=>(p.1.1,p.2.1)) .n [K81,K82,K84]
def K86:=mk 86 Tryz.f86 ⟨[.v .yl],[.v .z9]⟩ (λx=>b09 x.1) w1 u1 .n [K139]
def K140:=mk 140 Tryz.f140 ⟨[.v .yl],[.v .z9]⟩ (λx=>a8l x.1) w1 u1 .n []
def K141:=mk 141 Tryz.f141 ⟨[.v .yl],[.v .z9]⟩ (λx=>a52 x.1) w1 u1 .n []
def K142:=mk 142 Tryz.f142 ⟨[.v .yl],[.v .z9]⟩ (λx=>a8f x.1) w1 u1 .n []
def K87:=mk 87 Tryz.f87 ⟨[.io 131 .yi,.v .z9],[.v .z9]⟩ (λx=>a0m x.1 x.2.1) (λb=>((b.1,()),(b.2,()))) (λp=>(p.1.1,p.2.1)) .n [K81,K82,K140,K141,K142]
def h1w:=mk 295 Tryz.f295 ⟨[.v .z9],[.v .z9]⟩ (λx=>a8e x.1) w1 u1 .n []
def K292:=mk 292 Tryz.f292 ⟨[.v .z9],[.v .z9]⟩ (λx=>b05 x.1) w1 u1 (.s .n (.s (.s .n (.s .n (.s .n (.s .n (.s .n (.s .n (.s .n (.s .n (.s .n (.j [] [.v 3 .z9,.v 12 .z8] .n (.s .n (.j [] [.v 3 .z9,.v 19 .z8] .n .n)))))))))))) .n)) []
def K293:=mk 293 Tryz.f293 ⟨[.v .z9],[.v .yl]⟩ (λx=>a96 x.1) w1 u1 .n []
def K216:=mk 216 Tryz.f216 ⟨[.rp 131 .yi,.v .z9],[.v .z9]⟩ (λx=>a3a x.1 x.2.1) w1 u1 (.s .n (.s (.s .n (.l [0,1] [] [.v 5 .z9] .n)) .n)) [K85,K292,K293]
def d6z:Sig VV:=⟨[.io 131 .yi,.v .z9],[.v .zl]⟩
def c40(R:eQ):Fent VV:=⟨d6z,Expr×rQ,λx=>R.f_pensionref5_reader_expr x.1 x.2.1,λb=>((b.1,()),(b.2,())),none⟩
def h0e:Fent VV:=c40 (c8 FU)
def g15:Ress VV d6z.rs×Outs VV d6z.ps->Expr×rQ:=λp=>(p.1.1,p.2.1)
def g2d:Ann VV.C:=(.s .n (.s .n (.s .n (.s .n (.s (.l [1] [] [.bx 0 0 131 .yi,.of 4 4 3 77 .zl,.bm 4 2 77 .zl [(4,3)],.bx 8 4 77 .zl] .n) .n)))))
def d7k:Sig VV:=⟨[.io 131 .yi],[.v .zl]⟩
def e31(R:eQ):Fent VV:=⟨d7k,Expr×rQ,λx=>R.f_pensionref5_reader_factor x.1,λb=>((b.1,()),(b.2,())),none⟩
def g1e:Ress VV d7k.rs×Outs VV d7k.ps->Expr×rQ:=λp=>(p.1.1,p.2.1)
def g2j:Ann VV.C:=.n
def d76:Sig VV:=⟨[.io 131 .yi,.v .z9],[.v .zl]⟩
def e3y(R:eQ):Fent VV:=⟨d76,Expr×rQ,λx=>R.f_pensionref5_reader_call x.1 x.2.1,λb=>((b.1,()),(b.2,())),none⟩
def f9u:Ress VV d76.rs×Outs VV d76.ps->Expr×rQ:=λp=>(p.1.1,p.2.1)
def g10:Ann VV.C:=.n
def g1a(R:eQ):Phi VV:=λf ys=>lkF f ys [K40.e,K43.e,(143,c40 R),(215,e31 R),K216.e]
theorem g68(R:eQ)(hr143:SX.Spec Tryz.prog 143 (c40 R))(hr215:SX.Spec Tryz.prog 215 (e31 R)):OKΦ Tryz.prog (g1a R):=okl ⟨K40.ok,K43.ok,knS rfl ⟨hr143,λ_ _=>by kernel_rfl⟩,knS rfl ⟨hr215,λ_ _=>by kernel_rfl⟩,K216.ok,trivial⟩
theorem g90(R:eQ):∀x,c5v Tryz.prog (g1a R) d6z g15 Tryz.f143 g2d x=a3b R x.1 x.2.1:=λx=>by kernel_rfl
theorem g1y:c67 Tryz.f143 d6z=true:=by kernel_rfl
def g07(R:eQ):Phi VV:=λf ys=>lkF f ys [K40.e,K41.e,K42.e,K43.e,K82.e,K84.e,K85.e,(143,c40 R),(291,e3y R)]
theorem g4o(R:eQ)(hr143:SX.Spec Tryz.prog 143 (c40 R))(hr291:SX.Spec Tryz.prog 291 (e3y R)):OKΦ Tryz.prog (g07 R):=okl ⟨K40.ok,K41.ok,K42.ok,K43.ok,K82.ok,K84.ok,K85.ok,knS rfl ⟨hr143,λ_ _=>by kernel_rfl⟩,knS rfl ⟨hr291,λ_ _=>by kernel_rfl⟩,trivial⟩
theorem g9d(R:eQ):∀x,c5v Tryz.prog (g07 R) d7k g1e Tryz.f215 g2j x=a2a R x.1:=λx=>by kernel_rfl
theorem g0m:c67 Tryz.f215 d7k=true:=by kernel_rfl
def f9f(R:eQ):Phi VV:=λf ys=>lkF f ys [K40.e,(143,c40 R),h1w.e]
theorem g4b(R:eQ)(hr143:SX.Spec Tryz.prog 143 (c40 R)):OKΦ Tryz.prog (f9f R):=okl ⟨K40.ok,knS rfl ⟨hr143,λ_ _=>by kernel_rfl⟩,h1w.ok,trivial⟩
theorem g71(R:eQ):∀x,c5v Tryz.prog (f9f R) d76 f9u Tryz.f291 g10 x=a3d R x.1 x.2.1:=λx=>by kernel_rfl
theorem f9r:c67 Tryz.f291 d76=true:=by kernel_rfl
theorem a7d:∀n,SX.Spec Tryz.prog 143 (c40 (c8 n))/\SX.Spec Tryz.prog 215 (e31 (c8 n))/\SX.Spec Tryz.prog 291 (e3y (c8 n))|0=>⟨(λ_ _ h=>(by cases(show none=some _ from h))),(λ_ _ h=>(by cases(show none=some _ from h))),(λ_ _ h=>(by cases(show none=some _ from h)))⟩|n+1=>let⟨h143,h215,h291⟩:=a7d n;⟨a2m (fe:=c40 (c8 (n+1))) uok (g68 (c8 n) h143 h215) mixed (fn:=Tryz.f143) (by kernel_rfl) g15 g2d (d8 g1y).1 (d8 g1y).2 (λ_=>rfl) (g90 (c8 n)),a2m (fe:=e31 (c8 (n+1))) uok (g4o (c8 n) h143 h291) mixed (fn:=Tryz.f215) (by kernel_rfl) g1e g2j (d8 g0m).1 (d8 g0m).2 (λ_=>rfl) (g9d (c8 n)),a2m (fe:=e3y (c8 (n+1))) uok (g4b (c8 n) h143) mixed (fn:=Tryz.f291) (by kernel_rfl) f9u g10 (d8 f9r).1 (d8 f9r).2 (λ_=>rfl) (g71 (c8 n))⟩
def K143:Kn Tryz.prog VV:=⟨143,h0e,knS rfl ⟨(a7d FU).1,λ_ _=>by kernel_rfl⟩⟩
def K88:=mk 88 Tryz.f88 ⟨[.io 131 .yi,.im 62 .y8 [(2,2),(3,3),(4,4),(5,5),(6,6)],.po 1 2 251 .zj,.po 1 3 253 .zo,.po 1 4 255 .zq,.po 1 5 79 .zn,.po 1 6 258 .zv],[]⟩ (λx=>a39 x.1 x.2.1 x.2.2.1 x.2.2.2.1 x.2.2.2.2.1 x.2.2.2.2.2.1 x.2.2.2.2.2.2.1) (λb=>((),(b.1,(b.2.1,(b.2.2.1,(b.2.2.2.1,(b.2.2.2.2.1,(b.2.2.2.2.2.1,(b.2.2.2.2.2.2,()))))))))) (λp=>(p.2.1,p.2.2.1,p.2.2.2.1,p.2.2.2.2.1,p.2.2.2.2.2.1,p.2.2.2.2.2.2.1,p.2.2.2.2.2.2.2.1)) (.s (.s .n (.s (.s .n (.j [] [.bx 0 0 131 .yi,.of 1 2 7 251 .zj,.of 1 3 8 253 .zo,.of 1 4 9 255 .zq,.of 1 5 10 79 .zn,.of 1 6 11 258 .zv,.bm 1 1 62 .y8 [(2,7),(3,8),(4,9),(5,10),(6,11)],.bx 4 12 251 .zj] .n .n)) (.s .n (.s (.s .n (.j [] [.bx 0 0 131 .yi,.of 1 2 7 251 .zj,.of 1 3 8 253 .zo,.of 1 4 9 255 .zq,.of 1 5 10 79 .zn,.of 1 6 11 258 .zv,.bm 1 1 62 .y8 [(2,7),(3,8),(4,9),(5,10),(6,11)],.bx 6 12 253 .zo] .n (.j [] [.bx 0 0 131 .yi,.of 1 2 7 251 .zj,.of 1 3 8 253 .zo,.of 1 4 9 255 .zq,.of 1 5 10 79 .zn,.of 1 6 11 258 .zv,.bm 1 1 62 .y8 [(2,7),(3,8),(4,9),(5,10),(6,11)],.bx 6 12 253 .zo] .n .n))) .n)))) .n) [K40,K41,K42,K43,K81,K82,K84,K87,K143]
def K44:=mk 44 Tryz.f44 ⟨[.io 131 .yi],[.v .y8]⟩ (λx=>a2o x.1) (λb=>((b.1,()),(b.2,()))) (λp=>(p.1.1,p.2.1)) (sk 3 (.j [] [.bx 0 0 131 .yi,.of 2 2 2 251 .zj,.of 2 3 3 253 .zo,.of 2 4 4 255 .zq,.of 2 5 5 79 .zn,.of 2 6 6 258 .zv,.bm 2 1 62 .y8 [(2,2),(3,3),(4,4),(5,5),(6,6)],.of 3 2 8 251 .zj,.of 3 3 9 253 .zo,.of 3 4 10 255 .zq,.of 3 5 11 79 .zn,.of 3 6 12 258 .zv,.bm 3 7 62 .y8 [(2,8),(3,9),(4,10),(5,11),(6,12)]] .n (.s .n (.s .n (.s .n (.s .n (.s .n (.s (.l [] [] [.bx 0 0 131 .yi,.of 2 2 2 251 .zj,.of 2 3 3 253 .zo,.of 2 4 4 255 .zq,.of 2 5 5 79 .zn,.of 2 6 6 258 .zv,.bm 2 1 62 .y8 [(2,2),(3,3),(4,4),(5,5),(6,6)],.of 3 2 8 251 .zj,.of 3 3 9 253 .zo,.of 3 4 10 255 .zq,.of 3 5 11 79 .zn,.of 3 6 12 258 .zv,.bm 3 7 62 .y8 [(2,8),(3,9),(4,10),(5,11),(6,12)]] (.s (.s (.g [5]) .n) .n)) .n)))))))) [K40,K42,K43,K81,K82,K86,K87,K88]
def K45:=mk 45 Tryz.f45 ⟨[.rp 131 .yi],[.v .z9]⟩ (λx=>a3s x.1) w1 u1 .n []
def K144:=mk 144 Tryz.f144 ⟨[.v .z9],[.v .z8]⟩ (λx=>a6n x.1) w1 u1 .n []
def K145:=mk 145 Tryz.f145 ⟨[.v .zx],[.v .z8]⟩ (λx=>a3c x.1) w1 u1 .n []
def K146:=mk 146 Tryz.f146 ⟨[.v .z9,.v .z9],[.v .yl]⟩ (λx=>a3t x.1 x.2.1) w1 u1 (sk 2 (.s (.s .n (.l [0,1] [] [.ow 5 2 9 .yl,.v 6 .z9] .n)) .n)) [K140,K141,K142]
def K217:=mk 217 Tryz.f217 ⟨[.v .zm],[.v .z8]⟩ (λx=>a1h x.1) w1 u1 .n [h31,K288]
def K294:=mk 294 Tryz.f294 ⟨[.v .z9,.v .z9],[.v .yl]⟩ (λx=>a5w x.1 x.2.1) w1 u1 (sk 2 (.s (.l [1] [] [.v 0 .z9,.v 5 .yl] .n) .n)) []
def K218:=mk 218 Tryz.f218 ⟨[.v .zm],[.v .yl]⟩ (λx=>a2n x.1) w1 u1 (sk 3 (.j [] [.bx 1 1 51 .zm,.v 3 .yl] .n .n)) [h31,K217,K294]
def h2b:=mk 147 Tryz.f147 ⟨[.v .zm,.v .z9],[.v .yl,.v .z8]⟩ (λx=>a1g x.1 x.2.1) w2 u2 (sk 6 (.j [] [.v 1 .z9,.v 7 .yl,.v 8 .z9] .n (.s (.s .n (.l [1] [] [.v 7 .yl,.v 8 .z9,.v 9 .z9] .n)) .n))) [K217,K218]
def d8w:Sig VV:=⟨[.v .zl],[.v .z9]⟩
def d5h(R:Ring_pensionref5_Depth):Fent VV:=⟨d8w,Int,λx=>R.f_pensionref5_Depth x.1,λb=>((b,()),()),none⟩
def h05:Fent VV:=d5h (s5 FU)
def g0y:Ress VV d8w.rs×Outs VV d8w.ps->Int:=λp=>p.1.1
def g1s:Ann VV.C:=(.s .n (.s .n (.s (.s .n (.l [] [] [.bx 1 1 77 .zl,.v 3 .z9,.v 4 .z9] .n)) .n)))
def g11(R:Ring_pensionref5_Depth):Phi VV:=λf ys=>lkF f ys [(219,d5h R)]
theorem g2x(R:Ring_pensionref5_Depth)(hr219:SX.Spec Tryz.prog 219 (d5h R)):OKΦ Tryz.prog (g11 R):=okl ⟨knS rfl ⟨hr219,λ_ _=>by kernel_rfl⟩,trivial⟩
theorem g8t(R:Ring_pensionref5_Depth):∀x,c5v Tryz.prog (g11 R) d8w g0y Tryz.f219 g1s x=a7r R x.1:=λx=>by kernel_rfl
theorem g1m:c67 Tryz.f219 d8w=true:=by kernel_rfl
theorem b0v:∀n,SX.Spec Tryz.prog 219 (d5h (s5 n))|0=>(λ_ _ h=>(by cases(show none=some _ from h)))|n+1=>let h219:=b0v n;a2m (fe:=d5h (s5 (n+1))) uok (g2x (s5 n) h219) mixed (fn:=Tryz.f219) (by kernel_rfl) g0y g1s (d8 g1m).1 (d8 g1m).2 (λ_=>rfl) (g8t (s5 n))
def K219:Kn Tryz.prog VV:=⟨219,h05,knS rfl ⟨(b0v FU),λ_ _=>by kernel_rfl⟩⟩
def d5l:Sig VV:=⟨[.v .zl],[.v .z9]⟩
def d8h(R:Ring_pensionref5_Size):Fent VV:=⟨d5l,Int,λx=>R.f_pensionref5_Size x.1,λb=>((b,()),()),none⟩
def g9h:Fent VV:=d8h (u7 FU)
def g05:Ress VV d5l.rs×Outs VV d5l.ps->Int:=λp=>p.1.1
def g1g:Ann VV.C:=(.s .n (.s .n (.s (.s .n (.l [] [] [.bx 1 1 77 .zl,.v 3 .z9,.v 4 .z9] .n)) .n)))
def g1t(R:Ring_pensionref5_Size):Phi VV:=λf ys=>lkF f ys [(220,d8h R)]
theorem g3n(R:Ring_pensionref5_Size)(hr220:SX.Spec Tryz.prog 220 (d8h R)):OKΦ Tryz.prog (g1t R):=okl ⟨knS rfl ⟨hr220,λ_ _=>by kernel_rfl⟩,trivial⟩
theorem g9b(R:Ring_pensionref5_Size):∀x,c5v Tryz.prog (g1t R) d5l g05 Tryz.f220 g1g x=a94 R x.1:=λx=>by kernel_rfl
theorem f9l:c67 Tryz.f220 d5l=true:=by kernel_rfl
theorem b1w:∀n,SX.Spec Tryz.prog 220 (d8h (u7 n))|0=>(λ_ _ h=>(by cases(show none=some _ from h)))|n+1=>let h220:=b1w n;a2m (fe:=d8h (u7 (n+1))) uok (g3n (u7 n) h220) mixed (fn:=Tryz.f220) (by kernel_rfl) g05 g1g (d8 f9l).1 (d8 f9l).2 (λ_=>rfl) (g9b (u7 n))
def K220:Kn Tryz.prog VV:=⟨220,g9h,knS rfl ⟨(b1w FU),λ_ _=>by kernel_rfl⟩⟩
def d5f:Sig VV:=⟨[.v .zl],[.v .z8]⟩
def d60(R:Ring_pensionref5_formed):Fent VV:=⟨d5f,Bool,λx=>R.f_pensionref5_formed x.1,λb=>((b,()),()),none⟩
def h0u:Fent VV:=d60 (p7 FU)
def g1f:Ress VV d5f.rs×Outs VV d5f.ps->Bool:=λp=>p.1.1
def g0r:Ann VV.C:=(.s .n (.s .n (.s .n (.s .n (.s (.s .n (.l [3] [] [.bx 1 1 77 .zl,.v 6 .z9] .n)) .n)))))
def g24(R:Ring_pensionref5_formed):Phi VV:=λf ys=>lkF f ys [K83.e,h2b.e,(221,d60 R),h1w.e]
theorem g3b(R:Ring_pensionref5_formed)(hr221:SX.Spec Tryz.prog 221 (d60 R)):OKΦ Tryz.prog (g24 R):=okl ⟨K83.ok,h2b.ok,knS rfl ⟨hr221,λ_ _=>by kernel_rfl⟩,h1w.ok,trivial⟩
theorem g73(R:Ring_pensionref5_formed):∀x,c5v Tryz.prog (g24 R) d5f g1f Tryz.f221 g0r x=a6s R x.1:=λx=>by kernel_rfl
theorem g1r:c67 Tryz.f221 d5f=true:=by kernel_rfl
theorem b0n:∀n,SX.Spec Tryz.prog 221 (d60 (p7 n))|0=>(λ_ _ h=>(by cases(show none=some _ from h)))|n+1=>let h221:=b0n n;a2m (fe:=d60 (p7 (n+1))) uok (g3b (p7 n) h221) mixed (fn:=Tryz.f221) (by kernel_rfl) g1f g0r (d8 g1r).1 (d8 g1r).2 (λ_=>rfl) (g73 (p7 n))
def K221:Kn Tryz.prog VV:=⟨221,h0u,knS rfl ⟨(b0n FU),λ_ _=>by kernel_rfl⟩⟩
def K148:=mk 148 Tryz.f148 ⟨[.v .zl],[.v .z8]⟩ (λx=>a0g x.1) w1 u1 .n [K219,K220,K221]
def K89:=mk 89 Tryz.f89 ⟨[.v .y8],[.v .z8]⟩ (λx=>a3n x.1) w1 u1 (sk 2 (.s (.s .n (.l [] [] [.bx 1 1 62 .y8,.v 3 .z9] .n)) (.s (.s .n (.l [] [] [.bx 1 1 62 .y8,.v 4 .z9] .n)) (.s (.s .n (.l [] [] [.bx 1 1 62 .y8,.v 7 .z9] .n)) (.s (.s .n (.l [] [] [.bx 1 1 62 .y8,.v 8 .z9] .n)) (.s (.s .n (.l [] [] [.bx 1 1 62 .y8,.v 9 .z9] .n)) .n)))))) [K83,K144,K145,K146,h2b,K148]
def K46:=mk 46 Tryz.f46 ⟨[.v .y3],[.v .z8]⟩ (λx=>b00 x.1) w1 u1 (sk 2 (.s (.s .n (.l [] [] [.bx 1 1 45 .y3,.v 3 .z9] .n)) .n)) [K83,K89]
def K20:=mk 20 Tryz.f20 ⟨[.v .yl],[.v .y3,.v .z9,.v .z9]⟩ (λx=>a9z x.1) (λb=>((b.1,(b.2.1,(b.2.2,()))),())) (λp=>(p.1.1,p.1.2.1,p.1.2.2.1)) (sk 8 (.j [] [.of 2 2 2 62 .y8,.bm 2 1 45 .y3 [(2,2)],.bx 5 3 131 .yi,.of 8 2 5 62 .y8,.bm 8 4 45 .y3 [(2,5)]] (.s .n (.l [] [] [.of 2 2 2 62 .y8,.bm 2 1 45 .y3 [(2,2)],.bx 5 3 131 .yi,.of 8 2 5 62 .y8,.bm 8 4 45 .y3 [(2,5)],.v 9 .z8] (.j [] [.of 2 2 2 62 .y8,.bm 2 1 45 .y3 [(2,2)],.bx 5 3 131 .yi,.of 8 2 5 62 .y8,.bm 8 4 45 .y3 [(2,5)]] (.s (.g [5,7]) .n) .n))) .n)) [K39,K40,K41,K42,K43,K44,K45,K46]
def K12:=mk 12 Tryz.f12 ⟨[.ls .z9],[.v .zp]⟩ (λx=>b11 x.1) w1 u1 (sk 2 (.s (.s .n (.l [0] [] [.of 2 0 2 47 .y2,.of 2 1 3 74 .zy,.of 2 2 4 53 .zu,.bm 2 1 28 .zp [(0,2),(1,3),(2,4)],.of 3 0 6 47 .y2,.of 3 1 7 74 .zy,.bm 3 5 28 .zp [(0,6),(1,7)],.v 4 .z9] .n)) .n)) [K20,K21,K22,K23]
def K7:=mk 7 Tryz.f7 ⟨[.v .z9,.v .z9],[.v .z9]⟩ (λx=>a40 x.1 x.2.1) w1 u1 .n []
def K4:=mk 4 Tryz.f4 ⟨[.ls .z9,.v .z9],[.v .zp]⟩ (λx=>b3p x.1 x.2.1) w1 u1 .n [K7,K12]
def K24:=mk 24 Tryz.f24 ⟨[.v .z9],[.v .z9]⟩ (λx=>a97 x.1) w1 u1 .n [K22]
def K25:=mk 25 Tryz.f25 ⟨[.v .z9],[.v .yl]⟩ (λx=>u4 x.1) w1 u1 .n []
def K13:=mk 13 Tryz.f13 ⟨[.v .yg],[.v .ya]⟩ (λx=>b1b x.1) w1 u1 (sk 5 (.j [] [.bx 1 1 64 .yg,.bx 2 2 68 .ya,.bx 3 3 68 .ya,.v 4 .z9,.v 5 .z9] .n (.s .n (.s (.s .n (.l [4,5,6] [] [.bx 1 1 64 .yg,.bx 2 2 68 .ya,.bx 3 3 68 .ya,.v 7 .z9] .n)) .n)))) [K22,K24,K25]
def K15:=mk 15 Tryz.f15 ⟨[.ls .z9],[.ow 68 .ya]⟩ (λx=>b04 x.1) w1 u1 (sk 2 (.s (.s .n (.l [0] [] [.ow 3 1 68 .ya,.v 4 .z9] .n)) .n)) [K22,K23]
def K14:=mk 14 Tryz.f14 ⟨[.ls .ya,.v .z9],[.ow 68 .ya]⟩ (λx=>b2c x.1 x.2.1) w1 u1 (sk 2 (.s (.s .n (.l [0,1] [] [.ow 5 2 68 .ya,.v 6 .z9] .n)) .n)) []
def K91:=mk 91 Tryz.f91 ⟨[.v .z9,.v .yo],[.v .z8]⟩ (λx=>j6 x.1 x.2.1) w1 u1 (sk 2 (.s (.s .n (.l [1,5] [] [.v 6 .z9] .n)) .n)) [K25]
def K49:=mk 49 Tryz.f49 ⟨[.v .z9,.v .yo,.v .z9,.v .z9,.v .z9],[.v .z8]⟩ (λx=>a09 x.1 x.2.1 x.2.2.1 x.2.2.2.1 x.2.2.2.2.1) w1 u1 .n [K91]
def K26:=mk 26 Tryz.f26 ⟨[.v .ya],[.v .z8]⟩ (λx=>m8 x.1) w1 u1 .n [K25,K49]
def K27:=mk 27 Tryz.f27 ⟨[.v .ya,.v .ya],[.v .z9]⟩ (λx=>a4v x.1 x.2.1) w1 u1 .n []
def K92:=mk 92 Tryz.f92 ⟨[.ow 5 .yo,.v .z9,.v .z9],[.ow 5 .yo]⟩ (λx=>g7 x.1 x.2.1 x.2.2.1) w1 u1 (.s .n (.s (.s .n (.l [1] [] [.ow 0 3 5 .yo,.v 7 .z9] .n)) .n)) []
def K50:=mk 50 Tryz.f50 ⟨[.v .ya],[.ow 5 .yo]⟩ (λx=>a5z x.1) w1 u1 (sk 3 (.j [] [.bx 1 1 68 .ya,.v 3 .z9] .n (.s .n (.s .n (.s (.s .n (.l [5] [] [.bx 1 1 68 .ya,.ow 4 2 5 .yo,.v 6 .z9] .n)) .n))))) [K25,K26,K92]
def K28:=mk 28 Tryz.f28 ⟨[.v .ya,.v .ya],[.v .z8]⟩ (λx=>b0f x.1 x.2.1) w1 u1 .n [K26,K27,K50]
def K16:=mk 16 Tryz.f16 ⟨[.ls .ya,.ls .ya],[.ow 68 .ya]⟩ (λx=>a6c x.1 x.2.1) w1 u1 (sk 2 (.s (.s .n (.l [0,1] [] [.ow 5 2 68 .ya,.v 6 .z9] (.s .n (.s (.s .n (.j [] [.ls 0 .ya,.ls 1 .ya,.ow 5 2 68 .ya,.v 6 .z9,.bx 7 3 68 .ya] .n (.s .n (.s .n (.s (.l [0,1,6] [] [.ow 5 2 68 .ya,.bx 7 3 68 .ya,.v 8 .z9] .n) (.s .n (.z [5] []))))))) .n)))) .n)) [K26,K27,K28]
def K5:=mk 5 Tryz.f5 ⟨[.ls .yg,.ls .z9,.v .z8],[.ow 68 .ya]⟩ (λx=>b0g x.1 x.2.1 x.2.2.1) w1 u1 (sk 2 (.s (.s .n (.l [0,1,2] [] [.ow 7 3 68 .ya,.v 8 .z9] .n)) .n)) [K13,K14,K15,K16]
def K6:=mk 6 Tryz.f6 ⟨[.v .z9],[.v .z9]⟩ (λx=>b5f x.1) w1 u1 .n [K7]
def K296:=mk 296 Tryz.f296 ⟨[.v .yo],[.v .z8]⟩ (λx=>b6l x.1) w1 u1 .n []
def K359:=mk 359 Tryz.f359 ⟨[.v .yo],[.v .z8]⟩ (λx=>b74 x.1) w1 u1 .n []
def K297:=mk 297 Tryz.f297 ⟨[.v .yo],[.v .z8]⟩ (λx=>c1b x.1) w1 u1 .n [K296,K359]
def K222:=mk 222 Tryz.f222 ⟨[.v .yl],[.v .z8]⟩ (λx=>b7f x.1) w1 u1 (sk 2 (.s (.s .n (.l [0] [] [.v 3 .z9] .n)) .n)) [K296,K297]
def K223:=mk 223 Tryz.f223 ⟨[.v .yl],[.v .z8]⟩ (λx=>b49 x.1) w1 u1 .n []
def h2x:=mk 149 Tryz.f149 ⟨[.v .yl],[.v .z8]⟩ (λx=>b0e x.1) w1 u1 .n [K222,K223]
def K54:=mk 54 Tryz.f54 ⟨[.v .z9],[.v .z8]⟩ (λx=>m7 x.1) w1 u1 .n []
def K225:=mk 225 Tryz.f225 ⟨[],[.ow 406 .yk]⟩ (λx=>c0l) w1 u1 .n []
def K299:=mk 299 Tryz.f299 ⟨[.v .yk,.rp 3 .z9],[.v .z8]⟩ (λx=>b3q x.1 x.2.1) w1 u1 .n []
def f6b:=mk 298 Tryz.f298 ⟨[.ls .yk,.cl 299 [.z9]],[.v .z9]⟩ (λx=>a0b x.1 x.2.1.1) w1 u1 (.s .n (.s (.s .n (.l [0,1,7] [] [.v 8 .z9] .n)) .n)) [K299]
def K224:=mk 224 Tryz.f224 ⟨[.ls .yk,.v .z9],[.v .yl]⟩ (λx=>a4u x.1 x.2.1) w1 u1 .n [f6b]
def K226:=mk 226 Tryz.f226 ⟨[],[.ow 406 .yk]⟩ (λx=>c1i) w1 u1 .n []
def K400:=mk 400 Tryz.f400 ⟨[.v .yl,.v .yo],[.v .z9]⟩ (λx=>a9d x.1 x.2.1) w1 u1 .n [K413]
def K414:=mk 414 Tryz.f414 ⟨[.v .yl],[.v .ym,.v .ym]⟩ (λx=>b0t x.1) w2 u2 (sk 2 (.s (.s .n (.l [0] [] [.v 4 .ym,.v 5 .z9] .n)) (.s .n (.s (.s .n (.l [4] [] [.v 6 .ym,.v 7 .ym,.v 8 .z9] .n)) .n)))) []
def K403:=mk 403 Tryz.f403 ⟨[.v .yl,.v .yl],[.v .z9]⟩ (λx=>b36 x.1 x.2.1) w1 u1 (sk 4 (.s (.s .n (.l [0,1,5,6,7] [] [.v 8 .ym,.v 9 .z9] .n)) (.s .n (.s (.s .n (.l [0,1,5,6,7] [] [.v 8 .ym,.v 10 .z9] .n)) .n)))) [K414]
def K369:=mk 369 Tryz.f369 ⟨[.v .yl,.v .yl],[.v .z9]⟩ (λx=>a6y x.1 x.2.1) w1 u1 .n [K400]
def K408:=mk 408 Tryz.f408 ⟨[.v .yl,.v .yl],[.v .yl,.v .yl,.v .z8]⟩ (λx=>b72 x.1 x.2.1) (λb=>((b.1,(b.2.1,(b.2.2,()))),())) (λp=>(p.1.1,p.1.2.1,p.1.2.2.1)) .n [K369]
def K388:=mk 388 Tryz.f388 ⟨[.v .yl,.v .yl],[.v .yl,.v .yl,.v .z8]⟩ (λx=>b9e x.1 x.2.1) (λb=>((b.1,(b.2.1,(b.2.2,()))),())) (λp=>(p.1.1,p.1.2.1,p.1.2.2.1)) .n [K408]
def K389:=mk 389 Tryz.f389 ⟨[.v .yl],[.v .z9,.v .z8]⟩ (λx=>b2i x.1) w2 u2 (.s .n (.s (.s .n (.l [0] [] [.v 2 .z9,.v 4 .z9] .n)) .n)) [K359]
def K361:=mk 361 Tryz.f361 ⟨[.v .yl],[.v .zm,.v .z9,.v .z8]⟩ (λx=>b69 x.1) (λb=>((b.1,(b.2.1,(b.2.2,()))),())) (λp=>(p.1.1,p.1.2.1,p.1.2.2.1)) (sk 2 (.j [] [.v 0 .yl,.bx 2 1 51 .zm,.v 3 .z9] .n (.s .n (.s .n (.s .n (.s .n (.s .n (.s .n (.j [] [.bx 2 1 51 .zm,.v 3 .z9,.v 9 .z9,.v 11 .z9] (.s .n (.l [3,11] [] [.bx 2 1 51 .zm,.v 9 .z9,.it 100 2] .n)) (.s .n (.s (.s .n (.l [3,113] [] [.bx 2 1 51 .zm,.v 114 .z9] (.s .n (.s .n (.s (.s .n (.l [3,14,113,114] [] [.bx 2 1 51 .zm] .n)) .n))))) .n))))))))))) [K388,K389]
def K300:=mk 300 Tryz.f300 ⟨[.v .zm,.v .z9],[.v .yl,.v .z8]⟩ (λx=>a4y x.1 x.2.1) w2 u2 (sk 4 (.s (.s .n (.l [1] [] [.bx 2 2 51 .zm,.v 6 .yl,.v 7 .z9,.v 8 .z9] (.s .n (.s (.j [] [.v 1 .z9,.bx 2 2 51 .zm,.v 6 .yl,.v 7 .z9,.v 8 .z9] .n .n) .n)))) (.j [] [.v 1 .z9,.bx 2 2 51 .zm,.v 6 .yl] .n .n))) [K360,K361]
def K301:=mk 301 Tryz.f301 ⟨[.v .z9],[.v .z8]⟩ (λx=>b59 x.1) w1 u1 .n []
def K227:=mk 227 Tryz.f227 ⟨[.v .zo],[.v .z8]⟩ (λx=>b07 x.1) w1 u1 .n [K300,K301]
def d7d:Sig VV:=⟨[.v .zl],[.v .z9]⟩
def d6m(R:Ring_syntax_Depth):Fent VV:=⟨d7d,Int,λx=>R.f_syntax_Depth x.1,λb=>((b,()),()),none⟩
def g8j:Fent VV:=d6m (a0r FU)
def g0b:Ress VV d7d.rs×Outs VV d7d.ps->Int:=λp=>p.1.1
def g1b:Ann VV.C:=(.s .n (.s .n (.s (.s .n (.l [7,8] [] [.v 3 .z9,.v 9 .z9] .n)) .n)))
def g0e(R:Ring_syntax_Depth):Phi VV:=λf ys=>lkF f ys [(302,d6m R)]
theorem g61(R:Ring_syntax_Depth)(hr302:SX.Spec Tryz.prog 302 (d6m R)):OKΦ Tryz.prog (g0e R):=okl ⟨knS rfl ⟨hr302,λ_ _=>by kernel_rfl⟩,trivial⟩
theorem g9g(R:Ring_syntax_Depth):∀x,c5v Tryz.prog (g0e R) d7d g0b Tryz.f302 g1b x=b86 R x.1:=λx=>by kernel_rfl
theorem f9v:c67 Tryz.f302 d7d=true:=by kernel_rfl
theorem b5h:∀n,SX.Spec Tryz.prog 302 (d6m (a0r n))|0=>(λ_ _ h=>(by cases(show none=some _ from h)))|n+1=>let h302:=b5h n;a2m (fe:=d6m (a0r (n+1))) uok (g61 (a0r n) h302) mixed (fn:=Tryz.f302) (by kernel_rfl) g0b g1b (d8 f9v).1 (d8 f9v).2 (λ_=>rfl) (g9g (a0r n))
def K302:Kn Tryz.prog VV:=⟨302,g8j,knS rfl ⟨(b5h FU),λ_ _=>by kernel_rfl⟩⟩
def d75:Sig VV:=⟨[.v .zl],[.v .z9]⟩
def d67(R:Ring_syntax_Size):Fent VV:=⟨d75,Int,λx=>R.f_syntax_Size x.1,λb=>((b,()),()),none⟩
def h0t:Fent VV:=d67 (a1j FU)
def g1p:Ress VV d75.rs×Outs VV d75.ps->Int:=λp=>p.1.1
def f9m:Ann VV.C:=(.s .n (.s .n (.s (.s .n (.l [7,8] [] [.v 3 .z9,.v 9 .z9] .n)) .n)))
def g1j(R:Ring_syntax_Size):Phi VV:=λf ys=>lkF f ys [(303,d67 R)]
theorem g4x(R:Ring_syntax_Size)(hr303:SX.Spec Tryz.prog 303 (d67 R)):OKΦ Tryz.prog (g1j R):=okl ⟨knS rfl ⟨hr303,λ_ _=>by kernel_rfl⟩,trivial⟩
theorem g9j(R:Ring_syntax_Size):∀x,c5v Tryz.prog (g1j R) d75 g1p Tryz.f303 f9m x=b9x R x.1:=λx=>by kernel_rfl
theorem g0s:c67 Tryz.f303 d75=true:=by kernel_rfl
theorem b6s:∀n,SX.Spec Tryz.prog 303 (d67 (a1j n))|0=>(λ_ _ h=>(by cases(show none=some _ from h)))|n+1=>let h303:=b6s n;a2m (fe:=d67 (a1j (n+1))) uok (g4x (a1j n) h303) mixed (fn:=Tryz.f303) (by kernel_rfl) g1p f9m (d8 g0s).1 (d8 g0s).2 (λ_=>rfl) (g9j (a1j n))
def K303:Kn Tryz.prog VV:=⟨303,h0t,knS rfl ⟨(b6s FU),λ_ _=>by kernel_rfl⟩⟩
def K390:=mk 390 Tryz.f390 ⟨[.v .z9],[.v .z9]⟩ (λx=>b84 x.1) w1 u1 .n []
def K362:=mk 362 Tryz.f362 ⟨[.v .zl],[.v .z8]⟩ (λx=>c05 x.1) w1 u1 .n [h2x,K300,K390]
def d8o:Sig VV:=⟨[.v .zl],[.v .z8]⟩
def d7f(R:Ring_syntax_form):Fent VV:=⟨d8o,Bool,λx=>R.f_syntax_form x.1,λb=>((b,()),()),none⟩
def g8p:Fent VV:=d7f (e6 FU)
def g2h:Ress VV d8o.rs×Outs VV d8o.ps->Bool:=λp=>p.1.1
def g0u:Ann VV.C:=.n
def d8t:Sig VV:=⟨[.v .zl],[.v .z8]⟩
def e3v(R:Ring_syntax_form):Fent VV:=⟨d8t,Bool,λx=>R.f_syntax_form_1 x.1,λb=>((b,()),()),none⟩
def g0n:Ress VV d8t.rs×Outs VV d8t.ps->Bool:=λp=>p.1.1
def g1v:Ann VV.C:=.n
def b8z:Sig VV:=⟨[.ls .zl,.cl 363 []],[.v .z8]⟩
def c21(R:Ring_syntax_form):Fent VV:=⟨b8z,Bool,λx=>R.f_slices_ContainsFunc_of_api_Expr x.1,λb=>((b,()),()),none⟩
def d1q:Ress VV b8z.rs×Outs VV b8z.ps->Bool:=λp=>p.1.1
def d1c:Ann VV.C:=.n
def b8y:Sig VV:=⟨[.ls .zl,.cl 363 []],[.v .z9]⟩
def c1s(R:Ring_syntax_form):Fent VV:=⟨b8y,Int,λx=>R.f_slices_IndexFunc_of_api_Expr x.1,λb=>((b,()),()),none⟩
def d1l:Ress VV b8y.rs×Outs VV b8y.ps->Int:=λp=>p.1.1
def d1i:Ann VV.C:=(.s .n (.s (.s .n (.l [0,1,7] [] [.v 8 .z9] .n)) .n))
def g2o(R:Ring_syntax_form):Phi VV:=λf ys=>lkF f ys [(346,c21 R),K362.e]
theorem g43(R:Ring_syntax_form)(hr346:SX.Spec Tryz.prog 346 (c21 R)):OKΦ Tryz.prog (g2o R):=okl ⟨knS rfl ⟨hr346,λ_ _=>by kernel_rfl⟩,K362.ok,trivial⟩
theorem g9v(R:Ring_syntax_form):∀x,c5v Tryz.prog (g2o R) d8o g2h Tryz.f304 g0u x=b60 R x.1:=λx=>by kernel_rfl
theorem f9k:c67 Tryz.f304 d8o=true:=by kernel_rfl
def f9e(R:Ring_syntax_form):Phi VV:=λf ys=>lkF f ys [(304,d7f R)]
theorem g6j(R:Ring_syntax_form)(hr304:SX.Spec Tryz.prog 304 (d7f R)):OKΦ Tryz.prog (f9e R):=okl ⟨knS rfl ⟨hr304,λ_ _=>by kernel_rfl⟩,trivial⟩
theorem g7x(R:Ring_syntax_form):∀x,c5v Tryz.prog (f9e R) d8t g0n Tryz.f363 g1v x=c0q R x.1:=λx=>by kernel_rfl
theorem g0d:c67 Tryz.f363 d8t=true:=by kernel_rfl
def d2n(R:Ring_syntax_form):Phi VV:=λf ys=>lkF f ys [(377,c1s R)]
theorem e1s(R:Ring_syntax_form)(hr377:SX.Spec Tryz.prog 377 (c1s R)):OKΦ Tryz.prog (d2n R):=okl ⟨knS rfl ⟨hr377,λ_ _=>by kernel_rfl⟩,trivial⟩
theorem e6n(R:Ring_syntax_form):∀x,c5v Tryz.prog (d2n R) b8z d1q Tryz.f346 d1c x=a0y R x.1:=λx=>by kernel_rfl
theorem d1w:c67 Tryz.f346 b8z=true:=by kernel_rfl
def d1e(R:Ring_syntax_form):Phi VV:=λf ys=>lkF f ys [(363,e3v R)]
theorem e1p(R:Ring_syntax_form)(hr363:SX.Spec Tryz.prog 363 (e3v R)):OKΦ Tryz.prog (d1e R):=okl ⟨knS rfl ⟨hr363,λ_ _=>by kernel_rfl⟩,trivial⟩
theorem e4u(R:Ring_syntax_form):∀x,c5v Tryz.prog (d1e R) b8y d1l Tryz.f377 d1i x=a1m R x.1:=λx=>by kernel_rfl
theorem d21:c67 Tryz.f377 b8y=true:=by kernel_rfl
theorem b6p:∀n,SX.Spec Tryz.prog 304 (d7f (e6 n))/\SX.Spec Tryz.prog 363 (e3v (e6 n))/\SX.Spec Tryz.prog 346 (c21 (e6 n))/\SX.Spec Tryz.prog 377 (c1s (e6 n))|0=>⟨(λ_ _ h=>(by cases(show none=some _ from h))),(λ_ _ h=>(by cases(show none=some _ from h))),(λ_ _ h=>(by cases(show none=some _ from h))),(λ_ _ h=>(by cases(show none=some _ from h)))⟩|n+1=>let⟨h304,h363,h346,h377⟩:=b6p n;⟨a2m (fe:=d7f (e6 (n+1))) uok (g43 (e6 n) h346) mixed (fn:=Tryz.f304) (by kernel_rfl) g2h g0u (d8 f9k).1 (d8 f9k).2 (λ_=>rfl) (g9v (e6 n)),a2m (fe:=e3v (e6 (n+1))) uok (g6j (e6 n) h304) mixed (fn:=Tryz.f363) (by kernel_rfl) g0n g1v (d8 g0d).1 (d8 g0d).2 (λ_=>rfl) (g7x (e6 n)),a2m (fe:=c21 (e6 (n+1))) uok (e1s (e6 n) h377) mixed (fn:=Tryz.f346) (by kernel_rfl) d1q d1c (d8 d1w).1 (d8 d1w).2 (λ_=>rfl) (e6n (e6 n)),a2m (fe:=c1s (e6 (n+1))) uok (e1p (e6 n) h363) mixed (fn:=Tryz.f377) (by kernel_rfl) d1l d1i (d8 d21).1 (d8 d21).2 (λ_=>rfl) (e4u (e6 n))⟩
def K304:Kn Tryz.prog VV:=⟨304,g8p,knS rfl ⟨(b6p FU).1,λ_ _=>by kernel_rfl⟩⟩
def h3v:=mk 228 Tryz.f228 ⟨[.v .zl],[.v .z8]⟩ (λx=>a1k x.1) w1 u1 .n [K302,K303,K304]
def K229:=mk 229 Tryz.f229 ⟨[],[.ow 406 .yk]⟩ (λx=>b2d) w1 u1 .n []
def K150:=mk 150 Tryz.f150 ⟨[.v .y8],[.v .z8]⟩ (λx=>a7q x.1) w1 u1 (.s .n (.j [] [.bx 1 1 62 .y8] (.s (.g [4]) .n) (.s .n (.j [] [.bx 1 1 62 .y8] (.s .n (.l [66,67] [] [.bx 1 1 62 .y8,.v 68 .z9] .n)) (.j [] [.bx 1 1 62 .y8] (.s .n (.l [89,90] [] [.bx 1 1 62 .y8,.v 91 .z9] .n)) (.j [] [.bx 1 1 62 .y8] (.s .n (.l [100,101] [] [.bx 1 1 62 .y8,.v 102 .z9] .n)) (.j [] [.bx 1 1 62 .y8] (.s .n (.l [118,119] [] [.bx 1 1 62 .y8,.v 120 .z9] .n)) (.s (.s .n (.l [143,144] [] [.v 145 .z9] .n)) .n)))))))) [K54,h2x,K224,K225,K226,K227,h3v,K229]
def K93:=mk 93 Tryz.f93 ⟨[.v .y3],[.v .z8]⟩ (λx=>b7h x.1) w1 u1 (sk 2 (.s (.s .n (.l [32,33] [] [.v 34 .z9] .n)) .n)) [h2x,K150]
def h2w:=mk 230 Tryz.f230 ⟨[.v .yl],[.v .z9,.v .z8]⟩ (λx=>b4n x.1) w2 u2 (.s .n (.s (.s .n (.j [] [.v 4 .yl,.v 5 .z8] .n (.s .n (.j [] [.v 4 .yl,.v 9 .z8] .n .n)))) .n)) []
def K231:=mk 231 Tryz.f231 ⟨[.v .yl],[.v .z8]⟩ (λx=>b9o x.1) w1 u1 .n [h3v]
def K233:=mk 233 Tryz.f233 ⟨[.v .zh,.rp 255 .zq],[.v .z8]⟩ (λx=>b9r x.1 x.2.1) w1 u1 .n []
def K306:=mk 306 Tryz.f306 ⟨[.v .zh],[.v .z8]⟩ (λx=>b42 x.1) w1 u1 .n []
def K364:=mkR 364 Tryz.f364 ⟨[.v .yl,.ls .zh],[.v .z9,.v .z8]⟩ (λx=>b6c x.1 x.2.1) w2 u2 (sk 2 (.s (.s .n (.l [] [] [.bx 2 2 9 .yl,.bx 4 3 3 .z9,.bx 5 4 4 .z8] (.s .n .n))) .n)) [h2w,K391]
def K365:=mk 365 Tryz.f365 ⟨[.v .z9,.ls .z9],[.v .z9,.v .z8]⟩ (λx=>b9i x.1 x.2.1) w2 u2 (.s .n (.s (.s .n (.j [] [.ls 1 .z9,.v 6 .z9,.v 7 .z8] .n (.s .n (.s .n (.s .n (.j [] [.ls 1 .z9,.v 6 .z9,.v 23 .z8] .n (.s .n (.s .n (.s .n (.s .n (.s .n (.j [] [.ls 1 .z9,.v 6 .z9,.v 96 .z8] .n (.s .n (.j [] [.ls 1 .z9,.v 6 .z9,.v 116 .z8] .n .n)))))))))))))) .n)) []
def d6s:Sig VV:=⟨[.v .zl,.ls .zh],[.v .z9,.v .z9]⟩
def d71(R:Ring_typing_infer):Fent VV:=⟨d6s,Int×Int,λx=>R.f_typing_infer x.1 x.2.1,λb=>((b.1,(b.2,())),()),none⟩
def g9n:Fent VV:=d71 (a0v FU)
def f9o:Ress VV d6s.rs×Outs VV d6s.ps->Int×Int:=λp=>(p.1.1,p.1.2.1)
def g13:Ann VV.C:=(.s .n (.s .n (.s .n (.s (.s .n (.l [1,36,37] [] [.bx 2 2 77 .zl,.ow 8 3 3 .z9,.v 38 .z9] .n)) .n))))
def g1n(R:Ring_typing_infer):Phi VV:=λf ys=>lkF f ys [(307,d71 R),K364.e,K365.e]
theorem g58(R:Ring_typing_infer)(hr307:SX.Spec Tryz.prog 307 (d71 R)):OKΦ Tryz.prog (g1n R):=okl ⟨knS rfl ⟨hr307,λ_ _=>by kernel_rfl⟩,K364.ok,K365.ok,trivial⟩
theorem g7l(R:Ring_typing_infer):∀x,c5v Tryz.prog (g1n R) d6s f9o Tryz.f307 g13 x=b4g R x.1 x.2.1:=λx=>by kernel_rfl
theorem g1c:c67 Tryz.f307 d6s=true:=by kernel_rfl
theorem b5q:∀n,SX.Spec Tryz.prog 307 (d71 (a0v n))|0=>(λ_ _ h=>(by cases(show none=some _ from h)))|n+1=>let h307:=b5q n;a2m (fe:=d71 (a0v (n+1))) uok (g58 (a0v n) h307) mixed (fn:=Tryz.f307) (by kernel_rfl) f9o g13 (d8 g1c).1 (d8 g1c).2 (λ_=>rfl) (g7l (a0v n))
def K307:Kn Tryz.prog VV:=⟨307,g9n,knS rfl ⟨(b5q FU),λ_ _=>by kernel_rfl⟩⟩
def f7l:=mk 305 Tryz.f305 ⟨[.ls .zh,.cl 306 []],[.v .z9]⟩ (λx=>a19 x.1) w1 u1 (.s .n (.s (.s .n (.l [0,1,7] [] [.v 8 .z9] .n)) .n)) [K306]
def f4u:=mk 232 Tryz.f232 ⟨[.ls .zh,.cl 306 []],[.v .z8]⟩ (λx=>a0i x.1) w1 u1 .n [f7l]
def K234:=mk 234 Tryz.f234 ⟨[.v .zl,.ls .zh],[.v .z9,.v .z9]⟩ (λx=>b4y x.1 x.2.1) w2 u2 .n [h3v,f4u,K307]
def f3m:=mk 305 Tryz.f305 ⟨[.ls .zh,.cl 233 [.zq]],[.v .z9]⟩ (λx=>a1e x.1 x.2.1.1) w1 u1 (.s .n (.s (.s .n (.l [0,1,7] [] [.v 8 .z9] .n)) .n)) [K233]
def f3j:=mk 232 Tryz.f232 ⟨[.ls .zh,.cl 233 [.zq]],[.v .z8]⟩ (λx=>a0q x.1 x.2.1.1) w1 u1 .n [f3m]
def K151:=mk 151 Tryz.f151 ⟨[.ls .zq],[.ow 352 .zh,.v .z9]⟩ (λx=>b9n x.1) w2 u2 (sk 3 (.s (.s .n (.l [14,15] [] [.ow 4 1 352 .zh,.v 16 .z9] .n)) .n)) [h2w,K231,f3j,K234]
def K153:=mk 153 Tryz.f153 ⟨[.v .zj,.rp 251 .zj],[.v .z8]⟩ (λx=>b5a x.1 x.2.1) w1 u1 .n []
def K155:=mk 155 Tryz.f155 ⟨[.v .zn,.rp 79 .zn],[.v .z8]⟩ (λx=>b57 x.1 x.2.1) w1 u1 .n []
def K156:=mk 156 Tryz.f156 ⟨[.v .zl,.ls .zh,.v .z9],[.v .z9]⟩ (λx=>b8w x.1 x.2.1 x.2.2.1) w1 u1 .n [K234]
def K158:=mk 158 Tryz.f158 ⟨[.v .zv,.rp 258 .zv],[.v .z8]⟩ (λx=>b5b x.1 x.2.1) w1 u1 .n []
def f8m:=mk 235 Tryz.f235 ⟨[.ls .zj,.cl 153 [.zj]],[.v .z9]⟩ (λx=>a13 x.1 x.2.1.1) w1 u1 (.s .n (.s (.s .n (.l [0,1,7] [] [.v 8 .z9] .n)) .n)) [K153]
def f5a:=mk 152 Tryz.f152 ⟨[.ls .zj,.cl 153 [.zj]],[.v .z8]⟩ (λx=>a0e x.1 x.2.1.1) w1 u1 .n [f8m]
def f5l:=mk 127 Tryz.f127 ⟨[.ls .zn,.cl 155 [.zn]],[.v .z9]⟩ (λx=>a15 x.1 x.2.1.1) w1 u1 (.s .n (.s (.s .n (.l [0,1,7] [] [.v 8 .z9] .n)) .n)) [K155]
def f4l:=mk 154 Tryz.f154 ⟨[.ls .zn,.cl 155 [.zn]],[.v .z8]⟩ (λx=>a0h x.1 x.2.1.1) w1 u1 .n [f5l]
def f8k:=mk 236 Tryz.f236 ⟨[.ls .zv,.cl 158 [.zv]],[.v .z9]⟩ (λx=>a0x x.1 x.2.1.1) w1 u1 (.s .n (.s (.s .n (.l [0,1,7] [] [.v 8 .z9] .n)) .n)) [K158]
def f6t:=mk 157 Tryz.f157 ⟨[.ls .zv,.cl 158 [.zv]],[.v .z8]⟩ (λx=>a0d x.1 x.2.1.1) w1 u1 .n [f8k]
def K94:=mk 94 Tryz.f94 ⟨[.v .y8],[.v .z9]⟩ (λx=>b0q x.1) w1 u1 (sk 3 (.s (.s .n (.l [26,27] [] [.bx 1 1 62 .y8,.ow 3 2 352 .zh,.v 28 .z9] .n)) (.s (.s .n (.l [41,42] [] [.bx 1 1 62 .y8,.ow 3 2 352 .zh,.v 43 .z9] .n)) (.s (.s .n (.l [64,65] [] [.bx 1 1 62 .y8,.ow 3 2 352 .zh,.v 66 .z9] .n)) (.s (.s .n (.l [93,94] [] [.bx 1 1 62 .y8,.ow 3 2 352 .zh,.v 95 .z9] .n)) .n))))) [K151,f5a,f4l,K156,f6t]
def K51:=mk 51 Tryz.f51 ⟨[.v .y3],[.v .z9,.v .z9]⟩ (λx=>b4b x.1) w2 u2 (sk 2 (.s (.s .n (.l [11,12] [] [.bx 1 1 45 .y3,.v 13 .z9] .n)) .n)) [K93,K94]
def K159:=mk 159 Tryz.f159 ⟨[.v .z9,.v .z9],[.v .z8]⟩ (λx=>a7u x.1 x.2.1) w1 u1 .n []
def K95:=mk 95 Tryz.f95 ⟨[.v .zy],[.v .z8]⟩ (λx=>a5x x.1) w1 u1 (sk 2 (.s (.s .n (.l [28,29] [] [.bx 1 1 74 .zy,.v 30 .z9] .n)) .n)) [K54,K159]
def K52:=mk 52 Tryz.f52 ⟨[.ls .zy],[.v .z9]⟩ (λx=>a9n x.1) w1 u1 (sk 3 (.s (.s .n (.l [0,18,19] [] [.v 20 .z9] .n)) .n)) [K95]
def K96:=mk 96 Tryz.f96 ⟨[.v .z9],[.v .z8]⟩ (λx=>a8n x.1) w1 u1 .n []
def K237:=mk 237 Tryz.f237 ⟨[.v .z9],[.v .z8]⟩ (λx=>b1k x.1) w1 u1 .n []
def h3k:=mk 185 Tryz.f185 ⟨[.v .z9],[.v .z8]⟩ (λx=>a7l x.1) w1 u1 .n []
def h2a:=mk 113 Tryz.f113 ⟨[.v .z9,.v .z9],[.v .z9]⟩ (λx=>a05 x.1 x.2.1) w1 u1 .n [h3k]
def K160:=mk 160 Tryz.f160 ⟨[.v .z9],[.v .z9]⟩ (λx=>a90 x.1) w1 u1 .n [h2a,K237]
def K97:=mk 97 Tryz.f97 ⟨[.v .z9],[.v .z8]⟩ (λx=>b9g x.1) w1 u1 .n [K160]
def g6w:=mk 132 Tryz.f132 ⟨[.v .z9],[.v .yn]⟩ (λx=>j5 x.1) w1 u1 .n []
def h1r:=mk 131 Tryz.f131 ⟨[.v .yn,.v .yn],[.v .yn]⟩ (λx=>a7g x.1 x.2.1) w1 u1 (.s .n (.s (.l [] [] [.v 0 .yn,.v 1 .yn] .n) .n)) []
def K75:=mk 75 Tryz.f75 ⟨[.v .zm],[.v .z8]⟩ (λx=>o7 x.1) w1 u1 .n [h1r,g6w]
def K98:=mk 98 Tryz.f98 ⟨[.v .z9],[.v .z8]⟩ (λx=>b9l x.1) w1 u1 .n []
def K53:=mk 53 Tryz.f53 ⟨[.ls .zu],[.v .z9]⟩ (λx=>a5r x.1) w1 u1 (sk 2 (.s (.s .n (.l [0,8,9] [] [.v 10 .z9] .n)) .n)) [K75,K96,K97,K98]
def K29:=mk 29 Tryz.f29 ⟨[.v .zp],[.v .z9]⟩ (λx=>c02 x.1) w1 u1 (.s .n (.s (.s .n (.l [11,12] [] [.bx 1 1 28 .zp,.v 13 .z9] .n)) (.s (.s .n (.l [44,45] [] [.bx 1 1 28 .zp,.v 46 .z9] .n)) .n))) [K51,K52,K53]
def K30:=mkR 30 Tryz.f30 ⟨[.ls .zy,.v .z9],[.v .zy,.v .z8]⟩ (λx=>b2q x.1 x.2.1) w2 u2 (sk 2 (.s (.s .n (.l [] [] [.bx 3 2 3 .z9,.bx 4 3 74 .zy,.bx 5 4 4 .z8] (.s .n .n))) .n)) [K54,K55,K56]
def K18:=mk 18 Tryz.f18 ⟨[.v .zp,.v .z9],[.v .yb,.v .z9]⟩ (λx=>b8v x.1 x.2.1) w2 u2 .n [K29,K30]
def K57:=mk 57 Tryz.f57 ⟨[.v .yb,.v .z9],[.v .y3,.v .z8]⟩ (λx=>a7y x.1 x.2.1) w2 u2 (.s .n (.s (.s .n (.l [1,10,11] [] [.of 4 2 3 62 .y8,.bm 4 2 45 .y3 [(2,3)],.v 12 .z9] .n)) .n)) []
def d58:Sig VV:=⟨[.v .zl],[.v .zl]⟩
def d8c(R:Ring_statute_cloneExpr):Fent VV:=⟨d58,Expr,λx=>R.f_statute_cloneExpr x.1,λb=>((b,()),()),none⟩
def g7g:Fent VV:=d8c (s4 FU)
def g0w:Ress VV d58.rs×Outs VV d58.ps->Expr:=λp=>p.1.1
def g22:Ann VV.C:=(.s .n (.s .n (.s (.g [3001]) (.s (.s .n (.l [9,10] [] [.of 1 4 2 77 .zl,.bm 1 1 77 .zl [(4,2)],.of 2 4 4 77 .zl,.bm 2 3 77 .zl [(4,4)],.v 11 .z9] (.s .n (.s .n (.s (.s .n (.g [3007])) .n))))) .n))))
def g2g(R:Ring_statute_cloneExpr):Phi VV:=λf ys=>lkF f ys [(167,d8c R)]
theorem g69(R:Ring_statute_cloneExpr)(hr167:SX.Spec Tryz.prog 167 (d8c R)):OKΦ Tryz.prog (g2g R):=okl ⟨knS rfl ⟨hr167,λ_ _=>by kernel_rfl⟩,trivial⟩
theorem g9c(R:Ring_statute_cloneExpr):∀x,c5v Tryz.prog (g2g R) d58 g0w Tryz.f167 g22 x=a7s R x.1:=λx=>by kernel_rfl
theorem g1h:c67 Tryz.f167 d58=true:=by kernel_rfl
theorem b0u:∀n,SX.Spec Tryz.prog 167 (d8c (s4 n))|0=>(λ_ _ h=>(by cases(show none=some _ from h)))|n+1=>let h167:=b0u n;a2m (fe:=d8c (s4 (n+1))) uok (g69 (s4 n) h167) mixed (fn:=Tryz.f167) (by kernel_rfl) g0w g22 (d8 g1h).1 (d8 g1h).2 (λ_=>rfl) (g9c (s4 n))
def K167:Kn Tryz.prog VV:=⟨167,g7g,knS rfl ⟨(b0u FU),λ_ _=>by kernel_rfl⟩⟩
def K101:=mk 101 Tryz.f101 ⟨[.v .y8],[.v .y8]⟩ (λx=>a6r x.1) w1 u1 (.s .n (.s (.g [3007,3009]) (.s (.g [3010,3012,3014]) (.s (.s .n (.l [28] [] [.of 1 2 2 251 .zj,.of 1 3 3 253 .zo,.of 1 4 4 255 .zq,.of 1 5 5 79 .zn,.of 1 6 6 258 .zv,.bm 1 1 62 .y8 [(2,2),(3,3),(4,4),(5,5),(6,6)],.of 2 2 8 251 .zj,.of 2 3 9 253 .zo,.of 2 4 10 255 .zq,.of 2 5 11 79 .zn,.of 2 6 12 258 .zv,.bm 2 7 62 .y8 [(2,8),(3,9),(4,10),(5,11),(6,12)],.v 29 .z9] .n)) (.s (.s .n (.l [47] [] [.of 1 2 2 251 .zj,.of 1 3 3 253 .zo,.of 1 4 4 255 .zq,.of 1 5 5 79 .zn,.of 1 6 6 258 .zv,.bm 1 1 62 .y8 [(2,2),(3,3),(4,4),(5,5),(6,6)],.of 2 2 8 251 .zj,.of 2 3 9 253 .zo,.of 2 4 10 255 .zq,.of 2 5 11 79 .zn,.of 2 6 12 258 .zv,.bm 2 7 62 .y8 [(2,8),(3,9),(4,10),(5,11),(6,12)],.v 48 .z9] .n)) (.s (.s .n (.l [78] [] [.of 1 2 2 251 .zj,.of 1 3 3 253 .zo,.of 1 4 4 255 .zq,.of 1 5 5 79 .zn,.of 1 6 6 258 .zv,.bm 1 1 62 .y8 [(2,2),(3,3),(4,4),(5,5),(6,6)],.of 2 2 8 251 .zj,.of 2 3 9 253 .zo,.of 2 4 10 255 .zq,.of 2 5 11 79 .zn,.of 2 6 12 258 .zv,.bm 2 7 62 .y8 [(2,8),(3,9),(4,10),(5,11),(6,12)],.v 79 .z9] .n)) .n)))))) [K162,K163,K164,K165,K166,K167]
def K58:=mkR 58 Tryz.f58 ⟨[.v .y3,.v .z9],[.v .y8,.v .z8]⟩ (λx=>b1v x.1 x.2.1) w2 u2 (sk 2 (.s (.s .n (.l [] [] [.bx 3 2 3 .z9,.bx 4 3 62 .y8,.bx 5 4 4 .z8] (.s .n .n))) .n)) [K54,K100,K101]
def K31:=mk 31 Tryz.f31 ⟨[.v .yb,.v .z9],[.v .y3,.v .y8,.v .z9]⟩ (λx=>a2v x.1 x.2.1) (λb=>((b.1,(b.2.1,(b.2.2,()))),())) (λp=>(p.1.1,p.1.2.1,p.1.2.2.1)) .n [K57,K58]
def K124:=mk 124 Tryz.f124 ⟨[.ls .z9,.v .z9],[.v .z9]⟩ (λx=>a4p x.1 x.2.1) w1 u1 (.s .n (.s (.s .n (.l [0,1,7] [] [.v 8 .z9] .n)) .n)) []
def K69:=mk 69 Tryz.f69 ⟨[.ls .z9,.v .z9],[.v .z8]⟩ (λx=>q9 x.1 x.2.1) w1 u1 .n [K124]
def K34:=mk 34 Tryz.f34 ⟨[.v .yb,.v .z9],[.v .z8]⟩ (λx=>a08 x.1 x.2.1) w1 u1 .n [K69]
def K251:=mk 251 Tryz.f251 ⟨[.v .z9],[.v .yl]⟩ (λx=>b2r x.1) w1 u1 (.s .n (.s (.s .n (.s .n (.s .n (.j [] [.v 3 .z9,.v 6 .z8] .n (.s .n (.s .n (.s .n (.j [] [.v 3 .z9,.v 11 .z8] .n (.s .n (.s .n (.s .n (.s .n (.s .n (.j [] [.v 3 .z9,.v 20 .z8] .n .n)))))))))))))) .n)) []
def K320:=mk 320 Tryz.f320 ⟨[.v .yl,.v .yl],[.v .z9]⟩ (λx=>c3y x.1 x.2.1) w1 u1 .n [K369]
def K253:=mk 253 Tryz.f253 ⟨[.v .yl,.v .yl],[.v .z8]⟩ (λx=>c0c x.1 x.2.1) w1 u1 .n [K320]
def K252:=mk 252 Tryz.f252 ⟨[.v .yl,.rp 9 .yl],[.v .z8]⟩ (λx=>p9 x.1 x.2.1) w1 u1 .n [K253]
def K254:=mk 254 Tryz.f254 ⟨[.v .z9,.v .z9,.v .z9],[.v .z8]⟩ (λx=>a9w x.1 x.2.1 x.2.2.1) w1 u1 .n []
def K255:=mk 255 Tryz.f255 ⟨[.v .z8,.v .z9,.v .z9,.v .z9],[.v .z8]⟩ (λx=>b0d x.1 x.2.1 x.2.2.1 x.2.2.2.1) w1 u1 .n [K254]
def K256:=mk 256 Tryz.f256 ⟨[.v .y1],[.v .z8]⟩ (λx=>b8g x.1) w1 u1 .n []
def K182:=mk 182 Tryz.f182 ⟨[.v .ya],[.v .z8]⟩ (λx=>b3k x.1) w1 u1 (sk 4 (.s (.s .n (.s .n (.s .n (.j [] [.bx 1 1 68 .ya,.v 89 .z9,.v 97 .z8] .n (.s .n (.j [] [.bx 1 1 68 .ya,.v 108 .z8] .n .n)))))) .n)) [K251,K252,K254,K255,K256]
def g7d:=mk 106 Tryz.f106 ⟨[.v .ya],[.v .z8]⟩ (λx=>a4e x.1) w1 u1 .n [K182]
def f6v:=mk 268 Tryz.f268 ⟨[.ls .ya,.cl 106 []],[.ow 68 .ya]⟩ (λx=>a3f x.1) w1 u1 (sk 2 (.s (.s .n (.l [1,8,9] [] [.ow 5 2 68 .ya,.v 10 .z9] .n)) .n)) [g7d]
def d5m:Sig VV:=⟨[.ls .ya],[.ow 68 .ya]⟩
def e75:Fent VV:=⟨d5m,List aQ,λx=>a4f x.1,λb=>((b,()),()),none⟩
def g7h:Ress VV d5m.rs×Outs VV d5m.ps->List aQ:=λp=>p.1.1
def h06:Ann VV.C:=.n
theorem g8n:SX.Spec Tryz.prog 188 e75:=a2m (fe:=e75) uok (okl (f8d [f6v])) mixed (fn:=Tryz.f188) (by kernel_rfl) g7h h06 (d8 (s:=d5m) (by kernel_rfl)).1 (d8 (s:=d5m) (by kernel_rfl)).2 (λ_=>rfl) λx=>by kernel_rfl
def h1z:Kn Tryz.prog VV:=⟨188,e75,knS rfl ⟨g8n,λ_ _=>by kernel_rfl⟩⟩
def K109:=mk 109 Tryz.f109 ⟨[.ls .ya,.v .z9],[.v .z9,.v .z8]⟩ (λx=>b4r x.1 x.2.1) w2 u2 (sk 2 (.s (.s .n (.l [1,10,11] [] [.v 6 .z9,.v 7 .z8,.v 12 .z9] .n)) .n)) [g7d]
def K62:=mk 62 Tryz.f62 ⟨[.ls .ya],[.v .z9,.v .z8]⟩ (λx=>b4t x.1) w2 u2 .n [K109]
def K269:=mk 269 Tryz.f269 ⟨[.ls .ya],[.v .z9,.v .z8]⟩ (λx=>b7l x.1) w2 u2 .n [K109]
def d6w:Sig VV:=⟨[.ls .ya],[.v .y1]⟩
def e7a:Fent VV:=⟨d6w,Span,λx=>a2i x.1,λb=>((b,()),()),none⟩
def h1d:Ress VV d6w.rs×Outs VV d6w.ps->Span:=λp=>p.1.1
def h0o:Ann VV.C:=(.s .n (.s .n (.s .n (.j [] [.bx 2 1 66 .y1,.v 3 .z9,.v 5 .z9] .n .n))))
theorem g74:SX.Spec Tryz.prog 190 e7a:=a2m (fe:=e7a) uok (okl (f8d [K62,K269])) mixed (fn:=Tryz.f190) (by kernel_rfl) h1d h0o (d8 (s:=d6w) (by kernel_rfl)).1 (d8 (s:=d6w) (by kernel_rfl)).2 (λ_=>rfl) λx=>by kernel_rfl
def g6r:Kn Tryz.prog VV:=⟨190,e7a,knS rfl ⟨g74,λ_ _=>by kernel_rfl⟩⟩
def K199:=mk 199 Tryz.f199 ⟨[.v .y1],[.v .y1]⟩ (λx=>c3q x.1) w1 u1 .n []
def K184:=mk 184 Tryz.f184 ⟨[.v .yn],[.v .z9]⟩ (λx=>c7q x.1) w1 u1 .n [K267]
def f3f:=mk 125 Tryz.f125 ⟨[.ls .y1],[.ow 66 .y1]⟩ (λx=>a2w x.1) w1 u1 (.s .n (.s (.g [6000]) (.s (.s .n (.l [10,11] [] [.of 3 0 2 66 .y1,.bm 3 1 170 .zd [(0,2)],.v 12 .z9] (.s .n (.s .n (.s (.s .n (.s .n (.s .n (.s (.g [6000,6004]) .n)))) .n))))) (.s (.g [6000]) (.s .n (.s (.s (.g [6000]) (.l [33] [] [.ow 6 1 66 .y1,.ow 32 2 66 .y1,.v 34 .z9] .n)) .n)))))) [K199,K200]
def K193:=mk 193 Tryz.f193 ⟨[.ls .y1,.ls .y1],[.ow 66 .y1]⟩ (λx=>b2g x.1 x.2.1) w1 u1 (sk 3 (.s (.s .n (.l [] [] [.ow 0 2 66 .y1,.ow 1 3 66 .y1,.ow 5 4 66 .y1,.v 6 .z9,.v 7 .z9] (.s .n (.s .n (.j [] [.ow 0 2 66 .y1,.ow 1 3 66 .y1,.ow 5 4 66 .y1,.v 6 .z9,.v 7 .z9] .n .n))))) .n)) [f3f]
def d8x:Sig VV:=⟨[.ls .y1,.v .y1],[.ow 66 .y1]⟩
def f1k:Fent VV:=⟨d8x,List Span,λx=>s6 x.1 x.2.1,λb=>((b,()),()),none⟩
def h18:Ress VV d8x.rs×Outs VV d8x.ps->List Span:=λp=>p.1.1
def g8z:Ann VV.C:=.n
theorem h0f:SX.Spec Tryz.prog 118 f1k:=a2m (fe:=f1k) uok (okl (f8d [K193])) mixed (fn:=Tryz.f118) (by kernel_rfl) h18 g8z (d8 (s:=d8x) (by kernel_rfl)).1 (d8 (s:=d8x) (by kernel_rfl)).2 (λ_=>rfl) λx=>by kernel_rfl
def g25:Kn Tryz.prog VV:=⟨118,f1k,knS rfl ⟨h0f,λ_ _=>by kernel_rfl⟩⟩
def K326:=mk 326 Tryz.f326 ⟨[.v .z9],[.v .z8]⟩ (λx=>b1d x.1) w1 u1 .n []
def K311:=mk 311 Tryz.f311 ⟨[.v .z9,.v .z9],[.v .z9]⟩ (λx=>a2c x.1 x.2.1) w1 u1 .n [K326]
def K310:=mk 310 Tryz.f310 ⟨[.ls .z9],[.v .z9]⟩ (λx=>b67 x.1) w1 u1 (sk 2 (.s (.s .n (.l [3,6,7] [] [.v 8 .z9] .n)) .n)) []
def d6g:Sig VV:=⟨[.v .zt,.v .zt],[.v .z9]⟩
def f03:Fent VV:=⟨d6g,Int,λx=>a0j x.1 x.2.1,λb=>((b,()),()),none⟩
def g9a:Ress VV d6g.rs×Outs VV d6g.ps->Int:=λp=>p.1.1
def g9k:Ann VV.C:=.n
theorem h0s:SX.Spec Tryz.prog 309 f03:=a2m (fe:=f03) uok (okl (f8d [K310,K311])) mixed (fn:=Tryz.f309) (by kernel_rfl) g9a g9k (d8 (s:=d6g) (by kernel_rfl)).1 (d8 (s:=d6g) (by kernel_rfl)).2 (λ_=>rfl) λx=>by kernel_rfl
def K309:Kn Tryz.prog VV:=⟨309,f03,knS rfl ⟨h0s,λ_ _=>by kernel_rfl⟩⟩
def e27:=mk 392 Tryz.f392 ⟨[.so 359 .zt,.v .z9,.v .z9,.cl 309 []],[]⟩ (λx=>m6 x.1 x.2.1 x.2.2.1) (λb=>((),(b,()))) (λp=>p.2.1) (.s .n (.l [1,2,3] [] [.ow 0 0 359 .zt,.v 8 .z9] (.s .n (.s (.s .n (.l [1,2,3,8] [] [.ow 0 0 359 .zt,.v 9 .z9] .n)) .n)))) [K309]
def b8q:Sig VV:=⟨[.so 359 .zt,.v .z9,.v .z9,.v .z9,.cl 309 []],[]⟩
def c5l(R:oQ):Fent VV:=⟨b8q,List Posting,λx=>R.f_slices_pdqsortCmpFunc_of_api_Posting x.1 x.2.1 x.2.2.1 x.2.2.2.1,λb=>((),(b,())),none⟩
def e5g:Fent VV:=c5l (c3 FU)
def d2k:Ress VV b8q.rs×Outs VV b8q.ps->List Posting:=λp=>p.2.1
def d34:Ann VV.C:=(.s .n (.s .n (.l [4] [] [.ow 0 0 359 .zt,.v 1 .z9,.v 2 .z9,.v 3 .z9,.v 10 .z8,.v 11 .z8] (.s .n (.s .n (.s .n (.j [] [.ow 0 0 359 .zt,.v 1 .z9,.v 2 .z9,.v 3 .z9,.cl 4 309 [],.v 10 .z8,.v 11 .z8,.v 12 .z9] .n .n)))))))
def d20(R:oQ):Phi VV:=λf ys=>lkF f ys [e27.e]
theorem e15(R:oQ):OKΦ Tryz.prog (d20 R):=okl ⟨e27.ok,trivial⟩
theorem e63(R:oQ):∀x,c5v Tryz.prog (d20 R) b8q d2k Tryz.f366 d34 x=i7 R x.1 x.2.1 x.2.2.1 x.2.2.2.1:=λx=>by kernel_rfl
theorem d1a:c67 Tryz.f366 b8q=true:=by kernel_rfl
theorem q8:∀n,SX.Spec Tryz.prog 366 (c5l (c3 n))|0=>(λ_ _ h=>(by cases(show none=some _ from h)))|n+1=>let h366:=q8 n;a2m (fe:=c5l (c3 (n+1))) uok (e15 (c3 n)) mixed (fn:=Tryz.f366) (by kernel_rfl) d2k d34 (d8 d1a).1 (d8 d1a).2 (λ_=>rfl) (e63 (c3 n))
def f5p:Kn Tryz.prog VV:=⟨366,e5g,knS rfl ⟨(q8 FU),λ_ _=>by kernel_rfl⟩⟩
def f8q:=mk 308 Tryz.f308 ⟨[.so 359 .zt,.cl 309 []],[]⟩ (λx=>c9 x.1) (λb=>((),(b,()))) (λp=>p.2.1) .n [K184,f5p]
def g0l:Fent VV:=⟨⟨[.ls .ya],[.ow 359 .zt]⟩,List Posting,λx=>competence_Postings x.1,w1,none⟩
end
end Go.PL
