/- Texts of the proof, joined. -/
import Derived.Test.YtllaeijbhadiiaaGreatDoorP7
import Derived.Test.YtllaeijbhadiiaaGreatDoorProg
import Derived.KernelRfl
import Derived.Shelf.SlSortFuncK.WholeK
import Derived.Shelf.Strconv.Itoa3
import Derived.Shelf.SlSortFuncK.RowK2
import Derived.Shelf.GgSortFunc.Tiny
set_option linter.unusedVariables false
set_option linter.unusedSimpArgs false
set_option maxRecDepth 100000
namespace Go.PL
open Go Go.SX
inductive TyC where|z9|zy|zx|zj|zm|zo|yl|zl|zq|zn|zv|y8|z8|y7|y4|zh|yn|yo|y1|z2|y5|yi|yh|y3|y2|zu|zp|yg|ya|yk|ym|z1|z0|yb|zd|zt|yd|yc|y0|zr|zc|zz|zf|z7|z3|ze|zi|zb|zs|ye|zk|yj|y9|z5|z4|y6|z6|yf|za|zw|zg deriving DecidableEq
@[reducible] def TyC.T:TyC->Type|.z9=>Int|.zy=>Rules|.zx=>Rounding|.zj=>Credit|.zm=>fQ|.zo=>Index|.yl=>ByteArray|.zl=>Expr|.zq=>Let|.zn=>Grant|.zv=>Reduce|.y8=>Version|.z8=>Bool|.y7=>Value|.y4=>Step|.zh=>iQ|.yn=>Int|.yo=>Int|.y1=>Span|.z2=>Ar 3 ByteArray|.y5=>Token|.yi=>rQ|.yh=>pensionref1_wide|.y3=>Statute|.y2=>State|.zu=>Rate|.zp=>Laws|.yg=>tH|.ya=>aQ|.yk=>syntax_entry|.ym=>Int|.z1=>Ar 2 Int|.z0=>Ar 12 Int|.yb=>bQ|.zd=>List Span|.zt=>Posting|.yd=>uQ|.yc=>lQ|.y0=>gQ|.zr=>Period|.zc=>List Period|.zz=>Scheme|.zf=>Anon292|.z7=>Ar 7 (List Span)|.z3=>Ar 6 (Ar 7 (List Span))|.ze=>Ar 6 (Ar 7 (List Span))|.zi=>nQ|.zb=>List nQ|.zs=>Piece|.ye=>earnings_income|.zk=>Earning|.yj=>rational_wide|.y9=>View|.z5=>Ar 6 Int|.z4=>Ar 6 Bool|.y6=>Total|.z6=>Ar 7 Int|.yf=>vQ|.za=>List Int|.zw=>Result|.zg=>Award
abbrev VA:=AV TyC TyC.T
def dT:DecidableEq TyC:=inferInstance
def g93:Int->List VA:=λx=>[.int .i64 x]
def h0b:List VA->Option Int:=mkS (gI .i64) λx0=>mkE x0
def f0o:Rules->List VA:=λx=>[.int .i64 x.From,.int .i64 x.MinDays,.int .i64 x.PostingLimit,.int .i64 x.Substantial,.list .z9 x.Members]
def e9b:List VA->Option Rules:=mkS (gI .i64) λx0=>mkS (gI .i64) λx1=>mkS (gI .i64) λx2=>mkS (gI .i64) λx3=>mkS (SX.gL dT .z9) λx4=>mkE (⟨x0,x1,x2,x3,x4⟩:Rules)
def d66:Rounding->List VA:=λx=>[.int .i64 x.Mode,.int .i64 x.Unit]
def d85:List VA->Option Rounding:=mkS (gI .i64) λx0=>mkS (gI .i64) λx1=>mkE (⟨x0,x1⟩:Rounding)
def e4m:Credit->List VA:=λx=>[.int .i64 x.Kind,.int .i64 x.Limit]
def e6k:List VA->Option Credit:=mkS (gI .i64) λx0=>mkS (gI .i64) λx1=>mkE (⟨x0,x1⟩:Credit)
def d63:fQ->List VA:=λx=>[.int .i64 x.Num,.int .i64 x.Den]
def d90:List VA->Option fQ:=mkS (gI .i64) λx0=>mkS (gI .i64) λx1=>mkE (⟨x0,x1⟩:fQ)
def e9e:Index->List VA:=λx=>[.int .i64 x.Year,.val .zm x.Factor]
def e7q:List VA->Option Index:=mkS (gI .i64) λx0=>mkS (gV dT .zm) λx1=>mkE (⟨x0,x1⟩:Index)
def g78:ByteArray->List VA:=λx=>[.str x]
def g9e:List VA->Option ByteArray:=mkS (gS) λx0=>mkE x0
def f5y:Expr->List VA:=λx=>[.int .i64 x.Op,.val .zm x.Value,.int .i64 x.Dim,.str x.Name,.list .zl x.Args]
def f4s:List VA->Option Expr:=mkS (gI .i64) λx0=>mkS (gV dT .zm) λx1=>mkS (gI .i64) λx2=>mkS (gS) λx3=>mkS (SX.gL dT .zl) λx4=>mkE (⟨x0,x1,x2,x3,x4⟩:Expr)
def g3m:Let->List VA:=λx=>[.str x.Name,.val .zl x.Body]
def g4f:List VA->Option Let:=mkS (gS) λx0=>mkS (gV dT .zl) λx1=>mkE (⟨x0,x1⟩:Let)
def f1v:Grant->List VA:=λx=>[.int .i64 x.Benefit,.val .zl x.If,.val .zl x.Pay]
def e92:List VA->Option Grant:=mkS (gI .i64) λx0=>mkS (gV dT .zl) λx1=>mkS (gV dT .zl) λx2=>mkE (⟨x0,x1,x2⟩:Grant)
def e6t:Reduce->List VA:=λx=>[.int .i64 x.Benefit,.val .zl x.By]
def e6w:List VA->Option Reduce:=mkS (gI .i64) λx0=>mkS (gV dT .zl) λx1=>mkE (⟨x0,x1⟩:Reduce)
def e10:Version->List VA:=λx=>[.int .i64 x.From,.val .zx x.Rounding,.list .zj x.Credits,.list .zo x.Series,.list .zq x.Lets,.list .zn x.Grants,.list .zv x.Reduces]
def e1l:List VA->Option Version:=mkS (gI .i64) λx0=>mkS (gV dT .zx) λx1=>mkS (SX.gL dT .zj) λx2=>mkS (SX.gL dT .zo) λx3=>mkS (SX.gL dT .zq) λx4=>mkS (SX.gL dT .zn) λx5=>mkS (SX.gL dT .zv) λx6=>mkE (⟨x0,x1,x2,x3,x4,x5,x6⟩:Version)
def g3y:Bool->List VA:=λx=>[.bool x]
def g5e:List VA->Option Bool:=mkS (gB) λx0=>mkE x0
def f02:Value->List VA:=λx=>[.int .i64 x.Dim,.bool x.Yes,.val .zm x.Num]
def f05:List VA->Option Value:=mkS (gI .i64) λx0=>mkS (gB) λx1=>mkS (gV dT .zm) λx2=>mkE (⟨x0,x1,x2⟩:Value)
def f7b:Step->List VA:=λx=>[.str x.Name,.val .y7 x.Value]
def f5s:List VA->Option Step:=mkS (gS) λx0=>mkS (gV dT .y7) λx1=>mkE (⟨x0,x1⟩:Step)
def d9c:iQ->List VA:=λx=>[.str x.Name,.int .i64 x.Dim]
def e0b:List VA->Option iQ:=mkS (gS) λx0=>mkS (gI .i64) λx1=>mkE (⟨x0,x1⟩:iQ)
def h1c:Int->List VA:=λx=>[.int .u64 x]
def g83:List VA->Option Int:=mkS (gI .u64) λx0=>mkE x0
def h4b:Int->List VA:=λx=>[.int .u8 x]
def h2q:List VA->Option Int:=mkS (gI .u8) λx0=>mkE x0
def f4o:Span->List VA:=λx=>[.int .i64 x.From,.int .i64 x.To]
def f7t:List VA->Option Span:=mkS (gI .i64) λx0=>mkS (gI .i64) λx1=>mkE (⟨x0,x1⟩:Span)
def e7k:Ar 3 ByteArray->List VA:=λx=>x.l.map λy=>.str y
def d8g:List VA->Option (Ar 3 ByteArray):=mkA (gS) 3
def e9d:Token->List VA:=λx=>[.int .i64 x.Kind,.str x.Text,.int .i64 x.At]
def f0u:List VA->Option Token:=mkS (gI .i64) λx0=>mkS (gS) λx1=>mkS (gI .i64) λx2=>mkE (⟨x0,x1,x2⟩:Token)
def c0i:rQ->List VA:=λx=>[.list .y5 x.l,.int .i64 x.at_,.int .i64 x.end_,.bool x.bad]
def c0h:List VA->Option rQ:=mkS (SX.gL dT .y5) λx0=>mkS (gI .i64) λx1=>mkS (gI .i64) λx2=>mkS (gB) λx3=>mkE (⟨x0,x1,x2,x3⟩:rQ)
def c2q:pensionref1_wide->List VA:=λx=>[.int .u64 x.hi,.int .u64 x.lo]
def c2l:List VA->Option pensionref1_wide:=mkS (gI .u64) λx0=>mkS (gI .u64) λx1=>mkE (⟨x0,x1⟩:pensionref1_wide)
def e0x:Statute->List VA:=λx=>[.str x.Name,.int .i64 x.Currency,.list .y8 x.Versions]
def e0u:List VA->Option Statute:=mkS (gS) λx0=>mkS (gI .i64) λx1=>mkS (SX.gL dT .y8) λx2=>mkE (⟨x0,x1,x2⟩:Statute)
def f0d:State->List VA:=λx=>[.int .i64 x.State,.val .y3 x.Statute]
def e9c:List VA->Option State:=mkS (gI .i64) λx0=>mkS (gV dT .y3) λx1=>mkE (⟨x0,x1⟩:State)
def f3r:Rate->List VA:=λx=>[.int .i64 x.Currency,.int .i64 x.Month,.val .zm x.Value]
def f4z:List VA->Option Rate:=mkS (gI .i64) λx0=>mkS (gI .i64) λx1=>mkS (gV dT .zm) λx2=>mkE (⟨x0,x1,x2⟩:Rate)
def f7k:Laws->List VA:=λx=>[.list .y2 x.States,.list .zy x.Treaty,.list .zu x.Rates]
def f6x:List VA->Option Laws:=mkS (SX.gL dT .y2) λx0=>mkS (SX.gL dT .zy) λx1=>mkS (SX.gL dT .zu) λx2=>mkE (⟨x0,x1,x2⟩:Laws)
def c2o:tH->List VA:=λx=>[.int .i64 x.Issuer,.int .i64 x.Number,.int .i64 x.Version,.bool x.Withdrawn,.int .i64 x.Person,.int .i64 x.Kind,.int .i64 x.State,.int .i64 x.Seat,.int .i64 x.From,.int .i64 x.Length,.int .i64 x.Share,.int .i64 x.Amount,.int .i64 x.Ref]
def c2p:List VA->Option tH:=mkS (gI .i64) λx0=>mkS (gI .i64) λx1=>mkS (gI .i64) λx2=>mkS (gB) λx3=>mkS (gI .i64) λx4=>mkS (gI .i64) λx5=>mkS (gI .i64) λx6=>mkS (gI .i64) λx7=>mkS (gI .i64) λx8=>mkS (gI .i64) λx9=>mkS (gI .i64) λx10=>mkS (gI .i64) λx11=>mkS (gI .i64) λx12=>mkE (⟨x0,x1,x2,x3,x4,x5,x6,x7,x8,x9,x10,x11,x12⟩:tH)
def d8u:aQ->List VA:=λx=>[.int .i64 x.Issuer,.int .i64 x.Number,.int .i64 x.Version,.bool x.Withdrawn,.int .i64 x.Person,.int .i64 x.Kind,.int .i64 x.State,.val .y1 x.Span,.int .i64 x.Seat,.int .i64 x.Share,.int .i64 x.Currency,.int .i64 x.Amount,.int .i64 x.Ref]
def d83:List VA->Option aQ:=mkS (gI .i64) λx0=>mkS (gI .i64) λx1=>mkS (gI .i64) λx2=>mkS (gB) λx3=>mkS (gI .i64) λx4=>mkS (gI .i64) λx5=>mkS (gI .i64) λx6=>mkS (gV dT .y1) λx7=>mkS (gI .i64) λx8=>mkS (gI .i64) λx9=>mkS (gI .i64) λx10=>mkS (gI .i64) λx11=>mkS (gI .i64) λx12=>mkE (⟨x0,x1,x2,x3,x4,x5,x6,x7,x8,x9,x10,x11,x12⟩:aQ)
def c79:syntax_entry->List VA:=λx=>[.str x.name,.int .i64 x.number]
def c74:List VA->Option syntax_entry:=mkS (gS) λx0=>mkS (gI .i64) λx1=>mkE (⟨x0,x1⟩:syntax_entry)
def h09:Int->List VA:=λx=>[.int .u32 x]
def h0n:List VA->Option Int:=mkS (gI .u32) λx0=>mkE x0
def e7l:Ar 2 Int->List VA:=λx=>x.l.map λy=>.int .i64 y
def d5s:List VA->Option (Ar 2 Int):=mkA (gI .i64) 2
def e5w:Ar 12 Int->List VA:=λx=>x.l.map λy=>.int .i64 y
def d2q:List VA->Option (Ar 12 Int):=mkA (gI .i64) 12
def c8y:bQ->List VA:=λx=>[.val .zp x.laws,.int .i64 x.day,.val .zy x.rules]
def c7v:List VA->Option bQ:=mkS (gV dT .zp) λx0=>mkS (gI .i64) λx1=>mkS (gV dT .zy) λx2=>mkE (⟨x0,x1,x2⟩:bQ)
def f0l:List Span->List VA:=λx=>[.list .y1 x]
def e88:List VA->Option (List Span):=mkS (SX.gL dT .y1) λx0=>mkE x0
def e1h:Posting->List VA:=λx=>[.int .i64 x.Seat,.int .i64 x.State,.val .y1 x.Span]
def e0z:List VA->Option Posting:=mkS (gI .i64) λx0=>mkS (gI .i64) λx1=>mkS (gV dT .y1) λx2=>mkE (⟨x0,x1,x2⟩:Posting)
def c2m:uQ->List VA:=λx=>[.int .i64 x.seat,.int .i64 x.state]
def c2r:List VA->Option uQ:=mkS (gI .i64) λx0=>mkS (gI .i64) λx1=>mkE (⟨x0,x1⟩:uQ)
def c3f:lQ->List VA:=λx=>[.list .ya x.facts,.val .y1 x.span,.list .zt x.postings,.list .zy x.rules]
def c3t:List VA->Option lQ:=mkS (SX.gL dT .ya) λx0=>mkS (gV dT .y1) λx1=>mkS (SX.gL dT .zt) λx2=>mkS (SX.gL dT .zy) λx3=>mkE (⟨x0,x1,x2,x3⟩:lQ)
def d9y:gQ->List VA:=λx=>[.val .y1 x.Span,.int .i64 x.State,.int .i64 x.Rule]
def e1d:List VA->Option gQ:=mkS (gV dT .y1) λx0=>mkS (gI .i64) λx1=>mkS (gI .i64) λx2=>mkE (⟨x0,x1,x2⟩:gQ)
def e5s:Period->List VA:=λx=>[.int .i64 x.State,.int .i64 x.Rank,.val .y1 x.Span]
def e58:List VA->Option Period:=mkS (gI .i64) λx0=>mkS (gI .i64) λx1=>mkS (gV dT .y1) λx2=>mkE (⟨x0,x1,x2⟩:Period)
def e05:List Period->List VA:=λx=>[.list .zr x]
def d95:List VA->Option (List Period):=mkS (SX.gL dT .zr) λx0=>mkE x0
def e50:Scheme->List VA:=λx=>[.int .i64 x.State,.val .y8 x.Version]
def e62:List VA->Option Scheme:=mkS (gI .i64) λx0=>mkS (gV dT .y8) λx1=>mkE (⟨x0,x1⟩:Scheme)
def fl_sAnon292:Anon292->List VA:=λx=>[.int .i64 x.kind,.int .i64 x.rank]
def mk_sAnon292:List VA->Option Anon292:=mkS (gI .i64) λx0=>mkS (gI .i64) λx1=>mkE (⟨x0,x1⟩:Anon292)
def d8m:Ar 7 (List Span)->List VA:=λx=>x.l.map λy=>.list .y1 y
def c6h:List VA->Option (Ar 7 (List Span)):=mkA (SX.gL dT .y1) 7
def c7x:Ar 6 (Ar 7 (List Span))->List VA:=λx=>x.l.map λy=>.val .z7 y
def c16:List VA->Option (Ar 6 (Ar 7 (List Span))):=mkA (gV dT .z7) 6
def c73:Ar 6 (Ar 7 (List Span))->List VA:=λx=>[.rp (.val .z3 x)]
def c77:List VA->Option (Ar 6 (Ar 7 (List Span))):=mkS (gP dT .z3) λx0=>mkE x0
def e0m:nQ->List VA:=λx=>[.val .y1 x.Span,.int .i64 x.State,.int .i64 x.Rank]
def e1b:List VA->Option nQ:=mkS (gV dT .y1) λx0=>mkS (gI .i64) λx1=>mkS (gI .i64) λx2=>mkE (⟨x0,x1,x2⟩:nQ)
def d7t:List nQ->List VA:=λx=>[.list .zi x]
def d5c:List VA->Option (List nQ):=mkS (SX.gL dT .zi) λx0=>mkE x0
def f2h:Piece->List VA:=λx=>[.val .y1 x.Span,.list .z9 x.Members]
def e80:List VA->Option Piece:=mkS (gV dT .y1) λx0=>mkS (SX.gL dT .z9) λx1=>mkE (⟨x0,x1⟩:Piece)
def c35:earnings_income->List VA:=λx=>[.val .ya x.fact,.list .y1 x.days]
def c3a:List VA->Option earnings_income:=mkS (gV dT .ya) λx0=>mkS (SX.gL dT .y1) λx1=>mkE (⟨x0,x1⟩:earnings_income)
def d9p:Earning->List VA:=λx=>[.int .i64 x.Year,.int .i64 x.Amount]
def e08:List VA->Option Earning:=mkS (gI .i64) λx0=>mkS (gI .i64) λx1=>mkE (⟨x0,x1⟩:Earning)
def c5b:rational_wide->List VA:=λx=>[.int .u64 x.hi,.int .u64 x.lo]
def c5t:List VA->Option rational_wide:=mkS (gI .u64) λx0=>mkS (gI .u64) λx1=>mkE (⟨x0,x1⟩:rational_wide)
def f4f:View->List VA:=λx=>[.int .i64 x.Age,.int .i64 x.Year,.int .i64 x.Children,.int .i64 x.Insured,.int .i64 x.Worked,.int .i64 x.Voluntary,.int .i64 x.Service,.int .i64 x.Equated,.int .i64 x.Raising,.int .i64 x.Resident,.val .zm x.Base,.list .z9 x.Years]
def f6d:List VA->Option View:=mkS (gI .i64) λx0=>mkS (gI .i64) λx1=>mkS (gI .i64) λx2=>mkS (gI .i64) λx3=>mkS (gI .i64) λx4=>mkS (gI .i64) λx5=>mkS (gI .i64) λx6=>mkS (gI .i64) λx7=>mkS (gI .i64) λx8=>mkS (gI .i64) λx9=>mkS (gV dT .zm) λx10=>mkS (SX.gL dT .z9) λx11=>mkE (⟨x0,x1,x2,x3,x4,x5,x6,x7,x8,x9,x10,x11⟩:View)
def e96:Ar 6 Int->List VA:=λx=>x.l.map λy=>.int .i64 y
def d59:List VA->Option (Ar 6 Int):=mkA (gI .i64) 6
def e5x:Ar 6 Bool->List VA:=λx=>x.l.map λy=>.bool y
def d2a:List VA->Option (Ar 6 Bool):=mkA (gB) 6
def e8i:Total->List VA:=λx=>[.val .z5 x.Own,.val .z4 x.Few,.int .i64 x.Sum,.int .i64 x.Base,.int .i64 x.Last]
def e9r:List VA->Option Total:=mkS (gV dT .z5) λx0=>mkS (gV dT .z4) λx1=>mkS (gI .i64) λx2=>mkS (gI .i64) λx3=>mkS (gI .i64) λx4=>mkE (⟨x0,x1,x2,x3,x4⟩:Total)
def f2a:Ar 7 Int->List VA:=λx=>x.l.map λy=>.int .i64 y
def d8f:List VA->Option (Ar 7 Int):=mkA (gI .i64) 7
def c4s:vQ->List VA:=λx=>[.val .y9 x.view,.list .y4 x.steps]
def c4w:List VA->Option vQ:=mkS (gV dT .y9) λx0=>mkS (SX.gL dT .y4) λx1=>mkE (⟨x0,x1⟩:vQ)
def g56:List Int->List VA:=λx=>[.list .z9 x]
def g3l:List VA->Option (List Int):=mkS (SX.gL dT .z9) λx0=>mkE x0
def e56:Result->List VA:=λx=>[.bool x.Holds,.val .zm x.Pay,.list .y4 x.Steps]
def e6j:List VA->Option Result:=mkS (gB) λx0=>mkS (gV dT .zm) λx1=>mkS (SX.gL dT .y4) λx2=>mkE (⟨x0,x1,x2⟩:Result)
def f1u:Award->List VA:=λx=>[.int .i64 x.State,.int .i64 x.Benefit,.int .i64 x.Day,.int .i64 x.Code,.bool x.Few,.int .i64 x.Independent,.int .i64 x.Theoretical,.int .i64 x.ProRata,.int .i64 x.Num,.int .i64 x.Den,.int .i64 x.Amount,.list .y4 x.Steps]
def e79:List VA->Option Award:=mkS (gI .i64) λx0=>mkS (gI .i64) λx1=>mkS (gI .i64) λx2=>mkS (gI .i64) λx3=>mkS (gB) λx4=>mkS (gI .i64) λx5=>mkS (gI .i64) λx6=>mkS (gI .i64) λx7=>mkS (gI .i64) λx8=>mkS (gI .i64) λx9=>mkS (gI .i64) λx10=>mkS (SX.gL dT .y4) λx11=>mkE (⟨x0,x1,x2,x3,x4,x5,x6,x7,x8,x9,x10,x11⟩:Award)
def cdT(n:Nat):Option TyC:=bif Nat.blt n 195then(bif Nat.blt n 63then(bif Nat.blt n 39then(bif Nat.blt n 11then(bif Nat.blt n 5then(bif Nat.blt n 3then(bif Nat.beq n 2then some .z9 else none)else(bif Nat.blt n 4then(bif Nat.beq n 3then some .z9 else none)else(bif Nat.beq n 4then some .z8 else none)))else(bif Nat.blt n 9then(bif Nat.blt n 6then(bif Nat.beq n 5then some .yo else none)else(bif Nat.beq n 6then some .yo else none))else(bif Nat.blt n 10then(bif Nat.beq n 9then some .yl else none)else(bif Nat.beq n 10then some .yl else none))))else(bif Nat.blt n 27then(bif Nat.blt n 12then(bif Nat.beq n 11then some .yl else none)else(bif Nat.blt n 23then(bif Nat.beq n 12then some .yn else none)else(bif Nat.beq n 23then some .za else none)))else(bif Nat.blt n 36then(bif Nat.blt n 28then(bif Nat.beq n 27then some .zp else none)else(bif Nat.beq n 28then some .zp else none))else(bif Nat.blt n 38then(bif Nat.beq n 36then some .z9 else none)else(bif Nat.beq n 38then some .zg else none)))))else(bif Nat.blt n 50then(bif Nat.blt n 46then(bif Nat.blt n 44then(bif Nat.beq n 39then some .zg else none)else(bif Nat.blt n 45then(bif Nat.beq n 44then some .y3 else none)else(bif Nat.beq n 45then some .y3 else none)))else(bif Nat.blt n 48then(bif Nat.blt n 47then(bif Nat.beq n 46then some .y2 else none)else(bif Nat.beq n 47then some .y2 else none))else(bif Nat.blt n 49then(bif Nat.beq n 48then some .zm else none)else(bif Nat.beq n 49then some .zm else none))))else(bif Nat.blt n 59then(bif Nat.blt n 52then(bif Nat.blt n 51then(bif Nat.beq n 50then some .zu else none)else(bif Nat.beq n 51then some .zu else none))else(bif Nat.blt n 53then(bif Nat.beq n 52then some .zx else none)else(bif Nat.beq n 53then some .zx else none)))else(bif Nat.blt n 61then(bif Nat.blt n 60then(bif Nat.beq n 59then some .y8 else none)else(bif Nat.beq n 60then some .y8 else none))else(bif Nat.blt n 62then(bif Nat.beq n 61then some .yg else none)else(bif Nat.beq n 62then some .yg else none))))))else(bif Nat.blt n 105then(bif Nat.blt n 76then(bif Nat.blt n 66then(bif Nat.blt n 64then(bif Nat.beq n 63then some .y1 else none)else(bif Nat.blt n 65then(bif Nat.beq n 64then some .y1 else none)else(bif Nat.beq n 65then some .ya else none)))else(bif Nat.blt n 73then(bif Nat.blt n 72then(bif Nat.beq n 66then some .ya else none)else(bif Nat.beq n 72then some .zy else none))else(bif Nat.blt n 75then(bif Nat.beq n 73then some .zy else none)else(bif Nat.beq n 75then some .zl else none))))else(bif Nat.blt n 87then(bif Nat.blt n 77then(bif Nat.beq n 76then some .zl else none)else(bif Nat.blt n 78then(bif Nat.beq n 77then some .zn else none)else(bif Nat.beq n 78then some .zn else none)))else(bif Nat.blt n 99then(bif Nat.blt n 88then(bif Nat.beq n 87then some .yb else none)else(bif Nat.beq n 88then some .yb else none))else(bif Nat.blt n 100then(bif Nat.beq n 99then some .yi else none)else(bif Nat.beq n 100then some .yi else none)))))else(bif Nat.blt n 126then(bif Nat.blt n 119then(bif Nat.blt n 116then(bif Nat.beq n 105then some .z2 else none)else(bif Nat.blt n 118then(bif Nat.beq n 116then some .zb else none)else(bif Nat.beq n 118then some .y9 else none)))else(bif Nat.blt n 124then(bif Nat.blt n 123then(bif Nat.beq n 119then some .y9 else none)else(bif Nat.beq n 123then some .z5 else none))else(bif Nat.blt n 125then(bif Nat.beq n 124then some .z4 else none)else(bif Nat.beq n 125then some .y6 else none))))else(bif Nat.blt n 139then(bif Nat.blt n 131then(bif Nat.blt n 130then(bif Nat.beq n 126then some .y6 else none)else(bif Nat.beq n 130then some .zw else none))else(bif Nat.blt n 138then(bif Nat.beq n 131then some .zw else none)else(bif Nat.beq n 138then some .y5 else none)))else(bif Nat.blt n 183then(bif Nat.blt n 176then(bif Nat.beq n 139then some .y5 else none)else(bif Nat.beq n 176then some .zd else none))else(bif Nat.blt n 194then(bif Nat.beq n 183then some .yn else none)else(bif Nat.beq n 194then some .zj else none)))))))else(bif Nat.blt n 305then(bif Nat.blt n 234then(bif Nat.blt n 207then(bif Nat.blt n 198then(bif Nat.blt n 196then(bif Nat.beq n 195then some .zj else none)else(bif Nat.blt n 197then(bif Nat.beq n 196then some .zo else none)else(bif Nat.beq n 197then some .zo else none)))else(bif Nat.blt n 201then(bif Nat.blt n 199then(bif Nat.beq n 198then some .zq else none)else(bif Nat.beq n 199then some .zq else none))else(bif Nat.blt n 202then(bif Nat.beq n 201then some .zv else none)else(bif Nat.beq n 202then some .zv else none))))else(bif Nat.blt n 218then(bif Nat.blt n 216then(bif Nat.beq n 207then some .yn else none)else(bif Nat.blt n 217then(bif Nat.beq n 216then some .zz else none)else(bif Nat.beq n 217then some .zz else none)))else(bif Nat.blt n 228then(bif Nat.blt n 227then(bif Nat.beq n 218then some .zc else none)else(bif Nat.beq n 227then some .zi else none))else(bif Nat.blt n 233then(bif Nat.beq n 228then some .zi else none)else(bif Nat.beq n 233then some .ye else none)))))else(bif Nat.blt n 263then(bif Nat.blt n 250then(bif Nat.blt n 243then(bif Nat.beq n 234then some .ye else none)else(bif Nat.blt n 244then(bif Nat.beq n 243then some .zk else none)else(bif Nat.beq n 244then some .zk else none)))else(bif Nat.blt n 254then(bif Nat.blt n 251then(bif Nat.beq n 250then some .yf else none)else(bif Nat.beq n 251then some .yf else none))else(bif Nat.blt n 255then(bif Nat.beq n 254then some .y7 else none)else(bif Nat.beq n 255then some .y7 else none))))else(bif Nat.blt n 292then(bif Nat.blt n 286then(bif Nat.blt n 264then(bif Nat.beq n 263then some .yh else none)else(bif Nat.beq n 264then some .yh else none))else(bif Nat.blt n 287then(bif Nat.beq n 286then some .zr else none)else(bif Nat.beq n 287then some .zr else none)))else(bif Nat.blt n 299then(bif Nat.blt n 298then(bif Nat.beq n 292then some .zf else none)else(bif Nat.beq n 298then some .yc else none))else(bif Nat.blt n 304then(bif Nat.beq n 299then some .yc else none)else(bif Nat.beq n 304then some .y0 else none))))))else(bif Nat.blt n 359then(bif Nat.blt n 330then(bif Nat.blt n 311then(bif Nat.blt n 309then(bif Nat.beq n 305then some .y0 else none)else(bif Nat.blt n 310then(bif Nat.beq n 309then some .z7 else none)else(bif Nat.beq n 310then some .z3 else none)))else(bif Nat.blt n 318then(bif Nat.blt n 317then(bif Nat.beq n 311then some .z3 else none)else(bif Nat.beq n 317then some .zs else none))else(bif Nat.blt n 321then(bif Nat.beq n 318then some .zs else none)else(bif Nat.beq n 321then some .z0 else none))))else(bif Nat.blt n 340then(bif Nat.blt n 331then(bif Nat.beq n 330then some .yj else none)else(bif Nat.blt n 339then(bif Nat.beq n 331then some .yj else none)else(bif Nat.beq n 339then some .y4 else none)))else(bif Nat.blt n 352then(bif Nat.blt n 351then(bif Nat.beq n 340then some .y4 else none)else(bif Nat.beq n 351then some .zh else none))else(bif Nat.blt n 358then(bif Nat.beq n 352then some .zh else none)else(bif Nat.beq n 358then some .zt else none)))))else(bif Nat.blt n 408then(bif Nat.blt n 383then(bif Nat.blt n 372then(bif Nat.beq n 359then some .zt else none)else(bif Nat.blt n 379then(bif Nat.beq n 372then some .z9 else none)else(bif Nat.beq n 379then some .ym else none)))else(bif Nat.blt n 403then(bif Nat.blt n 392then(bif Nat.beq n 383then some .yn else none)else(bif Nat.beq n 392then some .z6 else none))else(bif Nat.blt n 404then(bif Nat.beq n 403then some .yk else none)else(bif Nat.beq n 404then some .yk else none))))else(bif Nat.blt n 453then(bif Nat.blt n 418then(bif Nat.blt n 409then(bif Nat.beq n 408then some .yd else none)else(bif Nat.beq n 409then some .yd else none))else(bif Nat.blt n 428then(bif Nat.beq n 418then some .yn else none)else(bif Nat.beq n 428then some .z9 else none)))else(bif Nat.blt n 501then(bif Nat.blt n 467then(bif Nat.beq n 453then some .yn else none)else(bif Nat.beq n 467then some .z1 else none))else(bif Nat.blt n 502then(bif Nat.beq n 501then some .yo else none)else(bif Nat.beq n 502then some .yo else none)))))))
def VV:Uni where C:=TyC;T:=TyC.T;dec:=dT;c0:=.z9;n:=λc=>match c with|.z9=>1|.zy=>5|.zo=>3|.yl=>1|.zl=>6|.zq=>7|.zn=>13|.zv=>7|.y8=>8|.z8=>1|.y7=>4|.y4=>5|.yn=>1|.yo=>1|.z2=>3|.y5=>3|.yi=>4|.y3=>3|.y2=>4|.zu=>4|.zp=>3|.yg=>13|.ya=>14|.ym=>1|.z0=>12|.yb=>9|.zd=>1|.zt=>4|.yc=>5|.y0=>4|.zr=>4|.zc=>1|.zz=>9|.z7=>7|.z3=>42|.ze=>1|.zi=>4|.zb=>1|.zs=>3|.ye=>15|.y9=>13|.z5=>6|.z4=>6|.y6=>15|.z6=>7|.yf=>14|.za=>1|.zw=>4|.zg=>12|_=>2;ag:=λc=>match c with|.z9=>false|.yl=>false|.z8=>false|.yn=>false|.yo=>false|.ym=>false|.zd=>false|.zc=>false|.ze=>false|.zb=>false|.za=>false|_=>true;lay:=λc=>match c with|.z9=>[none]|.zy=>[none,none,none,none,none]|.zx=>[none,none]|.zj=>[none,none]|.zm=>[none,none]|.zo=>[none,some .zm]|.yl=>[none]|.zl=>[none,some .zm,none,none,none]|.zq=>[none,some .zl]|.zn=>[none,some .zl,some .zl]|.zv=>[none,some .zl]|.y8=>[none,some .zx,none,none,none,none,none]|.z8=>[none]|.y7=>[none,none,some .zm]|.y4=>[none,some .y7]|.zh=>[none,none]|.yn=>[none]|.yo=>[none]|.y1=>[none,none]|.z2=>List.replicate 3 (none)|.y5=>[none,none,none]|.yi=>[none,none,none,none]|.yh=>[none,none]|.y3=>[none,none,none]|.y2=>[none,some .y3]|.zu=>[none,none,some .zm]|.zp=>[none,none,none]|.yg=>[none,none,none,none,none,none,none,none,none,none,none,none,none]|.ya=>[none,none,none,none,none,none,none,some .y1,none,none,none,none,none]|.yk=>[none,none]|.ym=>[none]|.z1=>List.replicate 2 (none)|.z0=>List.replicate 12 (none)|.yb=>[some .zp,none,some .zy]|.zd=>[none]|.zt=>[none,none,some .y1]|.yd=>[none,none]|.yc=>[none,some .y1,none,none]|.y0=>[some .y1,none,none]|.zr=>[none,none,some .y1]|.zc=>[none]|.zz=>[none,some .y8]|.zf=>[none,none]|.z7=>List.replicate 7 (none)|.z3=>List.replicate 6 (some .z7)|.ze=>[none]|.zi=>[some .y1,none,none]|.zb=>[none]|.zs=>[some .y1,none]|.ye=>[some .ya,none]|.zk=>[none,none]|.yj=>[none,none]|.y9=>[none,none,none,none,none,none,none,none,none,none,some .zm,none]|.z5=>List.replicate 6 (none)|.z4=>List.replicate 6 (none)|.y6=>[some .z5,some .z4,none,none,none]|.z6=>List.replicate 7 (none)|.yf=>[some .y9,none]|.za=>[none]|.zw=>[none,some .zm,none]|.zg=>[none,none,none,none,none,none,none,none,none,none,none,none];flds:=λc=>match c with|.z9=>g93|.zy=>f0o|.zx=>d66|.zj=>e4m|.zm=>d63|.zo=>e9e|.yl=>g78|.zl=>f5y|.zq=>g3m|.zn=>f1v|.zv=>e6t|.y8=>e10|.z8=>g3y|.y7=>f02|.y4=>f7b|.zh=>d9c|.yn=>h1c|.yo=>h4b|.y1=>f4o|.z2=>e7k|.y5=>e9d|.yi=>c0i|.yh=>c2q|.y3=>e0x|.y2=>f0d|.zu=>f3r|.zp=>f7k|.yg=>c2o|.ya=>d8u|.yk=>c79|.ym=>h09|.z1=>e7l|.z0=>e5w|.yb=>c8y|.zd=>f0l|.zt=>e1h|.yd=>c2m|.yc=>c3f|.y0=>d9y|.zr=>e5s|.zc=>e05|.zz=>e50|.zf=>fl_sAnon292|.z7=>d8m|.z3=>c7x|.ze=>c73|.zi=>e0m|.zb=>d7t|.zs=>f2h|.ye=>c35|.zk=>d9p|.yj=>c5b|.y9=>f4f|.z5=>e96|.z4=>e5x|.y6=>e8i|.z6=>f2a|.yf=>c4s|.za=>g56|.zw=>e56|.zg=>f1u;mkv:=λc=>match c with|.z9=>h0b|.zy=>e9b|.zx=>d85|.zj=>e6k|.zm=>d90|.zo=>e7q|.yl=>g9e|.zl=>f4s|.zq=>g4f|.zn=>e92|.zv=>e6w|.y8=>e1l|.z8=>g5e|.y7=>f05|.y4=>f5s|.zh=>e0b|.yn=>g83|.yo=>h2q|.y1=>f7t|.z2=>d8g|.y5=>f0u|.yi=>c0h|.yh=>c2l|.y3=>e0u|.y2=>e9c|.zu=>f4z|.zp=>f6x|.yg=>c2p|.ya=>d83|.yk=>c74|.ym=>h0n|.z1=>d5s|.z0=>d2q|.yb=>c7v|.zd=>e88|.zt=>e0z|.yd=>c2r|.yc=>c3t|.y0=>e1d|.zr=>e58|.zc=>d95|.zz=>e62|.zf=>mk_sAnon292|.z7=>c6h|.z3=>c16|.ze=>c77|.zi=>e1b|.zb=>d5c|.zs=>e80|.ye=>c3a|.zk=>e08|.yj=>c5t|.y9=>f6d|.z5=>d59|.z4=>d2a|.y6=>e9r|.z6=>d8f|.yf=>c4w|.za=>g3l|.zw=>e6j|.zg=>e79;cd:=cdT;flat:=λc=>match c with|.zy=>false|.zl=>false|.zq=>false|.zn=>false|.zv=>false|.y8=>false|.yi=>false|.y3=>false|.y2=>false|.zp=>false|.yb=>false|.zd=>false|.yc=>false|.zc=>false|.zz=>false|.z7=>false|.z3=>false|.ze=>false|.zb=>false|.zs=>false|.ye=>false|.y9=>false|.yf=>false|.za=>false|.zw=>false|.zg=>false|_=>true;isA:=λc=>match c with|.z2=>true|.z1=>true|.z0=>true|.z7=>true|.z3=>true|.z5=>true|.z4=>true|.z6=>true|_=>false;ae:=λc=>match c with|.z2=>.yl|.z1=>.z9|.z0=>.z9|.z7=>.zd|.z3=>.z7|.z5=>.z9|.z4=>.z8|.z6=>.z9|c=>c;an:=λc=>match c with|.z2=>3|.z1=>2|.z0=>12|.z7=>7|.z3=>6|.z5=>6|.z4=>6|.z6=>7|_=>0;al:=λc=>match c with|.z2=>λx=>x.l|.z1=>λx=>x.l|.z0=>λx=>x.l|.z7=>λx=>x.l|.z3=>λx=>x.l|.z5=>λx=>x.l|.z4=>λx=>x.l|.z6=>λx=>x.l|_=>λ_=>[];ast:=λc=>match c with|.z2=>λx i y=>x.set i y|.z1=>λx i y=>x.set i y|.z0=>λx i y=>x.set i y|.z7=>λx i y=>x.set i y|.z3=>λx i y=>x.set i y|.z5=>λx i y=>x.set i y|.z4=>λx i y=>x.set i y|.z6=>λx i y=>x.set i y|_=>λx _ _=>x;gt:=λc=>match c with|.z9=>λx _=>x|.zy=>λx _=>x|.zx=>λx _=>x|.zj=>λx _=>x|.zm=>λx _=>x|.zo=>λx _=>x|.yl=>λx _=>x|.zl=>λx _=>x|.zq=>λx _=>x|.zn=>λx _=>x|.zv=>λx _=>x|.y8=>λx _=>x|.z8=>λx _=>x|.y7=>λx _=>x|.y4=>λx _=>x|.zh=>λx _=>x|.yn=>λx _=>x|.yo=>λx _=>x|.y1=>λx _=>x|.z2=>λx i=>Ar.gt ByteArray.empty x i|.y5=>λx _=>x|.yi=>λx _=>x|.yh=>λx _=>x|.y3=>λx _=>x|.y2=>λx _=>x|.zu=>λx _=>x|.zp=>λx _=>x|.yg=>λx _=>x|.ya=>λx _=>x|.yk=>λx _=>x|.ym=>λx _=>x|.z1=>λx i=>Ar.gt 0 x i|.z0=>λx i=>Ar.gt 0 x i|.yb=>λx _=>x|.zd=>λx _=>x|.zt=>λx _=>x|.yd=>λx _=>x|.yc=>λx _=>x|.y0=>λx _=>x|.zr=>λx _=>x|.zc=>λx _=>x|.zz=>λx _=>x|.zf=>λx _=>x|.z7=>λx i=>Ar.gt [] x i|.z3=>λx i=>Ar.gt (arZ 7 []) x i|.ze=>λx _=>x|.zi=>λx _=>x|.zb=>λx _=>x|.zs=>λx _=>x|.ye=>λx _=>x|.zk=>λx _=>x|.yj=>λx _=>x|.y9=>λx _=>x|.z5=>λx i=>Ar.gt 0 x i|.z4=>λx i=>Ar.gt false x i|.y6=>λx _=>x|.z6=>λx i=>Ar.gt 0 x i|.yf=>λx _=>x|.za=>λx _=>x|.zw=>λx _=>x|.zg=>λx _=>x;b8:=λc=>match c with|.yo=>true|_=>false;t8:=λc=>match c with|.yo=>λx=>x|_=>λ_=>0;tab:=λw=>Lib.TabIs Go.Proofs.Tryz.prog w "internal/strconv.uint64pow10" .u64 Lib.pow10Tab;tb:=λb=>b=3
theorem uok:UOK VV where
 lay:=λc x=>by cases c<;>first|rfl|exact g3z (U:=VV) x λ_=>rfl
 kind:=λc x=>by cases c<;>first|rfl|exact f1p (U:=VV) x λ_=>rfl
 sum:=λc=>by cases c<;>rfl
 sc:=λc h=>by cases c<;>first|rfl|cases h
 mkl:=λc zs y h=>by cases c;all_goals first
   | (repeat(obtain⟨_,zs,_,rfl,_,h⟩:=h0y h)
      obtain⟨rfl,rfl⟩:=h00 h;repeat' first|exact trivial|exact e7i (U:=VV) (by assumption)|exact g76 (U:=VV) (by assumption)|exact h0c (U:=VV) (by assumption)|exact g88 (U:=VV) (by assumption)|exact g9w (U:=VV) (by assumption)|exact h4a (U:=VV) (by assumption)|exact gN_ok (U:=VV) (by assumption)|refine⟨?_,?_⟩)|exact c6w (λ_ _ h=>h0c (U:=VV) h) (show d8g zs=some y from h)|exact c6w (λ_ _ h=>e7i (U:=VV) h) (show d5s zs=some y from h)|exact c6w (λ_ _ h=>e7i (U:=VV) h) (show d2q zs=some y from h)|exact c6w (λ_ _ h=>g9w (U:=VV) h) (show c6h zs=some y from h)|exact c6w (λ_ _ h=>g88 (U:=VV) h) (show c16 zs=some y from h)|exact c6w (λ_ _ h=>e7i (U:=VV) h) (show d59 zs=some y from h)|exact c6w (λ_ _ h=>g76 (U:=VV) h) (show d2a zs=some y from h)|exact c6w (λ_ _ h=>e7i (U:=VV) h) (show d8f zs=some y from h)
 flat:=λc x h=>by cases c<;>first|exact Bool.noConfusion (show false=true from h)|rfl|exact f1p (U:=VV) x λ_=>rfl
 arr:=λc x h=>by cases c<;>first|exact Bool.noConfusion (show false=true from h)|exact⟨rfl,x.h⟩
 ars:=λc x i y h=>by cases c<;>first|exact Bool.noConfusion (show false=true from h)|rfl
 gt:=λc x i y h=>by cases c<;>first|exact Bool.noConfusion (show false=true from h)|exactλhg=>Ar.gt_ok hg
 by8:=λc x h=>by cases c<;>first|exact Bool.noConfusion (show false=true from h)|rfl
 tabK:=λw w2 h hb=>f8r (g:=3) (show Go.Proofs.Tryz.prog.globalNamed "internal/strconv.uint64pow10"=some 3by kernel_rfl) h (hb 3 rfl)
end Go.PL
namespace Go.Proofs
open Go.Shelf
def Tryz.sliceLay_ren:Go.Shelf.Ren:=⟨λ|6=>214|10=>278|11=>279|12=>280|13=>198|14=>281|24=>273|25=>274|26=>335|27=>336|28=>337|29=>338|30=>339|31=>340|32=>341|33=>342|34=>369|35=>370|36=>371|37=>372|38=>373|39=>402|n=>n,λ|20=>20|26=>278|35=>385|0=>0|37=>314|3=>3|41=>207|44=>390|49=>379|51=>183|4=>4|54=>429|53=>428|58=>161|5=>5|9=>9|60=>453|64=>422|66=>477|67=>128|17=>17|32=>382|33=>383|82=>508|12=>12|75=>501|76=>502|77=>503|78=>504|79=>505|80=>506|n=>n,λ|n=>n⟩
theorem Tryz.sliceLay:Go.Proofs.LaysGg.n6 Tryz.prog Tryz.sliceLay_ren:={
 mixed:=by kernel_rfl
 f6:=Tryz.func214.trans (congrArg some (by kernel_rfl))
 f10:=Tryz.func278.trans (congrArg some (by kernel_rfl))
 f11:=Tryz.func279.trans (congrArg some (by kernel_rfl))
 f12:=Tryz.func280.trans (congrArg some (by kernel_rfl))
 f13:=Tryz.func198.trans (congrArg some (by kernel_rfl))
 f14:=Tryz.func281.trans (congrArg some (by kernel_rfl))
 f24:=Tryz.func273.trans (congrArg some (by kernel_rfl))
 f25:=Tryz.func274.trans (congrArg some (by kernel_rfl))
 f26:=Tryz.func335.trans (congrArg some (by kernel_rfl))
 f27:=Tryz.func336.trans (congrArg some (by kernel_rfl))
 f28:=Tryz.func337.trans (congrArg some (by kernel_rfl))
 f29:=Tryz.func338.trans (congrArg some (by kernel_rfl))
 f30:=Tryz.func339.trans (congrArg some (by kernel_rfl))
 f31:=Tryz.func340.trans (congrArg some (by kernel_rfl))
 f32:=Tryz.func341.trans (congrArg some (by kernel_rfl))
 f33:=Tryz.func342.trans (congrArg some (by kernel_rfl))
 f34:=Tryz.func369.trans (congrArg some (by kernel_rfl))
 f35:=Tryz.func370.trans (congrArg some (by kernel_rfl))
 f36:=Tryz.func371.trans (congrArg some (by kernel_rfl))
 f37:=Tryz.func372.trans (congrArg some (by kernel_rfl))
 f38:=Tryz.func373.trans (congrArg some (by kernel_rfl))
 f39:=Tryz.func402.trans (congrArg some (by kernel_rfl))
 t0:=Tryz.underlying0
 a0:=Tryz.isAgg0
 z0:=Tryz.sizeOf0
 v0:=Tryz.zeroValue0
 i0:=by kernel_rfl
 t3:=Tryz.underlying3
 a3:=Tryz.isAgg3
 z3:=Tryz.sizeOf3
 v3:=Tryz.zeroValue3
 i3:=by kernel_rfl
 t4:=Tryz.underlying4
 a4:=Tryz.isAgg4
 z4:=Tryz.sizeOf4
 v4:=Tryz.zeroValue4
 i4:=by kernel_rfl
 t5:=Tryz.underlying5
 a5:=Tryz.isAgg5
 z5:=Tryz.sizeOf5
 v5:=Tryz.zeroValue5
 i5:=by kernel_rfl
 t9:=Tryz.underlying9
 a9:=Tryz.isAgg9
 z9:=Tryz.sizeOf9
 v9:=Tryz.zeroValue9
 i9:=by kernel_rfl
 t12:=Tryz.underlying12
 a12:=Tryz.isAgg12
 z12:=Tryz.sizeOf12
 v12:=Tryz.zeroValue12
 i12:=by kernel_rfl
 t17:=Tryz.underlying17
 a17:=Tryz.isAgg17
 z17:=Tryz.sizeOf17
 v17:=Tryz.zeroValue17
 i17:=by kernel_rfl
 t20:=Tryz.underlying20
 a20:=Tryz.isAgg20
 z20:=Tryz.sizeOf20
 v20:=Tryz.zeroValue20
 i20:=by kernel_rfl
 t26:=Tryz.underlying278
 a26:=Tryz.isAgg278
 z26:=Tryz.sizeOf278
 v26:=Tryz.zeroValue278
 i26:=by kernel_rfl
 t32:=Tryz.underlying382
 a32:=Tryz.isAgg382
 z32:=Tryz.sizeOf382
 v32:=Tryz.zeroValue382
 i32:=by kernel_rfl
 t33:=Tryz.underlying383
 a33:=Tryz.isAgg383
 z33:=Tryz.sizeOf383
 v33:=Tryz.zeroValue383
 i33:=by kernel_rfl
 t35:=Tryz.underlying385
 a35:=Tryz.isAgg385
 z35:=Tryz.sizeOf385
 v35:=Tryz.zeroValue385
 i35:=by kernel_rfl
 t37:=Tryz.underlying314
 a37:=Tryz.isAgg314
 z37:=Tryz.sizeOf314
 v37:=Tryz.zeroValue314
 i37:=by kernel_rfl
 t41:=Tryz.underlying207
 a41:=Tryz.isAgg207
 z41:=Tryz.sizeOf207
 v41:=Tryz.zeroValue207
 i41:=by kernel_rfl
 t44:=Tryz.underlying390
 a44:=Tryz.isAgg390
 z44:=Tryz.sizeOf390
 v44:=Tryz.zeroValue390
 i44:=by kernel_rfl
 t49:=Tryz.underlying379
 a49:=Tryz.isAgg379
 z49:=Tryz.sizeOf379
 v49:=Tryz.zeroValue379
 i49:=by kernel_rfl
 t51:=Tryz.underlying183
 a51:=Tryz.isAgg183
 z51:=Tryz.sizeOf183
 v51:=Tryz.zeroValue183
 i51:=by kernel_rfl
 t53:=Tryz.underlying428
 a53:=Tryz.isAgg428
 z53:=Tryz.sizeOf428
 v53:=Tryz.zeroValue428
 i53:=by kernel_rfl
 t54:=Tryz.underlying429
 a54:=Tryz.isAgg429
 z54:=Tryz.sizeOf429
 v54:=Tryz.zeroValue429
 i54:=by kernel_rfl
 t58:=Tryz.underlying161
 a58:=Tryz.isAgg161
 z58:=Tryz.sizeOf161
 v58:=Tryz.zeroValue161
 i58:=by kernel_rfl
 t60:=Tryz.underlying453
 a60:=Tryz.isAgg453
 z60:=Tryz.sizeOf453
 v60:=Tryz.zeroValue453
 i60:=by kernel_rfl
 t64:=Tryz.underlying422
 a64:=Tryz.isAgg422
 z64:=Tryz.sizeOf422
 v64:=Tryz.zeroValue422
 i64:=by kernel_rfl
 t66:=Tryz.underlying477
 a66:=Tryz.isAgg477
 z66:=Tryz.sizeOf477
 v66:=Tryz.zeroValue477
 i66:=by kernel_rfl
 t67:=Tryz.underlying128
 a67:=Tryz.isAgg128
 z67:=Tryz.sizeOf128
 v67:=Tryz.zeroValue128
 i67:=by kernel_rfl
 t75:=Tryz.underlying501
 a75:=Tryz.isAgg501
 z75:=Tryz.sizeOf501
 v75:=Tryz.zeroValue501
 i75:=by kernel_rfl
 t76:=Tryz.underlying502
 a76:=Tryz.isAgg502
 z76:=Tryz.sizeOf502
 v76:=Tryz.zeroValue502
 i76:=by kernel_rfl
 t77:=Tryz.underlying503
 a77:=Tryz.isAgg503
 z77:=Tryz.sizeOf503
 v77:=Tryz.zeroValue503
 i77:=by kernel_rfl
 t78:=Tryz.underlying504
 a78:=Tryz.isAgg504
 z78:=Tryz.sizeOf504
 v78:=Tryz.zeroValue504
 i78:=by kernel_rfl
 t79:=Tryz.underlying505
 a79:=Tryz.isAgg505
 z79:=Tryz.sizeOf505
 v79:=Tryz.zeroValue505
 i79:=by kernel_rfl
 t80:=Tryz.underlying506
 a80:=Tryz.isAgg506
 z80:=Tryz.sizeOf506
 v80:=Tryz.zeroValue506
 i80:=by kernel_rfl
 t82:=Tryz.underlying508
 a82:=Tryz.isAgg508
 z82:=Tryz.sizeOf508
 v82:=Tryz.zeroValue508
 i82:=by kernel_rfl}
end Go.Proofs
namespace Go.Proofs
open Go.Shelf
def Tryz.laysItoa_ren:Go.Shelf.Ren:=⟨λ|171=>358|243=>385|246=>405|283=>413|284=>414|285=>415|286=>416|129=>274|317=>418|318=>419|319=>420|320=>421|337=>422|338=>423|n=>n,λ|3=>3|9=>9|2=>2|4=>4|171=>485|0=>0|53=>183|37=>109|5=>5|173=>487|212=>491|51=>379|20=>20|213=>492|46=>207|232=>493|233=>494|n=>n,λ|17=>3|18=>4|19=>5|n=>n⟩
theorem Tryz.laysItoa:Go.Proofs.LaysM.n171 Tryz.prog Tryz.laysItoa_ren:={
 mixed:=by kernel_rfl
 f129:=Tryz.func274.trans (congrArg some (by kernel_rfl))
 f171:=Tryz.func358.trans (congrArg some (by kernel_rfl))
 f243:=Tryz.func385.trans (congrArg some (by kernel_rfl))
 f246:=Tryz.func405.trans (congrArg some (by kernel_rfl))
 f283:=Tryz.func413.trans (congrArg some (by kernel_rfl))
 f284:=Tryz.func414.trans (congrArg some (by kernel_rfl))
 f285:=Tryz.func415.trans (congrArg some (by kernel_rfl))
 f286:=Tryz.func416.trans (congrArg some (by kernel_rfl))
 f317:=Tryz.func418.trans (congrArg some (by kernel_rfl))
 f318:=Tryz.func419.trans (congrArg some (by kernel_rfl))
 f319:=Tryz.func420.trans (congrArg some (by kernel_rfl))
 f320:=Tryz.func421.trans (congrArg some (by kernel_rfl))
 f337:=Tryz.func422.trans (congrArg some (by kernel_rfl))
 f338:=Tryz.func423.trans (congrArg some (by kernel_rfl))
 t0:=Tryz.underlying0
 a0:=Tryz.isAgg0
 z0:=Tryz.sizeOf0
 v0:=Tryz.zeroValue0
 t2:=Tryz.underlying2
 a2:=Tryz.isAgg2
 z2:=Tryz.sizeOf2
 v2:=Tryz.zeroValue2
 t3:=Tryz.underlying3
 a3:=Tryz.isAgg3
 z3:=Tryz.sizeOf3
 v3:=Tryz.zeroValue3
 t4:=Tryz.underlying4
 a4:=Tryz.isAgg4
 z4:=Tryz.sizeOf4
 v4:=Tryz.zeroValue4
 t5:=Tryz.underlying5
 a5:=Tryz.isAgg5
 z5:=Tryz.sizeOf5
 v5:=Tryz.zeroValue5
 t9:=Tryz.underlying9
 a9:=Tryz.isAgg9
 z9:=Tryz.sizeOf9
 v9:=Tryz.zeroValue9
 t20:=Tryz.underlying20
 a20:=Tryz.isAgg20
 z20:=Tryz.sizeOf20
 v20:=Tryz.zeroValue20
 t37:=Tryz.underlying109
 a37:=Tryz.isAgg109
 z37:=Tryz.sizeOf109
 v37:=Tryz.zeroValue109
 t46:=Tryz.underlying207
 a46:=Tryz.isAgg207
 z46:=Tryz.sizeOf207
 v46:=Tryz.zeroValue207
 t51:=Tryz.underlying379
 a51:=Tryz.isAgg379
 z51:=Tryz.sizeOf379
 v51:=Tryz.zeroValue379
 t53:=Tryz.underlying183
 a53:=Tryz.isAgg183
 z53:=Tryz.sizeOf183
 v53:=Tryz.zeroValue183
 t171:=Tryz.underlying485
 a171:=Tryz.isAgg485
 z171:=Tryz.sizeOf485
 v171:=Tryz.zeroValue485
 t173:=Tryz.underlying487
 a173:=Tryz.isAgg487
 z173:=Tryz.sizeOf487
 v173:=Tryz.zeroValue487
 t212:=Tryz.underlying491
 a212:=Tryz.isAgg491
 z212:=Tryz.sizeOf491
 v212:=Tryz.zeroValue491
 t213:=Tryz.underlying492
 a213:=Tryz.isAgg492
 z213:=Tryz.sizeOf492
 t232:=Tryz.underlying493
 a232:=Tryz.isAgg493
 z232:=Tryz.sizeOf493
 v232:=Tryz.zeroValue493
 t233:=Tryz.underlying494
 a233:=Tryz.isAgg494
 z233:=Tryz.sizeOf494
 v233:=Tryz.zeroValue494
 g17:=by kernel_rfl
 g18:=by kernel_rfl
 g19:=by kernel_rfl
 i0:=by kernel_rfl
 i2:=by kernel_rfl
 i3:=by kernel_rfl
 i4:=by kernel_rfl
 i5:=by kernel_rfl
 i9:=by kernel_rfl
 i20:=by kernel_rfl
 i37:=by kernel_rfl
 i46:=by kernel_rfl
 i51:=by kernel_rfl
 i53:=by kernel_rfl
 i171:=by kernel_rfl
 i173:=by kernel_rfl
 i212:=by kernel_rfl
 i232:=by kernel_rfl
 i233:=by kernel_rfl
 m17:=by kernel_rfl
 m18:=by kernel_rfl
 m19:=by kernel_rfl}
end Go.Proofs
namespace Go.PL
open Go Go.Proofs Go.Sort
theorem d29{α:Type}[Inhabited α]{cells:α->List Go.Value}{n:Nat}(hn:∀x,(cells x).length=n):∀(l:List α)(t:Nat),t<l.length*n->(l.flatMap cells)[t]?=(cells (l[t/n]!))[t%n]?
 |[],t,h=>by simp at h|x::r,t,h=>by
   have hp:0<n:=by
    rcases Nat.eq_zero_or_pos n with h0|h0;.rw[h0]at h;simp at h
    .exact h0
   rw[List.flatMap_cons];by_cases ht:t<n;.rw[List.getElem?_append_left (by rw[hn];exact ht),Nat.div_eq_of_lt ht,Nat.mod_eq_of_lt ht];rfl
   .have h1:t=(t-n)+n:=by omega
    have h2:t/n=(t-n)/n+1:=by rw[h1,Nat.add_div_right _ hp];simp
    have h3:t%n=(t-n)%n:=by rw[h1,Nat.add_mod_right];simp
    rw[List.getElem?_append_right (by rw[hn];omega),hn,d29 hn r (t-n) (by simp only[List.length_cons,Nat.succ_mul]at h;omega),h2,h3];rfl
theorem c6t{α:Type}[Inhabited α]{cells:α->List Go.Value}{n:Nat}(hn:∀x,(cells x).length=n)(d:Array α):(flatK cells n d).toList=d.toList.flatMap cells:=by
 apply List.ext_getElem?;intro t;by_cases ht:t<d.size*n
 .rw[d29 hn d.toList t (by simpa using ht)];have h1:(flatK cells n d)[t]?=some ((cells (d[t/n]!))[t%n]!):=by rw[<-get_flatK cells n d t ht,getElem!_pos (flatK cells n d) t (by rw[size_flatK];exact ht)];simp
  have hp:0<n:=by
   rcases Nat.eq_zero_or_pos n with h0|h0;.rw[h0]at ht;simp at ht
   .exact h0
  have hlt:t%n<(cells (d[t/n]!)).length:=by rw[hn];exact Nat.mod_lt _ hp
  have h2:d.toList[t/n]! =d[t/n]!:=by simp[List.getElem!_eq_getElem?_getD,Array.getElem!_eq_getD,Array.getD_eq_getD_getElem?]
  rw[Array.getElem?_toList,h1,h2,getElem!_pos (cells (d[t/n]!)) (t%n) hlt,qG hlt]
 .rw[List.getElem?_eq_none (by simp;omega),List.getElem?_eq_none (by rw[a0p hn];simp;omega)]
section
variable {α:Type} [Inhabited α] {B:Nat} {E:TypeId} {n:Nat} {cells:α -> List Go.Value} {w w':World} {v:Go.Value} {l:List α}
theorem d6l(hn:∀x,(cells x).length=n){g o cap m:Nat}(h:Own B E n cells w (.slice (some ⟨g,o,none⟩) m cap) l):HoldsK cells n w g o l.toArray:=by
 intro j hj;rw[size_flatK]at hj;have hk:=c6t hn l.toArray;have hu:(l.flatMap cells)[j]?=some ((flatK cells n l.toArray)[j]!):=by
  have:(flatK cells n l.toArray).toList[j]?=some ((flatK cells n l.toArray)[j]!):=by rw[getElem!_pos (flatK cells n l.toArray) j (by rw[size_flatK];exact hj)];simp
  rw[hk]at this;simpa using this
 refine⟨?_,?_⟩;.have:=h.ca rfl j _ hu;rwa[Addr.add_lit]at this
 .rcases h with⟨hv,_⟩|⟨g',o',cap',cur,hv,_,hh,_⟩;.cases hv
  .simp only[Go.Value.slice.injEq,Option.some.injEq,Addr.mk.injEq]at hv;obtain⟨⟨rfl,_,_⟩,_,_⟩:=hv;have hM:Mb w g E cur.toList:=by show _=_;rw[hh]
   exact hM.frozen _
theorem d3h{F cur:Array Go.Value}{m o:Nat}(hF:F.size=m)(hc:o+m<=cur.size):((putCells id o F cur).toList.drop o).take m=F.toList:=by
 apply List.ext_getElem?;intro t;by_cases ht:t<m;.rw[List.getElem?_take_of_lt ht,List.getElem?_drop,Array.getElem?_toList];simp only[putCells,Array.getElem?_mapIdx,id];rw[Array.getElem?_eq_getElem (show o+t<cur.size by omega),Option.map_some,if_pos ⟨Nat.le_add_right _ _,by omega⟩,Array.getElem?_toList,Nat.add_sub_cancel_left,getElem!_pos F t (by omega),Array.getElem?_eq_getElem (show t<F.size by omega)]
 .rw[List.getElem?_eq_none (by simp;omega),List.getElem?_eq_none (by simp;omega)]
theorem e97(hn:∀x,(cells x).length=n){g o cap m q:Nat}{os:Array Obj}{d:Array α}(h:Own B E n cells w (.slice (some ⟨g,o,none⟩) m cap) l)(hd:d.size=l.length):Own B E n cells (grow (putRowK cells n (Go.Sort.ahead w q) g o d) os) (.slice (some ⟨g,o,none⟩) m cap) d.toList:=by
 rcases h with⟨hv,_⟩|⟨g',o',cap',cur,hv,hB,hh,hc,hm,hs,ht⟩;.cases hv
 .simp only[Go.Value.slice.injEq,Option.some.injEq,Addr.mk.injEq]at hv;obtain⟨⟨rfl,rfl,_⟩,hml,rfl⟩:=hv;have hlt:g<w.heap.size:=(qN.1 hh).1;have hmn:d.size*n<=cap*n:=by rw[hd];exact Nat.mul_le_mul_right _ hc
  refine .inr ⟨g,o,cap,putCells id o (flatK cells n d) cur,by rw[Array.length_toList,hd,hml],hB,?_,by rw[Array.length_toList,hd];exact hc,hm,by simp[putCells,hs],?_⟩;.show((putRowK cells n (Go.Sort.ahead w q) g o d).heap++os)[g]?=_;rw[Array.getElem?_append_left (by rw[size_putRowK];exact hlt)];show(w.heap.modify g _)[g]?=_;rw[Array.getElem?_modify,if_pos rfl,hh];rfl
  .rw[Array.length_toList,d3h (by rw[size_flatK]) (by omega),c6t hn]
theorem e7r{G:Nat->Prop}{g o q:Nat}{os:Array Obj}{d:Array α}(hg:G g):Ext G w (grow (putRowK cells n (Go.Sort.ahead w q) g o d) os):=⟨rfl,rfl,rfl,by show _<=((putRowK cells n (Go.Sort.ahead w q) g o d).heap++os).size;rw[Array.size_append,size_putRowK];exact Nat.le_add_right _ _,λb hb hn=>by show((putRowK cells n (Go.Sort.ahead w q) g o d).heap++os)[b]?=_;rw[Array.getElem?_append_left (by rw[size_putRowK];exact hb)];show(w.heap.modify g _)[b]?=_;rw[Array.getElem?_modify,if_neg (λe:g=b=>hn (e▸hg))]⟩
end
theorem e5t{α:Type}[Inhabited α](enc:α->Go.Value)(w:World)(b o:Nat)(d:Array α):putRow enc w b o d=putRowK (λx=>[enc x]) 1 w b o d:=by
 unfold putRowK putRow;congr 1;funext c;unfold putCells;refine Array.ext (by simp) λk h1 h2=>?_;simp only[Array.getElem_mapIdx,size_flatK,Nat.mul_one,id];split;.rename_i h;rw[get_flatK _ _ _ _ (by omega),Nat.div_one,Nat.mod_one];rfl
 .rfl
theorem e8y{α:Type}[Inhabited α]{enc:α->Go.Value}{w:World}{b o:Nat}{d:Array α}(h:HoldsK (λx=>[enc x]) 1 w b o d):Holds enc w b o d:=λj hj=>by have:=h j (by simpa using hj);rw[get_flatK _ _ _ _ (by omega),Nat.div_one,Nat.mod_one]at this;exact this
end Go.PL
namespace Go.Proofs
open Go.Shelf Go.RowKit Go.Lib Go.Sort
noncomputable def Tryz.spT:TypeInfo:=(Tryz.prog.info? 176).get (by kernel_rfl)
noncomputable def Tryz.spE:TypeInfo:=(Tryz.prog.info? 64).get (by kernel_rfl)
theorem Tryz.spK(n:Nat)(h2:2<=n):Lib.swapperK n Tryz.spE 25=9:=by
 have a:Tryz.spE.hasPointers=false:=by kernel_rfl
 have b:Tryz.spE.bytes=16:=by kernel_rfl
 have c:(n==0)=false:=by simp;omega
 have d:(n==1)=false:=by simp;omega
 simp[Lib.swapperK,a,b,c,d]
set_option maxHeartbeats 2000000 in
theorem Tryz.spLess (blk off c Bs size:Nat) (W:World) (G:Nat -> Int) (hs:W.cell? ⟨Bs,0,none⟩=some (.slice (some ⟨blk,off,none⟩) size c))
  (hc: ∀t,t<size -> W.cell? ⟨blk,off+t*2,none⟩=some (.int .i64 (G t))) (i j:Nat) (hi:i<size) (hj:j<size) (_hsz:size<4611686018427387904):
  Calls Tryz.prog 215 #[.int .i64 i,.int .i64 j,.pointer (some ⟨Bs,0,none⟩)] W λ e w'=>e= .returned (.bool (decide (G i<G j))) /\ ∃q,w'=W.drewN q:=by
 have ci:=hc i hi
 have cj:=hc j hj
 go_enter Tryz.func215,Tryz.ntmps215
 go_wp2
 go_quiet (fail)
 go_wp2
 go_ret
 exact ⟨rfl,nq,rfl⟩
end Go.Proofs
namespace Go.PL
open Go Go.Proofs Go.Sort
def Span.cells(x:Span):List Go.Value:=[.int .i64 x.From,.int .i64 x.To]
theorem e3o:SWO (λx y:Span=>decide (x.From<y.From)):=by
 constructor;.intro x;simp
 .intro x y z;simp only[decide_eq_true_eq];omega
 .intro x y z;simp only[decide_eq_false_iff_not];omega
set_option maxHeartbeats 2000000 in
theorem d0w {w0:World} (l:List Span) {v:Go.Value} {B bc:Nat} (hO:Own B 64 2 Span.cells w0 v l) (hb:Mb w0 bc 176 [v]) (hnb:Go.Value.ownBlock v≠some bc) {r:List Span} (hF:b3w l=some r):
  Calls Tryz.prog 214 #[.iface 176 v,.func (.func 215) #[] #[.pointer (some ⟨bc,0,none⟩)]] w0 λ e w1=>e= .returned (.tuple #[]) /\ Ext (λ b=>Go.Value.ownBlock v=some b) w0 w1 /\ Own B 64 2 Span.cells w1 v r:=by
 unfold b3w f0f at hF
 by_cases h1:l.length <= 1
 ·rw [if_pos h1] at hF
  obtain rfl:=qH hF
  obtain ⟨a,cap,hv,_,_⟩:=hO.shape
  have key: ∀n,l.length=n -> Calls Tryz.prog 214 #[.iface 176 (.slice a n cap),.func (.func 215) #[] #[.pointer (some ⟨bc,0,none⟩)]] w0 (λ e w'=>e= .returned (.tuple #[]) /\ ∃os,w'=Go.Sort.grow w0 os) ->
    Calls Tryz.prog 214 #[.iface 176 v,.func (.func 215) #[] #[.pointer (some ⟨bc,0,none⟩)]] w0 λ e w1=>e= .returned (.tuple #[]) /\ Ext (λ b=>Go.Value.ownBlock v=some b) w0 w1 /\ Own B 64 2 Span.cells w1 v l:=by
   intro n hn h
   rw [hn] at hv
   rw [<- hv] at h
   refine Calls.mono h ?_
   rintro e w1 ⟨rfl,os,rfl⟩
   have hE:Ext noG w0 (Go.Sort.grow w0 os):=⟨rfl,rfl,rfl,by show _ <= (w0.heap++os).size;simp,λ b hb _=>by show (w0.heap++os)[b]? =_;rw [Array.getElem?_append_left hb]⟩
   exact ⟨rfl,hE.of_no,hO.exn hE⟩
  rcases (show l.length=0 \/ l.length=1 by omega) with h0 | h0
  ·exact key 0 h0 (Any.sort_Slice_tiny Tryz.sliceLay 176 64 Tryz.spT Tryz.spE (by kernel_rfl) (by kernel_rfl) (by kernel_rfl) (by kernel_rfl) 25 (λ _=>by kernel_rfl) a 0 cap (by omega) 326 (by kernel_rfl) (.func 215) #[] #[.pointer (some ⟨bc,0,none⟩)] w0)
  ·exact key 1 h0 (Any.sort_Slice_tiny Tryz.sliceLay 176 64 Tryz.spT Tryz.spE (by kernel_rfl) (by kernel_rfl) (by kernel_rfl) (by kernel_rfl) 25 (λ _=>by kernel_rfl) a 1 cap (by omega) 327 (by kernel_rfl) (.func 215) #[] #[.pointer (some ⟨bc,0,none⟩)] w0)
 ·rw [if_neg h1] at hF
  split at hF
  case isFalse=>cases hF
  rename_i hsz
  obtain rfl:=qH hF
  obtain ⟨a,cap,hv,hlc,hcm⟩:=hO.shape
  cases a with
  | none=>
    exfalso
    rcases hO with ⟨_,h⟩ | ⟨g,o,c',cur,hv',_⟩
    ·rw [h] at h1;simp at h1
    ·rw [hv] at hv';cases hv'
  | some ad=>
    obtain ⟨g,o,hg⟩: ∃g o,ad=⟨g,o,none⟩:=by
     rcases hO with ⟨h,_⟩ | ⟨g,o,c',cur,hv',_⟩
     ·rw [hv] at h;cases h
     ·rw [hv] at hv';cases hv';exact ⟨g,o,rfl⟩
    subst hg
    subst hv
    have hlt:g<w0.heap.size:=(hO.lt rfl).2
    have hbg:bc≠g:=λ e=>hnb (by rw [e];rfl)
    have hcell:w0.cell? ⟨bc,0,none⟩=some (.slice (some ⟨g,o,none⟩) l.toArray.size cap):=hb.ca 0 _ rfl
    have hH:=d6l (n:=2) (cells:=Span.cells) (λ _=>rfl) hO
    have h2:2 <= l.toArray.size:=by rw [List.size_toArray];omega
    have hsz':l.toArray.size<4611686018427387904:=by rw [List.size_toArray];exact hsz
    have hless:LessReadsK Tryz.prog 215 #[.pointer (some ⟨bc,0,none⟩)] Span.cells 2 (λ x y:Span=>decide (x.From<y.From)) g o l.toArray.size w0:=by
     intro m os dk hs i j hi hj
     have e:sortWorldK Span.cells 2 w0 g o m dk os=putRowK Span.cells 2 (grow (Go.Sort.ahead w0 m) os) g o dk:=by
      unfold sortWorldK;rw [putRowK_grow _ _ (Go.Sort.ahead w0 m) _ g o _ hlt]
     have hHg:HoldsK Span.cells 2 (grow (Go.Sort.ahead w0 m) os) g o l.toArray:=holdsK_grow _ _ _ _ g o _ hlt (holdsK_ahead _ _ _ _ _ _ _ hH)
     refine Tryz.spLess g o cap bc l.toArray.size _ (λ t=>dk[t]!.From) ?_ (λ t ht=> ?_) i j hi hj (by omega)
     ·rw [e,cell?_putRowK_other _ _ _ g o dk _ (by exact hbg),cell?_grow _ _ _ (by exact hb.lt)];exact hcell
     ·rw [e];exact ((holdsK_putRowK _ _ _ g o l.toArray dk hHg hs).cell (i:=t) (c:=0) (by omega) (by omega)).1
    have hS:=Any.sort_Slice_cells_eq Tryz.sliceLay 176 64 Tryz.spT Tryz.spE (by kernel_rfl) (by kernel_rfl) (by kernel_rfl) (by kernel_rfl) 25 (λ _=>by kernel_rfl) Span.cells 2 (λ _=>rfl) (by kernel_rfl) (λ _=>by kernel_rfl)
     (λ x u hu=>by simp [Span.cells] at hu;rcases hu with rfl | rfl<;>rfl) (λ x y:Span=>decide (x.From<y.From)) e3o 215 _
     (enters_of Tryz.func215 (by kernel_rfl) rfl) g o cap l.toArray h2 hsz' 334 (by rw [Tryz.spK _ h2];kernel_rfl) false
     (λ args W=>run_callFunc_extern Tryz.func334 (by kernel_rfl) (by kernel_rfl) (by kernel_rfl) (e:=Extern.ReflectliteSwapper.swap false) (by kernel_rfl) args W) w0 hless hH hlt
    have hp:=(pdq_sorts (λ x y:Span=>decide (x.From<y.From)) e3o l.toArray 0 l.toArray.size (Lib.bitLen l.toArray.size) true true (Nat.zero_le _) (Nat.le_refl _) (Or.inl rfl)).1.1
    rw [List.size_toArray] at hS hp
    generalize pdq (λ x y:Span=>decide (x.From<y.From)) l.toArray 0 l.length (Lib.bitLen l.length) true true=d at hS hp⊢
    refine Calls.mono hS ?_
    rintro e w1 ⟨rfl,q,os,rfl⟩
    exact ⟨rfl,e7r rfl,e97 (n:=2) (cells:=Span.cells) (λ _=>rfl) hO hp⟩
end Go.PL
namespace Go.PL
open Go Go.SX Go.Proofs
theorem mixed:Tryz.prog.follows .mixedOrders=true:=by kernel_rfl
noncomputable section
def fe_403:Fent VV:=⟨⟨[.v .yn,.v .yn,.v .yn],[.v .yn,.v .yn]⟩,Int×Int,λx=>c23 x.1 x.2.1 x.2.2.1,λn=>((n.1,n.2,()),()),none⟩
theorem ok_403:d6d Tryz.prog 403 fe_403:=d2m (U:=VV) (g:=g7y) (l:=Extern.MathBitsCarry.rows) (λh _ he=>g34 h he) (fn:=Tryz.f403) (by kernel_rfl) (by kernel_rfl) (by kernel_rfl) (by kernel_rfl) (by kernel_rfl) (by kernel_rfl) (a:=.yn) (λx=>x) (λn=>n) (λ_=>rfl) (λ_=>rfl)
def fe_404:Fent VV:=⟨⟨[.v .yn,.v .yn,.v .yn],[.v .yn,.v .yn]⟩,Int×Int,λx=>c1u x.1 x.2.1 x.2.2.1,λn=>((n.1,n.2,()),()),none⟩
theorem ok_404:d6d Tryz.prog 404 fe_404:=d2m (U:=VV) (g:=g8x) (l:=Extern.MathBitsCarry.rows.tail) (λh _ he=>g3o h he) (fn:=Tryz.f404) (by kernel_rfl) (by kernel_rfl) (by kernel_rfl) (by kernel_rfl) (by kernel_rfl) (by kernel_rfl) (a:=.yn) (λx=>x) (λn=>n) (λ_=>rfl) (λ_=>rfl)
def fe_411:Fent VV:=⟨⟨[.v .yl,.v .yo],[.v .z9]⟩,Int,λx=>a7v x.1 x.2.1,λn=>((n,()),()),none⟩
theorem ok_411:d6d Tryz.prog 411 fe_411:=f6g (U:=VV) (a:=.yl) (b:=.yo) (c:=.z9) (fn:=Tryz.f411) (by kernel_rfl) (by kernel_rfl) (by kernel_rfl) (by kernel_rfl) (by kernel_rfl) (λx=>x) (λx=>x) (λn=>n) (λ_=>rfl) (λ_=>rfl) (λ_=>rfl)
def fe_358:Fent VV:=⟨⟨[.v .z9],[.v .yl]⟩,ByteArray,λx=>strconv_Itoa x.1,λb=>((b,()),()),none⟩
theorem ok_358:SX.Spec Tryz.prog 358 fe_358:=e8o (U:=VV) (a:=.z9) (c:=.yl) Tryz.laysItoa (λ_ h=>h) (λx=>x) (λ_=>rfl) (λx=>x) (λ_=>rfl)
def fe_67:Fent VV:=⟨⟨[.ls .z9],[.ow 3 .z9]⟩,List Int,λx=>a7z x.1,w1,none⟩
theorem ok_67:SX.Spec Tryz.prog 67 fe_67:=b6g (U:=VV) (c:=.z9) (e:=3) (t:=23) (b:=4) (N:=8) uok mixed (fn:=Tryz.f67) (by kernel_rfl) (by kernel_rfl) rfl rfl (by kernel_rfl) (by kernel_rfl) (by kernel_rfl) (λl=>by kernel_rfl)
def fe_176:Fent VV:=⟨⟨[.ls .zj],[.ow 195 .zj]⟩,List Credit,λx=>a5m x.1,w1,none⟩
theorem ok_176:SX.Spec Tryz.prog 176 fe_176:=b6g (U:=VV) (c:=.zj) (e:=195) (t:=54) (b:=4) (N:=16) uok mixed (fn:=Tryz.f176) (by kernel_rfl) (by kernel_rfl) rfl rfl (by kernel_rfl) (by kernel_rfl) (by kernel_rfl) (λl=>by kernel_rfl)
def fe_177:Fent VV:=⟨⟨[.ls .zo],[.ow 197 .zo]⟩,List Index,λx=>a6e x.1,w1,none⟩
theorem ok_177:SX.Spec Tryz.prog 177 fe_177:=b6g (U:=VV) (c:=.zo) (e:=197) (t:=55) (b:=4) (N:=24) uok mixed (fn:=Tryz.f177) (by kernel_rfl) (by kernel_rfl) rfl rfl (by kernel_rfl) (by kernel_rfl) (by kernel_rfl) (λl=>by kernel_rfl)
def fe_178:Fent VV:=⟨⟨[.ls .zq],[.ow 199 .zq]⟩,List Let,λx=>a86 x.1,w1,none⟩
theorem ok_178:SX.Spec Tryz.prog 178 fe_178:=b6g (U:=VV) (c:=.zq) (e:=199) (t:=56) (b:=4) (N:=88) uok mixed (fn:=Tryz.f178) (by kernel_rfl) (by kernel_rfl) rfl rfl (by kernel_rfl) (by kernel_rfl) (by kernel_rfl) (λl=>by kernel_rfl)
def fe_179:Fent VV:=⟨⟨[.ls .zn],[.ow 78 .zn]⟩,List Grant,λx=>a6f x.1,w1,none⟩
theorem ok_179:SX.Spec Tryz.prog 179 fe_179:=b6g (U:=VV) (c:=.zn) (e:=78) (t:=57) (b:=4) (N:=152) uok mixed (fn:=Tryz.f179) (by kernel_rfl) (by kernel_rfl) rfl rfl (by kernel_rfl) (by kernel_rfl) (by kernel_rfl) (λl=>by kernel_rfl)
def fe_180:Fent VV:=⟨⟨[.ls .zv],[.ow 202 .zv]⟩,List Reduce,λx=>a5p x.1,w1,none⟩
theorem ok_180:SX.Spec Tryz.prog 180 fe_180:=b6g (U:=VV) (c:=.zv) (e:=202) (t:=58) (b:=4) (N:=80) uok mixed (fn:=Tryz.f180) (by kernel_rfl) (by kernel_rfl) rfl rfl (by kernel_rfl) (by kernel_rfl) (by kernel_rfl) (λl=>by kernel_rfl)
def fe_214:Fent VV:=⟨⟨[],[]⟩,Unit,λ_=>none,λ_=>((),()),some (.qy (slQ 176 64 .y1 215 b3w))⟩
def K214:Kn Tryz.prog VV:=⟨214,fe_214,show d6v Tryz.prog 214 _ from g47 (U:=VV) (c:=.y1) (cells:=Span.cells) (a14 (fn:=Tryz.f214) (by kernel_rfl) (by kernel_rfl) (by kernel_rfl)) (λG w cs x h=>by obtain⟨_,css,rfl,hh⟩:=a91.1 h;match css,hh with|[a,b],⟨h1,h2,_⟩=>rw[show a=_ from h1,show b=_ from h2];rfl) (λG w x=>a91.2 ⟨rfl,[[.int .i64 x.From],[.int .i64 x.To]],rfl,⟨rfl,rfl,trivial⟩⟩) λl r w v bc hO hM hne hF=>d0w l hO hM hne hF⟩
def fe_120:Fent VV:=⟨⟨[],[]⟩,Unit,λ_=>none,λ_=>((),()),some (.qy (soQ 3 .z9 b8s))⟩
def fe_129:Fent VV:=⟨⟨[],[]⟩,Unit,λ_=>none,λ_=>((),()),some (.qy (skQ 206 232 3 .z9 λx=>x))⟩
def K67:Kn Tryz.prog VV:=⟨67,fe_67,knS rfl ⟨ok_67,λ_ _=>by kernel_rfl⟩⟩
def K176:Kn Tryz.prog VV:=⟨176,fe_176,knS rfl ⟨ok_176,λ_ _=>by kernel_rfl⟩⟩
def K177:Kn Tryz.prog VV:=⟨177,fe_177,knS rfl ⟨ok_177,λ_ _=>by kernel_rfl⟩⟩
def K178:Kn Tryz.prog VV:=⟨178,fe_178,knS rfl ⟨ok_178,λ_ _=>by kernel_rfl⟩⟩
def K179:Kn Tryz.prog VV:=⟨179,fe_179,knS rfl ⟨ok_179,λ_ _=>by kernel_rfl⟩⟩
def K180:Kn Tryz.prog VV:=⟨180,fe_180,knS rfl ⟨ok_180,λ_ _=>by kernel_rfl⟩⟩
def K358:Kn Tryz.prog VV:=⟨358,fe_358,knS rfl ⟨ok_358,λ_ _=>by kernel_rfl⟩⟩
def fe_66:Fent VV:=⟨⟨[],[]⟩,Unit,λ_=>none,λ_=>((),()),some (.seq 112 25 (some .zy))⟩
def K66:Kn Tryz.prog VV:=⟨66,fe_66,show b9c _ _ _ _ from c5j (tS:=25) (tF:=152) (tG:=151) (p1:= "iter.go:26") (p2:= "iter.go:27") (a14 (fn:=Tryz.f66) (by kernel_rfl) (by kernel_rfl) (by kernel_rfl)) (fn:=Tryz.f66) (by kernel_rfl) (by kernel_rfl) rfl rfl⟩
def fe_113:Fent VV:=⟨⟨[],[]⟩,Unit,λ_=>none,λ_=>((),()),some (.seq 175 43 (some .y8))⟩
def h2a:Kn Tryz.prog VV:=⟨113,fe_113,show b9c _ _ _ _ from c5j (tS:=43) (tF:=212) (tG:=211) (p1:= "iter.go:26") (p2:= "iter.go:27") (a14 (fn:=Tryz.f113) (by kernel_rfl) (by kernel_rfl) (by kernel_rfl)) (fn:=Tryz.f113) (by kernel_rfl) (by kernel_rfl) rfl rfl⟩
def fe_130:Fent VV:=⟨⟨[],[]⟩,Unit,λ_=>none,λ_=>((),()),some (.seq 206 232 none)⟩
def K130:Kn Tryz.prog VV:=⟨130,fe_130,show b9c _ _ _ _ from c5j (tS:=232) (tF:=237) (tG:=236) (p1:= "iter.go:25") (p2:= "iter.go:26") (a14 (fn:=Tryz.f130) (by kernel_rfl) (by kernel_rfl) (by kernel_rfl)) (fn:=Tryz.f130) (by kernel_rfl) (by kernel_rfl) rfl rfl⟩
def fe_348:Fent VV:=⟨⟨[],[]⟩,Unit,λ_=>none,λ_=>((),()),some (.seq 376 37 (some .y4))⟩
def K348:Kn Tryz.prog VV:=⟨348,fe_348,show b9c _ _ _ _ from c5j (tS:=37) (tF:=439) (tG:=438) (p1:= "iter.go:26") (p2:= "iter.go:27") (a14 (fn:=Tryz.f348) (by kernel_rfl) (by kernel_rfl) (by kernel_rfl)) (fn:=Tryz.f348) (by kernel_rfl) (by kernel_rfl) rfl rfl⟩
def h04:Fent VV:=⟨⟨[],[]⟩,Unit,λ_=>none,λ_=>((),()),some (.seq 377 23 (some .z9))⟩
def K349:Kn Tryz.prog VV:=⟨349,h04,show b9c _ _ _ _ from c5j (tS:=23) (tF:=237) (tG:=236) (p1:= "iter.go:37") (p2:= "iter.go:38") (a14 (fn:=Tryz.f349) (by kernel_rfl) (by kernel_rfl) (by kernel_rfl)) (fn:=Tryz.f349) (by kernel_rfl) (by kernel_rfl) rfl rfl⟩
def fe_389:Fent VV:=⟨⟨[],[]⟩,Unit,λ_=>none,λ_=>((),()),some (.seq 407 269 (some .zh))⟩
def K389:Kn Tryz.prog VV:=⟨389,fe_389,show b9c _ _ _ _ from c5j (tS:=269) (tF:=469) (tG:=468) (p1:= "iter.go:26") (p2:= "iter.go:27") (a14 (fn:=Tryz.f389) (by kernel_rfl) (by kernel_rfl) (by kernel_rfl)) (fn:=Tryz.f389) (by kernel_rfl) (by kernel_rfl) rfl rfl⟩
def bkL:List (Nat×TypeId×TyC×Bool):=[(112,25,.zy,false),(175,43,.y8,false),(376,37,.y4,false),(377,23,.z9,true),(407,269,.zh,false)]
theorem bkA:h1j (U:=VV) Tryz.prog bkL:=⟨⟨73,⟨⟨Tryz.f112,3,4,210,by kernel_rfl,⟨by kernel_rfl,rfl⟩,rfl⟩,λ_ _=>a14 (fn:=Tryz.f112) (by kernel_rfl) (by kernel_rfl) (by kernel_rfl) _ _,by kernel_rfl,by kernel_rfl⟩,λ_=>by kernel_rfl,λ_=>by kernel_rfl⟩,⟨60,⟨⟨Tryz.f175,3,4,279,by kernel_rfl,⟨by kernel_rfl,rfl⟩,rfl⟩,λ_ _=>a14 (fn:=Tryz.f175) (by kernel_rfl) (by kernel_rfl) (by kernel_rfl) _ _,by kernel_rfl,by kernel_rfl⟩,λ_=>by kernel_rfl,λ_=>by kernel_rfl⟩,⟨340,⟨⟨Tryz.f376,3,4,458,by kernel_rfl,⟨by kernel_rfl,rfl⟩,rfl⟩,λ_ _=>a14 (fn:=Tryz.f376) (by kernel_rfl) (by kernel_rfl) (by kernel_rfl) _ _,by kernel_rfl,by kernel_rfl⟩,λ_=>by kernel_rfl,λ_=>by kernel_rfl⟩,⟨3,⟨⟨Tryz.f377,3,4,122,by kernel_rfl,⟨by kernel_rfl,rfl⟩,rfl⟩,λ_ _=>a14 (fn:=Tryz.f377) (by kernel_rfl) (by kernel_rfl) (by kernel_rfl) _ _,by kernel_rfl,by kernel_rfl⟩,λ_=>by kernel_rfl,λ_=>by kernel_rfl⟩,⟨352,⟨⟨Tryz.f407,3,4,480,by kernel_rfl,⟨by kernel_rfl,rfl⟩,rfl⟩,λ_ _=>a14 (fn:=Tryz.f407) (by kernel_rfl) (by kernel_rfl) (by kernel_rfl) _ _,by kernel_rfl,by kernel_rfl⟩,λ_=>by kernel_rfl,λ_=>by kernel_rfl⟩,trivial⟩
abbrev mkR:=@knR Tryz.prog VV uok mixed bkL bkA
def K403:Kn Tryz.prog VV:=⟨403,fe_403,knX rfl ok_403⟩
def K404:Kn Tryz.prog VV:=⟨404,fe_404,knX rfl ok_404⟩
def K411:Kn Tryz.prog VV:=⟨411,fe_411,knX rfl ok_411⟩
abbrev mk:=@kn Tryz.prog VV uok mixed
def K35:=mk 35 Tryz.f35 ⟨[.v .z9],[.v .yl]⟩ (cur1 i8) w1 u1 (sk 2 (.s (.l [] [] [.v 0 .z9,.v 3 .yl] .n) .n)) []
def K18:=mk 18 Tryz.f18 ⟨[.v .z9,.v .z9],[.v .z9]⟩ (cur2 b7) w1 u1 .n []
def K19:=mk 19 Tryz.f19 ⟨[.ls .z9,.v .z9],[.v .z9]⟩ (cur2 c5) w1 u1 .n [K18]
def K59:=mk 59 Tryz.f59 ⟨[.v .z9],[.v .yl]⟩ (cur1 a01) w1 u1 .n [K35]
def K36:=mk 36 Tryz.f36 ⟨[.v .yl,.ls .z9,.v .z9],[.v .yl]⟩ (cur3 a38) w1 u1 (sk 3 (.j [] [.ls 1 .z9,.v 2 .z9,.v 7 .yl,.v 8 .yl] .n (.s .n (.j [] [.ls 1 .z9,.v 2 .z9,.v 7 .yl,.v 8 .yl] .n (.j [] [.ls 1 .z9,.v 2 .z9,.v 7 .yl,.v 8 .yl] .n (.s .n (.s .n (.s .n (.s .n (.j [] [.ls 1 .z9,.v 2 .z9,.v 8 .yl] .n (.s .n (.s .n (.j [] [.ls 1 .z9,.v 2 .z9,.v 8 .yl] .n .n))))))))))))) [K18,K19,K35,K59]
def K17:=mk 17 Tryz.f17 ⟨[.v .z9,.ls .z9],[.v .yl]⟩ (cur2 b10) w1 u1 (sk 3 (.j [] [.v 0 .z9,.ls 1 .z9,.v 6 .yl] .n .n)) [K18,K19,K35,K36]
def h2b:=mk 147 Tryz.f147 ⟨[.v .yl,.v .z9],[.v .z9]⟩ (cur2 b16) w1 u1 (sk 2 (.s (.l [0] [] [.v 1 .z9,.v 5 .z8] .n) .n)) []
def K148:=mk 148 Tryz.f148 ⟨[.v .yo],[.v .z8]⟩ (cur1 a3q) w1 u1 .n []
def K150:=mk 150 Tryz.f150 ⟨[.v .yo],[.v .z8]⟩ (cur1 a30) w1 u1 .n []
def h2x:=mk 149 Tryz.f149 ⟨[.v .yl,.v .z9,.v .z8],[.v .z9]⟩ (cur3 a9f) w1 u1 (sk 2 (.s (.l [0,1,2] [] [.v 7 .z9] .n) .n)) [K148,K150]
def K94:=mk 94 Tryz.f94 ⟨[.v .yl],[.v .yl,.v .yl,.v .z9,.v .z8]⟩ (cur1 a6z) (λb=>((b.1,(b.2.1,(b.2.2.1,(b.2.2.2,())))),())) (λp=>(p.1.1,p.1.2.1,p.1.2.2.1,p.1.2.2.2.1)) (sk 2 (.j [] [.v 0 .yl,.v 6 .z9] .n (.s .n (.s (.s .n (.l [0,6] [] [.v 8 .z9,.v 9 .z9] .n)) (.s .n (.j [] [.v 6 .z9,.v 10 .yl,.v 11 .yl] .n (.s (.s .n (.l [6,10,11] [] [.v 12 .z9] .n)) .n))))))) [K150]
def K154:=mk 154 Tryz.f154 ⟨[.v .yl],[.v .z9,.v .z8]⟩ (cur1 a4m) w2 u2 (sk 2 (.s (.s .n (.l [0] [] [.v 4 .z9,.v 5 .z9] .n)) .n)) []
def K294:=mk 294 Tryz.f294 ⟨[.v .z9],[.v .z8]⟩ (cur1 b18) w1 u1 .n []
def K222:=mk 222 Tryz.f222 ⟨[.v .z9,.v .z9],[.v .z9]⟩ (cur2 a6b) w1 u1 .n [K294]
def K223:=mk 223 Tryz.f223 ⟨[.v .z9],[.v .z9]⟩ (cur1 a9y) w1 u1 (sk 2 (.s (.s .n (.l [0] [] [.v 3 .z9,.v 4 .z9] .n)) .n)) [K222]
def K155:=mk 155 Tryz.f155 ⟨[.v .z9,.v .z9,.v .z9],[.v .z9,.v .z8]⟩ (cur3 b22) w2 u2 .n [K222,K223]
def K96:=mk 96 Tryz.f96 ⟨[.v .yl],[.v .z9,.v .z8]⟩ (cur1 a47) w2 u2 .n [K154,K155]
def K151:=mk 151 Tryz.f151 ⟨[.v .yl,.v .z9],[.v .z9]⟩ (cur2 b1a) w1 u1 (.s .n (.j [] [.v 0 .yl,.v 1 .z9] .n .n)) []
def K91:=mk 91 Tryz.f91 ⟨[.v .yl,.v .z9],[.v .y5,.v .z9,.v .z9]⟩ (cur2 b15) w3 u3 (sk 5 (.j [] [.v 0 .yl,.v 1 .z9,.bx 4 2 139 .y5,.v 7 .z9,.v 8 .z9,.v 9 .z8] .n .n)) [K94,K96,h2b,K148,h2x,K150,K151]
def K49:=mk 49 Tryz.f49 ⟨[.v .yl],[.ow 139 .y5,.v .z9,.v .z9]⟩ (cur1 b25) w3 u3 (sk 4 (.l [0] [] [.ow 5 1 139 .y5,.v 6 .z9] .n)) [K91]
def K27:=mk 27 Tryz.f27 ⟨[.v .yl],[.bo 100 .yi,.v .z9,.v .z9]⟩ (cur1 b02) w3 u3 .n [K49]
def K54:=mk 54 Tryz.f54 ⟨[.rp 100 .yi,.v .yl],[.v .z8]⟩ (cur2 u9) w1 u1 .n []
def K31:=mk 31 Tryz.f31 ⟨[.io 100 .yi,.v .yl],[.v .z8]⟩ (cur2 d7) (λb=>((b.1,()),(b.2,()))) (λp=>(p.1.1,p.2.1)) .n [K54]
def K50:=mk 50 Tryz.f50 ⟨[.io 100 .yi],[]⟩ (cur1 j8) (λb=>((),(b,()))) (λp=>p.2.1) .n []
def K28:=mk 28 Tryz.f28 ⟨[.io 100 .yi,.v .yl],[]⟩ (cur2 b9) (λb=>((),(b,()))) (λp=>p.2.1) .n [K31,K50]
def K51:=mk 51 Tryz.f51 ⟨[.rp 100 .yi,.v .z9],[.v .z8]⟩ (cur2 p8) w1 u1 .n []
def K92:=mk 92 Tryz.f92 ⟨[.v .yl],[.v .z8]⟩ (cur1 a99) w1 u1 (.s .n (.s (.s .n (.l [0] [] [.v 3 .z9] .n)) .n)) [K148,K150]
def K93:=mk 93 Tryz.f93 ⟨[.v .yl],[.v .z8]⟩ (cur1 a7o) w1 u1 .n []
def K52:=mk 52 Tryz.f52 ⟨[.v .yl],[.v .z8]⟩ (cur1 a2e) w1 u1 .n [K92,K93]
def K29:=mk 29 Tryz.f29 ⟨[.io 100 .yi],[.v .yl]⟩ (cur1 a0w) (λb=>((b.1,()),(b.2,()))) (λp=>(p.1.1,p.2.1)) .n [K50,K51,K52]
def K153:=mk 153 Tryz.f153 ⟨[.v .z9],[.v .yn]⟩ (cur1 a43) w1 u1 .n []
def K274:=mk 274 Tryz.f274 ⟨[.v .yn],[.v .z9]⟩ (cur1 b8x) w1 u1 (.s .n (.j [] [.v 0 .yn,.v 2 .z9] .n (.j [] [.v 0 .yn,.v 2 .z9] .n .n))) []
def K219:=mk 219 Tryz.f219 ⟨[.v .yn],[.v .z9]⟩ (cur1 a7n) w1 u1 .n [K274]
def K146:=mk 146 Tryz.f146 ⟨[.v .yn,.v .yn,.v .yn],[.v .yn,.v .yn]⟩ (cur3 a8o) w2 u2 (.s .n (.j [] [.v 0 .yn,.v 1 .yn,.v 2 .yn] .n (.j [] [.v 0 .yn,.v 1 .yn,.v 2 .yn] .n (.s .n (.s .n (.s .n (.s .n (.s .n (.s .n (.s .n (.s .n (.s .n (.s .n (.s .n (.j [] [.v 2 .yn,.v 8 .yn,.v 9 .yn,.v 10 .yn,.v 11 .yn,.v 13 .yn,.v 14 .yn,.v 15 .yn] (.l [2,8,9,10,11,13,14] [] [.v 15 .yn,.v 16 .yn] .n) (.s .n (.s .n (.s .n (.j [] [.v 2 .yn,.v 8 .yn,.v 14 .yn,.v 15 .yn,.v 17 .yn,.v 18 .yn] (.l [2,8,9,10,14,15,17] [] [.v 16 .yn,.v 18 .yn] .n) .n))))))))))))))))))) [K219]
def K220:=mk 220 Tryz.f220 ⟨[.v .yh,.v .yn],[.v .yh,.v .yn]⟩ (cur2 a3h) w2 u2 .n [K146]
def K221:=mk 221 Tryz.f221 ⟨[.v .yn,.v .yn],[.v .yn]⟩ (cur2 a9s) w1 u1 (.s .n (.s (.l [] [] [.v 0 .yn,.v 1 .yn] .n) .n)) []
def K152:=mk 152 Tryz.f152 ⟨[.v .z8,.v .yh,.v .yn],[.v .zm,.v .z9]⟩ (cur3 b2l) w2 u2 .n [K220,K221]
def K95:=mk 95 Tryz.f95 ⟨[.v .z9,.v .z9],[.v .zm,.v .z9]⟩ (cur2 a3r) w2 u2 .n [K152,K153]
def K53:=mk 53 Tryz.f53 ⟨[.v .yl],[.v .zm,.v .z9,.v .z8]⟩ (cur1 a2x) w3 u3 (sk 4 (.s (.s .n (.l [5,6,7] [] [.bx 2 1 49 .zm,.v 9 .z9,.v 10 .z9,.v 11 .z9] .n)) .n)) [K94,K95]
def K30:=mk 30 Tryz.f30 ⟨[.io 100 .yi,.v .z9,.v .z9],[.v .z9]⟩ (cur3 s7) (λb=>((b.1,()),(b.2,()))) (λp=>(p.1.1,p.2.1)) .n [K50,K51,K53]
def K55:=mk 55 Tryz.f55 ⟨[.v .yl],[.v .z9]⟩ (cur1 b09) w1 u1 .n [K96]
def K97:=mk 97 Tryz.f97 ⟨[.v .yl],[.v .z9]⟩ (cur1 a8l) w1 u1 .n []
def K98:=mk 98 Tryz.f98 ⟨[.v .yl],[.v .z9]⟩ (cur1 a52) w1 u1 .n []
def K99:=mk 99 Tryz.f99 ⟨[.v .yl],[.v .z9]⟩ (cur1 a8f) w1 u1 .n []
def K56:=mk 56 Tryz.f56 ⟨[.io 100 .yi,.v .z9],[.v .z9]⟩ (cur2 a0m) (λb=>((b.1,()),(b.2,()))) (λp=>(p.1.1,p.2.1)) .n [K50,K51,K97,K98,K99]
def h3v:=mk 228 Tryz.f228 ⟨[.v .z9],[.v .z9]⟩ (cur1 a8e) w1 u1 .n []
def K225:=mk 225 Tryz.f225 ⟨[.v .z9],[.v .z9]⟩ (cur1 b05) w1 u1 (.s .n (.s (.s .n (.s .n (.s .n (.s .n (.s .n (.s .n (.s .n (.s .n (.s .n (.j [] [.v 3 .z9,.v 12 .z8] .n (.s .n (.j [] [.v 3 .z9,.v 19 .z8] .n .n)))))))))))) .n)) []
def K226:=mk 226 Tryz.f226 ⟨[.v .z9],[.v .yl]⟩ (cur1 a96) w1 u1 .n []
def K157:=mk 157 Tryz.f157 ⟨[.rp 100 .yi,.v .z9],[.v .z9]⟩ (cur2 a3a) w1 u1 (.s .n (.s (.s .n (.l [0,1] [] [.v 5 .z9] .n)) .n)) [K54,K225,K226]
def sg_100:Sig VV:=⟨[.io 100 .yi,.v .z9],[.v .zl]⟩
def fr_100(R:eQ):Fent VV:=⟨sg_100,Expr×rQ,λx=>R.f_pensionref5_reader_expr x.1 x.2.1,λb=>((b.1,()),(b.2,())),none⟩
def g81:Fent VV:=fr_100 (c8 FU)
def un_100:Ress VV sg_100.rs×Outs VV sg_100.ps->Expr×rQ:=λp=>(p.1.1,p.2.1)
def an_100:Ann VV.C:=(.s .n (.s .n (.s .n (.s .n (.s (.l [1] [] [.bx 0 0 100 .yi,.of 4 4 3 76 .zl,.bm 4 2 76 .zl [(4,3)],.bx 8 4 76 .zl] .n) .n)))))
def sg_156:Sig VV:=⟨[.io 100 .yi],[.v .zl]⟩
def fr_156(R:eQ):Fent VV:=⟨sg_156,Expr×rQ,λx=>R.f_pensionref5_reader_factor x.1,λb=>((b.1,()),(b.2,())),none⟩
def un_156:Ress VV sg_156.rs×Outs VV sg_156.ps->Expr×rQ:=λp=>(p.1.1,p.2.1)
def an_156:Ann VV.C:=.n
def sg_224:Sig VV:=⟨[.io 100 .yi,.v .z9],[.v .zl]⟩
def fr_224(R:eQ):Fent VV:=⟨sg_224,Expr×rQ,λx=>R.f_pensionref5_reader_call x.1 x.2.1,λb=>((b.1,()),(b.2,())),none⟩
def un_224:Ress VV sg_224.rs×Outs VV sg_224.ps->Expr×rQ:=λp=>(p.1.1,p.2.1)
def an_224:Ann VV.C:=.n
def ph_100(R:eQ):Phi VV:=λf ys=>lkF f ys [K28.e,K31.e,(100,fr_100 R),(156,fr_156 R),K157.e]
theorem okp_100(R:eQ)(hr100:SX.Spec Tryz.prog 100 (fr_100 R))(hr156:SX.Spec Tryz.prog 156 (fr_156 R)):OKΦ Tryz.prog (ph_100 R):=okl ⟨K28.ok,K31.ok,knS rfl ⟨hr100,λ_ _=>by kernel_rfl⟩,knS rfl ⟨hr156,λ_ _=>by kernel_rfl⟩,K157.ok,trivial⟩
theorem eq_100(R:eQ):∀x,c5v Tryz.prog (ph_100 R) sg_100 un_100 Tryz.f100 an_100 x=a3b R x.1 x.2.1:=λx=>by kernel_rfl
theorem ck_100:c67 Tryz.f100 sg_100=true:=by kernel_rfl
def ph_156(R:eQ):Phi VV:=λf ys=>lkF f ys [K28.e,K29.e,K30.e,K31.e,K51.e,K53.e,K54.e,(100,fr_100 R),(224,fr_224 R)]
theorem okp_156(R:eQ)(hr100:SX.Spec Tryz.prog 100 (fr_100 R))(hr224:SX.Spec Tryz.prog 224 (fr_224 R)):OKΦ Tryz.prog (ph_156 R):=okl ⟨K28.ok,K29.ok,K30.ok,K31.ok,K51.ok,K53.ok,K54.ok,knS rfl ⟨hr100,λ_ _=>by kernel_rfl⟩,knS rfl ⟨hr224,λ_ _=>by kernel_rfl⟩,trivial⟩
theorem eq_156(R:eQ):∀x,c5v Tryz.prog (ph_156 R) sg_156 un_156 Tryz.f156 an_156 x=a2a R x.1:=λx=>by kernel_rfl
theorem ck_156:c67 Tryz.f156 sg_156=true:=by kernel_rfl
def ph_224(R:eQ):Phi VV:=λf ys=>lkF f ys [K28.e,(100,fr_100 R),h3v.e]
theorem okp_224(R:eQ)(hr100:SX.Spec Tryz.prog 100 (fr_100 R)):OKΦ Tryz.prog (ph_224 R):=okl ⟨K28.ok,knS rfl ⟨hr100,λ_ _=>by kernel_rfl⟩,h3v.ok,trivial⟩
theorem eq_224(R:eQ):∀x,c5v Tryz.prog (ph_224 R) sg_224 un_224 Tryz.f224 an_224 x=a3d R x.1 x.2.1:=λx=>by kernel_rfl
theorem ck_224:c67 Tryz.f224 sg_224=true:=by kernel_rfl
theorem a7d:∀n,SX.Spec Tryz.prog 100 (fr_100 (c8 n))/\SX.Spec Tryz.prog 156 (fr_156 (c8 n))/\SX.Spec Tryz.prog 224 (fr_224 (c8 n))|0=>⟨(λ_ _ h=>(by cases(show none=some _ from h))),(λ_ _ h=>(by cases(show none=some _ from h))),(λ_ _ h=>(by cases(show none=some _ from h)))⟩|n+1=>let⟨h100,h156,h224⟩:=a7d n;⟨a2m (fe:=fr_100 (c8 (n+1))) uok (okp_100 (c8 n) h100 h156) mixed (fn:=Tryz.f100) (by kernel_rfl) un_100 an_100 (d8 ck_100).1 (d8 ck_100).2 (λ_=>rfl) (eq_100 (c8 n)),a2m (fe:=fr_156 (c8 (n+1))) uok (okp_156 (c8 n) h100 h224) mixed (fn:=Tryz.f156) (by kernel_rfl) un_156 an_156 (d8 ck_156).1 (d8 ck_156).2 (λ_=>rfl) (eq_156 (c8 n)),a2m (fe:=fr_224 (c8 (n+1))) uok (okp_224 (c8 n) h100) mixed (fn:=Tryz.f224) (by kernel_rfl) un_224 an_224 (d8 ck_224).1 (d8 ck_224).2 (λ_=>rfl) (eq_224 (c8 n))⟩
def K100:Kn Tryz.prog VV:=⟨100,g81,knS rfl ⟨(a7d FU).1,λ_ _=>by kernel_rfl⟩⟩
def K57:=mk 57 Tryz.f57 ⟨[.io 100 .yi,.im 60 .y8 [(2,2),(3,3),(4,4),(5,5),(6,6)],.po 1 2 195 .zj,.po 1 3 197 .zo,.po 1 4 199 .zq,.po 1 5 78 .zn,.po 1 6 202 .zv],[]⟩ (λx=>a39 x.1 x.2.1 x.2.2.1 x.2.2.2.1 x.2.2.2.2.1 x.2.2.2.2.2.1 x.2.2.2.2.2.2.1) (λb=>((),(b.1,(b.2.1,(b.2.2.1,(b.2.2.2.1,(b.2.2.2.2.1,(b.2.2.2.2.2.1,(b.2.2.2.2.2.2,()))))))))) (λp=>(p.2.1,p.2.2.1,p.2.2.2.1,p.2.2.2.2.1,p.2.2.2.2.2.1,p.2.2.2.2.2.2.1,p.2.2.2.2.2.2.2.1)) (.s (.s .n (.s (.s .n (.j [] [.bx 0 0 100 .yi,.of 1 2 7 195 .zj,.of 1 3 8 197 .zo,.of 1 4 9 199 .zq,.of 1 5 10 78 .zn,.of 1 6 11 202 .zv,.bm 1 1 60 .y8 [(2,7),(3,8),(4,9),(5,10),(6,11)],.bx 4 12 195 .zj] .n .n)) (.s .n (.s (.s .n (.j [] [.bx 0 0 100 .yi,.of 1 2 7 195 .zj,.of 1 3 8 197 .zo,.of 1 4 9 199 .zq,.of 1 5 10 78 .zn,.of 1 6 11 202 .zv,.bm 1 1 60 .y8 [(2,7),(3,8),(4,9),(5,10),(6,11)],.bx 6 12 197 .zo] .n (.j [] [.bx 0 0 100 .yi,.of 1 2 7 195 .zj,.of 1 3 8 197 .zo,.of 1 4 9 199 .zq,.of 1 5 10 78 .zn,.of 1 6 11 202 .zv,.bm 1 1 60 .y8 [(2,7),(3,8),(4,9),(5,10),(6,11)],.bx 6 12 197 .zo] .n .n))) .n)))) .n) [K28,K29,K30,K31,K50,K51,K53,K56,K100]
def K32:=mk 32 Tryz.f32 ⟨[.io 100 .yi],[.v .y8]⟩ (cur1 a2o) (λb=>((b.1,()),(b.2,()))) (λp=>(p.1.1,p.2.1)) (sk 3 (.j [] [.bx 0 0 100 .yi,.of 2 2 2 195 .zj,.of 2 3 3 197 .zo,.of 2 4 4 199 .zq,.of 2 5 5 78 .zn,.of 2 6 6 202 .zv,.bm 2 1 60 .y8 [(2,2),(3,3),(4,4),(5,5),(6,6)],.of 3 2 8 195 .zj,.of 3 3 9 197 .zo,.of 3 4 10 199 .zq,.of 3 5 11 78 .zn,.of 3 6 12 202 .zv,.bm 3 7 60 .y8 [(2,8),(3,9),(4,10),(5,11),(6,12)]] .n (.s .n (.s .n (.s .n (.s .n (.s .n (.s (.l [] [] [.bx 0 0 100 .yi,.of 2 2 2 195 .zj,.of 2 3 3 197 .zo,.of 2 4 4 199 .zq,.of 2 5 5 78 .zn,.of 2 6 6 202 .zv,.bm 2 1 60 .y8 [(2,2),(3,3),(4,4),(5,5),(6,6)],.of 3 2 8 195 .zj,.of 3 3 9 197 .zo,.of 3 4 10 199 .zq,.of 3 5 11 78 .zn,.of 3 6 12 202 .zv,.bm 3 7 60 .y8 [(2,8),(3,9),(4,10),(5,11),(6,12)]] (.s (.s (.g [5]) .n) .n)) .n)))))))) [K28,K30,K31,K50,K51,K55,K56,K57]
def K33:=mk 33 Tryz.f33 ⟨[.rp 100 .yi],[.v .z9]⟩ (cur1 a3s) w1 u1 .n []
def K101:=mk 101 Tryz.f101 ⟨[.v .z9],[.v .z8]⟩ (cur1 a6n) w1 u1 .n []
def K102:=mk 102 Tryz.f102 ⟨[.v .zx],[.v .z8]⟩ (cur1 a3c) w1 u1 .n []
def K103:=mk 103 Tryz.f103 ⟨[.v .z9,.v .z9],[.v .yl]⟩ (cur2 a3t) w1 u1 (sk 2 (.s (.s .n (.l [0,1] [] [.ow 5 2 9 .yl,.v 6 .z9] .n)) .n)) [K97,K98,K99]
def K158:=mk 158 Tryz.f158 ⟨[.v .zm],[.v .z8]⟩ (cur1 a1h) w1 u1 .n [K153,K221]
def K227:=mk 227 Tryz.f227 ⟨[.v .z9,.v .z9],[.v .yl]⟩ (cur2 a5w) w1 u1 (sk 2 (.s (.l [1] [] [.v 0 .z9,.v 5 .yl] .n) .n)) []
def K159:=mk 159 Tryz.f159 ⟨[.v .zm],[.v .yl]⟩ (cur1 a2n) w1 u1 (sk 3 (.j [] [.bx 1 1 49 .zm,.v 3 .yl] .n .n)) [K153,K158,K227]
def K104:=mk 104 Tryz.f104 ⟨[.v .zm,.v .z9],[.v .yl,.v .z8]⟩ (cur2 a1g) w2 u2 (sk 6 (.j [] [.v 1 .z9,.v 7 .yl,.v 8 .z9] .n (.s (.s .n (.l [1] [] [.v 7 .yl,.v 8 .z9,.v 9 .z9] .n)) .n))) [K158,K159]
def sg_160:Sig VV:=⟨[.v .zl],[.v .z9]⟩
def fr_160(R:Ring_pensionref5_Depth):Fent VV:=⟨sg_160,Int,λx=>R.f_pensionref5_Depth x.1,λb=>((b,()),()),none⟩
def fe_160:Fent VV:=fr_160 (s5 FU)
def un_160:Ress VV sg_160.rs×Outs VV sg_160.ps->Int:=λp=>p.1.1
def an_160:Ann VV.C:=(.s .n (.s .n (.s (.s .n (.l [] [] [.bx 1 1 76 .zl,.v 3 .z9,.v 4 .z9] .n)) .n)))
def ph_160(R:Ring_pensionref5_Depth):Phi VV:=λf ys=>lkF f ys [(160,fr_160 R)]
theorem okp_160(R:Ring_pensionref5_Depth)(hr160:SX.Spec Tryz.prog 160 (fr_160 R)):OKΦ Tryz.prog (ph_160 R):=okl ⟨knS rfl ⟨hr160,λ_ _=>by kernel_rfl⟩,trivial⟩
theorem eq_160(R:Ring_pensionref5_Depth):∀x,c5v Tryz.prog (ph_160 R) sg_160 un_160 Tryz.f160 an_160 x=a7r R x.1:=λx=>by kernel_rfl
theorem ck_160:c67 Tryz.f160 sg_160=true:=by kernel_rfl
theorem b0v:∀n,SX.Spec Tryz.prog 160 (fr_160 (s5 n))|0=>(λ_ _ h=>(by cases(show none=some _ from h)))|n+1=>let h160:=b0v n;a2m (fe:=fr_160 (s5 (n+1))) uok (okp_160 (s5 n) h160) mixed (fn:=Tryz.f160) (by kernel_rfl) un_160 an_160 (d8 ck_160).1 (d8 ck_160).2 (λ_=>rfl) (eq_160 (s5 n))
def K160:Kn Tryz.prog VV:=⟨160,fe_160,knS rfl ⟨(b0v FU),λ_ _=>by kernel_rfl⟩⟩
def sg_161:Sig VV:=⟨[.v .zl],[.v .z9]⟩
def fr_161(R:Ring_pensionref5_Size):Fent VV:=⟨sg_161,Int,λx=>R.f_pensionref5_Size x.1,λb=>((b,()),()),none⟩
def fe_161:Fent VV:=fr_161 (u7 FU)
def un_161:Ress VV sg_161.rs×Outs VV sg_161.ps->Int:=λp=>p.1.1
def an_161:Ann VV.C:=(.s .n (.s .n (.s (.s .n (.l [] [] [.bx 1 1 76 .zl,.v 3 .z9,.v 4 .z9] .n)) .n)))
def ph_161(R:Ring_pensionref5_Size):Phi VV:=λf ys=>lkF f ys [(161,fr_161 R)]
theorem okp_161(R:Ring_pensionref5_Size)(hr161:SX.Spec Tryz.prog 161 (fr_161 R)):OKΦ Tryz.prog (ph_161 R):=okl ⟨knS rfl ⟨hr161,λ_ _=>by kernel_rfl⟩,trivial⟩
theorem eq_161(R:Ring_pensionref5_Size):∀x,c5v Tryz.prog (ph_161 R) sg_161 un_161 Tryz.f161 an_161 x=a94 R x.1:=λx=>by kernel_rfl
theorem ck_161:c67 Tryz.f161 sg_161=true:=by kernel_rfl
theorem b1w:∀n,SX.Spec Tryz.prog 161 (fr_161 (u7 n))|0=>(λ_ _ h=>(by cases(show none=some _ from h)))|n+1=>let h161:=b1w n;a2m (fe:=fr_161 (u7 (n+1))) uok (okp_161 (u7 n) h161) mixed (fn:=Tryz.f161) (by kernel_rfl) un_161 an_161 (d8 ck_161).1 (d8 ck_161).2 (λ_=>rfl) (eq_161 (u7 n))
def K161:Kn Tryz.prog VV:=⟨161,fe_161,knS rfl ⟨(b1w FU),λ_ _=>by kernel_rfl⟩⟩
def sg_162:Sig VV:=⟨[.v .zl],[.v .z8]⟩
def fr_162(R:Ring_pensionref5_formed):Fent VV:=⟨sg_162,Bool,λx=>R.f_pensionref5_formed x.1,λb=>((b,()),()),none⟩
def g1z:Fent VV:=fr_162 (p7 FU)
def un_162:Ress VV sg_162.rs×Outs VV sg_162.ps->Bool:=λp=>p.1.1
def an_162:Ann VV.C:=(.s .n (.s .n (.s .n (.s .n (.s (.s .n (.l [3] [] [.bx 1 1 76 .zl,.v 6 .z9] .n)) .n)))))
def ph_162(R:Ring_pensionref5_formed):Phi VV:=λf ys=>lkF f ys [K52.e,K104.e,(162,fr_162 R),h3v.e]
theorem okp_162(R:Ring_pensionref5_formed)(hr162:SX.Spec Tryz.prog 162 (fr_162 R)):OKΦ Tryz.prog (ph_162 R):=okl ⟨K52.ok,K104.ok,knS rfl ⟨hr162,λ_ _=>by kernel_rfl⟩,h3v.ok,trivial⟩
theorem eq_162(R:Ring_pensionref5_formed):∀x,c5v Tryz.prog (ph_162 R) sg_162 un_162 Tryz.f162 an_162 x=a6s R x.1:=λx=>by kernel_rfl
theorem ck_162:c67 Tryz.f162 sg_162=true:=by kernel_rfl
theorem b0n:∀n,SX.Spec Tryz.prog 162 (fr_162 (p7 n))|0=>(λ_ _ h=>(by cases(show none=some _ from h)))|n+1=>let h162:=b0n n;a2m (fe:=fr_162 (p7 (n+1))) uok (okp_162 (p7 n) h162) mixed (fn:=Tryz.f162) (by kernel_rfl) un_162 an_162 (d8 ck_162).1 (d8 ck_162).2 (λ_=>rfl) (eq_162 (p7 n))
def K162:Kn Tryz.prog VV:=⟨162,g1z,knS rfl ⟨(b0n FU),λ_ _=>by kernel_rfl⟩⟩
def K105:=mk 105 Tryz.f105 ⟨[.v .zl],[.v .z8]⟩ (cur1 a0g) w1 u1 .n [K160,K161,K162]
def K58:=mk 58 Tryz.f58 ⟨[.v .y8],[.v .z8]⟩ (cur1 a3n) w1 u1 (sk 2 (.s (.s .n (.l [] [] [.bx 1 1 60 .y8,.v 3 .z9] .n)) (.s (.s .n (.l [] [] [.bx 1 1 60 .y8,.v 4 .z9] .n)) (.s (.s .n (.l [] [] [.bx 1 1 60 .y8,.v 7 .z9] .n)) (.s (.s .n (.l [] [] [.bx 1 1 60 .y8,.v 8 .z9] .n)) (.s (.s .n (.l [] [] [.bx 1 1 60 .y8,.v 9 .z9] .n)) .n)))))) [K52,K101,K102,K103,K104,K105]
def K34:=mk 34 Tryz.f34 ⟨[.v .y3],[.v .z8]⟩ (cur1 b00) w1 u1 (sk 2 (.s (.s .n (.l [] [] [.bx 1 1 45 .y3,.v 3 .z9] .n)) .n)) [K52,K58]
def K16:=mk 16 Tryz.f16 ⟨[.v .yl],[.v .y3,.v .z9,.v .z9]⟩ (cur1 a9z) w3 u3 (sk 8 (.j [] [.of 2 2 2 60 .y8,.bm 2 1 45 .y3 [(2,2)],.bx 5 3 100 .yi,.of 8 2 5 60 .y8,.bm 8 4 45 .y3 [(2,5)]] (.s .n (.l [] [] [.of 2 2 2 60 .y8,.bm 2 1 45 .y3 [(2,2)],.bx 5 3 100 .yi,.of 8 2 5 60 .y8,.bm 8 4 45 .y3 [(2,5)],.v 9 .z8] (.j [] [.of 2 2 2 60 .y8,.bm 2 1 45 .y3 [(2,2)],.bx 5 3 100 .yi,.of 8 2 5 60 .y8,.bm 8 4 45 .y3 [(2,5)]] (.s (.g [5,7]) .n) .n))) .n)) [K27,K28,K29,K30,K31,K32,K33,K34]
def K10:=mk 10 Tryz.f10 ⟨[.ls .z9],[.v .zp]⟩ (cur1 b11) w1 u1 (sk 2 (.s (.s .n (.l [0] [] [.of 2 0 2 47 .y2,.of 2 1 3 73 .zy,.of 2 2 4 51 .zu,.bm 2 1 28 .zp [(0,2),(1,3),(2,4)],.of 3 0 6 47 .y2,.of 3 1 7 73 .zy,.bm 3 5 28 .zp [(0,6),(1,7)],.v 4 .z9] .n)) .n)) [K16,K17,K18,K19]
def K8:=mk 8 Tryz.f8 ⟨[.v .z9,.v .z9],[.v .z9]⟩ (cur2 a40) w1 u1 .n []
def K4:=mk 4 Tryz.f4 ⟨[.ls .z9,.v .z9],[.v .zp]⟩ (cur2 b3p) w1 u1 .n [K8,K10]
def K20:=mk 20 Tryz.f20 ⟨[.v .z9],[.v .z9]⟩ (cur1 a97) w1 u1 .n [K18]
def K21:=mk 21 Tryz.f21 ⟨[.v .z9],[.v .yl]⟩ (cur1 u4) w1 u1 .n []
def K11:=mk 11 Tryz.f11 ⟨[.v .yg],[.v .ya]⟩ (cur1 b1b) w1 u1 (sk 5 (.j [] [.bx 1 1 62 .yg,.bx 2 2 66 .ya,.bx 3 3 66 .ya,.v 4 .z9,.v 5 .z9] .n (.s .n (.s (.s .n (.l [4,5,6] [] [.bx 1 1 62 .yg,.bx 2 2 66 .ya,.bx 3 3 66 .ya,.v 7 .z9] .n)) .n)))) [K18,K20,K21]
def K13:=mk 13 Tryz.f13 ⟨[.ls .z9],[.ow 66 .ya]⟩ (cur1 b04) w1 u1 (sk 2 (.s (.s .n (.l [0] [] [.ow 3 1 66 .ya,.v 4 .z9] .n)) .n)) [K18,K19]
def K12:=mk 12 Tryz.f12 ⟨[.ls .ya,.v .z9],[.ow 66 .ya]⟩ (cur2 b2c) w1 u1 (sk 2 (.s (.s .n (.l [0,1] [] [.ow 5 2 66 .ya,.v 6 .z9] .n)) .n)) []
def K60:=mk 60 Tryz.f60 ⟨[.v .z9,.v .yo],[.v .z8]⟩ (cur2 j6) w1 u1 (sk 2 (.s (.s .n (.l [1,5] [] [.v 6 .z9] .n)) .n)) [K21]
def K37:=mk 37 Tryz.f37 ⟨[.v .z9,.v .yo,.v .z9,.v .z9,.v .z9],[.v .z8]⟩ (cur5 a09) w1 u1 .n [K60]
def K22:=mk 22 Tryz.f22 ⟨[.v .ya],[.v .z8]⟩ (cur1 m8) w1 u1 .n [K21,K37]
def K23:=mk 23 Tryz.f23 ⟨[.v .ya,.v .ya],[.v .z9]⟩ (cur2 a4v) w1 u1 .n []
def K61:=mk 61 Tryz.f61 ⟨[.ow 5 .yo,.v .z9,.v .z9],[.ow 5 .yo]⟩ (cur3 g7) w1 u1 (.s .n (.s (.s .n (.l [1] [] [.ow 0 3 5 .yo,.v 7 .z9] .n)) .n)) []
def K38:=mk 38 Tryz.f38 ⟨[.v .ya],[.ow 5 .yo]⟩ (cur1 a5z) w1 u1 (sk 3 (.j [] [.bx 1 1 66 .ya,.v 3 .z9] .n (.s .n (.s .n (.s (.s .n (.l [5] [] [.bx 1 1 66 .ya,.ow 4 2 5 .yo,.v 6 .z9] .n)) .n))))) [K21,K22,K61]
def K24:=mk 24 Tryz.f24 ⟨[.v .ya,.v .ya],[.v .z8]⟩ (cur2 b0f) w1 u1 .n [K22,K23,K38]
def K14:=mk 14 Tryz.f14 ⟨[.ls .ya,.ls .ya],[.ow 66 .ya]⟩ (cur2 a6c) w1 u1 (sk 2 (.s (.s .n (.l [0,1] [] [.ow 5 2 66 .ya,.v 6 .z9] (.s .n (.s (.s .n (.j [] [.ls 0 .ya,.ls 1 .ya,.ow 5 2 66 .ya,.v 6 .z9,.bx 7 3 66 .ya] .n (.s .n (.s .n (.s (.l [0,1,6] [] [.ow 5 2 66 .ya,.bx 7 3 66 .ya,.v 8 .z9] .n) (.s .n (.z [5] []))))))) .n)))) .n)) [K22,K23,K24]
def K5:=mk 5 Tryz.f5 ⟨[.ls .yg,.ls .z9,.v .z8],[.ow 66 .ya]⟩ (cur3 b0g) w1 u1 (sk 2 (.s (.s .n (.l [0,1,2] [] [.ow 7 3 66 .ya,.v 8 .z9] .n)) .n)) [K11,K12,K13,K14]
def K6:=mk 6 Tryz.f6 ⟨[.v .z9],[.v .z9]⟩ (cur1 b5f) w1 u1 .n [K8]
def h1w:=mk 295 Tryz.f295 ⟨[.v .yo],[.v .z8]⟩ (cur1 b6l) w1 u1 .n []
def K357:=mk 357 Tryz.f357 ⟨[.v .yo],[.v .z8]⟩ (cur1 b74) w1 u1 .n []
def K296:=mk 296 Tryz.f296 ⟨[.v .yo],[.v .z8]⟩ (cur1 c1b) w1 u1 .n [h1w,K357]
def K229:=mk 229 Tryz.f229 ⟨[.v .yl],[.v .z8]⟩ (cur1 b7f) w1 u1 (sk 2 (.s (.s .n (.l [0] [] [.v 3 .z9] .n)) .n)) [h1w,K296]
def h2w:=mk 230 Tryz.f230 ⟨[.v .yl],[.v .z8]⟩ (cur1 b49) w1 u1 .n []
def K163:=mk 163 Tryz.f163 ⟨[.v .yl],[.v .z8]⟩ (cur1 b0e) w1 u1 .n [K229,h2w]
def K65:=mk 65 Tryz.f65 ⟨[.v .z9],[.v .z8]⟩ (cur1 m7) w1 u1 .n []
def K232:=mk 232 Tryz.f232 ⟨[],[.ow 404 .yk]⟩ (λx=>c0l) w1 u1 .n []
def K298:=mk 298 Tryz.f298 ⟨[.v .yk,.rp 3 .z9],[.v .z8]⟩ (cur2 b3q) w1 u1 .n []
def K297_298:=mk 297 Tryz.f297 ⟨[.ls .yk,.cl 298 [.z9]],[.v .z9]⟩ (λx=>a0b x.1 x.2.1.1) w1 u1 (.s .n (.s (.s .n (.l [0,1,7] [] [.v 8 .z9] .n)) .n)) [K298]
def K231:=mk 231 Tryz.f231 ⟨[.ls .yk,.v .z9],[.v .yl]⟩ (cur2 a4u) w1 u1 .n [K297_298]
def K233:=mk 233 Tryz.f233 ⟨[],[.ow 404 .yk]⟩ (λx=>c1i) w1 u1 .n []
def K398:=mk 398 Tryz.f398 ⟨[.v .yl,.v .yo],[.v .z9]⟩ (cur2 a9d) w1 u1 .n [K411]
def K412:=mk 412 Tryz.f412 ⟨[.v .yl],[.v .ym,.v .ym]⟩ (cur1 b0t) w2 u2 (sk 2 (.s (.s .n (.l [0] [] [.v 4 .ym,.v 5 .z9] .n)) (.s .n (.s (.s .n (.l [4] [] [.v 6 .ym,.v 7 .ym,.v 8 .z9] .n)) .n)))) []
def K401:=mk 401 Tryz.f401 ⟨[.v .yl,.v .yl],[.v .z9]⟩ (cur2 b36) w1 u1 (sk 4 (.s (.s .n (.l [0,1,5,6,7] [] [.v 8 .ym,.v 9 .z9] .n)) (.s .n (.s (.s .n (.l [0,1,5,6,7] [] [.v 8 .ym,.v 10 .z9] .n)) .n)))) [K412]
def K367:=mk 367 Tryz.f367 ⟨[.v .yl,.v .yl],[.v .z9]⟩ (cur2 a6y) w1 u1 .n [K398]
def K406:=mk 406 Tryz.f406 ⟨[.v .yl,.v .yl],[.v .yl,.v .yl,.v .z8]⟩ (cur2 b72) w3 u3 .n [K367]
def K386:=mk 386 Tryz.f386 ⟨[.v .yl,.v .yl],[.v .yl,.v .yl,.v .z8]⟩ (cur2 b9e) w3 u3 .n [K406]
def K387:=mk 387 Tryz.f387 ⟨[.v .yl],[.v .z9,.v .z8]⟩ (cur1 b2i) w2 u2 (.s .n (.s (.s .n (.l [0] [] [.v 2 .z9,.v 4 .z9] .n)) .n)) [K357]
def K359:=mk 359 Tryz.f359 ⟨[.v .yl],[.v .zm,.v .z9,.v .z8]⟩ (cur1 b69) w3 u3 (sk 2 (.j [] [.v 0 .yl,.bx 2 1 49 .zm,.v 3 .z9] .n (.s .n (.s .n (.s .n (.s .n (.s .n (.s .n (.j [] [.bx 2 1 49 .zm,.v 3 .z9,.v 9 .z9,.v 11 .z9] (.s .n (.l [3,11] [] [.bx 2 1 49 .zm,.v 9 .z9,.it 100 2] .n)) (.s .n (.s (.s .n (.l [3,113] [] [.bx 2 1 49 .zm,.v 114 .z9] (.s .n (.s .n (.s (.s .n (.l [3,14,113,114] [] [.bx 2 1 49 .zm] .n)) .n))))) .n))))))))))) [K386,K387]
def K299:=mk 299 Tryz.f299 ⟨[.v .zm,.v .z9],[.v .yl,.v .z8]⟩ (cur2 a4y) w2 u2 (sk 4 (.s (.s .n (.l [1] [] [.bx 2 2 49 .zm,.v 6 .yl,.v 7 .z9,.v 8 .z9] (.s .n (.s (.j [] [.v 1 .z9,.bx 2 2 49 .zm,.v 6 .yl,.v 7 .z9,.v 8 .z9] .n .n) .n)))) (.j [] [.v 1 .z9,.bx 2 2 49 .zm,.v 6 .yl] .n .n))) [K358,K359]
def K300:=mk 300 Tryz.f300 ⟨[.v .z9],[.v .z8]⟩ (cur1 b59) w1 u1 .n []
def K234:=mk 234 Tryz.f234 ⟨[.v .zo],[.v .z8]⟩ (cur1 b07) w1 u1 .n [K299,K300]
def sg_301:Sig VV:=⟨[.v .zl],[.v .z9]⟩
def fr_301(R:Ring_syntax_Depth):Fent VV:=⟨sg_301,Int,λx=>R.f_syntax_Depth x.1,λb=>((b,()),()),none⟩
def fe_301:Fent VV:=fr_301 (a0r FU)
def un_301:Ress VV sg_301.rs×Outs VV sg_301.ps->Int:=λp=>p.1.1
def an_301:Ann VV.C:=(.s .n (.s .n (.s (.s .n (.l [7,8] [] [.v 3 .z9,.v 9 .z9] .n)) .n)))
def ph_301(R:Ring_syntax_Depth):Phi VV:=λf ys=>lkF f ys [(301,fr_301 R)]
theorem okp_301(R:Ring_syntax_Depth)(hr301:SX.Spec Tryz.prog 301 (fr_301 R)):OKΦ Tryz.prog (ph_301 R):=okl ⟨knS rfl ⟨hr301,λ_ _=>by kernel_rfl⟩,trivial⟩
theorem eq_301(R:Ring_syntax_Depth):∀x,c5v Tryz.prog (ph_301 R) sg_301 un_301 Tryz.f301 an_301 x=b86 R x.1:=λx=>by kernel_rfl
theorem ck_301:c67 Tryz.f301 sg_301=true:=by kernel_rfl
theorem b5h:∀n,SX.Spec Tryz.prog 301 (fr_301 (a0r n))|0=>(λ_ _ h=>(by cases(show none=some _ from h)))|n+1=>let h301:=b5h n;a2m (fe:=fr_301 (a0r (n+1))) uok (okp_301 (a0r n) h301) mixed (fn:=Tryz.f301) (by kernel_rfl) un_301 an_301 (d8 ck_301).1 (d8 ck_301).2 (λ_=>rfl) (eq_301 (a0r n))
def K301:Kn Tryz.prog VV:=⟨301,fe_301,knS rfl ⟨(b5h FU),λ_ _=>by kernel_rfl⟩⟩
def d7d:Sig VV:=⟨[.v .zl],[.v .z9]⟩
def d6m(R:Ring_syntax_Size):Fent VV:=⟨d7d,Int,λx=>R.f_syntax_Size x.1,λb=>((b,()),()),none⟩
def g8j:Fent VV:=d6m (a1j FU)
def g0b:Ress VV d7d.rs×Outs VV d7d.ps->Int:=λp=>p.1.1
def g1b:Ann VV.C:=(.s .n (.s .n (.s (.s .n (.l [7,8] [] [.v 3 .z9,.v 9 .z9] .n)) .n)))
def g0e(R:Ring_syntax_Size):Phi VV:=λf ys=>lkF f ys [(302,d6m R)]
theorem g61(R:Ring_syntax_Size)(hr302:SX.Spec Tryz.prog 302 (d6m R)):OKΦ Tryz.prog (g0e R):=okl ⟨knS rfl ⟨hr302,λ_ _=>by kernel_rfl⟩,trivial⟩
theorem g9g(R:Ring_syntax_Size):∀x,c5v Tryz.prog (g0e R) d7d g0b Tryz.f302 g1b x=b9x R x.1:=λx=>by kernel_rfl
theorem f9v:c67 Tryz.f302 d7d=true:=by kernel_rfl
theorem b6s:∀n,SX.Spec Tryz.prog 302 (d6m (a1j n))|0=>(λ_ _ h=>(by cases(show none=some _ from h)))|n+1=>let h302:=b6s n;a2m (fe:=d6m (a1j (n+1))) uok (g61 (a1j n) h302) mixed (fn:=Tryz.f302) (by kernel_rfl) g0b g1b (d8 f9v).1 (d8 f9v).2 (λ_=>rfl) (g9g (a1j n))
def K302:Kn Tryz.prog VV:=⟨302,g8j,knS rfl ⟨(b6s FU),λ_ _=>by kernel_rfl⟩⟩
def K388:=mk 388 Tryz.f388 ⟨[.v .z9],[.v .z9]⟩ (cur1 b84) w1 u1 .n []
def K360:=mk 360 Tryz.f360 ⟨[.v .zl],[.v .z8]⟩ (cur1 c05) w1 u1 .n [K163,K299,K388]
def d75:Sig VV:=⟨[.v .zl],[.v .z8]⟩
def d67(R:Ring_syntax_form):Fent VV:=⟨d75,Bool,λx=>R.f_syntax_form x.1,λb=>((b,()),()),none⟩
def h0t:Fent VV:=d67 (e6 FU)
def g1p:Ress VV d75.rs×Outs VV d75.ps->Bool:=λp=>p.1.1
def f9m:Ann VV.C:=.n
def sg_361:Sig VV:=⟨[.v .zl],[.v .z8]⟩
def fr_361(R:Ring_syntax_form):Fent VV:=⟨sg_361,Bool,λx=>R.f_syntax_form_1 x.1,λb=>((b,()),()),none⟩
def un_361:Ress VV sg_361.rs×Outs VV sg_361.ps->Bool:=λp=>p.1.1
def an_361:Ann VV.C:=.n
def sg_345_361:Sig VV:=⟨[.ls .zl,.cl 361 []],[.v .z8]⟩
def fr_345_361(R:Ring_syntax_form):Fent VV:=⟨sg_345_361,Bool,λx=>R.f_slices_ContainsFunc_of_api_Expr x.1,λb=>((b,()),()),none⟩
def un_345_361:Ress VV sg_345_361.rs×Outs VV sg_345_361.ps->Bool:=λp=>p.1.1
def an_345_361:Ann VV.C:=.n
def sg_375_361:Sig VV:=⟨[.ls .zl,.cl 361 []],[.v .z9]⟩
def fr_375_361(R:Ring_syntax_form):Fent VV:=⟨sg_375_361,Int,λx=>R.f_slices_IndexFunc_of_api_Expr x.1,λb=>((b,()),()),none⟩
def un_375_361:Ress VV sg_375_361.rs×Outs VV sg_375_361.ps->Int:=λp=>p.1.1
def an_375_361:Ann VV.C:=(.s .n (.s (.s .n (.l [0,1,7] [] [.v 8 .z9] .n)) .n))
def g1j(R:Ring_syntax_form):Phi VV:=λf ys=>lkF f ys [(345,fr_345_361 R),K360.e]
theorem g4x(R:Ring_syntax_form)(hr345:SX.Spec Tryz.prog 345 (fr_345_361 R)):OKΦ Tryz.prog (g1j R):=okl ⟨knS rfl ⟨hr345,λ_ _=>by kernel_rfl⟩,K360.ok,trivial⟩
theorem g9j(R:Ring_syntax_form):∀x,c5v Tryz.prog (g1j R) d75 g1p Tryz.f303 f9m x=b60 R x.1:=λx=>by kernel_rfl
theorem g0s:c67 Tryz.f303 d75=true:=by kernel_rfl
def ph_361(R:Ring_syntax_form):Phi VV:=λf ys=>lkF f ys [(303,d67 R)]
theorem okp_361(R:Ring_syntax_form)(hr303:SX.Spec Tryz.prog 303 (d67 R)):OKΦ Tryz.prog (ph_361 R):=okl ⟨knS rfl ⟨hr303,λ_ _=>by kernel_rfl⟩,trivial⟩
theorem eq_361(R:Ring_syntax_form):∀x,c5v Tryz.prog (ph_361 R) sg_361 un_361 Tryz.f361 an_361 x=c0q R x.1:=λx=>by kernel_rfl
theorem ck_361:c67 Tryz.f361 sg_361=true:=by kernel_rfl
def ph_345_361(R:Ring_syntax_form):Phi VV:=λf ys=>lkF f ys [(375,fr_375_361 R)]
theorem okp_345_361(R:Ring_syntax_form)(hr375:SX.Spec Tryz.prog 375 (fr_375_361 R)):OKΦ Tryz.prog (ph_345_361 R):=okl ⟨knS rfl ⟨hr375,λ_ _=>by kernel_rfl⟩,trivial⟩
theorem eq_345_361(R:Ring_syntax_form):∀x,c5v Tryz.prog (ph_345_361 R) sg_345_361 un_345_361 Tryz.f345 an_345_361 x=a0y R x.1:=λx=>by kernel_rfl
theorem ck_345_361:c67 Tryz.f345 sg_345_361=true:=by kernel_rfl
def ph_375_361(R:Ring_syntax_form):Phi VV:=λf ys=>lkF f ys [(361,fr_361 R)]
theorem okp_375_361(R:Ring_syntax_form)(hr361:SX.Spec Tryz.prog 361 (fr_361 R)):OKΦ Tryz.prog (ph_375_361 R):=okl ⟨knS rfl ⟨hr361,λ_ _=>by kernel_rfl⟩,trivial⟩
theorem eq_375_361(R:Ring_syntax_form):∀x,c5v Tryz.prog (ph_375_361 R) sg_375_361 un_375_361 Tryz.f375 an_375_361 x=a1m R x.1:=λx=>by kernel_rfl
theorem ck_375_361:c67 Tryz.f375 sg_375_361=true:=by kernel_rfl
theorem b6p:∀n,SX.Spec Tryz.prog 303 (d67 (e6 n))/\SX.Spec Tryz.prog 361 (fr_361 (e6 n))/\SX.Spec Tryz.prog 345 (fr_345_361 (e6 n))/\SX.Spec Tryz.prog 375 (fr_375_361 (e6 n))|0=>⟨(λ_ _ h=>(by cases(show none=some _ from h))),(λ_ _ h=>(by cases(show none=some _ from h))),(λ_ _ h=>(by cases(show none=some _ from h))),(λ_ _ h=>(by cases(show none=some _ from h)))⟩|n+1=>let⟨h303,h361,h345,h375⟩:=b6p n;⟨a2m (fe:=d67 (e6 (n+1))) uok (g4x (e6 n) h345) mixed (fn:=Tryz.f303) (by kernel_rfl) g1p f9m (d8 g0s).1 (d8 g0s).2 (λ_=>rfl) (g9j (e6 n)),a2m (fe:=fr_361 (e6 (n+1))) uok (okp_361 (e6 n) h303) mixed (fn:=Tryz.f361) (by kernel_rfl) un_361 an_361 (d8 ck_361).1 (d8 ck_361).2 (λ_=>rfl) (eq_361 (e6 n)),a2m (fe:=fr_345_361 (e6 (n+1))) uok (okp_345_361 (e6 n) h375) mixed (fn:=Tryz.f345) (by kernel_rfl) un_345_361 an_345_361 (d8 ck_345_361).1 (d8 ck_345_361).2 (λ_=>rfl) (eq_345_361 (e6 n)),a2m (fe:=fr_375_361 (e6 (n+1))) uok (okp_375_361 (e6 n) h361) mixed (fn:=Tryz.f375) (by kernel_rfl) un_375_361 an_375_361 (d8 ck_375_361).1 (d8 ck_375_361).2 (λ_=>rfl) (eq_375_361 (e6 n))⟩
def K303:Kn Tryz.prog VV:=⟨303,h0t,knS rfl ⟨(b6p FU).1,λ_ _=>by kernel_rfl⟩⟩
def K235:=mk 235 Tryz.f235 ⟨[.v .zl],[.v .z8]⟩ (cur1 a1k) w1 u1 .n [K301,K302,K303]
def K236:=mk 236 Tryz.f236 ⟨[],[.ow 404 .yk]⟩ (λx=>b2d) w1 u1 .n []
def K164:=mk 164 Tryz.f164 ⟨[.v .y8],[.v .z8]⟩ (cur1 a7q) w1 u1 (.s .n (.j [] [.bx 1 1 60 .y8] (.s (.g [4]) .n) (.s .n (.j [] [.bx 1 1 60 .y8] (.s .n (.l [66,67] [] [.bx 1 1 60 .y8,.v 68 .z9] .n)) (.j [] [.bx 1 1 60 .y8] (.s .n (.l [89,90] [] [.bx 1 1 60 .y8,.v 91 .z9] .n)) (.j [] [.bx 1 1 60 .y8] (.s .n (.l [100,101] [] [.bx 1 1 60 .y8,.v 102 .z9] .n)) (.j [] [.bx 1 1 60 .y8] (.s .n (.l [118,119] [] [.bx 1 1 60 .y8,.v 120 .z9] .n)) (.s (.s .n (.l [143,144] [] [.v 145 .z9] .n)) .n)))))))) [K65,K163,K231,K232,K233,K234,K235,K236]
def g7d:=mk 106 Tryz.f106 ⟨[.v .y3],[.v .z8]⟩ (cur1 b7h) w1 u1 (sk 2 (.s (.s .n (.l [32,33] [] [.v 34 .z9] .n)) .n)) [K163,K164]
def K237:=mk 237 Tryz.f237 ⟨[.v .yl],[.v .z9,.v .z8]⟩ (cur1 b4n) w2 u2 (.s .n (.s (.s .n (.j [] [.v 4 .yl,.v 5 .z8] .n (.s .n (.j [] [.v 4 .yl,.v 9 .z8] .n .n)))) .n)) []
def K238:=mk 238 Tryz.f238 ⟨[.v .yl],[.v .z8]⟩ (cur1 b9o) w1 u1 .n [K235]
def h3p:=mk 240 Tryz.f240 ⟨[.v .zh,.rp 199 .zq],[.v .z8]⟩ (cur2 b9r) w1 u1 .n []
def K305:=mk 305 Tryz.f305 ⟨[.v .zh],[.v .z8]⟩ (cur1 b42) w1 u1 .n []
def K362:=mkR 362 Tryz.f362 ⟨[.v .yl,.ls .zh],[.v .z9,.v .z8]⟩ (cur2 b6c) w2 u2 (sk 2 (.s (.s .n (.l [] [] [.bx 2 2 9 .yl,.bx 4 3 3 .z9,.bx 5 4 4 .z8] (.s .n .n))) .n)) [K237,K389]
def K363:=mk 363 Tryz.f363 ⟨[.v .z9,.ls .z9],[.v .z9,.v .z8]⟩ (cur2 b9i) w2 u2 (.s .n (.s (.s .n (.j [] [.ls 1 .z9,.v 6 .z9,.v 7 .z8] .n (.s .n (.s .n (.s .n (.j [] [.ls 1 .z9,.v 6 .z9,.v 23 .z8] .n (.s .n (.s .n (.s .n (.s .n (.s .n (.j [] [.ls 1 .z9,.v 6 .z9,.v 96 .z8] .n (.s .n (.j [] [.ls 1 .z9,.v 6 .z9,.v 116 .z8] .n .n)))))))))))))) .n)) []
def sg_306:Sig VV:=⟨[.v .zl,.ls .zh],[.v .z9,.v .z9]⟩
def fr_306(R:Ring_typing_infer):Fent VV:=⟨sg_306,Int×Int,λx=>R.f_typing_infer x.1 x.2.1,λb=>((b.1,(b.2,())),()),none⟩
def fe_306:Fent VV:=fr_306 (a0v FU)
def un_306:Ress VV sg_306.rs×Outs VV sg_306.ps->Int×Int:=λp=>(p.1.1,p.1.2.1)
def an_306:Ann VV.C:=(.s .n (.s .n (.s .n (.s (.s .n (.l [1,36,37] [] [.bx 2 2 76 .zl,.ow 8 3 3 .z9,.v 38 .z9] .n)) .n))))
def ph_306(R:Ring_typing_infer):Phi VV:=λf ys=>lkF f ys [(306,fr_306 R),K362.e,K363.e]
theorem okp_306(R:Ring_typing_infer)(hr306:SX.Spec Tryz.prog 306 (fr_306 R)):OKΦ Tryz.prog (ph_306 R):=okl ⟨knS rfl ⟨hr306,λ_ _=>by kernel_rfl⟩,K362.ok,K363.ok,trivial⟩
theorem eq_306(R:Ring_typing_infer):∀x,c5v Tryz.prog (ph_306 R) sg_306 un_306 Tryz.f306 an_306 x=b4g R x.1 x.2.1:=λx=>by kernel_rfl
theorem ck_306:c67 Tryz.f306 sg_306=true:=by kernel_rfl
theorem b5q:∀n,SX.Spec Tryz.prog 306 (fr_306 (a0v n))|0=>(λ_ _ h=>(by cases(show none=some _ from h)))|n+1=>let h306:=b5q n;a2m (fe:=fr_306 (a0v (n+1))) uok (okp_306 (a0v n) h306) mixed (fn:=Tryz.f306) (by kernel_rfl) un_306 an_306 (d8 ck_306).1 (d8 ck_306).2 (λ_=>rfl) (eq_306 (a0v n))
def K306:Kn Tryz.prog VV:=⟨306,fe_306,knS rfl ⟨(b5q FU),λ_ _=>by kernel_rfl⟩⟩
def K304_305:=mk 304 Tryz.f304 ⟨[.ls .zh,.cl 305 []],[.v .z9]⟩ (λx=>a19 x.1) w1 u1 (.s .n (.s (.s .n (.l [0,1,7] [] [.v 8 .z9] .n)) .n)) [K305]
def K239_305:=mk 239 Tryz.f239 ⟨[.ls .zh,.cl 305 []],[.v .z8]⟩ (λx=>a0i x.1) w1 u1 .n [K304_305]
def K241:=mk 241 Tryz.f241 ⟨[.v .zl,.ls .zh],[.v .z9,.v .z9]⟩ (cur2 b4y) w2 u2 .n [K235,K239_305,K306]
def K304_240:=mk 304 Tryz.f304 ⟨[.ls .zh,.cl 240 [.zq]],[.v .z9]⟩ (λx=>a1e x.1 x.2.1.1) w1 u1 (.s .n (.s (.s .n (.l [0,1,7] [] [.v 8 .z9] .n)) .n)) [h3p]
def K239_240:=mk 239 Tryz.f239 ⟨[.ls .zh,.cl 240 [.zq]],[.v .z8]⟩ (λx=>a0q x.1 x.2.1.1) w1 u1 .n [K304_240]
def K165:=mk 165 Tryz.f165 ⟨[.ls .zq],[.ow 352 .zh,.v .z9]⟩ (cur1 b9n) w2 u2 (sk 3 (.s (.s .n (.l [14,15] [] [.ow 4 1 352 .zh,.v 16 .z9] .n)) .n)) [K237,K238,K239_240,K241]
def K167:=mk 167 Tryz.f167 ⟨[.v .zj,.rp 195 .zj],[.v .z8]⟩ (cur2 b5a) w1 u1 .n []
def K169:=mk 169 Tryz.f169 ⟨[.v .zn,.rp 78 .zn],[.v .z8]⟩ (cur2 b57) w1 u1 .n []
def K170:=mk 170 Tryz.f170 ⟨[.v .zl,.ls .zh,.v .z9],[.v .z9]⟩ (cur3 b8w) w1 u1 .n [K241]
def K172:=mk 172 Tryz.f172 ⟨[.v .zv,.rp 202 .zv],[.v .z8]⟩ (cur2 b5b) w1 u1 .n []
def K242_167:=mk 242 Tryz.f242 ⟨[.ls .zj,.cl 167 [.zj]],[.v .z9]⟩ (λx=>a13 x.1 x.2.1.1) w1 u1 (.s .n (.s (.s .n (.l [0,1,7] [] [.v 8 .z9] .n)) .n)) [K167]
def K166_167:=mk 166 Tryz.f166 ⟨[.ls .zj,.cl 167 [.zj]],[.v .z8]⟩ (λx=>a0e x.1 x.2.1.1) w1 u1 .n [K242_167]
def K140_169:=mk 140 Tryz.f140 ⟨[.ls .zn,.cl 169 [.zn]],[.v .z9]⟩ (λx=>a15 x.1 x.2.1.1) w1 u1 (.s .n (.s (.s .n (.l [0,1,7] [] [.v 8 .z9] .n)) .n)) [K169]
def K168_169:=mk 168 Tryz.f168 ⟨[.ls .zn,.cl 169 [.zn]],[.v .z8]⟩ (λx=>a0h x.1 x.2.1.1) w1 u1 .n [K140_169]
def K243_172:=mk 243 Tryz.f243 ⟨[.ls .zv,.cl 172 [.zv]],[.v .z9]⟩ (λx=>a0x x.1 x.2.1.1) w1 u1 (.s .n (.s (.s .n (.l [0,1,7] [] [.v 8 .z9] .n)) .n)) [K172]
def K171_172:=mk 171 Tryz.f171 ⟨[.ls .zv,.cl 172 [.zv]],[.v .z8]⟩ (λx=>a0d x.1 x.2.1.1) w1 u1 .n [K243_172]
def g7z:=mk 107 Tryz.f107 ⟨[.v .y8],[.v .z9]⟩ (cur1 b0q) w1 u1 (sk 3 (.s (.s .n (.l [26,27] [] [.bx 1 1 60 .y8,.ow 3 2 352 .zh,.v 28 .z9] .n)) (.s (.s .n (.l [41,42] [] [.bx 1 1 60 .y8,.ow 3 2 352 .zh,.v 43 .z9] .n)) (.s (.s .n (.l [64,65] [] [.bx 1 1 60 .y8,.ow 3 2 352 .zh,.v 66 .z9] .n)) (.s (.s .n (.l [93,94] [] [.bx 1 1 60 .y8,.ow 3 2 352 .zh,.v 95 .z9] .n)) .n))))) [K165,K166_167,K168_169,K170,K171_172]
def K62:=mk 62 Tryz.f62 ⟨[.v .y3],[.v .z9,.v .z9]⟩ (cur1 b4b) w2 u2 (sk 2 (.s (.s .n (.l [11,12] [] [.bx 1 1 45 .y3,.v 13 .z9] .n)) .n)) [g7d,g7z]
def K173:=mk 173 Tryz.f173 ⟨[.v .z9,.v .z9],[.v .z8]⟩ (cur2 a7u) w1 u1 .n []
def h1l:=mk 108 Tryz.f108 ⟨[.v .zy],[.v .z8]⟩ (cur1 a5x) w1 u1 (sk 2 (.s (.s .n (.l [28,29] [] [.bx 1 1 73 .zy,.v 30 .z9] .n)) .n)) [K65,K173]
def K63:=mk 63 Tryz.f63 ⟨[.ls .zy],[.v .z9]⟩ (cur1 a9n) w1 u1 (sk 3 (.s (.s .n (.l [0,18,19] [] [.v 20 .z9] .n)) .n)) [h1l]
def K109:=mk 109 Tryz.f109 ⟨[.v .z9],[.v .z8]⟩ (cur1 a8n) w1 u1 .n []
def K244:=mk 244 Tryz.f244 ⟨[.v .z9],[.v .z8]⟩ (cur1 b1k) w1 u1 .n []
def K199:=mk 199 Tryz.f199 ⟨[.v .z9],[.v .z8]⟩ (cur1 a7l) w1 u1 .n []
def K126:=mk 126 Tryz.f126 ⟨[.v .z9,.v .z9],[.v .z9]⟩ (cur2 a05) w1 u1 .n [K199]
def K174:=mk 174 Tryz.f174 ⟨[.v .z9],[.v .z9]⟩ (cur1 a90) w1 u1 .n [K126,K244]
def K110:=mk 110 Tryz.f110 ⟨[.v .z9],[.v .z8]⟩ (cur1 b9g) w1 u1 .n [K174]
def K145:=mk 145 Tryz.f145 ⟨[.v .z9],[.v .yn]⟩ (cur1 j5) w1 u1 .n []
def K144:=mk 144 Tryz.f144 ⟨[.v .yn,.v .yn],[.v .yn]⟩ (cur2 a7g) w1 u1 (.s .n (.s (.l [] [] [.v 0 .yn,.v 1 .yn] .n) .n)) []
def K86:=mk 86 Tryz.f86 ⟨[.v .zm],[.v .z8]⟩ (cur1 o7) w1 u1 .n [K144,K145]
def K111:=mk 111 Tryz.f111 ⟨[.v .z9],[.v .z8]⟩ (cur1 b9l) w1 u1 .n []
def K64:=mk 64 Tryz.f64 ⟨[.ls .zu],[.v .z9]⟩ (cur1 a5r) w1 u1 (sk 2 (.s (.s .n (.l [0,8,9] [] [.v 10 .z9] .n)) .n)) [K86,K109,K110,K111]
def K39:=mk 39 Tryz.f39 ⟨[.v .zp],[.v .z9]⟩ (cur1 c02) w1 u1 (.s .n (.s (.s .n (.l [11,12] [] [.bx 1 1 28 .zp,.v 13 .z9] .n)) (.s (.s .n (.l [44,45] [] [.bx 1 1 28 .zp,.v 46 .z9] .n)) .n))) [K62,K63,K64]
def K40:=mkR 40 Tryz.f40 ⟨[.ls .zy,.v .z9],[.v .zy,.v .z8]⟩ (cur2 b2q) w2 u2 (sk 2 (.s (.s .n (.l [] [] [.bx 3 2 3 .z9,.bx 4 3 73 .zy,.bx 5 4 4 .z8] (.s .n .n))) .n)) [K65,K66,K67]
def K25:=mk 25 Tryz.f25 ⟨[.v .zp,.v .z9],[.v .yb,.v .z9]⟩ (cur2 b8v) w2 u2 .n [K39,K40]
def K68:=mk 68 Tryz.f68 ⟨[.v .yb,.v .z9],[.v .y3,.v .z8]⟩ (cur2 a7y) w2 u2 (.s .n (.s (.s .n (.l [1,10,11] [] [.of 4 2 3 60 .y8,.bm 4 2 45 .y3 [(2,3)],.v 12 .z9] .n)) .n)) []
def sg_181:Sig VV:=⟨[.v .zl],[.v .zl]⟩
def fr_181(R:Ring_statute_cloneExpr):Fent VV:=⟨sg_181,Expr,λx=>R.f_statute_cloneExpr x.1,λb=>((b,()),()),none⟩
def fe_181:Fent VV:=fr_181 (s4 FU)
def un_181:Ress VV sg_181.rs×Outs VV sg_181.ps->Expr:=λp=>p.1.1
def an_181:Ann VV.C:=(.s .n (.s .n (.s (.g [3001]) (.s (.s .n (.l [9,10] [] [.of 1 4 2 76 .zl,.bm 1 1 76 .zl [(4,2)],.of 2 4 4 76 .zl,.bm 2 3 76 .zl [(4,4)],.v 11 .z9] (.s .n (.s .n (.s (.s .n (.g [3007])) .n))))) .n))))
def ph_181(R:Ring_statute_cloneExpr):Phi VV:=λf ys=>lkF f ys [(181,fr_181 R)]
theorem okp_181(R:Ring_statute_cloneExpr)(hr181:SX.Spec Tryz.prog 181 (fr_181 R)):OKΦ Tryz.prog (ph_181 R):=okl ⟨knS rfl ⟨hr181,λ_ _=>by kernel_rfl⟩,trivial⟩
theorem eq_181(R:Ring_statute_cloneExpr):∀x,c5v Tryz.prog (ph_181 R) sg_181 un_181 Tryz.f181 an_181 x=a7s R x.1:=λx=>by kernel_rfl
theorem ck_181:c67 Tryz.f181 sg_181=true:=by kernel_rfl
theorem b0u:∀n,SX.Spec Tryz.prog 181 (fr_181 (s4 n))|0=>(λ_ _ h=>(by cases(show none=some _ from h)))|n+1=>let h181:=b0u n;a2m (fe:=fr_181 (s4 (n+1))) uok (okp_181 (s4 n) h181) mixed (fn:=Tryz.f181) (by kernel_rfl) un_181 an_181 (d8 ck_181).1 (d8 ck_181).2 (λ_=>rfl) (eq_181 (s4 n))
def K181:Kn Tryz.prog VV:=⟨181,fe_181,knS rfl ⟨(b0u FU),λ_ _=>by kernel_rfl⟩⟩
def h4g:=mk 114 Tryz.f114 ⟨[.v .y8],[.v .y8]⟩ (cur1 a6r) w1 u1 (.s .n (.s (.g [3007,3009]) (.s (.g [3010,3012,3014]) (.s (.s .n (.l [28] [] [.of 1 2 2 195 .zj,.of 1 3 3 197 .zo,.of 1 4 4 199 .zq,.of 1 5 5 78 .zn,.of 1 6 6 202 .zv,.bm 1 1 60 .y8 [(2,2),(3,3),(4,4),(5,5),(6,6)],.of 2 2 8 195 .zj,.of 2 3 9 197 .zo,.of 2 4 10 199 .zq,.of 2 5 11 78 .zn,.of 2 6 12 202 .zv,.bm 2 7 60 .y8 [(2,8),(3,9),(4,10),(5,11),(6,12)],.v 29 .z9] .n)) (.s (.s .n (.l [47] [] [.of 1 2 2 195 .zj,.of 1 3 3 197 .zo,.of 1 4 4 199 .zq,.of 1 5 5 78 .zn,.of 1 6 6 202 .zv,.bm 1 1 60 .y8 [(2,2),(3,3),(4,4),(5,5),(6,6)],.of 2 2 8 195 .zj,.of 2 3 9 197 .zo,.of 2 4 10 199 .zq,.of 2 5 11 78 .zn,.of 2 6 12 202 .zv,.bm 2 7 60 .y8 [(2,8),(3,9),(4,10),(5,11),(6,12)],.v 48 .z9] .n)) (.s (.s .n (.l [78] [] [.of 1 2 2 195 .zj,.of 1 3 3 197 .zo,.of 1 4 4 199 .zq,.of 1 5 5 78 .zn,.of 1 6 6 202 .zv,.bm 1 1 60 .y8 [(2,2),(3,3),(4,4),(5,5),(6,6)],.of 2 2 8 195 .zj,.of 2 3 9 197 .zo,.of 2 4 10 199 .zq,.of 2 5 11 78 .zn,.of 2 6 12 202 .zv,.bm 2 7 60 .y8 [(2,8),(3,9),(4,10),(5,11),(6,12)],.v 79 .z9] .n)) .n)))))) [K176,K177,K178,K179,K180,K181]
def K69:=mkR 69 Tryz.f69 ⟨[.v .y3,.v .z9],[.v .y8,.v .z8]⟩ (cur2 b1v) w2 u2 (sk 2 (.s (.s .n (.l [] [] [.bx 3 2 3 .z9,.bx 4 3 60 .y8,.bx 5 4 4 .z8] (.s .n .n))) .n)) [K65,h2a,h4g]
def K41:=mk 41 Tryz.f41 ⟨[.v .yb,.v .z9],[.v .y3,.v .y8,.v .z9]⟩ (cur2 a2v) w3 u3 .n [K68,K69]
def K137:=mk 137 Tryz.f137 ⟨[.ls .z9,.v .z9],[.v .z9]⟩ (cur2 a4p) w1 u1 (.s .n (.s (.s .n (.l [0,1,7] [] [.v 8 .z9] .n)) .n)) []
def K80:=mk 80 Tryz.f80 ⟨[.ls .z9,.v .z9],[.v .z8]⟩ (cur2 q9) w1 u1 .n [K137]
def K44:=mk 44 Tryz.f44 ⟨[.v .yb,.v .z9],[.v .z8]⟩ (cur2 a08) w1 u1 .n [K80]
def K258:=mk 258 Tryz.f258 ⟨[.v .z9],[.v .yl]⟩ (cur1 b2r) w1 u1 (.s .n (.s (.s .n (.s .n (.s .n (.j [] [.v 3 .z9,.v 6 .z8] .n (.s .n (.s .n (.s .n (.j [] [.v 3 .z9,.v 11 .z8] .n (.s .n (.s .n (.s .n (.s .n (.s .n (.j [] [.v 3 .z9,.v 20 .z8] .n .n)))))))))))))) .n)) []
def K319:=mk 319 Tryz.f319 ⟨[.v .yl,.v .yl],[.v .z9]⟩ (cur2 c3y) w1 u1 .n [K367]
def K260:=mk 260 Tryz.f260 ⟨[.v .yl,.v .yl],[.v .z8]⟩ (cur2 c0c) w1 u1 .n [K319]
def K259:=mk 259 Tryz.f259 ⟨[.v .yl,.rp 9 .yl],[.v .z8]⟩ (cur2 p9) w1 u1 .n [K260]
def K261:=mk 261 Tryz.f261 ⟨[.v .z9,.v .z9,.v .z9],[.v .z8]⟩ (cur3 a9w) w1 u1 .n []
def K262:=mk 262 Tryz.f262 ⟨[.v .z8,.v .z9,.v .z9,.v .z9],[.v .z8]⟩ (cur4 b0d) w1 u1 .n [K261]
def K263:=mk 263 Tryz.f263 ⟨[.v .y1],[.v .z8]⟩ (cur1 b8g) w1 u1 .n []
def K196:=mk 196 Tryz.f196 ⟨[.v .ya],[.v .z8]⟩ (cur1 b3k) w1 u1 (sk 4 (.s (.s .n (.s .n (.s .n (.j [] [.bx 1 1 66 .ya,.v 89 .z9,.v 97 .z8] .n (.s .n (.j [] [.bx 1 1 66 .ya,.v 108 .z8] .n .n)))))) .n)) [K258,K259,K261,K262,K263]
def K119:=mk 119 Tryz.f119 ⟨[.v .ya],[.v .z8]⟩ (cur1 a4e) w1 u1 .n [K196]
def K275_119:=mk 275 Tryz.f275 ⟨[.ls .ya,.cl 119 []],[.ow 66 .ya]⟩ (λx=>a3f x.1) w1 u1 (sk 2 (.s (.s .n (.l [1,8,9] [] [.ow 5 2 66 .ya,.v 10 .z9] .n)) .n)) [K119]
def sg_202:Sig VV:=⟨[.ls .ya],[.ow 66 .ya]⟩
def fe_202:Fent VV:=⟨sg_202,List aQ,λx=>a4f x.1,λb=>((b,()),()),none⟩
def un_202:Ress VV sg_202.rs×Outs VV sg_202.ps->List aQ:=λp=>p.1.1
def an_202:Ann VV.C:=.n
theorem ok_202:SX.Spec Tryz.prog 202 fe_202:=a2m (fe:=fe_202) uok (okl (f8d [K275_119])) mixed (fn:=Tryz.f202) (by kernel_rfl) un_202 an_202 (d8 (s:=sg_202) (by kernel_rfl)).1 (d8 (s:=sg_202) (by kernel_rfl)).2 (λ_=>rfl) λx=>by kernel_rfl
def K202:Kn Tryz.prog VV:=⟨202,fe_202,knS rfl ⟨ok_202,λ_ _=>by kernel_rfl⟩⟩
def K122:=mk 122 Tryz.f122 ⟨[.ls .ya,.v .z9],[.v .z9,.v .z8]⟩ (cur2 b4r) w2 u2 (sk 2 (.s (.s .n (.l [1,10,11] [] [.v 6 .z9,.v 7 .z8,.v 12 .z9] .n)) .n)) [K119]
def K73:=mk 73 Tryz.f73 ⟨[.ls .ya],[.v .z9,.v .z8]⟩ (cur1 b4t) w2 u2 .n [K122]
def K276:=mk 276 Tryz.f276 ⟨[.ls .ya],[.v .z9,.v .z8]⟩ (cur1 b7l) w2 u2 .n [K122]
def d7r:Sig VV:=⟨[.ls .ya],[.v .y1]⟩
def g8e:Fent VV:=⟨d7r,Span,λx=>a2i x.1,λb=>((b,()),()),none⟩
def g0j:Ress VV d7r.rs×Outs VV d7r.ps->Span:=λp=>p.1.1
def g1i:Ann VV.C:=(.s .n (.s .n (.s .n (.j [] [.bx 2 1 64 .y1,.v 3 .z9,.v 5 .z9] .n .n))))
theorem ok_204:SX.Spec Tryz.prog 204 g8e:=a2m (fe:=g8e) uok (okl (f8d [K73,K276])) mixed (fn:=Tryz.f204) (by kernel_rfl) g0j g1i (d8 (s:=d7r) (by kernel_rfl)).1 (d8 (s:=d7r) (by kernel_rfl)).2 (λ_=>rfl) λx=>by kernel_rfl
def K204:Kn Tryz.prog VV:=⟨204,g8e,knS rfl ⟨ok_204,λ_ _=>by kernel_rfl⟩⟩
def K213:=mk 213 Tryz.f213 ⟨[.v .y1],[.v .y1]⟩ (cur1 c3q) w1 u1 .n []
def h3r:=mk 198 Tryz.f198 ⟨[.v .yn],[.v .z9]⟩ (cur1 c7q) w1 u1 .n [K274]
def K138:=mk 138 Tryz.f138 ⟨[.ls .y1],[.ow 64 .y1]⟩ (cur1 a2w) w1 u1 (.s .n (.s (.g [6000]) (.s (.s .n (.l [10,11] [] [.of 3 0 2 64 .y1,.bm 3 1 176 .zd [(0,2)],.v 12 .z9] (.s .n (.s .n (.s (.s .n (.s .n (.s .n (.s (.g [6000,6004]) .n)))) .n))))) (.s (.g [6000]) (.s .n (.s (.s (.g [6000]) (.l [33] [] [.ow 6 1 64 .y1,.ow 32 2 64 .y1,.v 34 .z9] .n)) .n)))))) [K213,K214]
def h2k:=mk 207 Tryz.f207 ⟨[.ls .y1,.ls .y1],[.ow 64 .y1]⟩ (cur2 b2g) w1 u1 (sk 3 (.s (.s .n (.l [] [] [.ow 0 2 64 .y1,.ow 1 3 64 .y1,.ow 5 4 64 .y1,.v 6 .z9,.v 7 .z9] (.s .n (.s .n (.j [] [.ow 0 2 64 .y1,.ow 1 3 64 .y1,.ow 5 4 64 .y1,.v 6 .z9,.v 7 .z9] .n .n))))) .n)) [K138]
def sg_131:Sig VV:=⟨[.ls .y1,.v .y1],[.ow 64 .y1]⟩
def fe_131:Fent VV:=⟨sg_131,List Span,λx=>s6 x.1 x.2.1,λb=>((b,()),()),none⟩
def un_131:Ress VV sg_131.rs×Outs VV sg_131.ps->List Span:=λp=>p.1.1
def an_131:Ann VV.C:=.n
theorem ok_131:SX.Spec Tryz.prog 131 fe_131:=a2m (fe:=fe_131) uok (okl (f8d [h2k])) mixed (fn:=Tryz.f131) (by kernel_rfl) un_131 an_131 (d8 (s:=sg_131) (by kernel_rfl)).1 (d8 (s:=sg_131) (by kernel_rfl)).2 (λ_=>rfl) λx=>by kernel_rfl
def h1r:Kn Tryz.prog VV:=⟨131,fe_131,knS rfl ⟨ok_131,λ_ _=>by kernel_rfl⟩⟩
def K325:=mk 325 Tryz.f325 ⟨[.v .z9],[.v .z8]⟩ (cur1 b1d) w1 u1 .n []
def K310:=mk 310 Tryz.f310 ⟨[.v .z9,.v .z9],[.v .z9]⟩ (cur2 a2c) w1 u1 .n [K325]
def K309:=mk 309 Tryz.f309 ⟨[.ls .z9],[.v .z9]⟩ (cur1 b67) w1 u1 (sk 2 (.s (.s .n (.l [3,6,7] [] [.v 8 .z9] .n)) .n)) []
def sg_308:Sig VV:=⟨[.v .zt,.v .zt],[.v .z9]⟩
def fe_308:Fent VV:=⟨sg_308,Int,λx=>a0j x.1 x.2.1,λb=>((b,()),()),none⟩
def un_308:Ress VV sg_308.rs×Outs VV sg_308.ps->Int:=λp=>p.1.1
def an_308:Ann VV.C:=.n
theorem ok_308:SX.Spec Tryz.prog 308 fe_308:=a2m (fe:=fe_308) uok (okl (f8d [K309,K310])) mixed (fn:=Tryz.f308) (by kernel_rfl) un_308 an_308 (d8 (s:=sg_308) (by kernel_rfl)).1 (d8 (s:=sg_308) (by kernel_rfl)).2 (λ_=>rfl) λx=>by kernel_rfl
def K308:Kn Tryz.prog VV:=⟨308,fe_308,knS rfl ⟨ok_308,λ_ _=>by kernel_rfl⟩⟩
def K390_308:=mk 390 Tryz.f390 ⟨[.so 359 .zt,.v .z9,.v .z9,.cl 308 []],[]⟩ (λx=>m6 x.1 x.2.1 x.2.2.1) (λb=>((),(b,()))) (λp=>p.2.1) (.s .n (.l [1,2,3] [] [.ow 0 0 359 .zt,.v 8 .z9] (.s .n (.s (.s .n (.l [1,2,3,8] [] [.ow 0 0 359 .zt,.v 9 .z9] .n)) .n)))) [K308]
def sg_364_308:Sig VV:=⟨[.so 359 .zt,.v .z9,.v .z9,.v .z9,.cl 308 []],[]⟩
def fr_364_308(R:oQ):Fent VV:=⟨sg_364_308,List Posting,λx=>R.f_slices_pdqsortCmpFunc_of_api_Posting x.1 x.2.1 x.2.2.1 x.2.2.2.1,λb=>((),(b,())),none⟩
def fe_364_308:Fent VV:=fr_364_308 (c3 FU)
def un_364_308:Ress VV sg_364_308.rs×Outs VV sg_364_308.ps->List Posting:=λp=>p.2.1
def an_364_308:Ann VV.C:=(.s .n (.s .n (.l [4] [] [.ow 0 0 359 .zt,.v 1 .z9,.v 2 .z9,.v 3 .z9,.v 10 .z8,.v 11 .z8] (.s .n (.s .n (.s .n (.j [] [.ow 0 0 359 .zt,.v 1 .z9,.v 2 .z9,.v 3 .z9,.cl 4 308 [],.v 10 .z8,.v 11 .z8,.v 12 .z9] .n .n)))))))
def ph_364_308(R:oQ):Phi VV:=λf ys=>lkF f ys [K390_308.e]
theorem okp_364_308(R:oQ):OKΦ Tryz.prog (ph_364_308 R):=okl ⟨K390_308.ok,trivial⟩
theorem eq_364_308(R:oQ):∀x,c5v Tryz.prog (ph_364_308 R) sg_364_308 un_364_308 Tryz.f364 an_364_308 x=i7 R x.1 x.2.1 x.2.2.1 x.2.2.2.1:=λx=>by kernel_rfl
theorem ck_364_308:c67 Tryz.f364 sg_364_308=true:=by kernel_rfl
theorem q8:∀n,SX.Spec Tryz.prog 364 (fr_364_308 (c3 n))|0=>(λ_ _ h=>(by cases(show none=some _ from h)))|n+1=>let h364:=q8 n;a2m (fe:=fr_364_308 (c3 (n+1))) uok (okp_364_308 (c3 n)) mixed (fn:=Tryz.f364) (by kernel_rfl) un_364_308 an_364_308 (d8 ck_364_308).1 (d8 ck_364_308).2 (λ_=>rfl) (eq_364_308 (c3 n))
def K364_308:Kn Tryz.prog VV:=⟨364,fe_364_308,knS rfl ⟨(q8 FU),λ_ _=>by kernel_rfl⟩⟩
def K307_308:=mk 307 Tryz.f307 ⟨[.so 359 .zt,.cl 308 []],[]⟩ (λx=>c9 x.1) (λb=>((),(b,()))) (λp=>p.2.1) .n [h3r,K364_308]
def fe_246:Fent VV:=⟨⟨[.ls .ya],[.ow 359 .zt]⟩,List Posting,λx=>competence_Postings x.1,w1,none⟩
end
end Go.PL
