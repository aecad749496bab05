/- Texts of the proof, joined. -/
import Derived.Test.YtjdjoncobjojnaaGreatDoorP8
import Derived.Test.YtjdjoncobjojnaaGreatDoorProg
import Derived.KernelRfl
import Derived.Shelf.SlSortFuncK.WholeK
import Derived.Shelf.Strconv.Itoa3
import Derived.Shelf.SlSortFuncK.RowK2
import Derived.Shelf.GgSortFunc.Tiny
set_option linter.defProp false
set_option linter.unusedVariables false
set_option linter.unusedSimpArgs false
set_option maxRecDepth 100000
open List
namespace Go.PL
open Go Go.SX
inductive TyC where|z7|zw|zg|zk|zm|yk|zi|zo|zl|zt|y6|zx|z6|y5|y3|ze|yn|ym|zv|y0|z2|y4|yh|yg|y2|y1|zs|zn|y8|yf|z0|yl|zb|zr|yb|ya|yj|z1|y9|zz|zp|za|zy|zd|z5|z3|zc|zf|z9|zq|yc|zh|yi|y7|z4|yd|z8|zu|zj|ye deriving DecidableEq
@[reducible] def TyC.T:TyC->Type|.z7=>Int|.zw=>Rounding|.zg=>Credit|.zk=>fQ|.zm=>Index|.yk=>ByteArray|.zi=>Expr|.zo=>Let|.zl=>Grant|.zt=>Reduce|.y6=>Version|.zx=>Rules|.z6=>Bool|.y5=>Value|.y3=>Step|.ze=>iQ|.yn=>Int|.ym=>Int|.zv=>Right|.y0=>Span|.z2=>Ar 3 ByteArray|.y4=>Token|.yh=>rQ|.yg=>pensionref1_wide|.y2=>Statute|.y1=>State|.zs=>Rate|.zn=>Laws|.y8=>aQ|.yf=>tH|.z0=>Ar 12 Int|.yl=>Int|.zb=>List Span|.zr=>Posting|.yb=>uQ|.ya=>lQ|.yj=>syntax_entry|.z1=>Ar 2 Int|.y9=>bQ|.zz=>gQ|.zp=>Period|.za=>List Period|.zy=>Scheme|.zd=>Anon378|.z5=>Ar 7 (List Span)|.z3=>Ar 6 (Ar 7 (List Span))|.zc=>Ar 6 (Ar 7 (List Span))|.zf=>nQ|.z9=>List nQ|.zq=>Piece|.yc=>earnings_income|.zh=>Earning|.yi=>rational_wide|.y7=>View|.z4=>Ar 7 Int|.yd=>vQ|.z8=>List Int|.zu=>Result|.zj=>FamilyPay|.ye=>family_value
abbrev VA:=AV TyC TyC.T
def dT:DecidableEq TyC:=inferInstance
def g93:Int->List VA:=λx=>[.int .i64 x]
def h0b:List VA->Option Int:=mkS (gI .i64) λx0=>mkE x0
def d66:Rounding->List VA:=λx=>[.int .i64 x.Mode,.int .i64 x.Unit]
def d85:List VA->Option Rounding:=mkS (gI .i64) λx0=>mkS (gI .i64) λx1=>mkE (⟨x0,x1⟩:Rounding)
def e4m:Credit->List VA:=λx=>[.int .i64 x.Kind,.int .i64 x.Limit]
def e6k:List VA->Option Credit:=mkS (gI .i64) λx0=>mkS (gI .i64) λx1=>mkE (⟨x0,x1⟩:Credit)
def d63:fQ->List VA:=λx=>[.int .i64 x.Num,.int .i64 x.Den]
def d90:List VA->Option fQ:=mkS (gI .i64) λx0=>mkS (gI .i64) λx1=>mkE (⟨x0,x1⟩:fQ)
def e9e:Index->List VA:=λx=>[.int .i64 x.Year,.val .zk x.Factor]
def e7q:List VA->Option Index:=mkS (gI .i64) λx0=>mkS (gV dT .zk) λx1=>mkE (⟨x0,x1⟩:Index)
def g78:ByteArray->List VA:=λx=>[.str x]
def g9e:List VA->Option ByteArray:=mkS (gS) λx0=>mkE x0
def f5y:Expr->List VA:=λx=>[.int .i64 x.Op,.val .zk x.Value,.int .i64 x.Dim,.str x.Name,.list .zi x.Args]
def f4s:List VA->Option Expr:=mkS (gI .i64) λx0=>mkS (gV dT .zk) λx1=>mkS (gI .i64) λx2=>mkS (gS) λx3=>mkS (SX.gL dT .zi) λx4=>mkE (⟨x0,x1,x2,x3,x4⟩:Expr)
def g3m:Let->List VA:=λx=>[.str x.Name,.val .zi x.Body]
def g4f:List VA->Option Let:=mkS (gS) λx0=>mkS (gV dT .zi) λx1=>mkE (⟨x0,x1⟩:Let)
def f1v:Grant->List VA:=λx=>[.int .i64 x.Benefit,.val .zi x.If,.val .zi x.Pay]
def e92:List VA->Option Grant:=mkS (gI .i64) λx0=>mkS (gV dT .zi) λx1=>mkS (gV dT .zi) λx2=>mkE (⟨x0,x1,x2⟩:Grant)
def e6t:Reduce->List VA:=λx=>[.int .i64 x.Benefit,.val .zi x.By]
def e6w:List VA->Option Reduce:=mkS (gI .i64) λx0=>mkS (gV dT .zi) λx1=>mkE (⟨x0,x1⟩:Reduce)
def e10:Version->List VA:=λx=>[.int .i64 x.From,.val .zw x.Rounding,.list .zg x.Credits,.list .zm x.Series,.list .zo x.Lets,.list .zl x.Grants,.list .zt x.Reduces]
def e1l:List VA->Option Version:=mkS (gI .i64) λx0=>mkS (gV dT .zw) λx1=>mkS (SX.gL dT .zg) λx2=>mkS (SX.gL dT .zm) λx3=>mkS (SX.gL dT .zo) λx4=>mkS (SX.gL dT .zl) λx5=>mkS (SX.gL dT .zt) λx6=>mkE (⟨x0,x1,x2,x3,x4,x5,x6⟩:Version)
def f0o:Rules->List VA:=λx=>[.int .i64 x.From,.int .i64 x.MinDays,.int .i64 x.PostingLimit,.int .i64 x.Substantial,.list .z7 x.Members]
def e9b:List VA->Option Rules:=mkS (gI .i64) λx0=>mkS (gI .i64) λx1=>mkS (gI .i64) λx2=>mkS (gI .i64) λx3=>mkS (SX.gL dT .z7) λx4=>mkE (⟨x0,x1,x2,x3,x4⟩:Rules)
def g3y:Bool->List VA:=λx=>[.bool x]
def g5e:List VA->Option Bool:=mkS (gB) λx0=>mkE x0
def f02:Value->List VA:=λx=>[.int .i64 x.Dim,.bool x.Yes,.val .zk x.Num]
def f05:List VA->Option Value:=mkS (gI .i64) λx0=>mkS (gB) λx1=>mkS (gV dT .zk) λx2=>mkE (⟨x0,x1,x2⟩:Value)
def f7b:Step->List VA:=λx=>[.str x.Name,.val .y5 x.Value]
def f5s:List VA->Option Step:=mkS (gS) λx0=>mkS (gV dT .y5) λx1=>mkE (⟨x0,x1⟩:Step)
def d9c:iQ->List VA:=λx=>[.str x.Name,.int .i64 x.Dim]
def e0b:List VA->Option iQ:=mkS (gS) λx0=>mkS (gI .i64) λx1=>mkE (⟨x0,x1⟩:iQ)
def h4b:Int->List VA:=λx=>[.int .u8 x]
def h2q:List VA->Option Int:=mkS (gI .u8) λx0=>mkE x0
def h1c:Int->List VA:=λx=>[.int .u64 x]
def g83:List VA->Option Int:=mkS (gI .u64) λx0=>mkE x0
def l8k:Right->List VA:=λx=>[.int .i64 x.State,.int .i64 x.Basis,.int .i64 x.Currency,.int .i64 x.Amount]
def l8v:List VA->Option Right:=mkS (gI .i64) λx0=>mkS (gI .i64) λx1=>mkS (gI .i64) λx2=>mkS (gI .i64) λx3=>mkE (⟨x0,x1,x2,x3⟩:Right)
def f4o:Span->List VA:=λx=>[.int .i64 x.From,.int .i64 x.To]
def f7t:List VA->Option Span:=mkS (gI .i64) λx0=>mkS (gI .i64) λx1=>mkE (⟨x0,x1⟩:Span)
def e7k:Ar 3 ByteArray->List VA:=λx=>x.l.map λy=>.str y
def d8g:List VA->Option (Ar 3 ByteArray):=mkA (gS) 3
def e9d:Token->List VA:=λx=>[.int .i64 x.Kind,.str x.Text,.int .i64 x.At]
def f0u:List VA->Option Token:=mkS (gI .i64) λx0=>mkS (gS) λx1=>mkS (gI .i64) λx2=>mkE (⟨x0,x1,x2⟩:Token)
def c0i:rQ->List VA:=λx=>[.list .y4 x.l,.int .i64 x.at_,.int .i64 x.end_,.bool x.bad]
def c0h:List VA->Option rQ:=mkS (SX.gL dT .y4) λx0=>mkS (gI .i64) λx1=>mkS (gI .i64) λx2=>mkS (gB) λx3=>mkE (⟨x0,x1,x2,x3⟩:rQ)
def c2q:pensionref1_wide->List VA:=λx=>[.int .u64 x.hi,.int .u64 x.lo]
def c2l:List VA->Option pensionref1_wide:=mkS (gI .u64) λx0=>mkS (gI .u64) λx1=>mkE (⟨x0,x1⟩:pensionref1_wide)
def e0x:Statute->List VA:=λx=>[.str x.Name,.int .i64 x.Currency,.list .y6 x.Versions]
def e0u:List VA->Option Statute:=mkS (gS) λx0=>mkS (gI .i64) λx1=>mkS (SX.gL dT .y6) λx2=>mkE (⟨x0,x1,x2⟩:Statute)
def f0d:State->List VA:=λx=>[.int .i64 x.State,.val .y2 x.Statute]
def e9c:List VA->Option State:=mkS (gI .i64) λx0=>mkS (gV dT .y2) λx1=>mkE (⟨x0,x1⟩:State)
def f3r:Rate->List VA:=λx=>[.int .i64 x.Currency,.int .i64 x.Month,.val .zk x.Value]
def f4z:List VA->Option Rate:=mkS (gI .i64) λx0=>mkS (gI .i64) λx1=>mkS (gV dT .zk) λx2=>mkE (⟨x0,x1,x2⟩:Rate)
def f7k:Laws->List VA:=λx=>[.list .y1 x.States,.list .zx x.Treaty,.list .zs x.Rates]
def f6x:List VA->Option Laws:=mkS (SX.gL dT .y1) λx0=>mkS (SX.gL dT .zx) λx1=>mkS (SX.gL dT .zs) λx2=>mkE (⟨x0,x1,x2⟩:Laws)
def d8u:aQ->List VA:=λx=>[.int .i64 x.Issuer,.int .i64 x.Number,.int .i64 x.Version,.bool x.Withdrawn,.int .i64 x.Person,.int .i64 x.Kind,.int .i64 x.State,.val .y0 x.Span,.int .i64 x.Seat,.int .i64 x.Share,.int .i64 x.Currency,.int .i64 x.Amount,.int .i64 x.Ref]
def d83:List VA->Option aQ:=mkS (gI .i64) λx0=>mkS (gI .i64) λx1=>mkS (gI .i64) λx2=>mkS (gB) λx3=>mkS (gI .i64) λx4=>mkS (gI .i64) λx5=>mkS (gI .i64) λx6=>mkS (gV dT .y0) λx7=>mkS (gI .i64) λx8=>mkS (gI .i64) λx9=>mkS (gI .i64) λx10=>mkS (gI .i64) λx11=>mkS (gI .i64) λx12=>mkE (⟨x0,x1,x2,x3,x4,x5,x6,x7,x8,x9,x10,x11,x12⟩:aQ)
def c2o:tH->List VA:=λx=>[.int .i64 x.Issuer,.int .i64 x.Number,.int .i64 x.Version,.bool x.Withdrawn,.int .i64 x.Person,.int .i64 x.Kind,.int .i64 x.State,.int .i64 x.Seat,.int .i64 x.From,.int .i64 x.Length,.int .i64 x.Share,.int .i64 x.Amount,.int .i64 x.Ref]
def c2p:List VA->Option tH:=mkS (gI .i64) λx0=>mkS (gI .i64) λx1=>mkS (gI .i64) λx2=>mkS (gB) λx3=>mkS (gI .i64) λx4=>mkS (gI .i64) λx5=>mkS (gI .i64) λx6=>mkS (gI .i64) λx7=>mkS (gI .i64) λx8=>mkS (gI .i64) λx9=>mkS (gI .i64) λx10=>mkS (gI .i64) λx11=>mkS (gI .i64) λx12=>mkE (⟨x0,x1,x2,x3,x4,x5,x6,x7,x8,x9,x10,x11,x12⟩:tH)
def e5w:Ar 12 Int->List VA:=λx=>x.l.map λy=>.int .i64 y
def d2q:List VA->Option (Ar 12 Int):=mkA (gI .i64) 12
def h09:Int->List VA:=λx=>[.int .u32 x]
def h0n:List VA->Option Int:=mkS (gI .u32) λx0=>mkE x0
def f0l:List Span->List VA:=λx=>[.list .y0 x]
def e88:List VA->Option (List Span):=mkS (SX.gL dT .y0) λx0=>mkE x0
def e1h:Posting->List VA:=λx=>[.int .i64 x.Seat,.int .i64 x.State,.val .y0 x.Span]
def e0z:List VA->Option Posting:=mkS (gI .i64) λx0=>mkS (gI .i64) λx1=>mkS (gV dT .y0) λx2=>mkE (⟨x0,x1,x2⟩:Posting)
def c2m:uQ->List VA:=λx=>[.int .i64 x.seat,.int .i64 x.state]
def c2r:List VA->Option uQ:=mkS (gI .i64) λx0=>mkS (gI .i64) λx1=>mkE (⟨x0,x1⟩:uQ)
def c3f:lQ->List VA:=λx=>[.list .y8 x.facts,.val .y0 x.span,.list .zr x.postings,.list .zx x.rules]
def c3t:List VA->Option lQ:=mkS (SX.gL dT .y8) λx0=>mkS (gV dT .y0) λx1=>mkS (SX.gL dT .zr) λx2=>mkS (SX.gL dT .zx) λx3=>mkE (⟨x0,x1,x2,x3⟩:lQ)
def c79:syntax_entry->List VA:=λx=>[.str x.name,.int .i64 x.number]
def c74:List VA->Option syntax_entry:=mkS (gS) λx0=>mkS (gI .i64) λx1=>mkE (⟨x0,x1⟩:syntax_entry)
def e7l:Ar 2 Int->List VA:=λx=>x.l.map λy=>.int .i64 y
def d5s:List VA->Option (Ar 2 Int):=mkA (gI .i64) 2
def c8y:bQ->List VA:=λx=>[.val .zn x.laws,.int .i64 x.day,.val .zx x.rules]
def c7v:List VA->Option bQ:=mkS (gV dT .zn) λx0=>mkS (gI .i64) λx1=>mkS (gV dT .zx) λx2=>mkE (⟨x0,x1,x2⟩:bQ)
def d9y:gQ->List VA:=λx=>[.val .y0 x.Span,.int .i64 x.State,.int .i64 x.Rule]
def e1d:List VA->Option gQ:=mkS (gV dT .y0) λx0=>mkS (gI .i64) λx1=>mkS (gI .i64) λx2=>mkE (⟨x0,x1,x2⟩:gQ)
def e5s:Period->List VA:=λx=>[.int .i64 x.State,.int .i64 x.Rank,.val .y0 x.Span]
def e58:List VA->Option Period:=mkS (gI .i64) λx0=>mkS (gI .i64) λx1=>mkS (gV dT .y0) λx2=>mkE (⟨x0,x1,x2⟩:Period)
def e05:List Period->List VA:=λx=>[.list .zp x]
def d95:List VA->Option (List Period):=mkS (SX.gL dT .zp) λx0=>mkE x0
def e50:Scheme->List VA:=λx=>[.int .i64 x.State,.val .y6 x.Version]
def e62:List VA->Option Scheme:=mkS (gI .i64) λx0=>mkS (gV dT .y6) λx1=>mkE (⟨x0,x1⟩:Scheme)
def l77:Anon378->List VA:=λx=>[.int .i64 x.kind,.int .i64 x.rank]
def l75:List VA->Option Anon378:=mkS (gI .i64) λx0=>mkS (gI .i64) λx1=>mkE (⟨x0,x1⟩:Anon378)
def d8m:Ar 7 (List Span)->List VA:=λx=>x.l.map λy=>.list .y0 y
def c6h:List VA->Option (Ar 7 (List Span)):=mkA (SX.gL dT .y0) 7
def c7x:Ar 6 (Ar 7 (List Span))->List VA:=λx=>x.l.map λy=>.val .z5 y
def c16:List VA->Option (Ar 6 (Ar 7 (List Span))):=mkA (gV dT .z5) 6
def c73:Ar 6 (Ar 7 (List Span))->List VA:=λx=>[.rp (.val .z3 x)]
def c77:List VA->Option (Ar 6 (Ar 7 (List Span))):=mkS (gP dT .z3) λx0=>mkE x0
def e0m:nQ->List VA:=λx=>[.val .y0 x.Span,.int .i64 x.State,.int .i64 x.Rank]
def e1b:List VA->Option nQ:=mkS (gV dT .y0) λx0=>mkS (gI .i64) λx1=>mkS (gI .i64) λx2=>mkE (⟨x0,x1,x2⟩:nQ)
def d7t:List nQ->List VA:=λx=>[.list .zf x]
def d5c:List VA->Option (List nQ):=mkS (SX.gL dT .zf) λx0=>mkE x0
def f2h:Piece->List VA:=λx=>[.val .y0 x.Span,.list .z7 x.Members]
def e80:List VA->Option Piece:=mkS (gV dT .y0) λx0=>mkS (SX.gL dT .z7) λx1=>mkE (⟨x0,x1⟩:Piece)
def c35:earnings_income->List VA:=λx=>[.val .y8 x.fact,.list .y0 x.days]
def c3a:List VA->Option earnings_income:=mkS (gV dT .y8) λx0=>mkS (SX.gL dT .y0) λx1=>mkE (⟨x0,x1⟩:earnings_income)
def d9p:Earning->List VA:=λx=>[.int .i64 x.Year,.int .i64 x.Amount]
def e08:List VA->Option Earning:=mkS (gI .i64) λx0=>mkS (gI .i64) λx1=>mkE (⟨x0,x1⟩:Earning)
def c5b:rational_wide->List VA:=λx=>[.int .u64 x.hi,.int .u64 x.lo]
def c5t:List VA->Option rational_wide:=mkS (gI .u64) λx0=>mkS (gI .u64) λx1=>mkE (⟨x0,x1⟩:rational_wide)
def f4f:View->List VA:=λx=>[.int .i64 x.Age,.int .i64 x.Year,.int .i64 x.Children,.int .i64 x.Insured,.int .i64 x.Worked,.int .i64 x.Voluntary,.int .i64 x.Service,.int .i64 x.Equated,.int .i64 x.Raising,.int .i64 x.Resident,.val .zk x.Base,.list .z7 x.Years]
def f6d:List VA->Option View:=mkS (gI .i64) λx0=>mkS (gI .i64) λx1=>mkS (gI .i64) λx2=>mkS (gI .i64) λx3=>mkS (gI .i64) λx4=>mkS (gI .i64) λx5=>mkS (gI .i64) λx6=>mkS (gI .i64) λx7=>mkS (gI .i64) λx8=>mkS (gI .i64) λx9=>mkS (gV dT .zk) λx10=>mkS (SX.gL dT .z7) λx11=>mkE (⟨x0,x1,x2,x3,x4,x5,x6,x7,x8,x9,x10,x11⟩:View)
def f2a:Ar 7 Int->List VA:=λx=>x.l.map λy=>.int .i64 y
def d8f:List VA->Option (Ar 7 Int):=mkA (gI .i64) 7
def c4s:vQ->List VA:=λx=>[.val .y7 x.view,.list .y3 x.steps]
def c4w:List VA->Option vQ:=mkS (gV dT .y7) λx0=>mkS (SX.gL dT .y3) λx1=>mkE (⟨x0,x1⟩:vQ)
def g56:List Int->List VA:=λx=>[.list .z7 x]
def g3l:List VA->Option (List Int):=mkS (SX.gL dT .z7) λx0=>mkE x0
def e56:Result->List VA:=λx=>[.bool x.Holds,.val .zk x.Pay,.list .y3 x.Steps]
def e6j:List VA->Option Result:=mkS (gB) λx0=>mkS (gV dT .zk) λx1=>mkS (SX.gL dT .y3) λx2=>mkE (⟨x0,x1,x2⟩:Result)
def l66:FamilyPay->List VA:=λx=>[.int .i64 x.State,.int .i64 x.Currency,.int .i64 x.Amount,.bool x.Primary]
def l67:List VA->Option FamilyPay:=mkS (gI .i64) λx0=>mkS (gI .i64) λx1=>mkS (gI .i64) λx2=>mkS (gB) λx3=>mkE (⟨x0,x1,x2,x3⟩:FamilyPay)
def l5f:family_value->List VA:=λx=>[.int .u64 x.num,.int .u64 x.den]
def l5e:List VA->Option family_value:=mkS (gI .u64) λx0=>mkS (gI .u64) λx1=>mkE (⟨x0,x1⟩:family_value)
def cdT(n:Nat):Option TyC:=bif Nat.blt n 207then(bif Nat.blt n 67then(bif Nat.blt n 36then(bif Nat.blt n 11then(bif Nat.blt n 5then(bif Nat.blt n 3then(bif Nat.beq n 2then some .z7 else none)else(bif Nat.blt n 4then(bif Nat.beq n 3then some .z7 else none)else(bif Nat.beq n 4then some .z6 else none)))else(bif Nat.blt n 9then(bif Nat.blt n 6then(bif Nat.beq n 5then some .yn else none)else(bif Nat.beq n 6then some .yn else none))else(bif Nat.blt n 10then(bif Nat.beq n 9then some .yk else none)else(bif Nat.beq n 10then some .yk else none))))else(bif Nat.blt n 27then(bif Nat.blt n 12then(bif Nat.beq n 11then some .yk else none)else(bif Nat.blt n 22then(bif Nat.beq n 12then some .ym else none)else(bif Nat.beq n 22then some .z8 else none)))else(bif Nat.blt n 34then(bif Nat.blt n 28then(bif Nat.beq n 27then some .zn else none)else(bif Nat.beq n 28then some .zn else none))else(bif Nat.blt n 35then(bif Nat.beq n 34then some .y0 else none)else(bif Nat.beq n 35then some .y0 else none)))))else(bif Nat.blt n 53then(bif Nat.blt n 41then(bif Nat.blt n 37then(bif Nat.beq n 36then some .y8 else none)else(bif Nat.blt n 40then(bif Nat.beq n 37then some .y8 else none)else(bif Nat.beq n 40then some .zv else none)))else(bif Nat.blt n 51then(bif Nat.blt n 50then(bif Nat.beq n 41then some .zv else none)else(bif Nat.beq n 50then some .zk else none))else(bif Nat.blt n 52then(bif Nat.beq n 51then some .zk else none)else(bif Nat.beq n 52then some .zs else none))))else(bif Nat.blt n 61then(bif Nat.blt n 56then(bif Nat.blt n 55then(bif Nat.beq n 53then some .zs else none)else(bif Nat.beq n 55then some .y2 else none))else(bif Nat.blt n 57then(bif Nat.beq n 56then some .y2 else none)else(bif Nat.beq n 57then some .z7 else none)))else(bif Nat.blt n 64then(bif Nat.blt n 62then(bif Nat.beq n 61then some .y1 else none)else(bif Nat.beq n 62then some .y1 else none))else(bif Nat.blt n 65then(bif Nat.beq n 64then some .zx else none)else(bif Nat.beq n 65then some .zx else none))))))else(bif Nat.blt n 130then(bif Nat.blt n 96then(bif Nat.blt n 76then(bif Nat.blt n 68then(bif Nat.beq n 67then some .yf else none)else(bif Nat.blt n 75then(bif Nat.beq n 68then some .yf else none)else(bif Nat.beq n 75then some .zj else none)))else(bif Nat.blt n 93then(bif Nat.blt n 92then(bif Nat.beq n 76then some .zj else none)else(bif Nat.beq n 92then some .yh else none))else(bif Nat.blt n 95then(bif Nat.beq n 93then some .yh else none)else(bif Nat.beq n 95then some .zw else none))))else(bif Nat.blt n 107then(bif Nat.blt n 102then(bif Nat.beq n 96then some .zw else none)else(bif Nat.blt n 103then(bif Nat.beq n 102then some .y6 else none)else(bif Nat.beq n 103then some .y6 else none)))else(bif Nat.blt n 116then(bif Nat.blt n 115then(bif Nat.beq n 107then some .z2 else none)else(bif Nat.beq n 115then some .ym else none))else(bif Nat.blt n 117then(bif Nat.beq n 116then some .ye else none)else(bif Nat.beq n 117then some .ye else none)))))else(bif Nat.blt n 175then(bif Nat.blt n 137then(bif Nat.blt n 131then(bif Nat.beq n 130then some .y7 else none)else(bif Nat.blt n 136then(bif Nat.beq n 131then some .y7 else none)else(bif Nat.beq n 136then some .zu else none)))else(bif Nat.blt n 147then(bif Nat.blt n 143then(bif Nat.beq n 137then some .zu else none)else(bif Nat.beq n 143then some .ym else none))else(bif Nat.blt n 148then(bif Nat.beq n 147then some .y4 else none)else(bif Nat.beq n 148then some .y4 else none))))else(bif Nat.blt n 191then(bif Nat.blt n 184then(bif Nat.blt n 176then(bif Nat.beq n 175then some .ya else none)else(bif Nat.beq n 176then some .ya else none))else(bif Nat.blt n 185then(bif Nat.beq n 184then some .y9 else none)else(bif Nat.beq n 185then some .y9 else none)))else(bif Nat.blt n 205then(bif Nat.blt n 204then(bif Nat.beq n 191then some .z9 else none)else(bif Nat.beq n 204then some .zg else none))else(bif Nat.blt n 206then(bif Nat.beq n 205then some .zg else none)else(bif Nat.beq n 206then some .zm else none)))))))else(bif Nat.blt n 335then(bif Nat.blt n 276then(bif Nat.blt n 216then(bif Nat.blt n 211then(bif Nat.blt n 209then(bif Nat.beq n 207then some .zm else none)else(bif Nat.blt n 210then(bif Nat.beq n 209then some .zi else none)else(bif Nat.beq n 210then some .zi else none)))else(bif Nat.blt n 214then(bif Nat.blt n 212then(bif Nat.beq n 211then some .zo else none)else(bif Nat.beq n 212then some .zo else none))else(bif Nat.blt n 215then(bif Nat.beq n 214then some .zl else none)else(bif Nat.beq n 215then some .zl else none))))else(bif Nat.blt n 232then(bif Nat.blt n 217then(bif Nat.beq n 216then some .zt else none)else(bif Nat.blt n 225then(bif Nat.beq n 217then some .zt else none)else(bif Nat.beq n 225then some .z7 else none)))else(bif Nat.blt n 272then(bif Nat.blt n 236then(bif Nat.beq n 232then some .yl else none)else(bif Nat.beq n 236then some .z0 else none))else(bif Nat.blt n 273then(bif Nat.beq n 272then some .yd else none)else(bif Nat.beq n 273then some .yd else none)))))else(bif Nat.blt n 307then(bif Nat.blt n 285then(bif Nat.blt n 277then(bif Nat.beq n 276then some .y5 else none)else(bif Nat.blt n 284then(bif Nat.beq n 277then some .y5 else none)else(bif Nat.beq n 284then some .yg else none)))else(bif Nat.blt n 305then(bif Nat.blt n 289then(bif Nat.beq n 285then some .yg else none)else(bif Nat.beq n 289then some .ym else none))else(bif Nat.blt n 306then(bif Nat.beq n 305then some .yb else none)else(bif Nat.beq n 306then some .yb else none))))else(bif Nat.blt n 326then(bif Nat.blt n 310then(bif Nat.blt n 309then(bif Nat.beq n 307then some .zb else none)else(bif Nat.beq n 309then some .zr else none))else(bif Nat.blt n 325then(bif Nat.beq n 310then some .zr else none)else(bif Nat.beq n 325then some .zf else none)))else(bif Nat.blt n 331then(bif Nat.blt n 330then(bif Nat.beq n 326then some .zf else none)else(bif Nat.beq n 330then some .yc else none))else(bif Nat.blt n 334then(bif Nat.beq n 331then some .yc else none)else(bif Nat.beq n 334then some .zh else none))))))else(bif Nat.blt n 390then(bif Nat.blt n 371then(bif Nat.blt n 340then(bif Nat.blt n 338then(bif Nat.beq n 335then some .zh else none)else(bif Nat.blt n 339then(bif Nat.beq n 338then some .zy else none)else(bif Nat.beq n 339then some .zy else none)))else(bif Nat.blt n 354then(bif Nat.blt n 353then(bif Nat.beq n 340then some .za else none)else(bif Nat.beq n 353then some .y3 else none))else(bif Nat.blt n 370then(bif Nat.beq n 354then some .y3 else none)else(bif Nat.beq n 370then some .yi else none))))else(bif Nat.blt n 378then(bif Nat.blt n 372then(bif Nat.beq n 371then some .yi else none)else(bif Nat.blt n 373then(bif Nat.beq n 372then some .zp else none)else(bif Nat.beq n 373then some .zp else none)))else(bif Nat.blt n 385then(bif Nat.blt n 384then(bif Nat.beq n 378then some .zd else none)else(bif Nat.beq n 384then some .zz else none))else(bif Nat.blt n 389then(bif Nat.beq n 385then some .zz else none)else(bif Nat.beq n 389then some .z5 else none)))))else(bif Nat.blt n 478then(bif Nat.blt n 398then(bif Nat.blt n 391then(bif Nat.beq n 390then some .z3 else none)else(bif Nat.blt n 397then(bif Nat.beq n 391then some .z3 else none)else(bif Nat.beq n 397then some .zq else none)))else(bif Nat.blt n 438then(bif Nat.blt n 400then(bif Nat.beq n 398then some .zq else none)else(bif Nat.beq n 400then some .z4 else none))else(bif Nat.blt n 439then(bif Nat.beq n 438then some .ze else none)else(bif Nat.beq n 439then some .ze else none))))else(bif Nat.blt n 509then(bif Nat.blt n 489then(bif Nat.blt n 488then(bif Nat.beq n 478then some .ym else none)else(bif Nat.beq n 488then some .yj else none))else(bif Nat.blt n 500then(bif Nat.beq n 489then some .yj else none)else(bif Nat.beq n 500then some .z7 else none)))else(bif Nat.blt n 534then(bif Nat.blt n 514then(bif Nat.beq n 509then some .ym else none)else(bif Nat.beq n 514then some .z1 else none))else(bif Nat.blt n 535then(bif Nat.beq n 534then some .yn else none)else(bif Nat.beq n 535then some .yn else none)))))))
def VV:Uni where C:=TyC;T:=TyC.T;dec:=dT;c0:=.z7;n:=λc=>match c with|.z7=>1|.zm=>3|.yk=>1|.zi=>6|.zo=>7|.zl=>13|.zt=>7|.y6=>8|.zx=>5|.z6=>1|.y5=>4|.y3=>5|.yn=>1|.ym=>1|.zv=>4|.z2=>3|.y4=>3|.yh=>4|.y2=>3|.y1=>4|.zs=>4|.zn=>3|.y8=>14|.yf=>13|.z0=>12|.yl=>1|.zb=>1|.zr=>4|.ya=>5|.y9=>9|.zz=>4|.zp=>4|.za=>1|.zy=>9|.z5=>7|.z3=>42|.zc=>1|.zf=>4|.z9=>1|.zq=>3|.yc=>15|.y7=>13|.z4=>7|.yd=>14|.z8=>1|.zu=>4|.zj=>4|_=>2;ag:=λc=>match c with|.z7=>false|.yk=>false|.z6=>false|.yn=>false|.ym=>false|.yl=>false|.zb=>false|.za=>false|.zc=>false|.z9=>false|.z8=>false|_=>true;lay:=λc=>match c with|.z7=>[none]|.zw=>[none,none]|.zg=>[none,none]|.zk=>[none,none]|.zm=>[none,some .zk]|.yk=>[none]|.zi=>[none,some .zk,none,none,none]|.zo=>[none,some .zi]|.zl=>[none,some .zi,some .zi]|.zt=>[none,some .zi]|.y6=>[none,some .zw,none,none,none,none,none]|.zx=>[none,none,none,none,none]|.z6=>[none]|.y5=>[none,none,some .zk]|.y3=>[none,some .y5]|.ze=>[none,none]|.yn=>[none]|.ym=>[none]|.zv=>[none,none,none,none]|.y0=>[none,none]|.z2=>List.replicate 3 (none)|.y4=>[none,none,none]|.yh=>[none,none,none,none]|.yg=>[none,none]|.y2=>[none,none,none]|.y1=>[none,some .y2]|.zs=>[none,none,some .zk]|.zn=>[none,none,none]|.y8=>[none,none,none,none,none,none,none,some .y0,none,none,none,none,none]|.yf=>[none,none,none,none,none,none,none,none,none,none,none,none,none]|.z0=>List.replicate 12 (none)|.yl=>[none]|.zb=>[none]|.zr=>[none,none,some .y0]|.yb=>[none,none]|.ya=>[none,some .y0,none,none]|.yj=>[none,none]|.z1=>List.replicate 2 (none)|.y9=>[some .zn,none,some .zx]|.zz=>[some .y0,none,none]|.zp=>[none,none,some .y0]|.za=>[none]|.zy=>[none,some .y6]|.zd=>[none,none]|.z5=>List.replicate 7 (none)|.z3=>List.replicate 6 (some .z5)|.zc=>[none]|.zf=>[some .y0,none,none]|.z9=>[none]|.zq=>[some .y0,none]|.yc=>[some .y8,none]|.zh=>[none,none]|.yi=>[none,none]|.y7=>[none,none,none,none,none,none,none,none,none,none,some .zk,none]|.z4=>List.replicate 7 (none)|.yd=>[some .y7,none]|.z8=>[none]|.zu=>[none,some .zk,none]|.zj=>[none,none,none,none]|.ye=>[none,none];flds:=λc=>match c with|.z7=>g93|.zw=>d66|.zg=>e4m|.zk=>d63|.zm=>e9e|.yk=>g78|.zi=>f5y|.zo=>g3m|.zl=>f1v|.zt=>e6t|.y6=>e10|.zx=>f0o|.z6=>g3y|.y5=>f02|.y3=>f7b|.ze=>d9c|.yn=>h4b|.ym=>h1c|.zv=>l8k|.y0=>f4o|.z2=>e7k|.y4=>e9d|.yh=>c0i|.yg=>c2q|.y2=>e0x|.y1=>f0d|.zs=>f3r|.zn=>f7k|.y8=>d8u|.yf=>c2o|.z0=>e5w|.yl=>h09|.zb=>f0l|.zr=>e1h|.yb=>c2m|.ya=>c3f|.yj=>c79|.z1=>e7l|.y9=>c8y|.zz=>d9y|.zp=>e5s|.za=>e05|.zy=>e50|.zd=>l77|.z5=>d8m|.z3=>c7x|.zc=>c73|.zf=>e0m|.z9=>d7t|.zq=>f2h|.yc=>c35|.zh=>d9p|.yi=>c5b|.y7=>f4f|.z4=>f2a|.yd=>c4s|.z8=>g56|.zu=>e56|.zj=>l66|.ye=>l5f;mkv:=λc=>match c with|.z7=>h0b|.zw=>d85|.zg=>e6k|.zk=>d90|.zm=>e7q|.yk=>g9e|.zi=>f4s|.zo=>g4f|.zl=>e92|.zt=>e6w|.y6=>e1l|.zx=>e9b|.z6=>g5e|.y5=>f05|.y3=>f5s|.ze=>e0b|.yn=>h2q|.ym=>g83|.zv=>l8v|.y0=>f7t|.z2=>d8g|.y4=>f0u|.yh=>c0h|.yg=>c2l|.y2=>e0u|.y1=>e9c|.zs=>f4z|.zn=>f6x|.y8=>d83|.yf=>c2p|.z0=>d2q|.yl=>h0n|.zb=>e88|.zr=>e0z|.yb=>c2r|.ya=>c3t|.yj=>c74|.z1=>d5s|.y9=>c7v|.zz=>e1d|.zp=>e58|.za=>d95|.zy=>e62|.zd=>l75|.z5=>c6h|.z3=>c16|.zc=>c77|.zf=>e1b|.z9=>d5c|.zq=>e80|.yc=>c3a|.zh=>e08|.yi=>c5t|.y7=>f6d|.z4=>d8f|.yd=>c4w|.z8=>g3l|.zu=>e6j|.zj=>l67|.ye=>l5e;cd:=cdT;flat:=λc=>match c with|.zi=>false|.zo=>false|.zl=>false|.zt=>false|.y6=>false|.zx=>false|.yh=>false|.y2=>false|.y1=>false|.zn=>false|.zb=>false|.ya=>false|.y9=>false|.za=>false|.zy=>false|.z5=>false|.z3=>false|.zc=>false|.z9=>false|.zq=>false|.yc=>false|.y7=>false|.yd=>false|.z8=>false|.zu=>false|_=>true;isA:=λc=>match c with|.z2=>true|.z0=>true|.z1=>true|.z5=>true|.z3=>true|.z4=>true|_=>false;ae:=λc=>match c with|.z2=>.yk|.z0=>.z7|.z1=>.z7|.z5=>.zb|.z3=>.z5|.z4=>.z7|c=>c;an:=λc=>match c with|.z2=>3|.z0=>12|.z1=>2|.z5=>7|.z3=>6|.z4=>7|_=>0;al:=λc=>match c with|.z2=>λx=>x.l|.z0=>λx=>x.l|.z1=>λx=>x.l|.z5=>λx=>x.l|.z3=>λx=>x.l|.z4=>λx=>x.l|_=>λ_=>[];ast:=λc=>match c with|.z2=>λx i y=>x.set i y|.z0=>λx i y=>x.set i y|.z1=>λx i y=>x.set i y|.z5=>λx i y=>x.set i y|.z3=>λx i y=>x.set i y|.z4=>λx i y=>x.set i y|_=>λx _ _=>x;gt:=λc=>match c with|.z7=>λx _=>x|.zw=>λx _=>x|.zg=>λx _=>x|.zk=>λx _=>x|.zm=>λx _=>x|.yk=>λx _=>x|.zi=>λx _=>x|.zo=>λx _=>x|.zl=>λx _=>x|.zt=>λx _=>x|.y6=>λx _=>x|.zx=>λx _=>x|.z6=>λx _=>x|.y5=>λx _=>x|.y3=>λx _=>x|.ze=>λx _=>x|.yn=>λx _=>x|.ym=>λx _=>x|.zv=>λx _=>x|.y0=>λx _=>x|.z2=>λx i=>Ar.gt ByteArray.empty x i|.y4=>λx _=>x|.yh=>λx _=>x|.yg=>λx _=>x|.y2=>λx _=>x|.y1=>λx _=>x|.zs=>λx _=>x|.zn=>λx _=>x|.y8=>λx _=>x|.yf=>λx _=>x|.z0=>λx i=>Ar.gt 0 x i|.yl=>λx _=>x|.zb=>λx _=>x|.zr=>λx _=>x|.yb=>λx _=>x|.ya=>λx _=>x|.yj=>λx _=>x|.z1=>λx i=>Ar.gt 0 x i|.y9=>λx _=>x|.zz=>λx _=>x|.zp=>λx _=>x|.za=>λx _=>x|.zy=>λx _=>x|.zd=>λx _=>x|.z5=>λx i=>Ar.gt [] x i|.z3=>λx i=>Ar.gt (arZ 7 []) x i|.zc=>λx _=>x|.zf=>λx _=>x|.z9=>λx _=>x|.zq=>λx _=>x|.yc=>λx _=>x|.zh=>λx _=>x|.yi=>λx _=>x|.y7=>λx _=>x|.z4=>λx i=>Ar.gt 0 x i|.yd=>λx _=>x|.z8=>λx _=>x|.zu=>λx _=>x|.zj=>λx _=>x|.ye=>λx _=>x;b8:=λc=>match c with|.yn=>true|_=>false;t8:=λc=>match c with|.yn=>λx=>x|_=>λ_=>0;tab:=λw=>Lib.TabIs Go.Proofs.Tryz.prog w "internal/strconv.uint64pow10" .u64 Lib.pow10Tab/\CA w ⟨0,0,none⟩ [.int .i64 1,.int .i64 1];tb:=λb=>b=4\/b=0;gv:=λg=>match g with|0=>some ⟨.zw,⟨1,1⟩⟩|_=>none
set_option maxHeartbeats 2000000 in
def uok:UOK VV where
 lay:=λ c x=>by cases c<;>first | rfl | exact g3z (U:=VV) x λ _=>rfl
 kind:=λ c x=>by cases c<;>first | rfl | exact f1p (U:=VV) x λ _=>rfl
 sum:=λ c=>by cases c<;>rfl
 sc:=λ c h=>by cases c<;>first | rfl | cases h
 mkl:=λ c zs y h=>by
  cases c
  all_goals first
   | (repeat (obtain ⟨_,zs,_,rfl,_,h⟩:=h0y h)
      obtain ⟨rfl,rfl⟩:=h00 h
      repeat' first
       | exact trivial
       | exact e7i (U:=VV) (by assumption)
       | exact g76 (U:=VV) (by assumption)
       | exact h0c (U:=VV) (by assumption)
       | exact g88 (U:=VV) (by assumption)
       | exact g9w (U:=VV) (by assumption)
       | exact h4a (U:=VV) (by assumption)
       | exact gN_ok (U:=VV) (by assumption)
       | refine ⟨?_,?_⟩)
   | exact c6w (λ _ _ h=>h0c (U:=VV) h) (show d8g zs=some y from h)
   | exact c6w (λ _ _ h=>e7i (U:=VV) h) (show d2q zs=some y from h)
   | exact c6w (λ _ _ h=>e7i (U:=VV) h) (show d5s zs=some y from h)
   | exact c6w (λ _ _ h=>g9w (U:=VV) h) (show c6h zs=some y from h)
   | exact c6w (λ _ _ h=>g88 (U:=VV) h) (show c16 zs=some y from h)
   | exact c6w (λ _ _ h=>e7i (U:=VV) h) (show d8f zs=some y from h)
 flat:=λ c x h=>by cases c<;>first | exact Bool.noConfusion (show false=true from h) | rfl | exact f1p (U:=VV) x λ _=>rfl
 arr:=λ c x h=>by cases c<;>first | exact Bool.noConfusion (show false=true from h) | exact ⟨rfl,x.h⟩
 ars:=λ c x i y h=>by cases c<;>first | exact Bool.noConfusion (show false=true from h) | rfl
 gt:=λ c x i y h=>by cases c<;>first | exact Bool.noConfusion (show false=true from h) | exact λ hg=>Ar.gt_ok hg
 by8:=λ c x h=>by cases c<;>first | exact Bool.noConfusion (show false=true from h) | rfl
 tabK:=λ w w2 h hb=>⟨f8r (g:=4) (show Go.Proofs.Tryz.prog.globalNamed "internal/strconv.uint64pow10" =some 4 by kernel_rfl) h.1 (hb 4 (.inl rfl)),CA.of_block h.2 (hb 0 (.inr rfl))⟩
 gvK:=λ w g y h hg=>match g,hg with | 0,hg=>qH hg▸⟨_,h.2,rfl⟩
end Go.PL
namespace Go.Proofs
open Go.Shelf
def Tryz.sliceLay_ren:Go.Shelf.Ren:=⟨λ|6=>374|10=>408|11=>409|12=>410|13=>95|14=>411|24=>154|25=>155|26=>438|27=>439|28=>440|29=>441|30=>442|31=>443|32=>444|33=>445|34=>452|35=>453|36=>454|37=>455|38=>456|39=>462|n=>n,λ|20=>20|26=>363|35=>480|0=>0|37=>394|3=>3|41=>143|44=>485|49=>232|51=>115|4=>4|54=>501|53=>500|58=>46|5=>5|9=>9|60=>509|64=>293|66=>516|67=>124|17=>17|32=>477|33=>478|82=>541|12=>12|75=>534|76=>535|77=>536|78=>537|79=>538|80=>539|n=>n,λ|n=>n⟩
def Tryz.sliceLay:Go.Proofs.LaysGg.n6 Tryz.prog Tryz.sliceLay_ren:={
 mixed:=by kernel_rfl
 f6:=Tryz.func374.trans (congrArg some (by kernel_rfl))
 f10:=Tryz.func408.trans (congrArg some (by kernel_rfl))
 f11:=Tryz.func409.trans (congrArg some (by kernel_rfl))
 f12:=Tryz.func410.trans (congrArg some (by kernel_rfl))
 f13:=Tryz.func95.trans (congrArg some (by kernel_rfl))
 f14:=Tryz.func411.trans (congrArg some (by kernel_rfl))
 f24:=Tryz.func154.trans (congrArg some (by kernel_rfl))
 f25:=Tryz.func155.trans (congrArg some (by kernel_rfl))
 f26:=Tryz.func438.trans (congrArg some (by kernel_rfl))
 f27:=Tryz.func439.trans (congrArg some (by kernel_rfl))
 f28:=Tryz.func440.trans (congrArg some (by kernel_rfl))
 f29:=Tryz.func441.trans (congrArg some (by kernel_rfl))
 f30:=Tryz.func442.trans (congrArg some (by kernel_rfl))
 f31:=Tryz.func443.trans (congrArg some (by kernel_rfl))
 f32:=Tryz.func444.trans (congrArg some (by kernel_rfl))
 f33:=Tryz.func445.trans (congrArg some (by kernel_rfl))
 f34:=Tryz.func452.trans (congrArg some (by kernel_rfl))
 f35:=Tryz.func453.trans (congrArg some (by kernel_rfl))
 f36:=Tryz.func454.trans (congrArg some (by kernel_rfl))
 f37:=Tryz.func455.trans (congrArg some (by kernel_rfl))
 f38:=Tryz.func456.trans (congrArg some (by kernel_rfl))
 f39:=Tryz.func462.trans (congrArg some (by kernel_rfl))
 t0:=Tryz.underlying0
 a0:=Tryz.isAgg0
 z0:=Tryz.sizeOf0
 v0:=Tryz.zeroValue0
 i0:=by kernel_rfl
 t3:=Tryz.underlying3
 a3:=Tryz.isAgg3
 z3:=Tryz.sizeOf3
 v3:=Tryz.zeroValue3
 i3:=by kernel_rfl
 t4:=Tryz.underlying4
 a4:=Tryz.isAgg4
 z4:=Tryz.sizeOf4
 v4:=Tryz.zeroValue4
 i4:=by kernel_rfl
 t5:=Tryz.underlying5
 a5:=Tryz.isAgg5
 z5:=Tryz.sizeOf5
 v5:=Tryz.zeroValue5
 i5:=by kernel_rfl
 t9:=Tryz.underlying9
 a9:=Tryz.isAgg9
 z9:=Tryz.sizeOf9
 v9:=Tryz.zeroValue9
 i9:=by kernel_rfl
 t12:=Tryz.underlying12
 a12:=Tryz.isAgg12
 z12:=Tryz.sizeOf12
 v12:=Tryz.zeroValue12
 i12:=by kernel_rfl
 t17:=Tryz.underlying17
 a17:=Tryz.isAgg17
 z17:=Tryz.sizeOf17
 v17:=Tryz.zeroValue17
 i17:=by kernel_rfl
 t20:=Tryz.underlying20
 a20:=Tryz.isAgg20
 z20:=Tryz.sizeOf20
 v20:=Tryz.zeroValue20
 i20:=by kernel_rfl
 t26:=Tryz.underlying363
 a26:=Tryz.isAgg363
 z26:=Tryz.sizeOf363
 v26:=Tryz.zeroValue363
 i26:=by kernel_rfl
 t32:=Tryz.underlying477
 a32:=Tryz.isAgg477
 z32:=Tryz.sizeOf477
 v32:=Tryz.zeroValue477
 i32:=by kernel_rfl
 t33:=Tryz.underlying478
 a33:=Tryz.isAgg478
 z33:=Tryz.sizeOf478
 v33:=Tryz.zeroValue478
 i33:=by kernel_rfl
 t35:=Tryz.underlying480
 a35:=Tryz.isAgg480
 z35:=Tryz.sizeOf480
 v35:=Tryz.zeroValue480
 i35:=by kernel_rfl
 t37:=Tryz.underlying394
 a37:=Tryz.isAgg394
 z37:=Tryz.sizeOf394
 v37:=Tryz.zeroValue394
 i37:=by kernel_rfl
 t41:=Tryz.underlying143
 a41:=Tryz.isAgg143
 z41:=Tryz.sizeOf143
 v41:=Tryz.zeroValue143
 i41:=by kernel_rfl
 t44:=Tryz.underlying485
 a44:=Tryz.isAgg485
 z44:=Tryz.sizeOf485
 v44:=Tryz.zeroValue485
 i44:=by kernel_rfl
 t49:=Tryz.underlying232
 a49:=Tryz.isAgg232
 z49:=Tryz.sizeOf232
 v49:=Tryz.zeroValue232
 i49:=by kernel_rfl
 t51:=Tryz.underlying115
 a51:=Tryz.isAgg115
 z51:=Tryz.sizeOf115
 v51:=Tryz.zeroValue115
 i51:=by kernel_rfl
 t53:=Tryz.underlying500
 a53:=Tryz.isAgg500
 z53:=Tryz.sizeOf500
 v53:=Tryz.zeroValue500
 i53:=by kernel_rfl
 t54:=Tryz.underlying501
 a54:=Tryz.isAgg501
 z54:=Tryz.sizeOf501
 v54:=Tryz.zeroValue501
 i54:=by kernel_rfl
 t58:=Tryz.underlying46
 a58:=Tryz.isAgg46
 z58:=Tryz.sizeOf46
 v58:=Tryz.zeroValue46
 i58:=by kernel_rfl
 t60:=Tryz.underlying509
 a60:=Tryz.isAgg509
 z60:=Tryz.sizeOf509
 v60:=Tryz.zeroValue509
 i60:=by kernel_rfl
 t64:=Tryz.underlying293
 a64:=Tryz.isAgg293
 z64:=Tryz.sizeOf293
 v64:=Tryz.zeroValue293
 i64:=by kernel_rfl
 t66:=Tryz.underlying516
 a66:=Tryz.isAgg516
 z66:=Tryz.sizeOf516
 v66:=Tryz.zeroValue516
 i66:=by kernel_rfl
 t67:=Tryz.underlying124
 a67:=Tryz.isAgg124
 z67:=Tryz.sizeOf124
 v67:=Tryz.zeroValue124
 i67:=by kernel_rfl
 t75:=Tryz.underlying534
 a75:=Tryz.isAgg534
 z75:=Tryz.sizeOf534
 v75:=Tryz.zeroValue534
 i75:=by kernel_rfl
 t76:=Tryz.underlying535
 a76:=Tryz.isAgg535
 z76:=Tryz.sizeOf535
 v76:=Tryz.zeroValue535
 i76:=by kernel_rfl
 t77:=Tryz.underlying536
 a77:=Tryz.isAgg536
 z77:=Tryz.sizeOf536
 v77:=Tryz.zeroValue536
 i77:=by kernel_rfl
 t78:=Tryz.underlying537
 a78:=Tryz.isAgg537
 z78:=Tryz.sizeOf537
 v78:=Tryz.zeroValue537
 i78:=by kernel_rfl
 t79:=Tryz.underlying538
 a79:=Tryz.isAgg538
 z79:=Tryz.sizeOf538
 v79:=Tryz.zeroValue538
 i79:=by kernel_rfl
 t80:=Tryz.underlying539
 a80:=Tryz.isAgg539
 z80:=Tryz.sizeOf539
 v80:=Tryz.zeroValue539
 i80:=by kernel_rfl
 t82:=Tryz.underlying541
 a82:=Tryz.isAgg541
 z82:=Tryz.sizeOf541
 v82:=Tryz.zeroValue541
 i82:=by kernel_rfl}
def Tryz.laysItoa_ren:Go.Shelf.Ren:=⟨λ|171=>447|243=>457|246=>463|283=>465|284=>466|285=>467|286=>468|129=>155|317=>469|318=>470|319=>471|320=>472|337=>473|338=>474|n=>n,λ|3=>3|9=>9|2=>2|4=>4|171=>519|0=>0|53=>115|37=>302|5=>5|173=>521|212=>524|51=>232|20=>20|213=>525|46=>143|232=>526|233=>527|n=>n,λ|17=>4|18=>5|19=>6|n=>n⟩
def Tryz.laysItoa:Go.Proofs.LaysM.n171 Tryz.prog Tryz.laysItoa_ren:={
 mixed:=by kernel_rfl
 f129:=Tryz.func155.trans (congrArg some (by kernel_rfl))
 f171:=Tryz.func447.trans (congrArg some (by kernel_rfl))
 f243:=Tryz.func457.trans (congrArg some (by kernel_rfl))
 f246:=Tryz.func463.trans (congrArg some (by kernel_rfl))
 f283:=Tryz.func465.trans (congrArg some (by kernel_rfl))
 f284:=Tryz.func466.trans (congrArg some (by kernel_rfl))
 f285:=Tryz.func467.trans (congrArg some (by kernel_rfl))
 f286:=Tryz.func468.trans (congrArg some (by kernel_rfl))
 f317:=Tryz.func469.trans (congrArg some (by kernel_rfl))
 f318:=Tryz.func470.trans (congrArg some (by kernel_rfl))
 f319:=Tryz.func471.trans (congrArg some (by kernel_rfl))
 f320:=Tryz.func472.trans (congrArg some (by kernel_rfl))
 f337:=Tryz.func473.trans (congrArg some (by kernel_rfl))
 f338:=Tryz.func474.trans (congrArg some (by kernel_rfl))
 t0:=Tryz.underlying0
 a0:=Tryz.isAgg0
 z0:=Tryz.sizeOf0
 v0:=Tryz.zeroValue0
 t2:=Tryz.underlying2
 a2:=Tryz.isAgg2
 z2:=Tryz.sizeOf2
 v2:=Tryz.zeroValue2
 t3:=Tryz.underlying3
 a3:=Tryz.isAgg3
 z3:=Tryz.sizeOf3
 v3:=Tryz.zeroValue3
 t4:=Tryz.underlying4
 a4:=Tryz.isAgg4
 z4:=Tryz.sizeOf4
 v4:=Tryz.zeroValue4
 t5:=Tryz.underlying5
 a5:=Tryz.isAgg5
 z5:=Tryz.sizeOf5
 v5:=Tryz.zeroValue5
 t9:=Tryz.underlying9
 a9:=Tryz.isAgg9
 z9:=Tryz.sizeOf9
 v9:=Tryz.zeroValue9
 t20:=Tryz.underlying20
 a20:=Tryz.isAgg20
 z20:=Tryz.sizeOf20
 v20:=Tryz.zeroValue20
 t37:=Tryz.underlying302
 a37:=Tryz.isAgg302
 z37:=Tryz.sizeOf302
 v37:=Tryz.zeroValue302
 t46:=Tryz.underlying143
 a46:=Tryz.isAgg143
 z46:=Tryz.sizeOf143
 v46:=Tryz.zeroValue143
 t51:=Tryz.underlying232
 a51:=Tryz.isAgg232
 z51:=Tryz.sizeOf232
 v51:=Tryz.zeroValue232
 t53:=Tryz.underlying115
 a53:=Tryz.isAgg115
 z53:=Tryz.sizeOf115
 v53:=Tryz.zeroValue115
 t171:=Tryz.underlying519
 a171:=Tryz.isAgg519
 z171:=Tryz.sizeOf519
 v171:=Tryz.zeroValue519
 t173:=Tryz.underlying521
 a173:=Tryz.isAgg521
 z173:=Tryz.sizeOf521
 v173:=Tryz.zeroValue521
 t212:=Tryz.underlying524
 a212:=Tryz.isAgg524
 z212:=Tryz.sizeOf524
 v212:=Tryz.zeroValue524
 t213:=Tryz.underlying525
 a213:=Tryz.isAgg525
 z213:=Tryz.sizeOf525
 t232:=Tryz.underlying526
 a232:=Tryz.isAgg526
 z232:=Tryz.sizeOf526
 v232:=Tryz.zeroValue526
 t233:=Tryz.underlying527
 a233:=Tryz.isAgg527
 z233:=Tryz.sizeOf527
 v233:=Tryz.zeroValue527
 g17:=by kernel_rfl
 g18:=by kernel_rfl
 g19:=by kernel_rfl
 i0:=by kernel_rfl
 i2:=by kernel_rfl
 i3:=by kernel_rfl
 i4:=by kernel_rfl
 i5:=by kernel_rfl
 i9:=by kernel_rfl
 i20:=by kernel_rfl
 i37:=by kernel_rfl
 i46:=by kernel_rfl
 i51:=by kernel_rfl
 i53:=by kernel_rfl
 i171:=by kernel_rfl
 i173:=by kernel_rfl
 i212:=by kernel_rfl
 i232:=by kernel_rfl
 i233:=by kernel_rfl
 m17:=by kernel_rfl
 m18:=by kernel_rfl
 m19:=by kernel_rfl}
end Go.Proofs
namespace Go.PL
open Go Go.Proofs Go.Sort
def d29{α:Type}[Inhabited α]{cells:α->List Go.Value}{n:Nat}(hn:∀x,(cells x).length=n):∀(l:List α)(t:Nat),t<l.length*n->(l.flatMap cells)[t]?=(cells (l[t/n]!))[t%n]?
 |[],t,h=>by simp at h|x::r,t,h=>by
   have hp:0<n:=by
    rcases Nat.eq_zero_or_pos n with h0|h0;.rw[h0]at h;simp at h
    .exact h0
   rw[List.flatMap_cons];by_cases ht:t<n;.rw[List.getElem?_append_left (by rw[hn];exact ht),Nat.div_eq_of_lt ht,Nat.mod_eq_of_lt ht];rfl
   .have h1:t=(t-n)+n:=by omega
    have h2:t/n=(t-n)/n+1:=by rw[h1,Nat.add_div_right _ hp];simp
    have h3:t%n=(t-n)%n:=by rw[h1,Nat.add_mod_right];simp
    rw[List.getElem?_append_right (by rw[hn];omega),hn,d29 hn r (t-n) (by simp only[qR,Nat.succ_mul]at h;omega),h2,h3];rfl
def c6t{α:Type}[Inhabited α]{cells:α->List Go.Value}{n:Nat}(hn:∀x,(cells x).length=n)(d:Array α):(flatK cells n d).toList=d.toList.flatMap cells:=by
 apply List.ext_getElem?;intro t;by_cases ht:t<d.size*n
 .rw[d29 hn d.toList t (by simpa using ht)];have h1:(flatK cells n d)[t]?=some ((cells (d[t/n]!))[t%n]!):=by rw[<-get_flatK cells n d t ht,getElem!_pos (flatK cells n d) t (by rw[size_flatK];exact ht)];simp
  have hp:0<n:=by
   rcases Nat.eq_zero_or_pos n with h0|h0;.rw[h0]at ht;simp at ht
   .exact h0
  have hlt:t%n<(cells (d[t/n]!)).length:=by rw[hn];exact Nat.mod_lt _ hp
  have h2:d.toList[t/n]! =d[t/n]!:=by simp[getElem!_eq_getElem?_getD,Array.getElem!_eq_getD,Array.getD_eq_getD_getElem?]
  rw[Array.getElem?_toList,h1,h2,getElem!_pos (cells (d[t/n]!)) (t%n) hlt,qG hlt]
 .rw[List.getElem?_eq_none (by simp;omega),List.getElem?_eq_none (by rw[a0p hn];simp;omega)]
section
variable {α:Type} [Inhabited α] {B:Nat} {E:TypeId} {n:Nat} {cells:α -> List Go.Value} {w w':World} {v:Go.Value} {l:List α}
def d6l(hn:∀x,(cells x).length=n){g o cap m:Nat}(h:Own B E n cells w (.slice (some ⟨g,o,none⟩) m cap) l):HoldsK cells n w g o l.toArray:=by
 intro j hj;rw[size_flatK]at hj;have hk:=c6t hn l.toArray;have hu:(l.flatMap cells)[j]?=some ((flatK cells n l.toArray)[j]!):=by
  have:(flatK cells n l.toArray).toList[j]?=some ((flatK cells n l.toArray)[j]!):=by rw[getElem!_pos (flatK cells n l.toArray) j (by rw[size_flatK];exact hj)];simp
  rw[hk]at this;simpa using this
 refine⟨?_,?_⟩;.have:=h.ca rfl j _ hu;rwa[Addr.add_lit]at this
 .rcases h with⟨hv,_⟩|⟨g',o',cap',cur,hv,_,hh,_⟩;.cases hv
  .simp only[Go.Value.slice.injEq,Option.some.injEq,Addr.mk.injEq]at hv;obtain⟨⟨rfl,_,_⟩,_,_⟩:=hv;have hM:Mb w g E cur.toList:=by show _=_;rw[hh]
   exact hM.frozen _
def d3h{F cur:Array Go.Value}{m o:Nat}(hF:F.size=m)(hc:o+m<=cur.size):((putCells id o F cur).toList.drop o).take m=F.toList:=by
 apply List.ext_getElem?;intro t;by_cases ht:t<m;.rw[List.getElem?_take_of_lt ht,List.getElem?_drop,Array.getElem?_toList];simp only[putCells,Array.getElem?_mapIdx,id];rw[Array.getElem?_eq_getElem (show o+t<cur.size by omega),Option.map_some,if_pos ⟨Nat.le_add_right _ _,by omega⟩,Array.getElem?_toList,Nat.add_sub_cancel_left,getElem!_pos F t (by omega),Array.getElem?_eq_getElem (show t<F.size by omega)]
 .rw[List.getElem?_eq_none (by simp;omega),List.getElem?_eq_none (by simp;omega)]
def e97(hn:∀x,(cells x).length=n){g o cap m q:Nat}{os:Array Obj}{d:Array α}(h:Own B E n cells w (.slice (some ⟨g,o,none⟩) m cap) l)(hd:d.size=l.length):Own B E n cells (grow (putRowK cells n (Go.Sort.ahead w q) g o d) os) (.slice (some ⟨g,o,none⟩) m cap) d.toList:=by
 rcases h with⟨hv,_⟩|⟨g',o',cap',cur,hv,hB,hh,hc,hm,hs,ht⟩;.cases hv
 .simp only[Go.Value.slice.injEq,Option.some.injEq,Addr.mk.injEq]at hv;obtain⟨⟨rfl,rfl,_⟩,hml,rfl⟩:=hv;have hlt:g<w.heap.size:=(qN.1 hh).1;have hmn:d.size*n<=cap*n:=by rw[hd];exact Nat.mul_le_mul_right _ hc
  refine .inr ⟨g,o,cap,putCells id o (flatK cells n d) cur,by rw[Array.length_toList,hd,hml],hB,?_,by rw[Array.length_toList,hd];exact hc,hm,by simp[putCells,hs],?_⟩;.show((putRowK cells n (Go.Sort.ahead w q) g o d).heap++os)[g]?=_;rw[Array.getElem?_append_left (by rw[size_putRowK];exact hlt)];show(w.heap.modify g _)[g]?=_;rw[Array.getElem?_modify,if_pos rfl,hh];rfl
  .rw[Array.length_toList,d3h (by rw[size_flatK]) (by omega),c6t hn]
def e7r{G:Nat->Prop}{g o q:Nat}{os:Array Obj}{d:Array α}(hg:G g):Ext G w (grow (putRowK cells n (Go.Sort.ahead w q) g o d) os):=⟨rfl,rfl,rfl,by show _<=((putRowK cells n (Go.Sort.ahead w q) g o d).heap++os).size;rw[Array.size_append,size_putRowK];exact Nat.le_add_right _ _,λb hb hn=>by show((putRowK cells n (Go.Sort.ahead w q) g o d).heap++os)[b]?=_;rw[Array.getElem?_append_left (by rw[size_putRowK];exact hb)];show(w.heap.modify g _)[b]?=_;rw[Array.getElem?_modify,if_neg (λe:g=b=>hn (e▸hg))]⟩
end
def e5t{α:Type}[Inhabited α](enc:α->Go.Value)(w:World)(b o:Nat)(d:Array α):putRow enc w b o d=putRowK (λx=>[enc x]) 1 w b o d:=by
 unfold putRowK putRow;congr 1;funext c;unfold putCells;refine Array.ext (by simp) λk h1 h2=>?_;simp only[Array.getElem_mapIdx,size_flatK,Nat.mul_one,id];split;.rename_i h;rw[get_flatK _ _ _ _ (by omega),Nat.div_one,Nat.mod_one];rfl
 .rfl
def e8y{α:Type}[Inhabited α]{enc:α->Go.Value}{w:World}{b o:Nat}{d:Array α}(h:HoldsK (λx=>[enc x]) 1 w b o d):Holds enc w b o d:=λj hj=>by have:=h j (by simpa using hj);rw[get_flatK _ _ _ _ (by omega),Nat.div_one,Nat.mod_one]at this;exact this
end Go.PL
namespace Go.Proofs
open Go.Shelf Go.RowKit Go.Lib Go.Sort
noncomputable def Tryz.spT:TypeInfo:=(Tryz.prog.info? 307).get (by kernel_rfl)
noncomputable def Tryz.spE:TypeInfo:=(Tryz.prog.info? 35).get (by kernel_rfl)
def Tryz.spK(n:Nat)(h2:2<=n):Lib.swapperK n Tryz.spE 25=9:=by
 have a:Tryz.spE.hasPointers=false:=by kernel_rfl
 have b:Tryz.spE.bytes=16:=by kernel_rfl
 have c:(n==0)=false:=by simp;omega
 have d:(n==1)=false:=by simp;omega
 simp[Lib.swapperK,a,b,c,d]
set_option maxHeartbeats 2000000 in
def Tryz.spLess (blk off c Bs size:Nat)(W:World)(G:Nat -> Int)(hs:W.cell? ⟨Bs,0,none⟩=some (.slice (some ⟨blk,off,none⟩) size c))
  (hc: ∀t,t<size -> W.cell? ⟨blk,off+t*2,none⟩=some (.int .i64 (G t))) (i j:Nat) (hi:i<size) (hj:j<size) (_hsz:size<4611686018427387904):
  Calls Tryz.prog 375 #[.int .i64 i,.int .i64 j,.pointer (some ⟨Bs,0,none⟩)] W λ e w'=>e= .returned (.bool (decide (G i<G j))) /\ ∃q,w'=W.drewN q:=by
 have ci:=hc i hi
 have cj:=hc j hj
 go_enter Tryz.func375,Tryz.ntmps375
 go_wp2
 go_quiet (fail)
 go_wp2
 go_ret
 exact ⟨rfl,nq,rfl⟩
end Go.Proofs
namespace Go.PL
open Go Go.Proofs Go.Sort
def Span.cells(x:Span):List Go.Value:=[.int .i64 x.From,.int .i64 x.To]
def e3o:SWO (λx y:Span=>decide (x.From<y.From)):=by
 constructor;.intro x;simp
 .intro x y z;simp only[decide_eq_true_eq];omega
 .intro x y z;simp only[decide_eq_false_iff_not];omega
set_option maxHeartbeats 2000000 in
def d0w {w0:World}(l:List Span){v:Go.Value}{B bc:Nat}(hO:Own B 35 2 Span.cells w0 v l)(hb:Mb w0 bc 307 [v])(hnb:Go.Value.ownBlock v≠some bc){r:List Span}(hF:b3w l=some r):
  Calls Tryz.prog 374 #[.iface 307 v,.func (.func 375) #[] #[.pointer (some ⟨bc,0,none⟩)]] w0 λ e w1=>e= .returned (.tuple #[]) /\ Ext (λ b=>Go.Value.ownBlock v=some b) w0 w1 /\ Own B 35 2 Span.cells w1 v r:=by
 unfold b3w f0f at hF
 by_cases h1:l.length <= 1
 ·rw [if_pos h1] at hF
  obtain rfl:=qH hF
  obtain ⟨a,cap,hv,_,_⟩:=hO.shape
  have key: ∀n,l.length=n -> Calls Tryz.prog 374 #[.iface 307 (.slice a n cap),.func (.func 375) #[] #[.pointer (some ⟨bc,0,none⟩)]] w0 (λ e w'=>e= .returned (.tuple #[]) /\ ∃os,w'=Go.Sort.grow w0 os) ->
    Calls Tryz.prog 374 #[.iface 307 v,.func (.func 375) #[] #[.pointer (some ⟨bc,0,none⟩)]] w0 λ e w1=>e= .returned (.tuple #[]) /\ Ext (λ b=>Go.Value.ownBlock v=some b) w0 w1 /\ Own B 35 2 Span.cells w1 v l:=by
   intro n hn h
   rw [hn] at hv
   rw [<- hv] at h
   refine Calls.mono h ?_
   rintro e w1 ⟨rfl,os,rfl⟩
   have hE:Ext noG w0 (Go.Sort.grow w0 os):=⟨rfl,rfl,rfl,by show _ <= (w0.heap++os).size;simp,λ b hb _=>by show (w0.heap++os)[b]? =_;rw [Array.getElem?_append_left hb]⟩
   exact ⟨rfl,hE.of_no,hO.exn hE⟩
  rcases (show l.length=0 \/ l.length=1 by omega) with h0 | h0
  ·exact key 0 h0 (Any.sort_Slice_tiny Tryz.sliceLay 307 35 Tryz.spT Tryz.spE (by kernel_rfl) (by kernel_rfl) (by kernel_rfl) (by kernel_rfl) 25 (λ _=>by kernel_rfl) a 0 cap (by omega) 429 (by kernel_rfl) (.func 375) #[] #[.pointer (some ⟨bc,0,none⟩)] w0)
  ·exact key 1 h0 (Any.sort_Slice_tiny Tryz.sliceLay 307 35 Tryz.spT Tryz.spE (by kernel_rfl) (by kernel_rfl) (by kernel_rfl) (by kernel_rfl) 25 (λ _=>by kernel_rfl) a 1 cap (by omega) 430 (by kernel_rfl) (.func 375) #[] #[.pointer (some ⟨bc,0,none⟩)] w0)
 ·rw [if_neg h1] at hF
  split at hF
  case isFalse=>cases hF
  rename_i hsz
  obtain rfl:=qH hF
  obtain ⟨a,cap,hv,hlc,hcm⟩:=hO.shape
  cases a with
  | none=>
    exfalso
    rcases hO with ⟨_,h⟩ | ⟨g,o,c',cur,hv',_⟩
    ·rw [h] at h1;simp at h1
    ·rw [hv] at hv';cases hv'
  | some ad=>
    obtain ⟨g,o,hg⟩: ∃g o,ad=⟨g,o,none⟩:=by
     rcases hO with ⟨h,_⟩ | ⟨g,o,c',cur,hv',_⟩
     ·rw [hv] at h;cases h
     ·rw [hv] at hv';cases hv';exact ⟨g,o,rfl⟩
    subst hg
    subst hv
    have hlt:g<w0.heap.size:=(hO.lt rfl).2
    have hbg:bc≠g:=λ e=>hnb (by rw [e];rfl)
    have hcell:w0.cell? ⟨bc,0,none⟩=some (.slice (some ⟨g,o,none⟩) l.toArray.size cap):=hb.ca 0 _ rfl
    have hH:=d6l (n:=2) (cells:=Span.cells) (λ _=>rfl) hO
    have h2:2 <= l.toArray.size:=by rw [List.size_toArray];omega
    have hsz':l.toArray.size<4611686018427387904:=by rw [List.size_toArray];exact hsz
    have hless:LessReadsK Tryz.prog 375 #[.pointer (some ⟨bc,0,none⟩)] Span.cells 2 (λ x y:Span=>decide (x.From<y.From)) g o l.toArray.size w0:=by
     intro m os dk hs i j hi hj
     have e:sortWorldK Span.cells 2 w0 g o m dk os=putRowK Span.cells 2 (grow (Go.Sort.ahead w0 m) os) g o dk:=by
      unfold sortWorldK;rw [putRowK_grow _ _ (Go.Sort.ahead w0 m) _ g o _ hlt]
     have hHg:HoldsK Span.cells 2 (grow (Go.Sort.ahead w0 m) os) g o l.toArray:=holdsK_grow _ _ _ _ g o _ hlt (holdsK_ahead _ _ _ _ _ _ _ hH)
     refine Tryz.spLess g o cap bc l.toArray.size _ (λ t=>dk[t]!.From) ?_ (λ t ht=> ?_) i j hi hj (by omega)
     ·rw [e,cell?_putRowK_other _ _ _ g o dk _ (by exact hbg),cell?_grow _ _ _ (by exact hb.lt)];exact hcell
     ·rw [e];exact ((holdsK_putRowK _ _ _ g o l.toArray dk hHg hs).cell (i:=t) (c:=0) (by omega) (by omega)).1
    have hS:=Any.sort_Slice_cells_eq Tryz.sliceLay 307 35 Tryz.spT Tryz.spE (by kernel_rfl) (by kernel_rfl) (by kernel_rfl) (by kernel_rfl) 25 (λ _=>by kernel_rfl) Span.cells 2 (λ _=>rfl) (by kernel_rfl) (λ _=>by kernel_rfl)
     (λ x u hu=>by simp [Span.cells] at hu;rcases hu with rfl | rfl<;>rfl) (λ x y:Span=>decide (x.From<y.From)) e3o 375 _
     (enters_of Tryz.func375 (by kernel_rfl) rfl) g o cap l.toArray h2 hsz' 437 (by rw [Tryz.spK _ h2];kernel_rfl) false
     (λ args W=>run_callFunc_extern Tryz.func437 (by kernel_rfl) (by kernel_rfl) (by kernel_rfl) (e:=Extern.ReflectliteSwapper.swap false) (by kernel_rfl) args W) w0 hless hH hlt
    have hp:=(pdq_sorts (λ x y:Span=>decide (x.From<y.From)) e3o l.toArray 0 l.toArray.size (Lib.bitLen l.toArray.size) true true (Nat.zero_le _) (Nat.le_refl _) (Or.inl rfl)).1.1
    rw [List.size_toArray] at hS hp
    generalize pdq (λ x y:Span=>decide (x.From<y.From)) l.toArray 0 l.length (Lib.bitLen l.length) true true=d at hS hp⊢
    refine Calls.mono hS ?_
    rintro e w1 ⟨rfl,q,os,rfl⟩
    exact ⟨rfl,e7r rfl,e97 (n:=2) (cells:=Span.cells) (λ _=>rfl) hO hp⟩
end Go.PL
namespace Go.PL
open Go Go.SX Go.Proofs
def mixed:Tryz.prog.follows .mixedOrders=true:=by kernel_rfl
noncomputable section
def m1k:Fent VV:=⟨⟨[.ls .yn,.ls .yn],[.v .z7]⟩,Int,λx=>i59 x.1 x.2.1,λn=>((n,()),()),none⟩
def m4g:d6d Tryz.prog 271 m1k:=j4v (U:=VV) (a:=.yn) (c:=.z7) uok (fn:=Tryz.f271) (by kernel_rfl) (by kernel_rfl) (by kernel_rfl) (by kernel_rfl) (by kernel_rfl) rfl (λn=>n) (λ_=>rfl)
def g2b:Fent VV:=⟨⟨[.v .yk,.v .yn],[.v .z7]⟩,Int,λx=>a7v x.1 x.2.1,λn=>((n,()),()),none⟩
def g9m:d6d Tryz.prog 406 g2b:=f6g (U:=VV) (a:=.yk) (b:=.yn) (c:=.z7) (fn:=Tryz.f406) (by kernel_rfl) (by kernel_rfl) (by kernel_rfl) (by kernel_rfl) (by kernel_rfl) (λx=>x) (λx=>x) (λn=>n) (λ_=>rfl) (λ_=>rfl) (λ_=>rfl)
def m09:Fent VV:=⟨⟨[.v .ym,.v .ym,.v .ym],[.v .ym,.v .ym]⟩,Int×Int,λx=>c23 x.1 x.2.1 x.2.2.1,λn=>((n.1,n.2,()),()),none⟩
def m3v:d6d Tryz.prog 427 m09:=d2m (U:=VV) (g:=g7y) (l:=Extern.MathBitsCarry.rows) (λh _ he=>g34 h he) (fn:=Tryz.f427) (by kernel_rfl) (by kernel_rfl) (by kernel_rfl) (by kernel_rfl) (by kernel_rfl) (by kernel_rfl) (a:=.ym) (λx=>x) (λn=>n) (λ_=>rfl) (λ_=>rfl)
def m04:Fent VV:=⟨⟨[.v .ym,.v .ym,.v .ym],[.v .ym,.v .ym]⟩,Int×Int,λx=>c1u x.1 x.2.1 x.2.2.1,λn=>((n.1,n.2,()),()),none⟩
def m2u:d6d Tryz.prog 428 m04:=d2m (U:=VV) (g:=g8x) (l:=Extern.MathBitsCarry.rows.tail) (λh _ he=>g3o h he) (fn:=Tryz.f428) (by kernel_rfl) (by kernel_rfl) (by kernel_rfl) (by kernel_rfl) (by kernel_rfl) (by kernel_rfl) (a:=.ym) (λx=>x) (λn=>n) (λ_=>rfl) (λ_=>rfl)
def m0a:Fent VV:=⟨⟨[.v .z7],[.v .yk]⟩,ByteArray,λx=>strconv_Itoa x.1,λb=>((b,()),()),none⟩
def m3n:SX.Spec Tryz.prog 447 m0a:=e8o (U:=VV) (a:=.z7) (c:=.yk) Tryz.laysItoa (λ_ h=>h.1) (λx=>x) (λ_=>rfl) (λx=>x) (λ_=>rfl)
def m0r:Fent VV:=⟨⟨[.ls .z7],[.ow 3 .z7]⟩,List Int,λx=>a7z x.1,w1,none⟩
def m3c:SX.Spec Tryz.prog 193 m0r:=b6g (U:=VV) (c:=.z7) (e:=3) (t:=22) (b:=4) (N:=8) uok mixed (fn:=Tryz.f193) (by kernel_rfl) (by kernel_rfl) rfl rfl (by kernel_rfl) (by kernel_rfl) (by kernel_rfl) (λl=>by kernel_rfl)
def k9e:Fent VV:=⟨⟨[.ls .zg],[.ow 205 .zg]⟩,List Credit,λx=>a5m x.1,w1,none⟩
def m3f:SX.Spec Tryz.prog 173 k9e:=b6g (U:=VV) (c:=.zg) (e:=205) (t:=97) (b:=4) (N:=16) uok mixed (fn:=Tryz.f173) (by kernel_rfl) (by kernel_rfl) rfl rfl (by kernel_rfl) (by kernel_rfl) (by kernel_rfl) (λl=>by kernel_rfl)
def m1v:Fent VV:=⟨⟨[.ls .zm],[.ow 207 .zm]⟩,List Index,λx=>a6e x.1,w1,none⟩
def m4b:SX.Spec Tryz.prog 174 m1v:=b6g (U:=VV) (c:=.zm) (e:=207) (t:=98) (b:=4) (N:=24) uok mixed (fn:=Tryz.f174) (by kernel_rfl) (by kernel_rfl) rfl rfl (by kernel_rfl) (by kernel_rfl) (by kernel_rfl) (λl=>by kernel_rfl)
def k0n:Fent VV:=⟨⟨[.ls .zo],[.ow 212 .zo]⟩,List Let,λx=>a86 x.1,w1,none⟩
def m42:SX.Spec Tryz.prog 175 k0n:=b6g (U:=VV) (c:=.zo) (e:=212) (t:=99) (b:=4) (N:=88) uok mixed (fn:=Tryz.f175) (by kernel_rfl) (by kernel_rfl) rfl rfl (by kernel_rfl) (by kernel_rfl) (by kernel_rfl) (λl=>by kernel_rfl)
def j8t:Fent VV:=⟨⟨[.ls .zl],[.ow 215 .zl]⟩,List Grant,λx=>a6f x.1,w1,none⟩
def m3d:SX.Spec Tryz.prog 176 j8t:=b6g (U:=VV) (c:=.zl) (e:=215) (t:=100) (b:=4) (N:=152) uok mixed (fn:=Tryz.f176) (by kernel_rfl) (by kernel_rfl) rfl rfl (by kernel_rfl) (by kernel_rfl) (by kernel_rfl) (λl=>by kernel_rfl)
def k01:Fent VV:=⟨⟨[.ls .zt],[.ow 217 .zt]⟩,List Reduce,λx=>a5p x.1,w1,none⟩
def m3l:SX.Spec Tryz.prog 177 k01:=b6g (U:=VV) (c:=.zt) (e:=217) (t:=101) (b:=4) (N:=80) uok mixed (fn:=Tryz.f177) (by kernel_rfl) (by kernel_rfl) rfl rfl (by kernel_rfl) (by kernel_rfl) (by kernel_rfl) (λl=>by kernel_rfl)
def m46:Fent VV:=⟨inS VV 41 .zv .z7,List Right,λx=>l41 x.1 x.2.1 x.2.2.1,w1,none⟩
def m51:SX.Spec Tryz.prog 31 m46:=l9h (U:=VV) (c:=.zv) (ci:=.z7) (e:=41) (t:=42) (i:=3) (b:=4) (fo:=74) (bytes:=32) (toI:=λx=>x) (cells:=λx:Right=>[.int .i64 x.State,.int .i64 x.Basis,.int .i64 x.Currency,.int .i64 x.Amount]) (c4:=cA (cK4 (Tryz.f31.body.getD .skip))) (cT:=cKT (Tryz.f31.body.getD .skip)) uok mixed (fn:=Tryz.f31) (by kernel_rfl) (by kernel_rfl) rfl rfl (by kernel_rfl) (by kernel_rfl) (by kernel_rfl) (by decide) (by decide) (λ_=>rfl) (λx u h=>by simp only[qO,List.not_mem_nil,or_false]at h;rcases h with rfl|rfl|rfl|rfl<;>rfl) (λargs w=>run_callFunc_extern (fn:=Tryz.f74) (by kernel_rfl) (by kernel_rfl) (by kernel_rfl) (by kernel_rfl) (e:=Extern.SlicesOverlaps.overlaps #[42,42] #[4]) (by kernel_rfl) args w) (λG w cs x h=>by obtain⟨_,css,rfl,hh⟩:=a91.1 h;match css,hh with|[a0,a1,a2,a3],⟨h0,h1,h2,h3,_⟩=>rw[show a0=_ from h0,show a1=_ from h1,show a2=_ from h2,show a3=_ from h3];rfl) (λG w x=>a91.2 ⟨rfl,[[.int .i64 x.State],[.int .i64 x.Basis],[.int .i64 x.Currency],[.int .i64 x.Amount]],rfl,⟨rfl,rfl,rfl,rfl,trivial⟩⟩) (λ_=>rfl) (λ_ _=>by kernel_rfl) (by kernel_rfl)
def m4a:Fent VV:=⟨⟨[],[]⟩,Unit,λ_=>none,λ_=>((),()),some (.qy (slQ 307 35 .y0 375 b3w))⟩
def K374:Kn Tryz.prog VV:=⟨374,m4a,show d6v Tryz.prog 374 _ from g47 (U:=VV) (c:=.y0) (cells:=Span.cells) (a14 (fn:=Tryz.f374) (by kernel_rfl) (by kernel_rfl) (by kernel_rfl)) (λG w cs x h=>by obtain⟨_,css,rfl,hh⟩:=a91.1 h;match css,hh with|[a,b],⟨h1,h2,_⟩=>rw[show a=_ from h1,show b=_ from h2];rfl) (λG w x=>a91.2 ⟨rfl,[[.int .i64 x.From],[.int .i64 x.To]],rfl,⟨rfl,rfl,trivial⟩⟩) λl r w v bc hO hM hne hF=>d0w l hO hM hne hF⟩
def m3e:Fent VV:=⟨⟨[],[]⟩,Unit,λ_=>none,λ_=>((),()),some (.qy (soQ 3 .z7 b8s))⟩
def j9t:Fent VV:=⟨⟨[],[]⟩,Unit,λ_=>none,λ_=>((),()),some (.qy (skQ 277 315 3 .z7 λx=>x))⟩
def K31:Kn Tryz.prog VV:=⟨31,m46,knS rfl ⟨m51,λ_ _=>by kernel_rfl⟩⟩
def K173:Kn Tryz.prog VV:=⟨173,k9e,knS rfl ⟨m3f,λ_ _=>by kernel_rfl⟩⟩
def K174:Kn Tryz.prog VV:=⟨174,m1v,knS rfl ⟨m4b,λ_ _=>by kernel_rfl⟩⟩
def K175:Kn Tryz.prog VV:=⟨175,k0n,knS rfl ⟨m42,λ_ _=>by kernel_rfl⟩⟩
def K176:Kn Tryz.prog VV:=⟨176,j8t,knS rfl ⟨m3d,λ_ _=>by kernel_rfl⟩⟩
def l0v:Kn Tryz.prog VV:=⟨177,k01,knS rfl ⟨m3l,λ_ _=>by kernel_rfl⟩⟩
def K193:Kn Tryz.prog VV:=⟨193,m0r,knS rfl ⟨m3c,λ_ _=>by kernel_rfl⟩⟩
def K447:Kn Tryz.prog VV:=⟨447,m0a,knS rfl ⟨m3n,λ_ _=>by kernel_rfl⟩⟩
def g80:Fent VV:=⟨⟨[],[]⟩,Unit,λ_=>none,λ_=>((),()),some (.seq 172 54 (some .y6))⟩
def K116:Kn Tryz.prog VV:=⟨116,g80,show b9c _ _ _ _ from c5j (tS:=54) (tF:=181) (tG:=180) (p1:= "iter.go:26") (p2:= "iter.go:27") (a14 (fn:=Tryz.f116) (by kernel_rfl) (by kernel_rfl) (by kernel_rfl)) (fn:=Tryz.f116) (by kernel_rfl) (by kernel_rfl) rfl rfl⟩
def m3p:Fent VV:=⟨⟨[],[]⟩,Unit,λ_=>none,λ_=>((),()),some (.seq 257 25 (some .zx))⟩
def K192:Kn Tryz.prog VV:=⟨192,m3p,show b9c _ _ _ _ from c5j (tS:=25) (tF:=266) (tG:=265) (p1:= "iter.go:26") (p2:= "iter.go:27") (a14 (fn:=Tryz.f192) (by kernel_rfl) (by kernel_rfl) (by kernel_rfl)) (fn:=Tryz.f192) (by kernel_rfl) (by kernel_rfl) rfl rfl⟩
def m4d:Fent VV:=⟨⟨[],[]⟩,Unit,λ_=>none,λ_=>((),()),some (.seq 277 315 none)⟩
def l0g:Kn Tryz.prog VV:=⟨237,m4d,show b9c _ _ _ _ from c5j (tS:=315) (tF:=318) (tG:=317) (p1:= "iter.go:25") (p2:= "iter.go:26") (a14 (fn:=Tryz.f237) (by kernel_rfl) (by kernel_rfl) (by kernel_rfl)) (fn:=Tryz.f237) (by kernel_rfl) (by kernel_rfl) rfl rfl⟩
def g08:Fent VV:=⟨⟨[],[]⟩,Unit,λ_=>none,λ_=>((),()),some (.seq 397 135 (some .y3))⟩
def K360:Kn Tryz.prog VV:=⟨360,g08,show b9c _ _ _ _ from c5j (tS:=135) (tF:=447) (tG:=446) (p1:= "iter.go:26") (p2:= "iter.go:27") (a14 (fn:=Tryz.f360) (by kernel_rfl) (by kernel_rfl) (by kernel_rfl)) (fn:=Tryz.f360) (by kernel_rfl) (by kernel_rfl) rfl rfl⟩
def m3u:Fent VV:=⟨⟨[],[]⟩,Unit,λ_=>none,λ_=>((),()),some (.seq 398 22 (some .z7))⟩
def k1j:Kn Tryz.prog VV:=⟨361,m3u,show b9c _ _ _ _ from c5j (tS:=22) (tF:=318) (tG:=317) (p1:= "iter.go:37") (p2:= "iter.go:38") (a14 (fn:=Tryz.f361) (by kernel_rfl) (by kernel_rfl) (by kernel_rfl)) (fn:=Tryz.f361) (by kernel_rfl) (by kernel_rfl) rfl rfl⟩
def m3q:Fent VV:=⟨⟨[],[]⟩,Unit,λ_=>none,λ_=>((),()),some (.seq 461 401 (some .ze))⟩
def K451:Kn Tryz.prog VV:=⟨451,m3q,show b9c _ _ _ _ from c5j (tS:=401) (tF:=507) (tG:=506) (p1:= "iter.go:26") (p2:= "iter.go:27") (a14 (fn:=Tryz.f451) (by kernel_rfl) (by kernel_rfl) (by kernel_rfl)) (fn:=Tryz.f451) (by kernel_rfl) (by kernel_rfl) rfl rfl⟩
def bkL:List (Nat×TypeId×TyC×Bool):=[(172,54,.y6,false),(257,25,.zx,false),(397,135,.y3,false),(398,22,.z7,true),(461,401,.ze,false)]
def bkA:h1j (U:=VV) Tryz.prog bkL:=⟨⟨103,⟨⟨Tryz.f172,3,4,245,by kernel_rfl,⟨by kernel_rfl,rfl⟩,rfl⟩,λ_ _=>a14 (fn:=Tryz.f172) (by kernel_rfl) (by kernel_rfl) (by kernel_rfl) _ _,by kernel_rfl,by kernel_rfl⟩,λ_=>by kernel_rfl,λ_=>by kernel_rfl⟩,⟨65,⟨⟨Tryz.f257,3,4,346,by kernel_rfl,⟨by kernel_rfl,rfl⟩,rfl⟩,λ_ _=>a14 (fn:=Tryz.f257) (by kernel_rfl) (by kernel_rfl) (by kernel_rfl) _ _,by kernel_rfl,by kernel_rfl⟩,λ_=>by kernel_rfl,λ_=>by kernel_rfl⟩,⟨354,⟨⟨Tryz.f397,3,4,468,by kernel_rfl,⟨by kernel_rfl,rfl⟩,rfl⟩,λ_ _=>a14 (fn:=Tryz.f397) (by kernel_rfl) (by kernel_rfl) (by kernel_rfl) _ _,by kernel_rfl,by kernel_rfl⟩,λ_=>by kernel_rfl,λ_=>by kernel_rfl⟩,⟨3,⟨⟨Tryz.f398,3,4,85,by kernel_rfl,⟨by kernel_rfl,rfl⟩,rfl⟩,λ_ _=>a14 (fn:=Tryz.f398) (by kernel_rfl) (by kernel_rfl) (by kernel_rfl) _ _,by kernel_rfl,by kernel_rfl⟩,λ_=>by kernel_rfl,λ_=>by kernel_rfl⟩,⟨439,⟨⟨Tryz.f461,3,4,515,by kernel_rfl,⟨by kernel_rfl,rfl⟩,rfl⟩,λ_ _=>a14 (fn:=Tryz.f461) (by kernel_rfl) (by kernel_rfl) (by kernel_rfl) _ _,by kernel_rfl,by kernel_rfl⟩,λ_=>by kernel_rfl,λ_=>by kernel_rfl⟩,trivial⟩
abbrev mkR:=@knR Tryz.prog VV uok mixed bkL bkA
def K271:Kn Tryz.prog VV:=⟨271,m1k,knX rfl m4g⟩
def K406:Kn Tryz.prog VV:=⟨406,g2b,knX rfl g9m⟩
def K427:Kn Tryz.prog VV:=⟨427,m09,knX rfl m3v⟩
def K428:Kn Tryz.prog VV:=⟨428,m04,knX rfl m2u⟩
abbrev mk:=@kn Tryz.prog VV uok mixed
def K43:=mk 43 Tryz.f43 ⟨[.v .z7],[.v .yk]⟩ (cur1 i8) w1 u1 (sk 2 (.s (.l [] [] [.v 0 .z7,.v 3 .yk] .n) .n)) []
def K8:=mk 8 Tryz.f8 ⟨[.v .z7,.v .z7],[.v .z7]⟩ (cur2 b7) w1 u1 .n []
def K18:=mk 18 Tryz.f18 ⟨[.ls .z7,.v .z7],[.v .z7]⟩ (cur2 c5) w1 u1 .n [K8]
def K87:=mk 87 Tryz.f87 ⟨[.v .z7],[.v .yk]⟩ (cur1 a01) w1 u1 .n [K43]
def K44:=mk 44 Tryz.f44 ⟨[.v .yk,.ls .z7,.v .z7],[.v .yk]⟩ (cur3 a38) w1 u1 (sk 3 (.j [] [.ls 1 .z7,.v 2 .z7,.v 7 .yk,.v 8 .yk] .n (.s .n (.j [] [.ls 1 .z7,.v 2 .z7,.v 7 .yk,.v 8 .yk] .n (.j [] [.ls 1 .z7,.v 2 .z7,.v 7 .yk,.v 8 .yk] .n (.s .n (.s .n (.s .n (.s .n (.j [] [.ls 1 .z7,.v 2 .z7,.v 8 .yk] .n (.s .n (.s .n (.j [] [.ls 1 .z7,.v 2 .z7,.v 8 .yk] .n .n))))))))))))) [K8,K18,K43,K87]
def K17:=mk 17 Tryz.f17 ⟨[.v .z7,.ls .z7],[.v .yk]⟩ (cur2 b10) w1 u1 (sk 3 (.j [] [.v 0 .z7,.ls 1 .z7,.v 6 .yk] .n .n)) [K8,K18,K43,K44]
def l13:=mk 201 Tryz.f201 ⟨[.v .yk,.v .z7],[.v .z7]⟩ (cur2 b16) w1 u1 (sk 2 (.s (.l [0] [] [.v 1 .z7,.v 5 .z6] .n) .n)) []
def m4v:=mk 202 Tryz.f202 ⟨[.v .yn],[.v .z6]⟩ (cur1 a3q) w1 u1 .n []
def m4q:=mk 204 Tryz.f204 ⟨[.v .yn],[.v .z6]⟩ (cur1 a30) w1 u1 .n []
def K203:=mk 203 Tryz.f203 ⟨[.v .yk,.v .z7,.v .z6],[.v .z7]⟩ (cur3 a9f) w1 u1 (sk 2 (.s (.l [0,1,2] [] [.v 7 .z7] .n) .n)) [m4v,m4q]
def K130:=mk 130 Tryz.f130 ⟨[.v .yk],[.v .yk,.v .yk,.v .z7,.v .z6]⟩ (cur1 a6z) (λb=>((b.1,(b.2.1,(b.2.2.1,(b.2.2.2,())))),())) (λp=>(p.1.1,p.1.2.1,p.1.2.2.1,p.1.2.2.2.1)) (sk 2 (.j [] [.v 0 .yk,.v 6 .z7] .n (.s .n (.s (.s .n (.l [0,6] [] [.v 8 .z7,.v 9 .z7] .n)) (.s .n (.j [] [.v 6 .z7,.v 10 .yk,.v 11 .yk] .n (.s (.s .n (.l [6,10,11] [] [.v 12 .z7] .n)) .n))))))) [m4q]
def K208:=mk 208 Tryz.f208 ⟨[.v .yk],[.v .z7,.v .z6]⟩ (cur1 a4m) w2 u2 (sk 2 (.s (.s .n (.l [0] [] [.v 4 .z7,.v 5 .z7] .n)) .n)) []
def l17:=mk 126 Tryz.f126 ⟨[.v .z7],[.v .z6]⟩ (cur1 b18) w1 u1 .n []
def K76:=mk 76 Tryz.f76 ⟨[.v .z7,.v .z7],[.v .z7]⟩ (cur2 a6b) w1 u1 .n [l17]
def K34:=mk 34 Tryz.f34 ⟨[.v .z7],[.v .z7]⟩ (cur1 a9y) w1 u1 (sk 2 (.s (.s .n (.l [0] [] [.v 3 .z7,.v 4 .z7] .n)) .n)) [K76]
def h1y:=mk 209 Tryz.f209 ⟨[.v .z7,.v .z7,.v .z7],[.v .z7,.v .z6]⟩ (cur3 b22) w2 u2 .n [K34,K76]
def g6w:=mk 132 Tryz.f132 ⟨[.v .yk],[.v .z7,.v .z6]⟩ (cur1 a47) w2 u2 .n [K208,h1y]
def K205:=mk 205 Tryz.f205 ⟨[.v .yk,.v .z7],[.v .z7]⟩ (cur2 b1a) w1 u1 (.s .n (.j [] [.v 0 .yk,.v 1 .z7] .n .n)) []
def l0l:=mk 127 Tryz.f127 ⟨[.v .yk,.v .z7],[.v .y4,.v .z7,.v .z7]⟩ (cur2 b15) w3 u3 (sk 5 (.j [] [.v 0 .yk,.v 1 .z7,.bx 4 2 148 .y4,.v 7 .z7,.v 8 .z7,.v 9 .z6] .n .n)) [K130,g6w,l13,m4v,K203,m4q,K205]
def K77:=mk 77 Tryz.f77 ⟨[.v .yk],[.ow 148 .y4,.v .z7,.v .z7]⟩ (cur1 b25) w3 u3 (sk 4 (.l [0] [] [.ow 5 1 148 .y4,.v 6 .z7] .n)) [l0l]
def K35:=mk 35 Tryz.f35 ⟨[.v .yk],[.bo 93 .yh,.v .z7,.v .z7]⟩ (cur1 b02) w3 u3 .n [K77]
def K82:=mk 82 Tryz.f82 ⟨[.rp 93 .yh,.v .yk],[.v .z6]⟩ (cur2 u9) w1 u1 .n []
def K39:=mk 39 Tryz.f39 ⟨[.io 93 .yh,.v .yk],[.v .z6]⟩ (cur2 d7) (λb=>((b.1,()),(b.2,()))) (λp=>(p.1.1,p.2.1)) .n [K82]
def K78:=mk 78 Tryz.f78 ⟨[.io 93 .yh],[]⟩ (cur1 j8) (λb=>((),(b,()))) (λp=>p.2.1) .n []
def K36:=mk 36 Tryz.f36 ⟨[.io 93 .yh,.v .yk],[]⟩ (cur2 b9) (λb=>((),(b,()))) (λp=>p.2.1) .n [K39,K78]
def K79:=mk 79 Tryz.f79 ⟨[.rp 93 .yh,.v .z7],[.v .z6]⟩ (cur2 p8) w1 u1 .n []
def l0m:=mk 128 Tryz.f128 ⟨[.v .yk],[.v .z6]⟩ (cur1 a99) w1 u1 (.s .n (.s (.s .n (.l [0] [] [.v 3 .z7] .n)) .n)) [m4v,m4q]
def K129:=mk 129 Tryz.f129 ⟨[.v .yk],[.v .z6]⟩ (cur1 a7o) w1 u1 .n []
def K80:=mk 80 Tryz.f80 ⟨[.v .yk],[.v .z6]⟩ (cur1 a2e) w1 u1 .n [l0m,K129]
def K37:=mk 37 Tryz.f37 ⟨[.io 93 .yh],[.v .yk]⟩ (cur1 a0w) (λb=>((b.1,()),(b.2,()))) (λp=>(p.1.1,p.2.1)) .n [K78,K79,K80]
def h2k:=mk 207 Tryz.f207 ⟨[.v .z7],[.v .ym]⟩ (cur1 a43) w1 u1 .n []
def K155:=mk 155 Tryz.f155 ⟨[.v .ym],[.v .z7]⟩ (cur1 b8x) w1 u1 (.s .n (.j [] [.v 0 .ym,.v 2 .z7] .n (.j [] [.v 0 .ym,.v 2 .z7] .n .n))) []
def j8e:=mk 222 Tryz.f222 ⟨[.v .ym],[.v .z7]⟩ (cur1 a7n) w1 u1 .n [K155]
def m3h:=mk 157 Tryz.f157 ⟨[.v .ym,.v .ym,.v .ym],[.v .ym,.v .ym]⟩ (cur3 a8o) w2 u2 (.s .n (.j [] [.v 0 .ym,.v 1 .ym,.v 2 .ym] .n (.j [] [.v 0 .ym,.v 1 .ym,.v 2 .ym] .n (.s .n (.s .n (.s .n (.s .n (.s .n (.s .n (.s .n (.s .n (.s .n (.s .n (.s .n (.j [] [.v 2 .ym,.v 8 .ym,.v 9 .ym,.v 10 .ym,.v 11 .ym,.v 13 .ym,.v 14 .ym,.v 15 .ym] (.l [2,8,9,10,11,13,14] [] [.v 15 .ym,.v 16 .ym] .n) (.s .n (.s .n (.s .n (.j [] [.v 2 .ym,.v 8 .ym,.v 14 .ym,.v 15 .ym,.v 17 .ym,.v 18 .ym] (.l [2,8,9,10,14,15,17] [] [.v 16 .ym,.v 18 .ym] .n) .n))))))))))))))))))) [j8e]
def K262:=mk 262 Tryz.f262 ⟨[.v .yg,.v .ym],[.v .yg,.v .ym]⟩ (cur2 a3h) w2 u2 .n [m3h]
def K263:=mk 263 Tryz.f263 ⟨[.v .ym,.v .ym],[.v .ym]⟩ (cur2 a9s) w1 u1 (.s .n (.s (.l [] [] [.v 0 .ym,.v 1 .ym] .n) .n)) []
def K206:=mk 206 Tryz.f206 ⟨[.v .z6,.v .yg,.v .ym],[.v .zk,.v .z7]⟩ (cur3 b2l) w2 u2 .n [K262,K263]
def h1r:=mk 131 Tryz.f131 ⟨[.v .z7,.v .z7],[.v .zk,.v .z7]⟩ (cur2 a3r) w2 u2 .n [K206,h2k]
def K81:=mk 81 Tryz.f81 ⟨[.v .yk],[.v .zk,.v .z7,.v .z6]⟩ (cur1 a2x) w3 u3 (sk 4 (.s (.s .n (.l [5,6,7] [] [.bx 2 1 51 .zk,.v 9 .z7,.v 10 .z7,.v 11 .z7] .n)) .n)) [K130,h1r]
def K38:=mk 38 Tryz.f38 ⟨[.io 93 .yh,.v .z7,.v .z7],[.v .z7]⟩ (cur3 s7) (λb=>((b.1,()),(b.2,()))) (λp=>(p.1.1,p.2.1)) .n [K78,K79,K81]
def K83:=mk 83 Tryz.f83 ⟨[.v .yk],[.v .z7]⟩ (cur1 b09) w1 u1 .n [g6w]
def h0q:=mk 133 Tryz.f133 ⟨[.v .yk],[.v .z7]⟩ (cur1 a8l) w1 u1 .n []
def j9g:=mk 134 Tryz.f134 ⟨[.v .yk],[.v .z7]⟩ (cur1 a52) w1 u1 .n []
def j9s:=mk 135 Tryz.f135 ⟨[.v .yk],[.v .z7]⟩ (cur1 a8f) w1 u1 .n []
def K84:=mk 84 Tryz.f84 ⟨[.io 93 .yh,.v .z7],[.v .z7]⟩ (cur2 a0m) (λb=>((b.1,()),(b.2,()))) (λp=>(p.1.1,p.2.1)) .n [K78,K79,h0q,j9g,j9s]
def m4k:=mk 268 Tryz.f268 ⟨[.v .z7],[.v .z7]⟩ (cur1 a8e) w1 u1 .n []
def K265:=mk 265 Tryz.f265 ⟨[.v .z7],[.v .z7]⟩ (cur1 b05) w1 u1 (.s .n (.s (.s .n (.s .n (.s .n (.s .n (.s .n (.s .n (.s .n (.s .n (.s .n (.j [] [.v 3 .z7,.v 12 .z6] .n (.s .n (.j [] [.v 3 .z7,.v 19 .z6] .n .n)))))))))))) .n)) []
def K266:=mk 266 Tryz.f266 ⟨[.v .z7],[.v .yk]⟩ (cur1 a96) w1 u1 .n []
def K211:=mk 211 Tryz.f211 ⟨[.rp 93 .yh,.v .z7],[.v .z7]⟩ (cur2 a3a) w1 u1 (.s .n (.s (.s .n (.l [0,1] [] [.v 5 .z7] .n)) .n)) [K82,K265,K266]
def l6f:Sig VV:=⟨[.io 93 .yh,.v .z7],[.v .zi]⟩
def l59(R:eQ):Fent VV:=⟨l6f,Expr×rQ,λx=>R.f_pensionref5_reader_expr x.1 x.2.1,λb=>((b.1,()),(b.2,())),none⟩
def m48:Fent VV:=l59 (c8 FU)
def m0c:Ress VV l6f.rs×Outs VV l6f.ps->Expr×rQ:=λp=>(p.1.1,p.2.1)
def m06:Ann VV.C:=(.s .n (.s .n (.s .n (.s .n (.s (.l [1] [] [.bx 0 0 93 .yh,.of 4 4 3 210 .zi,.bm 4 2 210 .zi [(4,3)],.bx 8 4 210 .zi] .n) .n)))))
def l6p:Sig VV:=⟨[.io 93 .yh],[.v .zi]⟩
def l7i(R:eQ):Fent VV:=⟨l6p,Expr×rQ,λx=>R.f_pensionref5_reader_factor x.1,λb=>((b.1,()),(b.2,())),none⟩
def m0y:Ress VV l6p.rs×Outs VV l6p.ps->Expr×rQ:=λp=>(p.1.1,p.2.1)
def m11:Ann VV.C:=.n
def l6i:Sig VV:=⟨[.io 93 .yh,.v .z7],[.v .zi]⟩
def l7n(R:eQ):Fent VV:=⟨l6i,Expr×rQ,λx=>R.f_pensionref5_reader_call x.1 x.2.1,λb=>((b.1,()),(b.2,())),none⟩
def m1d:Ress VV l6i.rs×Outs VV l6i.ps->Expr×rQ:=λp=>(p.1.1,p.2.1)
def m1a:Ann VV.C:=.n
def m0p(R:eQ):Phi VV:=λf ys=>lkF f ys [K36.e,K39.e,(136,l59 R),(210,l7i R),K211.e]
def m2l(R:eQ)(hr136:SX.Spec Tryz.prog 136 (l59 R))(hr210:SX.Spec Tryz.prog 210 (l7i R)):OKΦ Tryz.prog (m0p R):=okl ⟨K36.ok,K39.ok,knS rfl ⟨hr136,λ_ _=>by kernel_rfl⟩,knS rfl ⟨hr210,λ_ _=>by kernel_rfl⟩,K211.ok,trivial⟩
def m39(R:eQ):∀x,c5v Tryz.prog (m0p R) l6f m0c Tryz.f136 m06 x=a3b R x.1 x.2.1:=λx=>by kernel_rfl
def m1q:c67 Tryz.f136 l6f=true:=by kernel_rfl
def m1j(R:eQ):Phi VV:=λf ys=>lkF f ys [K36.e,K37.e,K38.e,K39.e,K79.e,K81.e,K82.e,(136,l59 R),(264,l7n R)]
def m1x(R:eQ)(hr136:SX.Spec Tryz.prog 136 (l59 R))(hr264:SX.Spec Tryz.prog 264 (l7n R)):OKΦ Tryz.prog (m1j R):=okl ⟨K36.ok,K37.ok,K38.ok,K39.ok,K79.ok,K81.ok,K82.ok,knS rfl ⟨hr136,λ_ _=>by kernel_rfl⟩,knS rfl ⟨hr264,λ_ _=>by kernel_rfl⟩,trivial⟩
def m3b(R:eQ):∀x,c5v Tryz.prog (m1j R) l6p m0y Tryz.f210 m11 x=a2a R x.1:=λx=>by kernel_rfl
def m16:c67 Tryz.f210 l6p=true:=by kernel_rfl
def m10(R:eQ):Phi VV:=λf ys=>lkF f ys [K36.e,(136,l59 R),m4k.e]
def m2a(R:eQ)(hr136:SX.Spec Tryz.prog 136 (l59 R)):OKΦ Tryz.prog (m10 R):=okl ⟨K36.ok,knS rfl ⟨hr136,λ_ _=>by kernel_rfl⟩,m4k.ok,trivial⟩
def m38(R:eQ):∀x,c5v Tryz.prog (m10 R) l6i m1d Tryz.f264 m1a x=a3d R x.1 x.2.1:=λx=>by kernel_rfl
def m1b:c67 Tryz.f264 l6i=true:=by kernel_rfl
def a7d:∀n,SX.Spec Tryz.prog 136 (l59 (c8 n))/\SX.Spec Tryz.prog 210 (l7i (c8 n))/\SX.Spec Tryz.prog 264 (l7n (c8 n))|0=>⟨(λ_ _ h=>(by cases(show none=some _ from h))),(λ_ _ h=>(by cases(show none=some _ from h))),(λ_ _ h=>(by cases(show none=some _ from h)))⟩|n+1=>let⟨h136,h210,h264⟩:=a7d n;⟨a2m (fe:=l59 (c8 (n+1))) uok (m2l (c8 n) h136 h210) mixed (fn:=Tryz.f136) (by kernel_rfl) m0c m06 (d8 m1q).1 (d8 m1q).2 (λ_=>rfl) (m39 (c8 n)),a2m (fe:=l7i (c8 (n+1))) uok (m1x (c8 n) h136 h264) mixed (fn:=Tryz.f210) (by kernel_rfl) m0y m11 (d8 m16).1 (d8 m16).2 (λ_=>rfl) (m3b (c8 n)),a2m (fe:=l7n (c8 (n+1))) uok (m2a (c8 n) h136) mixed (fn:=Tryz.f264) (by kernel_rfl) m1d m1a (d8 m1b).1 (d8 m1b).2 (λ_=>rfl) (m38 (c8 n))⟩
def k10:Kn Tryz.prog VV:=⟨136,m48,knS rfl ⟨(a7d FU).1,λ_ _=>by kernel_rfl⟩⟩
def K85:=mk 85 Tryz.f85 ⟨[.io 93 .yh,.im 103 .y6 [(2,2),(3,3),(4,4),(5,5),(6,6)],.po 1 2 205 .zg,.po 1 3 207 .zm,.po 1 4 212 .zo,.po 1 5 215 .zl,.po 1 6 217 .zt],[]⟩ (λx=>a39 x.1 x.2.1 x.2.2.1 x.2.2.2.1 x.2.2.2.2.1 x.2.2.2.2.2.1 x.2.2.2.2.2.2.1) (λb=>((),(b.1,(b.2.1,(b.2.2.1,(b.2.2.2.1,(b.2.2.2.2.1,(b.2.2.2.2.2.1,(b.2.2.2.2.2.2,()))))))))) (λp=>(p.2.1,p.2.2.1,p.2.2.2.1,p.2.2.2.2.1,p.2.2.2.2.2.1,p.2.2.2.2.2.2.1,p.2.2.2.2.2.2.2.1)) (.s (.s .n (.s (.s .n (.j [] [.bx 0 0 93 .yh,.of 1 2 7 205 .zg,.of 1 3 8 207 .zm,.of 1 4 9 212 .zo,.of 1 5 10 215 .zl,.of 1 6 11 217 .zt,.bm 1 1 103 .y6 [(2,7),(3,8),(4,9),(5,10),(6,11)],.bx 4 12 205 .zg] .n .n)) (.s .n (.s (.s .n (.j [] [.bx 0 0 93 .yh,.of 1 2 7 205 .zg,.of 1 3 8 207 .zm,.of 1 4 9 212 .zo,.of 1 5 10 215 .zl,.of 1 6 11 217 .zt,.bm 1 1 103 .y6 [(2,7),(3,8),(4,9),(5,10),(6,11)],.bx 6 12 207 .zm] .n (.j [] [.bx 0 0 93 .yh,.of 1 2 7 205 .zg,.of 1 3 8 207 .zm,.of 1 4 9 212 .zo,.of 1 5 10 215 .zl,.of 1 6 11 217 .zt,.bm 1 1 103 .y6 [(2,7),(3,8),(4,9),(5,10),(6,11)],.bx 6 12 207 .zm] .n .n))) .n)))) .n) [K36,K37,K38,K39,K78,K79,K81,K84,k10]
def K40:=mk 40 Tryz.f40 ⟨[.io 93 .yh],[.v .y6]⟩ (cur1 a2o) (λb=>((b.1,()),(b.2,()))) (λp=>(p.1.1,p.2.1)) (sk 3 (.j [] [.bx 0 0 93 .yh,.of 2 2 2 205 .zg,.of 2 3 3 207 .zm,.of 2 4 4 212 .zo,.of 2 5 5 215 .zl,.of 2 6 6 217 .zt,.bm 2 1 103 .y6 [(2,2),(3,3),(4,4),(5,5),(6,6)],.of 3 2 8 205 .zg,.of 3 3 9 207 .zm,.of 3 4 10 212 .zo,.of 3 5 11 215 .zl,.of 3 6 12 217 .zt,.bm 3 7 103 .y6 [(2,8),(3,9),(4,10),(5,11),(6,12)]] .n (.s .n (.s .n (.s .n (.s .n (.s .n (.s (.l [] [] [.bx 0 0 93 .yh,.of 2 2 2 205 .zg,.of 2 3 3 207 .zm,.of 2 4 4 212 .zo,.of 2 5 5 215 .zl,.of 2 6 6 217 .zt,.bm 2 1 103 .y6 [(2,2),(3,3),(4,4),(5,5),(6,6)],.of 3 2 8 205 .zg,.of 3 3 9 207 .zm,.of 3 4 10 212 .zo,.of 3 5 11 215 .zl,.of 3 6 12 217 .zt,.bm 3 7 103 .y6 [(2,8),(3,9),(4,10),(5,11),(6,12)]] (.s (.s (.g [5]) .n) .n)) .n)))))))) [K36,K38,K39,K78,K79,K83,K84,K85]
def K41:=mk 41 Tryz.f41 ⟨[.rp 93 .yh],[.v .z7]⟩ (cur1 a3s) w1 u1 .n []
def K137:=mk 137 Tryz.f137 ⟨[.v .z7],[.v .z6]⟩ (cur1 a6n) w1 u1 .n []
def K138:=mk 138 Tryz.f138 ⟨[.v .zw],[.v .z6]⟩ (cur1 a3c) w1 u1 .n []
def K139:=mk 139 Tryz.f139 ⟨[.v .z7,.v .z7],[.v .yk]⟩ (cur2 a3t) w1 u1 (sk 2 (.s (.s .n (.l [0,1] [] [.ow 5 2 9 .yk,.v 6 .z7] .n)) .n)) [h0q,j9g,j9s]
def h31:=mk 212 Tryz.f212 ⟨[.v .zk],[.v .z6]⟩ (cur1 a1h) w1 u1 .n [h2k,K263]
def k1w:=mk 267 Tryz.f267 ⟨[.v .z7,.v .z7],[.v .yk]⟩ (cur2 a5w) w1 u1 (sk 2 (.s (.l [1] [] [.v 0 .z7,.v 5 .yk] .n) .n)) []
def K213:=mk 213 Tryz.f213 ⟨[.v .zk],[.v .yk]⟩ (cur1 a2n) w1 u1 (sk 3 (.j [] [.bx 1 1 51 .zk,.v 3 .yk] .n .n)) [h2k,h31,k1w]
def m4s:=mk 140 Tryz.f140 ⟨[.v .zk,.v .z7],[.v .yk,.v .z6]⟩ (cur2 a1g) w2 u2 (sk 6 (.j [] [.v 1 .z7,.v 7 .yk,.v 8 .z7] .n (.s (.s .n (.l [1] [] [.v 7 .yk,.v 8 .z7,.v 9 .z7] .n)) .n))) [h31,K213]
def l6m:Sig VV:=⟨[.v .zi],[.v .z7]⟩
def l6h(R:Ring_pensionref5_Depth):Fent VV:=⟨l6m,Int,λx=>R.f_pensionref5_Depth x.1,λb=>((b,()),()),none⟩
def l02:Fent VV:=l6h (s5 FU)
def m1c:Ress VV l6m.rs×Outs VV l6m.ps->Int:=λp=>p.1.1
def m05:Ann VV.C:=(.s .n (.s .n (.s (.s .n (.l [] [] [.bx 1 1 210 .zi,.v 3 .z7,.v 4 .z7] .n)) .n)))
def m1o(R:Ring_pensionref5_Depth):Phi VV:=λf ys=>lkF f ys [(214,l6h R)]
def m2k(R:Ring_pensionref5_Depth)(hr214:SX.Spec Tryz.prog 214 (l6h R)):OKΦ Tryz.prog (m1o R):=okl ⟨knS rfl ⟨hr214,λ_ _=>by kernel_rfl⟩,trivial⟩
def m3t(R:Ring_pensionref5_Depth):∀x,c5v Tryz.prog (m1o R) l6m m1c Tryz.f214 m05 x=a7r R x.1:=λx=>by kernel_rfl
def m01:c67 Tryz.f214 l6m=true:=by kernel_rfl
def b0v:∀n,SX.Spec Tryz.prog 214 (l6h (s5 n))|0=>(λ_ _ h=>(by cases(show none=some _ from h)))|n+1=>let h214:=b0v n;a2m (fe:=l6h (s5 (n+1))) uok (m2k (s5 n) h214) mixed (fn:=Tryz.f214) (by kernel_rfl) m1c m05 (d8 m01).1 (d8 m01).2 (λ_=>rfl) (m3t (s5 n))
def K214:Kn Tryz.prog VV:=⟨214,l02,knS rfl ⟨(b0v FU),λ_ _=>by kernel_rfl⟩⟩
def d7k:Sig VV:=⟨[.v .zi],[.v .z7]⟩
def e31(R:Ring_pensionref5_Size):Fent VV:=⟨d7k,Int,λx=>R.f_pensionref5_Size x.1,λb=>((b,()),()),none⟩
def m2z:Fent VV:=e31 (u7 FU)
def g1e:Ress VV d7k.rs×Outs VV d7k.ps->Int:=λp=>p.1.1
def g2j:Ann VV.C:=(.s .n (.s .n (.s (.s .n (.l [] [] [.bx 1 1 210 .zi,.v 3 .z7,.v 4 .z7] .n)) .n)))
def g07(R:Ring_pensionref5_Size):Phi VV:=λf ys=>lkF f ys [(215,e31 R)]
def g4o(R:Ring_pensionref5_Size)(hr215:SX.Spec Tryz.prog 215 (e31 R)):OKΦ Tryz.prog (g07 R):=okl ⟨knS rfl ⟨hr215,λ_ _=>by kernel_rfl⟩,trivial⟩
def g9d(R:Ring_pensionref5_Size):∀x,c5v Tryz.prog (g07 R) d7k g1e Tryz.f215 g2j x=a94 R x.1:=λx=>by kernel_rfl
def g0m:c67 Tryz.f215 d7k=true:=by kernel_rfl
def b1w:∀n,SX.Spec Tryz.prog 215 (e31 (u7 n))|0=>(λ_ _ h=>(by cases(show none=some _ from h)))|n+1=>let h215:=b1w n;a2m (fe:=e31 (u7 (n+1))) uok (g4o (u7 n) h215) mixed (fn:=Tryz.f215) (by kernel_rfl) g1e g2j (d8 g0m).1 (d8 g0m).2 (λ_=>rfl) (g9d (u7 n))
def K215:Kn Tryz.prog VV:=⟨215,m2z,knS rfl ⟨(b1w FU),λ_ _=>by kernel_rfl⟩⟩
def l69:Sig VV:=⟨[.v .zi],[.v .z6]⟩
def l6v(R:Ring_pensionref5_formed):Fent VV:=⟨l69,Bool,λx=>R.f_pensionref5_formed x.1,λb=>((b,()),()),none⟩
def m3w:Fent VV:=l6v (p7 FU)
def m0w:Ress VV l69.rs×Outs VV l69.ps->Bool:=λp=>p.1.1
def m0o:Ann VV.C:=(.s .n (.s .n (.s .n (.s .n (.s (.s .n (.l [3] [] [.bx 1 1 210 .zi,.v 6 .z7] .n)) .n)))))
def m0d(R:Ring_pensionref5_formed):Phi VV:=λf ys=>lkF f ys [K80.e,m4s.e,(216,l6v R),m4k.e]
def m21(R:Ring_pensionref5_formed)(hr216:SX.Spec Tryz.prog 216 (l6v R)):OKΦ Tryz.prog (m0d R):=okl ⟨K80.ok,m4s.ok,knS rfl ⟨hr216,λ_ _=>by kernel_rfl⟩,m4k.ok,trivial⟩
def m4f(R:Ring_pensionref5_formed):∀x,c5v Tryz.prog (m0d R) l69 m0w Tryz.f216 m0o x=a6s R x.1:=λx=>by kernel_rfl
def m1l:c67 Tryz.f216 l69=true:=by kernel_rfl
def b0n:∀n,SX.Spec Tryz.prog 216 (l6v (p7 n))|0=>(λ_ _ h=>(by cases(show none=some _ from h)))|n+1=>let h216:=b0n n;a2m (fe:=l6v (p7 (n+1))) uok (m21 (p7 n) h216) mixed (fn:=Tryz.f216) (by kernel_rfl) m0w m0o (d8 m1l).1 (d8 m1l).2 (λ_=>rfl) (m4f (p7 n))
def K216:Kn Tryz.prog VV:=⟨216,m3w,knS rfl ⟨(b0n FU),λ_ _=>by kernel_rfl⟩⟩
def k22:=mk 141 Tryz.f141 ⟨[.v .zi],[.v .z6]⟩ (cur1 a0g) w1 u1 .n [K214,K215,K216]
def K86:=mk 86 Tryz.f86 ⟨[.v .y6],[.v .z6]⟩ (cur1 a3n) w1 u1 (sk 2 (.s (.s .n (.l [] [] [.bx 1 1 103 .y6,.v 3 .z7] .n)) (.s (.s .n (.l [] [] [.bx 1 1 103 .y6,.v 4 .z7] .n)) (.s (.s .n (.l [] [] [.bx 1 1 103 .y6,.v 7 .z7] .n)) (.s (.s .n (.l [] [] [.bx 1 1 103 .y6,.v 8 .z7] .n)) (.s (.s .n (.l [] [] [.bx 1 1 103 .y6,.v 9 .z7] .n)) .n)))))) [K80,K137,K138,K139,m4s,k22]
def K42:=mk 42 Tryz.f42 ⟨[.v .y2],[.v .z6]⟩ (cur1 b00) w1 u1 (sk 2 (.s (.s .n (.l [] [] [.bx 1 1 56 .y2,.v 3 .z7] .n)) .n)) [K80,K86]
def K16:=mk 16 Tryz.f16 ⟨[.v .yk],[.v .y2,.v .z7,.v .z7]⟩ (cur1 a9z) w3 u3 (sk 8 (.j [] [.of 2 2 2 103 .y6,.bm 2 1 56 .y2 [(2,2)],.bx 5 3 93 .yh,.of 8 2 5 103 .y6,.bm 8 4 56 .y2 [(2,5)]] (.s .n (.l [] [] [.of 2 2 2 103 .y6,.bm 2 1 56 .y2 [(2,2)],.bx 5 3 93 .yh,.of 8 2 5 103 .y6,.bm 8 4 56 .y2 [(2,5)],.v 9 .z6] (.j [] [.of 2 2 2 103 .y6,.bm 2 1 56 .y2 [(2,2)],.bx 5 3 93 .yh,.of 8 2 5 103 .y6,.bm 8 4 56 .y2 [(2,5)]] (.s (.g [5,7]) .n) .n))) .n)) [K35,K36,K37,K38,K39,K40,K41,K42]
def K5:=mk 5 Tryz.f5 ⟨[.ls .z7],[.v .zn]⟩ (cur1 b11) w1 u1 (sk 2 (.s (.s .n (.l [0] [] [.of 2 0 2 62 .y1,.of 2 1 3 65 .zx,.of 2 2 4 53 .zs,.bm 2 1 28 .zn [(0,2),(1,3),(2,4)],.of 3 0 6 62 .y1,.of 3 1 7 65 .zx,.bm 3 5 28 .zn [(0,6),(1,7)],.v 4 .z7] .n)) .n)) [K8,K16,K17,K18]
def K6:=mk 6 Tryz.f6 ⟨[.ls .z7],[.ow 37 .y8]⟩ (cur1 b04) w1 u1 (sk 2 (.s (.s .n (.l [0] [] [.ow 3 1 37 .y8,.v 4 .z7] .n)) .n)) [K8,K18]
def K45:=mk 45 Tryz.f45 ⟨[.v .z7],[.v .z7]⟩ (cur1 a97) w1 u1 .n [K8]
def K46:=mk 46 Tryz.f46 ⟨[.v .z7],[.v .yk]⟩ (cur1 u4) w1 u1 .n []
def K19:=mk 19 Tryz.f19 ⟨[.v .yf],[.v .y8]⟩ (cur1 b1b) w1 u1 (sk 5 (.j [] [.bx 1 1 68 .yf,.bx 2 2 37 .y8,.bx 3 3 37 .y8,.v 4 .z7,.v 5 .z7] .n (.s .n (.s (.s .n (.l [4,5,6] [] [.bx 1 1 68 .yf,.bx 2 2 37 .y8,.bx 3 3 37 .y8,.v 7 .z7] .n)) .n)))) [K8,K45,K46]
def K7:=mk 7 Tryz.f7 ⟨[.ls .yf],[.ow 37 .y8]⟩ (cur1 l46) w1 u1 (sk 2 (.s (.s .n (.l [0] [] [.ow 3 1 37 .y8,.v 4 .z7] .n)) .n)) [K19]
def K90:=mk 90 Tryz.f90 ⟨[.v .z7],[.v .z6]⟩ (cur1 a8n) w1 u1 .n []
def K56:=mk 56 Tryz.f56 ⟨[.v .z7],[.v .z6]⟩ (cur1 b1k) w1 u1 .n []
def m53:=mk 158 Tryz.f158 ⟨[.v .z7],[.v .z6]⟩ (cur1 a7l) w1 u1 .n []
def k1q:=mk 103 Tryz.f103 ⟨[.v .z7,.v .z7],[.v .z7]⟩ (cur2 a05) w1 u1 .n [m53]
def K143:=mk 143 Tryz.f143 ⟨[.v .z7],[.v .z7]⟩ (cur1 a90) w1 u1 .n [K56,k1q]
def K91:=mk 91 Tryz.f91 ⟨[.v .z7],[.v .z6]⟩ (cur1 b9g) w1 u1 .n [K143]
def m2p:=mk 145 Tryz.f145 ⟨[.v .z7],[.v .ym]⟩ (cur1 j5) w1 u1 .n []
def k5f:=mk 144 Tryz.f144 ⟨[.v .ym,.v .ym],[.v .ym]⟩ (cur2 a7g) w1 u1 (.s .n (.s (.l [] [] [.v 0 .ym,.v 1 .ym] .n) .n)) []
def K92:=mk 92 Tryz.f92 ⟨[.v .zk],[.v .z6]⟩ (cur1 o7) w1 u1 .n [k5f,m2p]
def K93:=mk 93 Tryz.f93 ⟨[.v .z7],[.v .z6]⟩ (cur1 b9l) w1 u1 .n []
def K48:=mk 48 Tryz.f48 ⟨[.ls .zs],[.v .z7]⟩ (cur1 a5r) w1 u1 (sk 2 (.s (.s .n (.l [0,8,9] [] [.v 10 .z7] .n)) .n)) [K90,K91,K92,K93]
def K73:=mk 73 Tryz.f73 ⟨[.v .z7],[.v .z6]⟩ (cur1 b1d) w1 u1 .n []
def K30:=mk 30 Tryz.f30 ⟨[.v .z7,.v .z7],[.v .z7]⟩ (cur2 a2c) w1 u1 .n [K73]
def K98:=mk 98 Tryz.f98 ⟨[.ls .zs,.v .z7,.v .z7],[.v .zk,.v .z6]⟩ (cur3 b6m) w2 u2 (sk 2 (.s (.s .n (.l [0,1,2,11,12] [] [.bx 6 3 51 .zk,.v 8 .z7,.v 13 .z7] .n)) .n)) []
def K96:=mk 96 Tryz.f96 ⟨[.v .ym,.v .ym],[.v .ym,.v .ym]⟩ (cur2 b3s) w2 u2 .n []
def K52:=mk 52 Tryz.f52 ⟨[.ls .z7],[.v .z7]⟩ (cur1 b67) w1 u1 (sk 2 (.s (.s .n (.l [3,6,7] [] [.v 8 .z7] .n)) .n)) []
def K95:=mk 95 Tryz.f95 ⟨[.v .ym],[.v .z7]⟩ (cur1 c7q) w1 u1 .n [K155]
def K218:=mk 218 Tryz.f218 ⟨[.v .z7],[.v .ym]⟩ (cur1 l4y) w1 u1 .n [K95]
def K219:=mk 219 Tryz.f219 ⟨[.io 289 .ym],[.v .ym]⟩ (cur1 l56) (λb=>((b.1,()),(b.2,()))) (λp=>(p.1.1,p.2.1)) .n []
def K99:=mk 99 Tryz.f99 ⟨[.v .z7],[.v .z6]⟩ (cur1 c17) w1 u1 .n []
def j39:=mk 100 Tryz.f100 ⟨[.v .zw],[.v .z6]⟩ (cur1 a2y) w1 u1 (.s .n (.s (.s .n (.j [] [.bx 1 1 96 .zw,.v 5 .z6] .n .n)) .n)) []
def k12:=mk 102 Tryz.f102 ⟨[.v .z7],[.v .ym]⟩ (cur1 b3x) w1 u1 .n []
def k1f:=mk 101 Tryz.f101 ⟨[.v .z6,.v .ym,.v .ym,.v .ym,.v .zw],[.v .z7,.v .z7]⟩ (cur5 a9o) w2 u2 (sk 6 (.j [] [.bx 9 5 96 .zw,.v 12 .ym,.v 14 .ym,.v 15 .z7] .n (.s .n (.j [] [.bx 9 5 96 .zw,.v 15 .z7,.v 16 .z6] .n (.j [] [.bx 9 5 96 .zw,.v 15 .z7] .n .n))))) [m3h]
def K55:=mk 55 Tryz.f55 ⟨[.v .z7,.v .z7,.v .z7,.v .z7,.ls .zs,.v .zw],[.v .z7,.v .z7]⟩ (cur6 b68) w2 u2 .n [K48,K90,K91,K96,K98,K99,j39,k1f,k12]
def K12:=mk 12 Tryz.f12 ⟨[.v .z7],[.v .z7]⟩ (cur1 l47) w1 u1 .n [K8]
def k26:=mk 104 Tryz.f104 ⟨[.v .z7],[.v .z7]⟩ (cur1 a3o) w1 u1 .n []
def K57:=mk 57 Tryz.f57 ⟨[.v .z7,.v .z7,.v .z7],[.v .z7,.v .z6]⟩ (cur3 b1r) w2 u2 (sk 3 (.s (.s .n (.l [0,1] [] [.v 8 .z7,.v 9 .z7] .n)) .n)) [k1q,k26]
def K23:=mk 23 Tryz.f23 ⟨[.v .z7],[.v .z7,.v .z6]⟩ (cur1 l43) w2 u2 .n [K56,K57]
def K223:=mk 223 Tryz.f223 ⟨[.v .z7],[.v .yk]⟩ (cur1 b2r) w1 u1 (.s .n (.s (.s .n (.s .n (.s .n (.j [] [.v 3 .z7,.v 6 .z6] .n (.s .n (.s .n (.s .n (.j [] [.v 3 .z7,.v 11 .z6] .n (.s .n (.s .n (.s .n (.s .n (.s .n (.j [] [.v 3 .z7,.v 20 .z6] .n .n)))))))))))))) .n)) []
def K369:=mk 369 Tryz.f369 ⟨[.v .yk,.v .yn],[.v .z7]⟩ (cur2 a9d) w1 u1 .n [K406]
def K407:=mk 407 Tryz.f407 ⟨[.v .yk],[.v .yl,.v .yl]⟩ (cur1 b0t) w2 u2 (sk 2 (.s (.s .n (.l [0] [] [.v 4 .yl,.v 5 .z7] .n)) (.s .n (.s (.s .n (.l [4] [] [.v 6 .yl,.v 7 .yl,.v 8 .z7] .n)) .n)))) []
def l0u:=mk 372 Tryz.f372 ⟨[.v .yk,.v .yk],[.v .z7]⟩ (cur2 b36) w1 u1 (sk 4 (.s (.s .n (.l [0,1,5,6,7] [] [.v 8 .yl,.v 9 .z7] .n)) (.s .n (.s (.s .n (.l [0,1,5,6,7] [] [.v 8 .yl,.v 10 .z7] .n)) .n)))) [K407]
def K320:=mk 320 Tryz.f320 ⟨[.v .yk,.v .yk],[.v .z7]⟩ (cur2 a6y) w1 u1 .n [K369]
def K270:=mk 270 Tryz.f270 ⟨[.v .yk,.v .yk],[.v .z7]⟩ (cur2 c3y) w1 u1 .n [K320]
def l0o:=mk 225 Tryz.f225 ⟨[.v .yk,.v .yk],[.v .z6]⟩ (cur2 c0c) w1 u1 .n [K270]
def K224:=mk 224 Tryz.f224 ⟨[.v .yk,.rp 9 .yk],[.v .z6]⟩ (cur2 p9) w1 u1 .n [l0o]
def K226:=mk 226 Tryz.f226 ⟨[.v .z7,.v .z7,.v .z7],[.v .z6]⟩ (cur3 a9w) w1 u1 .n []
def K227:=mk 227 Tryz.f227 ⟨[.v .z6,.v .z7,.v .z7,.v .z7],[.v .z6]⟩ (cur4 b0d) w1 u1 .n [K226]
def h3v:=mk 228 Tryz.f228 ⟨[.v .y0],[.v .z6]⟩ (cur1 b8g) w1 u1 .n []
def k0z:=mk 159 Tryz.f159 ⟨[.v .y8],[.v .z6]⟩ (cur1 b3k) w1 u1 (sk 4 (.s (.s .n (.s .n (.s .n (.j [] [.bx 1 1 37 .y8,.v 89 .z7,.v 97 .z6] .n (.s .n (.j [] [.bx 1 1 37 .y8,.v 108 .z6] .n .n)))))) .n)) [K223,K224,K226,K227,h3v]
def h1l:=mk 108 Tryz.f108 ⟨[.v .y8,.v .y8],[.v .z7]⟩ (cur2 i4q) w1 u1 .n [K30,K52]
def K272:=mk 272 Tryz.f272 ⟨[.ow 5 .yn,.v .z7,.ls .z7],[.ow 5 .yn]⟩ (cur3 i3x) w1 u1 (.s .n (.s (.s .n (.l [1,10,11] [] [.ow 0 3 5 .yn,.v 12 .z7] (.s .n (.s .n (.s (.s .n (.s .n (.l [1,8,10,11,12] [] [.ow 0 3 5 .yn,.v 9 .z7] .n))) .n))))) .n)) []
def h2w:=mk 230 Tryz.f230 ⟨[.v .y8],[.ow 5 .yn]⟩ (cur1 i5l) w1 u1 (sk 3 (.j [] [.bx 1 1 37 .y8,.v 3 .z7] .n (.s .n (.s .n (.s .n (.s (.s .n (.l [] [] [.bx 1 1 37 .y8,.ow 4 2 5 .yn,.it 34 3] .n)) .n)))))) [k0z,K223,K272]
def K229:=mk 229 Tryz.f229 ⟨[.ls .yn,.ls .yn],[.v .z7]⟩ (cur2 i5n) w1 u1 .n [K271]
def j8f:=mk 160 Tryz.f160 ⟨[.v .y8,.v .y8],[.v .z6]⟩ (cur2 i6i) w1 u1 .n [k0z,K229,h2w]
def K109:=mk 109 Tryz.f109 ⟨[.v .y8,.v .y8],[.v .y8]⟩ (cur2 i52) w1 u1 .n [j8f]
def l5d:=mk 106 Tryz.f106 ⟨[.ls .y8,.ls .y8,.cl 108 [],.cl 109 []],[.ow 37 .y8]⟩ (λx=>i3v x.1 x.2.1) w1 u1 (sk 2 (.s (.l [2,3] [] [.ls 0 .y8,.ls 1 .y8,.ow 9 4 37 .y8] .n) .n)) [h1l,K109]
def g7z:=mk 107 Tryz.f107 ⟨[.ls .y8],[.ow 37 .y8]⟩ (cur1 i4i) w1 u1 (sk 2 (.s (.s .n (.l [6,7] [] [.ow 3 1 37 .y8,.v 8 .z7] .n)) .n)) [l5d,k0z]
def K59:=mk 59 Tryz.f59 ⟨[.ls .y8,.ls .y8],[.ow 37 .y8]⟩ (cur2 i4d) w1 u1 .n [l5d,g7z]
def m3s:=mk 105 Tryz.f105 ⟨[.v .y8],[.v .z6]⟩ (cur1 a4e) w1 u1 .n [k0z]
def m22:=mk 71 Tryz.f71 ⟨[.ls .y8,.cl 105 []],[.ow 37 .y8]⟩ (λx=>a3f x.1) w1 u1 (sk 2 (.s (.s .n (.l [1,8,9] [] [.ow 5 2 37 .y8,.v 10 .z7] .n)) .n)) [m3s]
def l8b:Sig VV:=⟨[.ls .y8],[.ow 37 .y8]⟩
def m2i:Fent VV:=⟨l8b,List aQ,λx=>a4f x.1,λb=>((b,()),()),none⟩
def m55:Ress VV l8b.rs×Outs VV l8b.ps->List aQ:=λp=>p.1.1
def m4y:Ann VV.C:=.n
def m4t:SX.Spec Tryz.prog 58 m2i:=a2m (fe:=m2i) uok (okl (f8d [m22])) mixed (fn:=Tryz.f58) (by kernel_rfl) m55 m4y (d8 (s:=l8b) (by kernel_rfl)).1 (d8 (s:=l8b) (by kernel_rfl)).2 (λ_=>rfl) λx=>by kernel_rfl
def K58:Kn Tryz.prog VV:=⟨58,m2i,knS rfl ⟨m4t,λ_ _=>by kernel_rfl⟩⟩
def K24:=mk 24 Tryz.f24 ⟨[.ls .y8],[.ow 37 .y8]⟩ (cur1 l4k) w1 u1 .n [K58,K59]
def K72:=mk 72 Tryz.f72 ⟨[.v .y8,.rp 3 .z7],[.v .z6]⟩ (cur2 l57) w1 u1 .n []
def m33:=mk 71 Tryz.f71 ⟨[.ls .y8,.cl 72 [.z7]],[.ow 37 .y8]⟩ (λx=>l44 x.1 x.2.1.1) w1 u1 (sk 2 (.s (.s .n (.l [1,8,9] [] [.ow 5 2 37 .y8,.v 10 .z7] .n)) .n)) [K72]
def K27:=mk 27 Tryz.f27 ⟨[.ls .y8,.v .z7],[.ow 37 .y8]⟩ (cur2 l4s) w1 u1 .n [m33]
def j8l:=mk 161 Tryz.f161 ⟨[.ls .y8,.v .z7],[.v .z7,.v .z6]⟩ (cur2 b4r) w2 u2 (sk 2 (.s (.s .n (.l [1,10,11] [] [.v 6 .z7,.v 7 .z6,.v 12 .z7] .n)) .n)) [m3s]
def K110:=mk 110 Tryz.f110 ⟨[.ls .y8],[.v .z7,.v .z6]⟩ (cur1 b7l) w2 u2 .n [j8l]
def K60:=mk 60 Tryz.f60 ⟨[.ls .y8,.v .z7,.v .z7],[.v .z6]⟩ (cur3 l4a) w1 u1 .n [K27,K110]
def K112:=mk 112 Tryz.f112 ⟨[.v .y8,.rp 3 .z7,.rp 3 .z7],[.v .z6]⟩ (cur3 l4j) w1 u1 .n []
def l9b:=mk 162 Tryz.f162 ⟨[.ls .y8,.cl 112 [.z7,.z7]],[.v .z7]⟩ (λx=>l3w x.1 x.2.1.1 x.2.1.2.1) w1 u1 (.s .n (.s (.s .n (.l [0,1,7] [] [.v 8 .z7] .n)) .n)) [K112]
def l9w:=mk 111 Tryz.f111 ⟨[.ls .y8,.cl 112 [.z7,.z7]],[.v .z6]⟩ (λx=>l3u x.1 x.2.1.1 x.2.1.2.1) w1 u1 .n [l9b]
def K61:=mk 61 Tryz.f61 ⟨[.ls .y8,.v .z7,.v .z7],[.v .z6]⟩ (cur3 l4f) w1 u1 .n [l9w]
def K25:=mk 25 Tryz.f25 ⟨[.ls .y8,.v .z7,.v .z7],[.ow 3 .z7]⟩ (cur3 l49) w1 u1 (sk 3 (.s (.s .n (.l [0,1,2] [] [.ow 7 3 3 .z7,.v 8 .z7] (.s .n (.s (.s (.g [3]) .n) .n)))) .n)) [K27,K60,K61]
def k1s:=mk 182 Tryz.f182 ⟨[.ls .y8],[.v .z7,.v .z6]⟩ (cur1 b4t) w2 u2 .n [j8l]
def l6q:Sig VV:=⟨[.ls .y8],[.v .y0]⟩
def g0h:Fent VV:=⟨l6q,Span,λx=>a2i x.1,λb=>((b,()),()),none⟩
def m43:Ress VV l6q.rs×Outs VV l6q.ps->Span:=λp=>p.1.1
def m3a:Ann VV.C:=(.s .n (.s .n (.s .n (.j [] [.bx 2 1 35 .y0,.v 3 .z7,.v 5 .z7] .n .n))))
def g7o:SX.Spec Tryz.prog 163 g0h:=a2m (fe:=g0h) uok (okl (f8d [K110,k1s])) mixed (fn:=Tryz.f163) (by kernel_rfl) m43 m3a (d8 (s:=l6q) (by kernel_rfl)).1 (d8 (s:=l6q) (by kernel_rfl)).2 (λ_=>rfl) λx=>by kernel_rfl
def k1x:Kn Tryz.prog VV:=⟨163,g0h,knS rfl ⟨g7o,λ_ _=>by kernel_rfl⟩⟩
def K373:=mk 373 Tryz.f373 ⟨[.v .y0],[.v .y0]⟩ (cur1 c3q) w1 u1 .n []
def l94:=mk 321 Tryz.f321 ⟨[.ls .y0],[.ow 35 .y0]⟩ (cur1 a2w) w1 u1 (.s .n (.s (.g [6000]) (.s (.s .n (.l [10,11] [] [.of 3 0 2 35 .y0,.bm 3 1 307 .zb [(0,2)],.v 12 .z7] (.s .n (.s .n (.s (.s .n (.s .n (.s .n (.s (.g [6000,6004]) .n)))) .n))))) (.s (.g [6000]) (.s .n (.s (.s (.g [6000]) (.l [33] [] [.ow 6 1 35 .y0,.ow 32 2 35 .y0,.v 34 .z7] .n)) .n)))))) [K373,K374]
def K273:=mk 273 Tryz.f273 ⟨[.ls .y0,.ls .y0],[.ow 35 .y0]⟩ (cur2 b2g) w1 u1 (sk 3 (.s (.s .n (.l [] [] [.ow 0 2 35 .y0,.ow 1 3 35 .y0,.ow 5 4 35 .y0,.v 6 .z7,.v 7 .z7] (.s .n (.s .n (.j [] [.ow 0 2 35 .y0,.ow 1 3 35 .y0,.ow 5 4 35 .y0,.v 6 .z7,.v 7 .z7] .n .n))))) .n)) [l94]
def l6s:Sig VV:=⟨[.ls .y0,.v .y0],[.ow 35 .y0]⟩
def l8g:Fent VV:=⟨l6s,List Span,λx=>s6 x.1 x.2.1,λb=>((b,()),()),none⟩
def m32:Ress VV l6s.rs×Outs VV l6s.ps->List Span:=λp=>p.1.1
def m3i:Ann VV.C:=.n
def m2x:SX.Spec Tryz.prog 231 l8g:=a2m (fe:=l8g) uok (okl (f8d [K273])) mixed (fn:=Tryz.f231) (by kernel_rfl) m32 m3i (d8 (s:=l6s) (by kernel_rfl)).1 (d8 (s:=l6s) (by kernel_rfl)).2 (λ_=>rfl) λx=>by kernel_rfl
def m0s:Kn Tryz.prog VV:=⟨231,l8g,knS rfl ⟨m2x,λ_ _=>by kernel_rfl⟩⟩
def l6e:Sig VV:=⟨[.v .zr,.v .zr],[.v .z7]⟩
def l91:Fent VV:=⟨l6e,Int,λx=>a0j x.1 x.2.1,λb=>((b,()),()),none⟩
def m3x:Ress VV l6e.rs×Outs VV l6e.ps->Int:=λp=>p.1.1
def m44:Ann VV.C:=.n
def m2r:SX.Spec Tryz.prog 233 l91:=a2m (fe:=l91) uok (okl (f8d [K30,K52])) mixed (fn:=Tryz.f233) (by kernel_rfl) m3x m44 (d8 (s:=l6e) (by kernel_rfl)).1 (d8 (s:=l6e) (by kernel_rfl)).2 (λ_=>rfl) λx=>by kernel_rfl
def K233:Kn Tryz.prog VV:=⟨233,l91,knS rfl ⟨m2r,λ_ _=>by kernel_rfl⟩⟩
def l7h:=mk 322 Tryz.f322 ⟨[.so 310 .zr,.v .z7,.v .z7,.cl 233 []],[]⟩ (λx=>m6 x.1 x.2.1 x.2.2.1) (λb=>((),(b,()))) (λp=>p.2.1) (.s .n (.l [1,2,3] [] [.ow 0 0 310 .zr,.v 8 .z7] (.s .n (.s (.s .n (.l [1,2,3,8] [] [.ow 0 0 310 .zr,.v 9 .z7] .n)) .n)))) [K233]
def l4p:Sig VV:=⟨[.so 310 .zr,.v .z7,.v .z7,.v .z7,.cl 233 []],[]⟩
def l5c(R:oQ):Fent VV:=⟨l4p,List Posting,λx=>R.f_slices_pdqsortCmpFunc_of_api_Posting x.1 x.2.1 x.2.2.1 x.2.2.2.1,λb=>((),(b,())),none⟩
def l7t:Fent VV:=l5c (c3 FU)
def l5j:Ress VV l4p.rs×Outs VV l4p.ps->List Posting:=λp=>p.2.1
def l5h:Ann VV.C:=(.s .n (.s .n (.l [4] [] [.ow 0 0 310 .zr,.v 1 .z7,.v 2 .z7,.v 3 .z7,.v 10 .z6,.v 11 .z6] (.s .n (.s .n (.s .n (.j [] [.ow 0 0 310 .zr,.v 1 .z7,.v 2 .z7,.v 3 .z7,.cl 4 233 [],.v 10 .z6,.v 11 .z6,.v 12 .z7] .n .n)))))))
def l5k(R:oQ):Phi VV:=λf ys=>lkF f ys [l7h.e]
def l7e(R:oQ):OKΦ Tryz.prog (l5k R):=okl ⟨l7h.ok,trivial⟩
def l7q(R:oQ):∀x,c5v Tryz.prog (l5k R) l4p l5j Tryz.f274 l5h x=i7 R x.1 x.2.1 x.2.2.1 x.2.2.2.1:=λx=>by kernel_rfl
def l5x:c67 Tryz.f274 l4p=true:=by kernel_rfl
def q8:∀n,SX.Spec Tryz.prog 274 (l5c (c3 n))|0=>(λ_ _ h=>(by cases(show none=some _ from h)))|n+1=>let h274:=q8 n;a2m (fe:=l5c (c3 (n+1))) uok (l7e (c3 n)) mixed (fn:=Tryz.f274) (by kernel_rfl) l5j l5h (d8 l5x).1 (d8 l5x).2 (λ_=>rfl) (l7q (c3 n))
def l96:Kn Tryz.prog VV:=⟨274,l7t,knS rfl ⟨(q8 FU),λ_ _=>by kernel_rfl⟩⟩
def f3j:=mk 232 Tryz.f232 ⟨[.so 310 .zr,.cl 233 []],[]⟩ (λx=>c9 x.1) (λb=>((),(b,()))) (λp=>p.2.1) .n [K95,l96]
def g21:Fent VV:=⟨⟨[.ls .y8],[.ow 310 .zr]⟩,List Posting,λx=>competence_Postings x.1,w1,none⟩
end
end Go.PL
