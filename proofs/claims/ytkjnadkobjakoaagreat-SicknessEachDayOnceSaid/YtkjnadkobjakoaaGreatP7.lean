/- Texts of the proof, joined. -/
import Derived.Test.YtkjnadkobjakoaaGreatP6
import Derived.Shelf.SlSortFuncK.WholeK
import Derived.Test.YtkjnadkobjakoaaGreatProg
import Derived.Shelf.SlSortFuncK.RowK2
import Derived.Shelf.GgSortFunc.Tiny
import Derived.KernelRfl
set_option linter.unusedVariables false
set_option linter.unusedSimpArgs false
set_option maxRecDepth 100000
namespace Go.PL
open Go Go.SX
inductive TyC where
 | z4
 | zh
 | zv
 | zy
 | zj
 | z1
 | z3
 | zm
 | zt
 | zx
 | zs
 | z8
 | z7
 | zg
 | z6
 | za
 | zc
 | z9
 | zf
 | zn
 | zl
 | zk
 | ze
 | zb
 | zo
 | zr
 | zw
 | z5
 | zu
 | z0
 | zd
 | zq
 | zp
 | z2
 | zi
deriving DecidableEq
@[reducible] def TyC.T:TyC -> Type
  | .z4=>Int
  | .zh=>Rules
  | .zv=>ByteArray
  | .zy=>Int
  | .zj=>Span
  | .z1=>Ar 3 ByteArray
  | .z3=>Bool
  | .zm=>Token
  | .zt=>rQ
  | .zx=>Int
  | .zs=>pensionref1_wide
  | .z8=>Fraction
  | .z7=>Expr
  | .zg=>Rounding
  | .z6=>Credit
  | .za=>Index
  | .zc=>Let
  | .z9=>Grant
  | .zf=>Reduce
  | .zn=>Version
  | .zl=>Statute
  | .zk=>State
  | .ze=>Rate
  | .zb=>Laws
  | .zo=>aQ
  | .zr=>pensionhand_Fact
  | .zw=>Int
  | .z5=>List Span
  | .zu=>wQ
  | .z0=>Ar 12 Int
  | .zd=>Posting
  | .zq=>competence_route
  | .zp=>lQ
  | .z2=>Ar 6 Int
  | .zi=>Segment
abbrev VA:=AV TyC TyC.T
def dT:DecidableEq TyC:=inferInstance
def e6g:Int -> List VA:=fun x=>[.int .i64 x]
def e70:List VA -> Option Int:=mkS (gI .i64) fun x0=>mkE x0
def d02:Rules -> List VA:=fun x=>[.int .i64 x.From,.int .i64 x.MinDays,.int .i64 x.PostingLimit,.int .i64 x.Substantial,.list .z4 x.Members]
def c8u:List VA -> Option Rules:=mkS (gI .i64) fun x0=>mkS (gI .i64) fun x1=>mkS (gI .i64) fun x2=>mkS (gI .i64) fun x3=>mkS (SX.gL dT .z4) fun x4=>mkE (⟨x0,x1,x2,x3,x4⟩:Rules)
def e7x:ByteArray -> List VA:=fun x=>[.str x]
def e79:List VA -> Option ByteArray:=mkS (gS) fun x0=>mkE x0
def f5c:Int -> List VA:=fun x=>[.int .u8 x]
def f2s:List VA -> Option Int:=mkS (gI .u8) fun x0=>mkE x0
def d4t:Span -> List VA:=fun x=>[.int .i64 x.From,.int .i64 x.To]
def d4c:List VA -> Option Span:=mkS (gI .i64) fun x0=>mkS (gI .i64) fun x1=>mkE (⟨x0,x1⟩:Span)
def d0l:Ar 3 ByteArray -> List VA:=fun x=>x.l.map fun y=> .str y
def c9a:List VA -> Option (Ar 3 ByteArray):=mkA (gS) 3
def e19:Bool -> List VA:=fun x=>[.bool x]
def e04:List VA -> Option Bool:=mkS (gB) fun x0=>mkE x0
def d0i:Token -> List VA:=fun x=>[.int .i64 x.Kind,.str x.Text,.int .i64 x.At]
def c8h:List VA -> Option Token:=mkS (gI .i64) fun x0=>mkS (gS) fun x1=>mkS (gI .i64) fun x2=>mkE (⟨x0,x1,x2⟩:Token)
def b0n:rQ -> List VA:=fun x=>[.list .zm x.l,.int .i64 x.at_,.int .i64 x.end_,.bool x.bad]
def b0m:List VA -> Option rQ:=mkS (SX.gL dT .zm) fun x0=>mkS (gI .i64) fun x1=>mkS (gI .i64) fun x2=>mkS (gB) fun x3=>mkE (⟨x0,x1,x2,x3⟩:rQ)
def e80:Int -> List VA:=fun x=>[.int .u64 x]
def e76:List VA -> Option Int:=mkS (gI .u64) fun x0=>mkE x0
def b1w:pensionref1_wide -> List VA:=fun x=>[.int .u64 x.hi,.int .u64 x.lo]
def b24:List VA -> Option pensionref1_wide:=mkS (gI .u64) fun x0=>mkS (gI .u64) fun x1=>mkE (⟨x0,x1⟩:pensionref1_wide)
def b9r:Fraction -> List VA:=fun x=>[.int .i64 x.Num,.int .i64 x.Den]
def c09:List VA -> Option Fraction:=mkS (gI .i64) fun x0=>mkS (gI .i64) fun x1=>mkE (⟨x0,x1⟩:Fraction)
def d3o:Expr -> List VA:=fun x=>[.int .i64 x.Op,.val .z8 x.Value,.int .i64 x.Dim,.str x.Name,.list .z7 x.Args]
def d3c:List VA -> Option Expr:=mkS (gI .i64) fun x0=>mkS (gV dT .z8) fun x1=>mkS (gI .i64) fun x2=>mkS (gS) fun x3=>mkS (SX.gL dT .z7) fun x4=>mkE (⟨x0,x1,x2,x3,x4⟩:Expr)
def c00:Rounding -> List VA:=fun x=>[.int .i64 x.Mode,.int .i64 x.Unit]
def c08:List VA -> Option Rounding:=mkS (gI .i64) fun x0=>mkS (gI .i64) fun x1=>mkE (⟨x0,x1⟩:Rounding)
def c4q:Credit -> List VA:=fun x=>[.int .i64 x.Kind,.int .i64 x.Limit]
def c55:List VA -> Option Credit:=mkS (gI .i64) fun x0=>mkS (gI .i64) fun x1=>mkE (⟨x0,x1⟩:Credit)
def c9y:Index -> List VA:=fun x=>[.int .i64 x.Year,.val .z8 x.Factor]
def c9h:List VA -> Option Index:=mkS (gI .i64) fun x0=>mkS (gV dT .z8) fun x1=>mkE (⟨x0,x1⟩:Index)
def d9g:Let -> List VA:=fun x=>[.str x.Name,.val .z7 x.Body]
def e06:List VA -> Option Let:=mkS (gS) fun x0=>mkS (gV dT .z7) fun x1=>mkE (⟨x0,x1⟩:Let)
def c9c:Grant -> List VA:=fun x=>[.int .i64 x.Benefit,.val .z7 x.If,.val .z7 x.Pay]
def c9x:List VA -> Option Grant:=mkS (gI .i64) fun x0=>mkS (gV dT .z7) fun x1=>mkS (gV dT .z7) fun x2=>mkE (⟨x0,x1,x2⟩:Grant)
def c50:Reduce -> List VA:=fun x=>[.int .i64 x.Benefit,.val .z7 x.By]
def c5h:List VA -> Option Reduce:=mkS (gI .i64) fun x0=>mkS (gV dT .z7) fun x1=>mkE (⟨x0,x1⟩:Reduce)
def c1r:Version -> List VA:=fun x=>[.int .i64 x.From,.val .zg x.Rounding,.list .z6 x.Credits,.list .za x.Series,.list .zc x.Lets,.list .z9 x.Grants,.list .zf x.Reduces]
def c1w:List VA -> Option Version:=mkS (gI .i64) fun x0=>mkS (gV dT .zg) fun x1=>mkS (SX.gL dT .z6) fun x2=>mkS (SX.gL dT .za) fun x3=>mkS (SX.gL dT .zc) fun x4=>mkS (SX.gL dT .z9) fun x5=>mkS (SX.gL dT .zf) fun x6=>mkE (⟨x0,x1,x2,x3,x4,x5,x6⟩:Version)
def c26:Statute -> List VA:=fun x=>[.str x.Name,.int .i64 x.Currency,.list .zn x.Versions]
def c3f:List VA -> Option Statute:=mkS (gS) fun x0=>mkS (gI .i64) fun x1=>mkS (SX.gL dT .zn) fun x2=>mkE (⟨x0,x1,x2⟩:Statute)
def c9t:State -> List VA:=fun x=>[.int .i64 x.State,.val .zl x.Statute]
def c97:List VA -> Option State:=mkS (gI .i64) fun x0=>mkS (gV dT .zl) fun x1=>mkE (⟨x0,x1⟩:State)
def d32:Rate -> List VA:=fun x=>[.int .i64 x.Currency,.int .i64 x.Month,.val .z8 x.Value]
def d46:List VA -> Option Rate:=mkS (gI .i64) fun x0=>mkS (gI .i64) fun x1=>mkS (gV dT .z8) fun x2=>mkE (⟨x0,x1,x2⟩:Rate)
def d2z:Laws -> List VA:=fun x=>[.list .zk x.States,.list .zh x.Treaty,.list .ze x.Rates]
def d58:List VA -> Option Laws:=mkS (SX.gL dT .zk) fun x0=>mkS (SX.gL dT .zh) fun x1=>mkS (SX.gL dT .ze) fun x2=>mkE (⟨x0,x1,x2⟩:Laws)
def c0a:aQ -> List VA:=fun x=>[.int .i64 x.Issuer,.int .i64 x.Number,.int .i64 x.Version,.bool x.Withdrawn,.int .i64 x.Person,.int .i64 x.Kind,.int .i64 x.State,.val .zj x.Span,.int .i64 x.Seat,.int .i64 x.Share,.int .i64 x.Currency,.int .i64 x.Amount,.int .i64 x.Ref]
def c01:List VA -> Option aQ:=mkS (gI .i64) fun x0=>mkS (gI .i64) fun x1=>mkS (gI .i64) fun x2=>mkS (gB) fun x3=>mkS (gI .i64) fun x4=>mkS (gI .i64) fun x5=>mkS (gI .i64) fun x6=>mkS (gV dT .zj) fun x7=>mkS (gI .i64) fun x8=>mkS (gI .i64) fun x9=>mkS (gI .i64) fun x10=>mkS (gI .i64) fun x11=>mkS (gI .i64) fun x12=>mkE (⟨x0,x1,x2,x3,x4,x5,x6,x7,x8,x9,x10,x11,x12⟩:aQ)
def b26:pensionhand_Fact -> List VA:=fun x=>[.int .i64 x.Issuer,.int .i64 x.Number,.int .i64 x.Version,.bool x.Withdrawn,.int .i64 x.Person,.int .i64 x.Kind,.int .i64 x.State,.int .i64 x.Seat,.int .i64 x.From,.int .i64 x.Length,.int .i64 x.Share,.int .i64 x.Amount,.int .i64 x.Ref]
def b23:List VA -> Option pensionhand_Fact:=mkS (gI .i64) fun x0=>mkS (gI .i64) fun x1=>mkS (gI .i64) fun x2=>mkS (gB) fun x3=>mkS (gI .i64) fun x4=>mkS (gI .i64) fun x5=>mkS (gI .i64) fun x6=>mkS (gI .i64) fun x7=>mkS (gI .i64) fun x8=>mkS (gI .i64) fun x9=>mkS (gI .i64) fun x10=>mkS (gI .i64) fun x11=>mkS (gI .i64) fun x12=>mkE (⟨x0,x1,x2,x3,x4,x5,x6,x7,x8,x9,x10,x11,x12⟩:pensionhand_Fact)
def e7a:Int -> List VA:=fun x=>[.int .u32 x]
def e6r:List VA -> Option Int:=mkS (gI .u32) fun x0=>mkE x0
def d0n:List Span -> List VA:=fun x=>[.list .zj x]
def c8s:List VA -> Option (List Span):=mkS (SX.gL dT .zj) fun x0=>mkE x0
def b30:wQ -> List VA:=fun x=>[.list .z4 x.days]
def b2y:List VA -> Option wQ:=mkS (SX.gL dT .z4) fun x0=>mkE (⟨x0⟩:wQ)
def c5n:Ar 12 Int -> List VA:=fun x=>x.l.map fun y=> .int .i64 y
def c59:List VA -> Option (Ar 12 Int):=mkA (gI .i64) 12
def c3p:Posting -> List VA:=fun x=>[.int .i64 x.Seat,.int .i64 x.State,.val .zj x.Span]
def c2t:List VA -> Option Posting:=mkS (gI .i64) fun x0=>mkS (gI .i64) fun x1=>mkS (gV dT .zj) fun x2=>mkE (⟨x0,x1,x2⟩:Posting)
def b1x:competence_route -> List VA:=fun x=>[.int .i64 x.seat,.int .i64 x.state]
def b1z:List VA -> Option competence_route:=mkS (gI .i64) fun x0=>mkS (gI .i64) fun x1=>mkE (⟨x0,x1⟩:competence_route)
def b2w:lQ -> List VA:=fun x=>[.list .zo x.facts,.val .zj x.span,.list .zd x.postings,.list .zh x.rules]
def b2v:List VA -> Option lQ:=mkS (SX.gL dT .zo) fun x0=>mkS (gV dT .zj) fun x1=>mkS (SX.gL dT .zd) fun x2=>mkS (SX.gL dT .zh) fun x3=>mkE (⟨x0,x1,x2,x3⟩:lQ)
def c8w:Ar 6 Int -> List VA:=fun x=>x.l.map fun y=> .int .i64 y
def c9s:List VA -> Option (Ar 6 Int):=mkA (gI .i64) 6
def c3z:Segment -> List VA:=fun x=>[.val .zj x.Span,.int .i64 x.State,.int .i64 x.Rule]
def c3h:List VA -> Option Segment:=mkS (gV dT .zj) fun x0=>mkS (gI .i64) fun x1=>mkS (gI .i64) fun x2=>mkE (⟨x0,x1,x2⟩:Segment)
def cdT (n:Nat):Option TyC:=bif Nat.blt n 108 then (bif Nat.blt n 56 then (bif Nat.blt n 27 then (bif Nat.blt n 6 then (bif Nat.blt n 4 then (bif Nat.blt n 3 then (bif Nat.beq n 2 then some .z4 else none) else (bif Nat.beq n 3 then some .z4 else none)) else (bif Nat.blt n 5 then (bif Nat.beq n 4 then some .z3 else none) else (bif Nat.beq n 5 then some .zy else none))) else (bif Nat.blt n 10 then (bif Nat.blt n 9 then (bif Nat.beq n 6 then some .zy else none) else (bif Nat.beq n 9 then some .zv else none)) else (bif Nat.blt n 11 then (bif Nat.beq n 10 then some .zv else none) else (bif Nat.blt n 12 then (bif Nat.beq n 11 then some .zv else none) else (bif Nat.beq n 12 then some .zx else none))))) else (bif Nat.blt n 44 then (bif Nat.blt n 40 then (bif Nat.blt n 28 then (bif Nat.beq n 27 then some .zb else none) else (bif Nat.beq n 28 then some .zb else none)) else (bif Nat.blt n 43 then (bif Nat.beq n 40 then some .z5 else none) else (bif Nat.beq n 43 then some .zj else none))) else (bif Nat.blt n 52 then (bif Nat.blt n 51 then (bif Nat.beq n 44 then some .zj else none) else (bif Nat.beq n 51 then some .z8 else none)) else (bif Nat.blt n 53 then (bif Nat.beq n 52 then some .z8 else none) else (bif Nat.blt n 54 then (bif Nat.beq n 53 then some .ze else none) else (bif Nat.beq n 54 then some .ze else none)))))) else (bif Nat.blt n 74 then (bif Nat.blt n 63 then (bif Nat.blt n 58 then (bif Nat.blt n 57 then (bif Nat.beq n 56 then some .zl else none) else (bif Nat.beq n 57 then some .zl else none)) else (bif Nat.blt n 62 then (bif Nat.beq n 58 then some .z4 else none) else (bif Nat.beq n 62 then some .zk else none))) else (bif Nat.blt n 67 then (bif Nat.blt n 66 then (bif Nat.beq n 63 then some .zk else none) else (bif Nat.beq n 66 then some .zh else none)) else (bif Nat.blt n 68 then (bif Nat.beq n 67 then some .zh else none) else (bif Nat.blt n 69 then (bif Nat.beq n 68 then some .zo else none) else (bif Nat.beq n 69 then some .zo else none))))) else (bif Nat.blt n 86 then (bif Nat.blt n 82 then (bif Nat.blt n 75 then (bif Nat.beq n 74 then some .zr else none) else (bif Nat.beq n 75 then some .zr else none)) else (bif Nat.blt n 83 then (bif Nat.beq n 82 then some .zu else none) else (bif Nat.blt n 85 then (bif Nat.beq n 83 then some .zu else none) else (bif Nat.beq n 85 then some .zi else none)))) else (bif Nat.blt n 94 then (bif Nat.blt n 93 then (bif Nat.beq n 86 then some .zi else none) else (bif Nat.beq n 93 then some .zd else none)) else (bif Nat.blt n 105 then (bif Nat.beq n 94 then some .zd else none) else (bif Nat.blt n 106 then (bif Nat.beq n 105 then some .zt else none) else (bif Nat.beq n 106 then some .zt else none))))))) else (bif Nat.blt n 188 then (bif Nat.blt n 160 then (bif Nat.blt n 120 then (bif Nat.blt n 115 then (bif Nat.blt n 109 then (bif Nat.beq n 108 then some .zg else none) else (bif Nat.beq n 109 then some .zg else none)) else (bif Nat.blt n 116 then (bif Nat.beq n 115 then some .zn else none) else (bif Nat.beq n 116 then some .zn else none))) else (bif Nat.blt n 128 then (bif Nat.blt n 127 then (bif Nat.beq n 120 then some .z1 else none) else (bif Nat.beq n 127 then some .zp else none)) else (bif Nat.blt n 144 then (bif Nat.beq n 128 then some .zp else none) else (bif Nat.blt n 145 then (bif Nat.beq n 144 then some .zm else none) else (bif Nat.beq n 145 then some .zm else none))))) else (bif Nat.blt n 182 then (bif Nat.blt n 171 then (bif Nat.blt n 167 then (bif Nat.beq n 160 then some .zx else none) else (bif Nat.beq n 167 then some .zx else none)) else (bif Nat.blt n 181 then (bif Nat.beq n 171 then some .z2 else none) else (bif Nat.beq n 181 then some .z6 else none))) else (bif Nat.blt n 184 then (bif Nat.blt n 183 then (bif Nat.beq n 182 then some .z6 else none) else (bif Nat.beq n 183 then some .za else none)) else (bif Nat.blt n 186 then (bif Nat.beq n 184 then some .za else none) else (bif Nat.blt n 187 then (bif Nat.beq n 186 then some .z7 else none) else (bif Nat.beq n 187 then some .z7 else none)))))) else (bif Nat.blt n 226 then (bif Nat.blt n 193 then (bif Nat.blt n 191 then (bif Nat.blt n 189 then (bif Nat.beq n 188 then some .zc else none) else (bif Nat.beq n 189 then some .zc else none)) else (bif Nat.blt n 192 then (bif Nat.beq n 191 then some .z9 else none) else (bif Nat.beq n 192 then some .z9 else none))) else (bif Nat.blt n 200 then (bif Nat.blt n 194 then (bif Nat.beq n 193 then some .zf else none) else (bif Nat.beq n 194 then some .zf else none)) else (bif Nat.blt n 203 then (bif Nat.beq n 200 then some .z0 else none) else (bif Nat.blt n 204 then (bif Nat.beq n 203 then some .zq else none) else (bif Nat.beq n 204 then some .zq else none))))) else (bif Nat.blt n 255 then (bif Nat.blt n 230 then (bif Nat.blt n 228 then (bif Nat.beq n 226 then some .zw else none) else (bif Nat.beq n 228 then some .zx else none)) else (bif Nat.blt n 241 then (bif Nat.beq n 230 then some .z4 else none) else (bif Nat.blt n 242 then (bif Nat.beq n 241 then some .zs else none) else (bif Nat.beq n 242 then some .zs else none)))) else (bif Nat.blt n 279 then (bif Nat.blt n 266 then (bif Nat.beq n 255 then some .zx else none) else (bif Nat.beq n 266 then some .z4 else none)) else (bif Nat.blt n 303 then (bif Nat.beq n 279 then some .zx else none) else (bif Nat.blt n 304 then (bif Nat.beq n 303 then some .zy else none) else (bif Nat.beq n 304 then some .zy else none)))))))
def VV:Uni where
 C:=TyC
 T:=TyC.T
 dec:=dT
 c0:= .z4
 n:=fun c=>match c with
  | .zh=>5
  | .zj=>2
  | .z1=>3
  | .zm=>3
  | .zt=>4
  | .zs=>2
  | .z8=>2
  | .z7=>6
  | .zg=>2
  | .z6=>2
  | .za=>3
  | .zc=>7
  | .z9=>13
  | .zf=>7
  | .zn=>8
  | .zl=>3
  | .zk=>4
  | .ze=>4
  | .zb=>3
  | .zo=>14
  | .zr=>13
  | .z0=>12
  | .zd=>4
  | .zq=>2
  | .zp=>5
  | .z2=>6
  | .zi=>4
  | _=>1
 ag:=fun c=>match c with
  | .z4=>false
  | .zv=>false
  | .zy=>false
  | .z3=>false
  | .zx=>false
  | .zw=>false
  | .z5=>false
  | _=>true
 lay:=fun c=>match c with
  | .z4=>[none]
  | .zh=>[none,none,none,none,none]
  | .zv=>[none]
  | .zy=>[none]
  | .zj=>[none,none]
  | .z1=>List.replicate 3 (none)
  | .z3=>[none]
  | .zm=>[none,none,none]
  | .zt=>[none,none,none,none]
  | .zx=>[none]
  | .zs=>[none,none]
  | .z8=>[none,none]
  | .z7=>[none,some .z8,none,none,none]
  | .zg=>[none,none]
  | .z6=>[none,none]
  | .za=>[none,some .z8]
  | .zc=>[none,some .z7]
  | .z9=>[none,some .z7,some .z7]
  | .zf=>[none,some .z7]
  | .zn=>[none,some .zg,none,none,none,none,none]
  | .zl=>[none,none,none]
  | .zk=>[none,some .zl]
  | .ze=>[none,none,some .z8]
  | .zb=>[none,none,none]
  | .zo=>[none,none,none,none,none,none,none,some .zj,none,none,none,none,none]
  | .zr=>[none,none,none,none,none,none,none,none,none,none,none,none,none]
  | .zw=>[none]
  | .z5=>[none]
  | .zu=>[none]
  | .z0=>List.replicate 12 (none)
  | .zd=>[none,none,some .zj]
  | .zq=>[none,none]
  | .zp=>[none,some .zj,none,none]
  | .z2=>List.replicate 6 (none)
  | .zi=>[some .zj,none,none]
 flds:=fun c=>match c with
  | .z4=>e6g
  | .zh=>d02
  | .zv=>e7x
  | .zy=>f5c
  | .zj=>d4t
  | .z1=>d0l
  | .z3=>e19
  | .zm=>d0i
  | .zt=>b0n
  | .zx=>e80
  | .zs=>b1w
  | .z8=>b9r
  | .z7=>d3o
  | .zg=>c00
  | .z6=>c4q
  | .za=>c9y
  | .zc=>d9g
  | .z9=>c9c
  | .zf=>c50
  | .zn=>c1r
  | .zl=>c26
  | .zk=>c9t
  | .ze=>d32
  | .zb=>d2z
  | .zo=>c0a
  | .zr=>b26
  | .zw=>e7a
  | .z5=>d0n
  | .zu=>b30
  | .z0=>c5n
  | .zd=>c3p
  | .zq=>b1x
  | .zp=>b2w
  | .z2=>c8w
  | .zi=>c3z
 mkv:=fun c=>match c with
  | .z4=>e70
  | .zh=>c8u
  | .zv=>e79
  | .zy=>f2s
  | .zj=>d4c
  | .z1=>c9a
  | .z3=>e04
  | .zm=>c8h
  | .zt=>b0m
  | .zx=>e76
  | .zs=>b24
  | .z8=>c09
  | .z7=>d3c
  | .zg=>c08
  | .z6=>c55
  | .za=>c9h
  | .zc=>e06
  | .z9=>c9x
  | .zf=>c5h
  | .zn=>c1w
  | .zl=>c3f
  | .zk=>c97
  | .ze=>d46
  | .zb=>d58
  | .zo=>c01
  | .zr=>b23
  | .zw=>e6r
  | .z5=>c8s
  | .zu=>b2y
  | .z0=>c59
  | .zd=>c2t
  | .zq=>b1z
  | .zp=>b2v
  | .z2=>c9s
  | .zi=>c3h
 cd:=cdT
 flat:=fun c=>match c with
  | .zh=>false
  | .zt=>false
  | .z7=>false
  | .zc=>false
  | .z9=>false
  | .zf=>false
  | .zn=>false
  | .zl=>false
  | .zk=>false
  | .zb=>false
  | .z5=>false
  | .zu=>false
  | .zp=>false
  | _=>true
 isA:=fun c=>match c with
  | .z1=>true
  | .z0=>true
  | .z2=>true
  | _=>false
 ae:=fun c=>match c with
  | .z1=> .zv
  | .z0=> .z4
  | .z2=> .z4
  | c=>c
 an:=fun c=>match c with
  | .z1=>3
  | .z0=>12
  | .z2=>6
  | _=>0
 al:=fun c=>match c with
  | .z1=>fun x=>x.l
  | .z0=>fun x=>x.l
  | .z2=>fun x=>x.l
  | _=>fun _=>[]
 «as» :=fun c=>match c with
  | .z1=>fun x i y=>x.set i y
  | .z0=>fun x i y=>x.set i y
  | .z2=>fun x i y=>x.set i y
  | _=>fun x _ _=>x
 gt:=fun c=>match c with
  | .z4=>fun x _=>x
  | .zh=>fun x _=>x
  | .zv=>fun x _=>x
  | .zy=>fun x _=>x
  | .zj=>fun x _=>x
  | .z1=>fun x i=>Ar.gt ByteArray.empty x i
  | .z3=>fun x _=>x
  | .zm=>fun x _=>x
  | .zt=>fun x _=>x
  | .zx=>fun x _=>x
  | .zs=>fun x _=>x
  | .z8=>fun x _=>x
  | .z7=>fun x _=>x
  | .zg=>fun x _=>x
  | .z6=>fun x _=>x
  | .za=>fun x _=>x
  | .zc=>fun x _=>x
  | .z9=>fun x _=>x
  | .zf=>fun x _=>x
  | .zn=>fun x _=>x
  | .zl=>fun x _=>x
  | .zk=>fun x _=>x
  | .ze=>fun x _=>x
  | .zb=>fun x _=>x
  | .zo=>fun x _=>x
  | .zr=>fun x _=>x
  | .zw=>fun x _=>x
  | .z5=>fun x _=>x
  | .zu=>fun x _=>x
  | .z0=>fun x i=>Ar.gt 0 x i
  | .zd=>fun x _=>x
  | .zq=>fun x _=>x
  | .zp=>fun x _=>x
  | .z2=>fun x i=>Ar.gt 0 x i
  | .zi=>fun x _=>x
 b8:=fun c=>match c with
  | .zy=>true
  | _=>false
 t8:=fun c=>match c with
  | .zy=>fun x=>x
  | _=>fun _=>0
 tab:=fun _=>True
 tb:=fun _=>False
theorem e8v: ∀(zs:List VV.AV) (y:Int),e70 zs=some y -> m7 (AEq (U:=VV)) zs (e6g y):=by
 intro zs y h
 obtain ⟨a0,zs,x0,rfl,h0,h⟩:=e9 h;obtain ⟨rfl,rfl⟩:=a38 h;exact ⟨a0u (U:=VV) h0,trivial⟩
theorem d7c: ∀(zs:List VV.AV) (y:Rules),c8u zs=some y -> m7 (AEq (U:=VV)) zs (d02 y):=by
 intro zs y h
 obtain ⟨a0,zs,x0,rfl,h0,h⟩:=e9 h;obtain ⟨a1,zs,x1,rfl,h1,h⟩:=e9 h;obtain ⟨a2,zs,x2,rfl,h2,h⟩:=e9 h;obtain ⟨a3,zs,x3,rfl,h3,h⟩:=e9 h;obtain ⟨a4,zs,x4,rfl,h4,h⟩:=e9 h;obtain ⟨rfl,rfl⟩:=a38 h;exact ⟨a0u (U:=VV) h0,a0u (U:=VV) h1,a0u (U:=VV) h2,a0u (U:=VV) h3,b5n (U:=VV) h4,trivial⟩
theorem e9b: ∀(zs:List VV.AV) (y:ByteArray),e79 zs=some y -> m7 (AEq (U:=VV)) zs (e7x y):=by
 intro zs y h
 obtain ⟨a0,zs,x0,rfl,h0,h⟩:=e9 h;obtain ⟨rfl,rfl⟩:=a38 h;exact ⟨d6e (U:=VV) h0,trivial⟩
theorem f1t: ∀(zs:List VV.AV) (y:Int),f2s zs=some y -> m7 (AEq (U:=VV)) zs (f5c y):=by
 intro zs y h
 obtain ⟨a0,zs,x0,rfl,h0,h⟩:=e9 h;obtain ⟨rfl,rfl⟩:=a38 h;exact ⟨a0u (U:=VV) h0,trivial⟩
theorem d7y: ∀(zs:List VV.AV) (y:Span),d4c zs=some y -> m7 (AEq (U:=VV)) zs (d4t y):=by
 intro zs y h
 obtain ⟨a0,zs,x0,rfl,h0,h⟩:=e9 h;obtain ⟨a1,zs,x1,rfl,h1,h⟩:=e9 h;obtain ⟨rfl,rfl⟩:=a38 h;exact ⟨a0u (U:=VV) h0,a0u (U:=VV) h1,trivial⟩
theorem d6w: ∀(zs:List VV.AV) (y:Ar 3 ByteArray),c9a zs=some y -> m7 (AEq (U:=VV)) zs (d0l y):=fun zs y h=>e1w (fun _ _ h=>d6e (U:=VV) h) h
theorem e5d: ∀(zs:List VV.AV) (y:Bool),e04 zs=some y -> m7 (AEq (U:=VV)) zs (e19 y):=by
 intro zs y h
 obtain ⟨a0,zs,x0,rfl,h0,h⟩:=e9 h;obtain ⟨rfl,rfl⟩:=a38 h;exact ⟨e52 (U:=VV) h0,trivial⟩
theorem d65: ∀(zs:List VV.AV) (y:Token),c8h zs=some y -> m7 (AEq (U:=VV)) zs (d0i y):=by
 intro zs y h
 obtain ⟨a0,zs,x0,rfl,h0,h⟩:=e9 h;obtain ⟨a1,zs,x1,rfl,h1,h⟩:=e9 h;obtain ⟨a2,zs,x2,rfl,h2,h⟩:=e9 h;obtain ⟨rfl,rfl⟩:=a38 h;exact ⟨a0u (U:=VV) h0,d6e (U:=VV) h1,a0u (U:=VV) h2,trivial⟩
theorem b4p: ∀(zs:List VV.AV) (y:rQ),b0m zs=some y -> m7 (AEq (U:=VV)) zs (b0n y):=by
 intro zs y h
 obtain ⟨a0,zs,x0,rfl,h0,h⟩:=e9 h;obtain ⟨a1,zs,x1,rfl,h1,h⟩:=e9 h;obtain ⟨a2,zs,x2,rfl,h2,h⟩:=e9 h;obtain ⟨a3,zs,x3,rfl,h3,h⟩:=e9 h;obtain ⟨rfl,rfl⟩:=a38 h;exact ⟨b5n (U:=VV) h0,a0u (U:=VV) h1,a0u (U:=VV) h2,e52 (U:=VV) h3,trivial⟩
theorem e94: ∀(zs:List VV.AV) (y:Int),e76 zs=some y -> m7 (AEq (U:=VV)) zs (e80 y):=by
 intro zs y h
 obtain ⟨a0,zs,x0,rfl,h0,h⟩:=e9 h;obtain ⟨rfl,rfl⟩:=a38 h;exact ⟨a0u (U:=VV) h0,trivial⟩
theorem b5k: ∀(zs:List VV.AV) (y:pensionref1_wide),b24 zs=some y -> m7 (AEq (U:=VV)) zs (b1w y):=by
 intro zs y h
 obtain ⟨a0,zs,x0,rfl,h0,h⟩:=e9 h;obtain ⟨a1,zs,x1,rfl,h1,h⟩:=e9 h;obtain ⟨rfl,rfl⟩:=a38 h;exact ⟨a0u (U:=VV) h0,a0u (U:=VV) h1,trivial⟩
theorem c7j: ∀(zs:List VV.AV) (y:Fraction),c09 zs=some y -> m7 (AEq (U:=VV)) zs (b9r y):=by
 intro zs y h
 obtain ⟨a0,zs,x0,rfl,h0,h⟩:=e9 h;obtain ⟨a1,zs,x1,rfl,h1,h⟩:=e9 h;obtain ⟨rfl,rfl⟩:=a38 h;exact ⟨a0u (U:=VV) h0,a0u (U:=VV) h1,trivial⟩
theorem e2f: ∀(zs:List VV.AV) (y:Expr),d3c zs=some y -> m7 (AEq (U:=VV)) zs (d3o y):=by
 intro zs y h
 obtain ⟨a0,zs,x0,rfl,h0,h⟩:=e9 h;obtain ⟨a1,zs,x1,rfl,h1,h⟩:=e9 h;obtain ⟨a2,zs,x2,rfl,h2,h⟩:=e9 h;obtain ⟨a3,zs,x3,rfl,h3,h⟩:=e9 h;obtain ⟨a4,zs,x4,rfl,h4,h⟩:=e9 h;obtain ⟨rfl,rfl⟩:=a38 h;exact ⟨a0u (U:=VV) h0,b8q (U:=VV) h1,a0u (U:=VV) h2,d6e (U:=VV) h3,b5n (U:=VV) h4,trivial⟩
theorem c6m: ∀(zs:List VV.AV) (y:Rounding),c08 zs=some y -> m7 (AEq (U:=VV)) zs (c00 y):=by
 intro zs y h
 obtain ⟨a0,zs,x0,rfl,h0,h⟩:=e9 h;obtain ⟨a1,zs,x1,rfl,h1,h⟩:=e9 h;obtain ⟨rfl,rfl⟩:=a38 h;exact ⟨a0u (U:=VV) h0,a0u (U:=VV) h1,trivial⟩
theorem d18: ∀(zs:List VV.AV) (y:Credit),c55 zs=some y -> m7 (AEq (U:=VV)) zs (c4q y):=by
 intro zs y h
 obtain ⟨a0,zs,x0,rfl,h0,h⟩:=e9 h;obtain ⟨a1,zs,x1,rfl,h1,h⟩:=e9 h;obtain ⟨rfl,rfl⟩:=a38 h;exact ⟨a0u (U:=VV) h0,a0u (U:=VV) h1,trivial⟩
theorem d6o: ∀(zs:List VV.AV) (y:Index),c9h zs=some y -> m7 (AEq (U:=VV)) zs (c9y y):=by
 intro zs y h
 obtain ⟨a0,zs,x0,rfl,h0,h⟩:=e9 h;obtain ⟨a1,zs,x1,rfl,h1,h⟩:=e9 h;obtain ⟨rfl,rfl⟩:=a38 h;exact ⟨a0u (U:=VV) h0,b8q (U:=VV) h1,trivial⟩
theorem e5k: ∀(zs:List VV.AV) (y:Let),e06 zs=some y -> m7 (AEq (U:=VV)) zs (d9g y):=by
 intro zs y h
 obtain ⟨a0,zs,x0,rfl,h0,h⟩:=e9 h;obtain ⟨a1,zs,x1,rfl,h1,h⟩:=e9 h;obtain ⟨rfl,rfl⟩:=a38 h;exact ⟨d6e (U:=VV) h0,b8q (U:=VV) h1,trivial⟩
theorem d5d: ∀(zs:List VV.AV) (y:Grant),c9x zs=some y -> m7 (AEq (U:=VV)) zs (c9c y):=by
 intro zs y h
 obtain ⟨a0,zs,x0,rfl,h0,h⟩:=e9 h;obtain ⟨a1,zs,x1,rfl,h1,h⟩:=e9 h;obtain ⟨a2,zs,x2,rfl,h2,h⟩:=e9 h;obtain ⟨rfl,rfl⟩:=a38 h;exact ⟨a0u (U:=VV) h0,b8q (U:=VV) h1,b8q (U:=VV) h2,trivial⟩
theorem d23: ∀(zs:List VV.AV) (y:Reduce),c5h zs=some y -> m7 (AEq (U:=VV)) zs (c50 y):=by
 intro zs y h
 obtain ⟨a0,zs,x0,rfl,h0,h⟩:=e9 h;obtain ⟨a1,zs,x1,rfl,h1,h⟩:=e9 h;obtain ⟨rfl,rfl⟩:=a38 h;exact ⟨a0u (U:=VV) h0,b8q (U:=VV) h1,trivial⟩
theorem d0e: ∀(zs:List VV.AV) (y:Version),c1w zs=some y -> m7 (AEq (U:=VV)) zs (c1r y):=by
 intro zs y h
 obtain ⟨a0,zs,x0,rfl,h0,h⟩:=e9 h;obtain ⟨a1,zs,x1,rfl,h1,h⟩:=e9 h;obtain ⟨a2,zs,x2,rfl,h2,h⟩:=e9 h;obtain ⟨a3,zs,x3,rfl,h3,h⟩:=e9 h;obtain ⟨a4,zs,x4,rfl,h4,h⟩:=e9 h;obtain ⟨a5,zs,x5,rfl,h5,h⟩:=e9 h;obtain ⟨a6,zs,x6,rfl,h6,h⟩:=e9 h;obtain ⟨rfl,rfl⟩:=a38 h;exact ⟨a0u (U:=VV) h0,b8q (U:=VV) h1,b5n (U:=VV) h2,b5n (U:=VV) h3,b5n (U:=VV) h4,b5n (U:=VV) h5,b5n (U:=VV) h6,trivial⟩
theorem c9l: ∀(zs:List VV.AV) (y:Statute),c3f zs=some y -> m7 (AEq (U:=VV)) zs (c26 y):=by
 intro zs y h
 obtain ⟨a0,zs,x0,rfl,h0,h⟩:=e9 h;obtain ⟨a1,zs,x1,rfl,h1,h⟩:=e9 h;obtain ⟨a2,zs,x2,rfl,h2,h⟩:=e9 h;obtain ⟨rfl,rfl⟩:=a38 h;exact ⟨d6e (U:=VV) h0,a0u (U:=VV) h1,b5n (U:=VV) h2,trivial⟩
theorem d7a: ∀(zs:List VV.AV) (y:State),c97 zs=some y -> m7 (AEq (U:=VV)) zs (c9t y):=by
 intro zs y h
 obtain ⟨a0,zs,x0,rfl,h0,h⟩:=e9 h;obtain ⟨a1,zs,x1,rfl,h1,h⟩:=e9 h;obtain ⟨rfl,rfl⟩:=a38 h;exact ⟨a0u (U:=VV) h0,b8q (U:=VV) h1,trivial⟩
theorem e0e: ∀(zs:List VV.AV) (y:Rate),d46 zs=some y -> m7 (AEq (U:=VV)) zs (d32 y):=by
 intro zs y h
 obtain ⟨a0,zs,x0,rfl,h0,h⟩:=e9 h;obtain ⟨a1,zs,x1,rfl,h1,h⟩:=e9 h;obtain ⟨a2,zs,x2,rfl,h2,h⟩:=e9 h;obtain ⟨rfl,rfl⟩:=a38 h;exact ⟨a0u (U:=VV) h0,a0u (U:=VV) h1,b8q (U:=VV) h2,trivial⟩
theorem e00: ∀(zs:List VV.AV) (y:Laws),d58 zs=some y -> m7 (AEq (U:=VV)) zs (d2z y):=by
 intro zs y h
 obtain ⟨a0,zs,x0,rfl,h0,h⟩:=e9 h;obtain ⟨a1,zs,x1,rfl,h1,h⟩:=e9 h;obtain ⟨a2,zs,x2,rfl,h2,h⟩:=e9 h;obtain ⟨rfl,rfl⟩:=a38 h;exact ⟨b5n (U:=VV) h0,b5n (U:=VV) h1,b5n (U:=VV) h2,trivial⟩
theorem c6b: ∀(zs:List VV.AV) (y:aQ),c01 zs=some y -> m7 (AEq (U:=VV)) zs (c0a y):=by
 intro zs y h
 obtain ⟨a0,zs,x0,rfl,h0,h⟩:=e9 h;obtain ⟨a1,zs,x1,rfl,h1,h⟩:=e9 h;obtain ⟨a2,zs,x2,rfl,h2,h⟩:=e9 h;obtain ⟨a3,zs,x3,rfl,h3,h⟩:=e9 h;obtain ⟨a4,zs,x4,rfl,h4,h⟩:=e9 h;obtain ⟨a5,zs,x5,rfl,h5,h⟩:=e9 h;obtain ⟨a6,zs,x6,rfl,h6,h⟩:=e9 h;obtain ⟨a7,zs,x7,rfl,h7,h⟩:=e9 h;obtain ⟨a8,zs,x8,rfl,h8,h⟩:=e9 h;obtain ⟨a9,zs,x9,rfl,h9,h⟩:=e9 h;obtain ⟨a10,zs,x10,rfl,h10,h⟩:=e9 h;obtain ⟨a11,zs,x11,rfl,h11,h⟩:=e9 h;obtain ⟨a12,zs,x12,rfl,h12,h⟩:=e9 h;obtain ⟨rfl,rfl⟩:=a38 h;exact ⟨a0u (U:=VV) h0,a0u (U:=VV) h1,a0u (U:=VV) h2,e52 (U:=VV) h3,a0u (U:=VV) h4,a0u (U:=VV) h5,a0u (U:=VV) h6,b8q (U:=VV) h7,a0u (U:=VV) h8,a0u (U:=VV) h9,a0u (U:=VV) h10,a0u (U:=VV) h11,a0u (U:=VV) h12,trivial⟩
theorem b5l: ∀(zs:List VV.AV) (y:pensionhand_Fact),b23 zs=some y -> m7 (AEq (U:=VV)) zs (b26 y):=by
 intro zs y h
 obtain ⟨a0,zs,x0,rfl,h0,h⟩:=e9 h;obtain ⟨a1,zs,x1,rfl,h1,h⟩:=e9 h;obtain ⟨a2,zs,x2,rfl,h2,h⟩:=e9 h;obtain ⟨a3,zs,x3,rfl,h3,h⟩:=e9 h;obtain ⟨a4,zs,x4,rfl,h4,h⟩:=e9 h;obtain ⟨a5,zs,x5,rfl,h5,h⟩:=e9 h;obtain ⟨a6,zs,x6,rfl,h6,h⟩:=e9 h;obtain ⟨a7,zs,x7,rfl,h7,h⟩:=e9 h;obtain ⟨a8,zs,x8,rfl,h8,h⟩:=e9 h;obtain ⟨a9,zs,x9,rfl,h9,h⟩:=e9 h;obtain ⟨a10,zs,x10,rfl,h10,h⟩:=e9 h;obtain ⟨a11,zs,x11,rfl,h11,h⟩:=e9 h;obtain ⟨a12,zs,x12,rfl,h12,h⟩:=e9 h;obtain ⟨rfl,rfl⟩:=a38 h;exact ⟨a0u (U:=VV) h0,a0u (U:=VV) h1,a0u (U:=VV) h2,e52 (U:=VV) h3,a0u (U:=VV) h4,a0u (U:=VV) h5,a0u (U:=VV) h6,a0u (U:=VV) h7,a0u (U:=VV) h8,a0u (U:=VV) h9,a0u (U:=VV) h10,a0u (U:=VV) h11,a0u (U:=VV) h12,trivial⟩
theorem f0o: ∀(zs:List VV.AV) (y:Int),e6r zs=some y -> m7 (AEq (U:=VV)) zs (e7a y):=by
 intro zs y h
 obtain ⟨a0,zs,x0,rfl,h0,h⟩:=e9 h;obtain ⟨rfl,rfl⟩:=a38 h;exact ⟨a0u (U:=VV) h0,trivial⟩
theorem d6g: ∀(zs:List VV.AV) (y:List Span),c8s zs=some y -> m7 (AEq (U:=VV)) zs (d0n y):=by
 intro zs y h
 obtain ⟨a0,zs,x0,rfl,h0,h⟩:=e9 h;obtain ⟨rfl,rfl⟩:=a38 h;exact ⟨b5n (U:=VV) h0,trivial⟩
theorem b6f: ∀(zs:List VV.AV) (y:wQ),b2y zs=some y -> m7 (AEq (U:=VV)) zs (b30 y):=by
 intro zs y h
 obtain ⟨a0,zs,x0,rfl,h0,h⟩:=e9 h;obtain ⟨rfl,rfl⟩:=a38 h;exact ⟨b5n (U:=VV) h0,trivial⟩
theorem d21: ∀(zs:List VV.AV) (y:Ar 12 Int),c59 zs=some y -> m7 (AEq (U:=VV)) zs (c5n y):=fun zs y h=>e1w (fun _ _ h=>a0u (U:=VV) h) h
theorem d0a: ∀(zs:List VV.AV) (y:Posting),c2t zs=some y -> m7 (AEq (U:=VV)) zs (c3p y):=by
 intro zs y h
 obtain ⟨a0,zs,x0,rfl,h0,h⟩:=e9 h;obtain ⟨a1,zs,x1,rfl,h1,h⟩:=e9 h;obtain ⟨a2,zs,x2,rfl,h2,h⟩:=e9 h;obtain ⟨rfl,rfl⟩:=a38 h;exact ⟨a0u (U:=VV) h0,a0u (U:=VV) h1,b8q (U:=VV) h2,trivial⟩
theorem b57: ∀(zs:List VV.AV) (y:competence_route),b1z zs=some y -> m7 (AEq (U:=VV)) zs (b1x y):=by
 intro zs y h
 obtain ⟨a0,zs,x0,rfl,h0,h⟩:=e9 h;obtain ⟨a1,zs,x1,rfl,h1,h⟩:=e9 h;obtain ⟨rfl,rfl⟩:=a38 h;exact ⟨a0u (U:=VV) h0,a0u (U:=VV) h1,trivial⟩
theorem b6k: ∀(zs:List VV.AV) (y:lQ),b2v zs=some y -> m7 (AEq (U:=VV)) zs (b2w y):=by
 intro zs y h
 obtain ⟨a0,zs,x0,rfl,h0,h⟩:=e9 h;obtain ⟨a1,zs,x1,rfl,h1,h⟩:=e9 h;obtain ⟨a2,zs,x2,rfl,h2,h⟩:=e9 h;obtain ⟨a3,zs,x3,rfl,h3,h⟩:=e9 h;obtain ⟨rfl,rfl⟩:=a38 h;exact ⟨b5n (U:=VV) h0,b8q (U:=VV) h1,b5n (U:=VV) h2,b5n (U:=VV) h3,trivial⟩
theorem d5c: ∀(zs:List VV.AV) (y:Ar 6 Int),c9s zs=some y -> m7 (AEq (U:=VV)) zs (c8w y):=fun zs y h=>e1w (fun _ _ h=>a0u (U:=VV) h) h
theorem c9k: ∀(zs:List VV.AV) (y:Segment),c3h zs=some y -> m7 (AEq (U:=VV)) zs (c3z y):=by
 intro zs y h
 obtain ⟨a0,zs,x0,rfl,h0,h⟩:=e9 h;obtain ⟨a1,zs,x1,rfl,h1,h⟩:=e9 h;obtain ⟨a2,zs,x2,rfl,h2,h⟩:=e9 h;obtain ⟨rfl,rfl⟩:=a38 h;exact ⟨b8q (U:=VV) h0,a0u (U:=VV) h1,a0u (U:=VV) h2,trivial⟩
theorem uok:UOK VV where
 lay:=fun c x=>by cases c<;>first | rfl | exact e88 (U:=VV) x fun _=>rfl
 kind:=fun c x=>by cases c<;>first | rfl | exact d7r (U:=VV) x fun _=>rfl
 sum:=fun c=>by cases c<;>rfl
 sc:=fun c h=>by cases c<;>first | rfl | cases h
 mkl:=fun c zs y h=>match c,y,h with
  | .z4,y,h=>e8v zs y h
  | .zh,y,h=>d7c zs y h
  | .zv,y,h=>e9b zs y h
  | .zy,y,h=>f1t zs y h
  | .zj,y,h=>d7y zs y h
  | .z1,y,h=>d6w zs y h
  | .z3,y,h=>e5d zs y h
  | .zm,y,h=>d65 zs y h
  | .zt,y,h=>b4p zs y h
  | .zx,y,h=>e94 zs y h
  | .zs,y,h=>b5k zs y h
  | .z8,y,h=>c7j zs y h
  | .z7,y,h=>e2f zs y h
  | .zg,y,h=>c6m zs y h
  | .z6,y,h=>d18 zs y h
  | .za,y,h=>d6o zs y h
  | .zc,y,h=>e5k zs y h
  | .z9,y,h=>d5d zs y h
  | .zf,y,h=>d23 zs y h
  | .zn,y,h=>d0e zs y h
  | .zl,y,h=>c9l zs y h
  | .zk,y,h=>d7a zs y h
  | .ze,y,h=>e0e zs y h
  | .zb,y,h=>e00 zs y h
  | .zo,y,h=>c6b zs y h
  | .zr,y,h=>b5l zs y h
  | .zw,y,h=>f0o zs y h
  | .z5,y,h=>d6g zs y h
  | .zu,y,h=>b6f zs y h
  | .z0,y,h=>d21 zs y h
  | .zd,y,h=>d0a zs y h
  | .zq,y,h=>b57 zs y h
  | .zp,y,h=>b6k zs y h
  | .z2,y,h=>d5c zs y h
  | .zi,y,h=>c9k zs y h
 flat:=fun c x h=>by cases c<;>first | exact Bool.noConfusion (show false=true from h) | rfl | exact d7r (U:=VV) x fun _=>rfl
 arr:=fun c x h=>by cases c<;>first | exact Bool.noConfusion (show false=true from h) | exact ⟨rfl,x.h⟩
 ars:=fun c x i y h=>by cases c<;>first | exact Bool.noConfusion (show false=true from h) | rfl
 gt:=fun c x i y h=>by cases c<;>first | exact Bool.noConfusion (show false=true from h) | exact fun hg=>Ar.gt_ok hg
 by8:=fun c x h=>by cases c<;>first | exact Bool.noConfusion (show false=true from h) | rfl
 tabK:=fun _ _ _ _=>trivial
end Go.PL
namespace Go.Proofs
open Go.Shelf
def Tryz.sliceLay_ren:Go.Shelf.Ren:=⟨fun | 6=>73 | 10=>111 | 11=>112 | 12=>113 | 13=>114 | 14=>115 | 24=>164 | 25=>165 | 26=>166 | 27=>167 | 28=>168 | 29=>169 | 30=>170 | 31=>171 | 32=>172 | 33=>173 | 34=>208 | 35=>209 | 36=>210 | 37=>211 | 38=>212 | 39=>232 | n=>n,fun | 20=>20 | 26=>137 | 35=>162 | 0=>0 | 37=>164 | 3=>3 | 41=>167 | 44=>170 | 49=>226 | 51=>228 | 4=>4 | 54=>231 | 53=>230 | 58=>36 | 5=>5 | 9=>9 | 60=>255 | 64=>259 | 66=>275 | 67=>79 | 17=>17 | 32=>159 | 33=>160 | 82=>310 | 12=>12 | 75=>303 | 76=>304 | 77=>305 | 78=>306 | 79=>307 | 80=>308 | n=>n,fun | n=>n⟩
theorem Tryz.sliceLay:Go.Proofs.LaysGg.n6 Tryz.prog Tryz.sliceLay_ren:={
 mixed:=by kernel_rfl
 f6:=Tryz.func73.trans (congrArg some (by kernel_rfl))
 f10:=Tryz.func111.trans (congrArg some (by kernel_rfl))
 f11:=Tryz.func112.trans (congrArg some (by kernel_rfl))
 f12:=Tryz.func113.trans (congrArg some (by kernel_rfl))
 f13:=Tryz.func114.trans (congrArg some (by kernel_rfl))
 f14:=Tryz.func115.trans (congrArg some (by kernel_rfl))
 f24:=Tryz.func164.trans (congrArg some (by kernel_rfl))
 f25:=Tryz.func165.trans (congrArg some (by kernel_rfl))
 f26:=Tryz.func166.trans (congrArg some (by kernel_rfl))
 f27:=Tryz.func167.trans (congrArg some (by kernel_rfl))
 f28:=Tryz.func168.trans (congrArg some (by kernel_rfl))
 f29:=Tryz.func169.trans (congrArg some (by kernel_rfl))
 f30:=Tryz.func170.trans (congrArg some (by kernel_rfl))
 f31:=Tryz.func171.trans (congrArg some (by kernel_rfl))
 f32:=Tryz.func172.trans (congrArg some (by kernel_rfl))
 f33:=Tryz.func173.trans (congrArg some (by kernel_rfl))
 f34:=Tryz.func208.trans (congrArg some (by kernel_rfl))
 f35:=Tryz.func209.trans (congrArg some (by kernel_rfl))
 f36:=Tryz.func210.trans (congrArg some (by kernel_rfl))
 f37:=Tryz.func211.trans (congrArg some (by kernel_rfl))
 f38:=Tryz.func212.trans (congrArg some (by kernel_rfl))
 f39:=Tryz.func232.trans (congrArg some (by kernel_rfl))
 t0:=Tryz.underlying0
 a0:=Tryz.isAgg0
 z0:=Tryz.sizeOf0
 v0:=Tryz.zeroValue0
 i0:=by kernel_rfl
 t3:=Tryz.underlying3
 a3:=Tryz.isAgg3
 z3:=Tryz.sizeOf3
 v3:=Tryz.zeroValue3
 i3:=by kernel_rfl
 t4:=Tryz.underlying4
 a4:=Tryz.isAgg4
 z4:=Tryz.sizeOf4
 v4:=Tryz.zeroValue4
 i4:=by kernel_rfl
 t5:=Tryz.underlying5
 a5:=Tryz.isAgg5
 z5:=Tryz.sizeOf5
 v5:=Tryz.zeroValue5
 i5:=by kernel_rfl
 t9:=Tryz.underlying9
 a9:=Tryz.isAgg9
 z9:=Tryz.sizeOf9
 v9:=Tryz.zeroValue9
 i9:=by kernel_rfl
 t12:=Tryz.underlying12
 a12:=Tryz.isAgg12
 z12:=Tryz.sizeOf12
 v12:=Tryz.zeroValue12
 i12:=by kernel_rfl
 t17:=Tryz.underlying17
 a17:=Tryz.isAgg17
 z17:=Tryz.sizeOf17
 v17:=Tryz.zeroValue17
 i17:=by kernel_rfl
 t20:=Tryz.underlying20
 a20:=Tryz.isAgg20
 z20:=Tryz.sizeOf20
 v20:=Tryz.zeroValue20
 i20:=by kernel_rfl
 t26:=Tryz.underlying137
 a26:=Tryz.isAgg137
 z26:=Tryz.sizeOf137
 v26:=Tryz.zeroValue137
 i26:=by kernel_rfl
 t32:=Tryz.underlying159
 a32:=Tryz.isAgg159
 z32:=Tryz.sizeOf159
 v32:=Tryz.zeroValue159
 i32:=by kernel_rfl
 t33:=Tryz.underlying160
 a33:=Tryz.isAgg160
 z33:=Tryz.sizeOf160
 v33:=Tryz.zeroValue160
 i33:=by kernel_rfl
 t35:=Tryz.underlying162
 a35:=Tryz.isAgg162
 z35:=Tryz.sizeOf162
 v35:=Tryz.zeroValue162
 i35:=by kernel_rfl
 t37:=Tryz.underlying164
 a37:=Tryz.isAgg164
 z37:=Tryz.sizeOf164
 v37:=Tryz.zeroValue164
 i37:=by kernel_rfl
 t41:=Tryz.underlying167
 a41:=Tryz.isAgg167
 z41:=Tryz.sizeOf167
 v41:=Tryz.zeroValue167
 i41:=by kernel_rfl
 t44:=Tryz.underlying170
 a44:=Tryz.isAgg170
 z44:=Tryz.sizeOf170
 v44:=Tryz.zeroValue170
 i44:=by kernel_rfl
 t49:=Tryz.underlying226
 a49:=Tryz.isAgg226
 z49:=Tryz.sizeOf226
 v49:=Tryz.zeroValue226
 i49:=by kernel_rfl
 t51:=Tryz.underlying228
 a51:=Tryz.isAgg228
 z51:=Tryz.sizeOf228
 v51:=Tryz.zeroValue228
 i51:=by kernel_rfl
 t53:=Tryz.underlying230
 a53:=Tryz.isAgg230
 z53:=Tryz.sizeOf230
 v53:=Tryz.zeroValue230
 i53:=by kernel_rfl
 t54:=Tryz.underlying231
 a54:=Tryz.isAgg231
 z54:=Tryz.sizeOf231
 v54:=Tryz.zeroValue231
 i54:=by kernel_rfl
 t58:=Tryz.underlying36
 a58:=Tryz.isAgg36
 z58:=Tryz.sizeOf36
 v58:=Tryz.zeroValue36
 i58:=by kernel_rfl
 t60:=Tryz.underlying255
 a60:=Tryz.isAgg255
 z60:=Tryz.sizeOf255
 v60:=Tryz.zeroValue255
 i60:=by kernel_rfl
 t64:=Tryz.underlying259
 a64:=Tryz.isAgg259
 z64:=Tryz.sizeOf259
 v64:=Tryz.zeroValue259
 i64:=by kernel_rfl
 t66:=Tryz.underlying275
 a66:=Tryz.isAgg275
 z66:=Tryz.sizeOf275
 v66:=Tryz.zeroValue275
 i66:=by kernel_rfl
 t67:=Tryz.underlying79
 a67:=Tryz.isAgg79
 z67:=Tryz.sizeOf79
 v67:=Tryz.zeroValue79
 i67:=by kernel_rfl
 t75:=Tryz.underlying303
 a75:=Tryz.isAgg303
 z75:=Tryz.sizeOf303
 v75:=Tryz.zeroValue303
 i75:=by kernel_rfl
 t76:=Tryz.underlying304
 a76:=Tryz.isAgg304
 z76:=Tryz.sizeOf304
 v76:=Tryz.zeroValue304
 i76:=by kernel_rfl
 t77:=Tryz.underlying305
 a77:=Tryz.isAgg305
 z77:=Tryz.sizeOf305
 v77:=Tryz.zeroValue305
 i77:=by kernel_rfl
 t78:=Tryz.underlying306
 a78:=Tryz.isAgg306
 z78:=Tryz.sizeOf306
 v78:=Tryz.zeroValue306
 i78:=by kernel_rfl
 t79:=Tryz.underlying307
 a79:=Tryz.isAgg307
 z79:=Tryz.sizeOf307
 v79:=Tryz.zeroValue307
 i79:=by kernel_rfl
 t80:=Tryz.underlying308
 a80:=Tryz.isAgg308
 z80:=Tryz.sizeOf308
 v80:=Tryz.zeroValue308
 i80:=by kernel_rfl
 t82:=Tryz.underlying310
 a82:=Tryz.isAgg310
 z82:=Tryz.sizeOf310
 v82:=Tryz.zeroValue310
 i82:=by kernel_rfl}
end Go.Proofs
namespace Go.PL
open Go Go.Proofs Go.Sort
theorem c4y {α:Type} [Inhabited α] {cells:α -> List Value} {n:Nat} (hn: ∀x,(cells x).length=n): ∀(l:List α) (t:Nat),t<l.length*n -> (l.flatMap cells)[t]? =(cells (l[t/n]!))[t%n]?
 | [],t,h=>by simp at h
 | x::r,t,h=>by
   have hp:0<n:=by
    rcases Nat.eq_zero_or_pos n with h0 | h0
    ·rw [h0] at h;simp at h
    ·exact h0
   rw [List.flatMap_cons]
   by_cases ht:t<n
   ·rw [List.getElem?_append_left (by rw [hn];exact ht),Nat.div_eq_of_lt ht,Nat.mod_eq_of_lt ht];rfl
   ·have h1:t=(t-n)+n:=by omega
    have h2:t/n=(t-n)/n+1:=by rw [h1,Nat.add_div_right _ hp];simp
    have h3:t%n=(t-n)%n:=by rw [h1,Nat.add_mod_right];simp
    rw [List.getElem?_append_right (by rw [hn];omega),hn,c4y hn r (t-n) (by simp only [List.length_cons,Nat.succ_mul] at h;omega),h2,h3]
    rfl
theorem b9n {α:Type} [Inhabited α] {cells:α -> List Value} {n:Nat} (hn: ∀x,(cells x).length=n) (d:Array α):(flatK cells n d).toList=d.toList.flatMap cells:=by
 apply List.ext_getElem?
 intro t
 by_cases ht:t<d.size*n
 ·rw [c4y hn d.toList t (by simpa using ht)]
  have h1:(flatK cells n d)[t]? =some ((cells (d[t/n]!))[t%n]!):=by
   rw [<- get_flatK cells n d t ht,getElem!_pos (flatK cells n d) t (by rw [size_flatK];exact ht)]
   simp
  have hp:0<n:=by
   rcases Nat.eq_zero_or_pos n with h0 | h0
   ·rw [h0] at ht;simp at ht
   ·exact h0
  have hlt:t%n<(cells (d[t/n]!)).length:=by rw [hn];exact Nat.mod_lt _ hp
  have h2:d.toList[t/n]! =d[t/n]! :=by simp [List.getElem!_eq_getElem?_getD,Array.getElem!_eq_getD,Array.getD_eq_getD_getElem?]
  rw [Array.getElem?_toList,h1,h2,getElem!_pos (cells (d[t/n]!)) (t%n) hlt,qG hlt]
 ·rw [List.getElem?_eq_none (by simp;omega),List.getElem?_eq_none (by rw [a07 hn];simp;omega)]
section
variable {α:Type} [Inhabited α] {B:Nat} {E:TypeId} {n:Nat} {cells:α -> List Value} {w w':World} {v:Value} {l:List α}
theorem d0o (hn: ∀x,(cells x).length=n) {g o cap m:Nat} (h:Own B E n cells w (.slice (some ⟨g,o,none⟩) m cap) l):HoldsK cells n w g o l.toArray:=by
 intro j hj
 rw [size_flatK] at hj
 have hk:=b9n hn l.toArray
 have hu:(l.flatMap cells)[j]? =some ((flatK cells n l.toArray)[j]!):=by
  have:(flatK cells n l.toArray).toList[j]? =some ((flatK cells n l.toArray)[j]!):=by
   rw [getElem!_pos (flatK cells n l.toArray) j (by rw [size_flatK];exact hj)]
   simp
  rw [hk] at this
  simpa using this
 refine ⟨?_,?_⟩
 ·have:=h.ca rfl j _ hu
  rwa [Addr.add_lit] at this
 ·rcases h with ⟨hv,_⟩ | ⟨g',o',cap',cur,hv,_,hh,_⟩
  ·cases hv
  ·simp only [Value.slice.injEq,Option.some.injEq,Addr.mk.injEq] at hv
   obtain ⟨⟨rfl,_,_⟩,_,_⟩:=hv
   have hM:Mb w g E cur.toList:=by show _=_;rw [hh]
   exact hM.frozen _
theorem c6r {F cur:Array Value} {m o:Nat} (hF:F.size=m) (hc:o+m <= cur.size):((putCells id o F cur).toList.drop o).take m=F.toList:=by
 apply List.ext_getElem?
 intro t
 by_cases ht:t<m
 ·rw [List.getElem?_take_of_lt ht,List.getElem?_drop,Array.getElem?_toList]
  simp only [putCells,Array.getElem?_mapIdx,id]
  rw [Array.getElem?_eq_getElem (show o+t<cur.size by omega),Option.map_some,if_pos ⟨Nat.le_add_right _ _,by omega⟩,Array.getElem?_toList,Nat.add_sub_cancel_left,getElem!_pos F t (by omega),Array.getElem?_eq_getElem (show t<F.size by omega)]
 ·rw [List.getElem?_eq_none (by simp;omega),List.getElem?_eq_none (by simp;omega)]
theorem d9p (hn: ∀x,(cells x).length=n) {g o cap m q:Nat} {os:Array Obj} {d:Array α} (h:Own B E n cells w (.slice (some ⟨g,o,none⟩) m cap) l) (hd:d.size=l.length):
  Own B E n cells (grow (putRowK cells n (Go.Sort.ahead w q) g o d) os) (.slice (some ⟨g,o,none⟩) m cap) d.toList:=by
 rcases h with ⟨hv,_⟩ | ⟨g',o',cap',cur,hv,hB,hh,hc,hm,hs,ht⟩
 ·cases hv
 ·simp only [Value.slice.injEq,Option.some.injEq,Addr.mk.injEq] at hv
  obtain ⟨⟨rfl,rfl,_⟩,hml,rfl⟩:=hv
  have hlt:g<w.heap.size:=(qN.1 hh).1
  have hmn:d.size*n <= cap*n:=by rw [hd];exact Nat.mul_le_mul_right _ hc
  refine .inr ⟨g,o,cap,putCells id o (flatK cells n d) cur,by rw [Array.length_toList,hd,hml],hB,?_,by rw [Array.length_toList,hd];exact hc,hm,by simp [putCells,hs],?_⟩
  ·show ((putRowK cells n (Go.Sort.ahead w q) g o d).heap++os)[g]? =_
   rw [Array.getElem?_append_left (by rw [size_putRowK];exact hlt)]
   show (w.heap.modify g _)[g]? =_
   rw [Array.getElem?_modify,if_pos rfl,hh]
   rfl
  ·rw [Array.length_toList,c6r (by rw [size_flatK]) (by omega),b9n hn]
theorem e1i {G:Nat -> Prop} {g o q:Nat} {os:Array Obj} {d:Array α} (hg:G g):Ext G w (grow (putRowK cells n (Go.Sort.ahead w q) g o d) os):=
 ⟨rfl,rfl,rfl,by show _ <= ((putRowK cells n (Go.Sort.ahead w q) g o d).heap++os).size;rw [Array.size_append,size_putRowK];exact Nat.le_add_right _ _,
  fun b hb hn=>by
   show ((putRowK cells n (Go.Sort.ahead w q) g o d).heap++os)[b]? =_
   rw [Array.getElem?_append_left (by rw [size_putRowK];exact hb)]
   show (w.heap.modify g _)[b]? =_
   rw [Array.getElem?_modify,if_neg (fun e:g=b=>hn (e▸hg))]⟩
end
theorem d5v {α:Type} [Inhabited α] (enc:α -> Value) (w:World) (b o:Nat) (d:Array α):putRow enc w b o d=putRowK (fun x=>[enc x]) 1 w b o d:=by
 unfold putRowK putRow
 congr 1
 funext c
 unfold putCells
 refine Array.ext (by simp) fun k h1 h2=> ?_
 simp only [Array.getElem_mapIdx,size_flatK,Nat.mul_one,id]
 split
 ·rename_i h
  rw [get_flatK _ _ _ _ (by omega),Nat.div_one,Nat.mod_one];rfl
 ·rfl
theorem e1c {α:Type} [Inhabited α] {enc:α -> Value} {w:World} {b o:Nat} {d:Array α} (h:HoldsK (fun x=>[enc x]) 1 w b o d):Holds enc w b o d:=fun j hj=>by
 have:=h j (by simpa using hj)
 rw [get_flatK _ _ _ _ (by omega),Nat.div_one,Nat.mod_one] at this
 exact this
end Go.PL
namespace Go.Proofs
open Go.Shelf Go.RowKit Go.Lib Go.Sort
noncomputable def Tryz.spT:TypeInfo:=(Tryz.prog.info? 40).get (by kernel_rfl)
noncomputable def Tryz.spE:TypeInfo:=(Tryz.prog.info? 44).get (by kernel_rfl)
theorem Tryz.spK (n:Nat) (h2:2 <= n):Lib.swapperK n Tryz.spE 25=9:=by
 have a:Tryz.spE.hasPointers=false:=by kernel_rfl
 have b:Tryz.spE.bytes=16:=by kernel_rfl
 have c:(n==0)=false:=by simp;omega
 have d:(n==1)=false:=by simp;omega
 simp [Lib.swapperK,a,b,c,d]
set_option maxHeartbeats 2000000 in
theorem Tryz.spLess (blk off c Bs size:Nat) (W:World) (G:Nat -> Int) (hs:W.cell? ⟨Bs,0,none⟩=some (.slice (some ⟨blk,off,none⟩) size c))
  (hc: ∀t,t<size -> W.cell? ⟨blk,off+t*2,none⟩=some (.int .i64 (G t))) (i j:Nat) (hi:i<size) (hj:j<size) (_hsz:size<4611686018427387904):
  Calls Tryz.prog 74 #[.int .i64 i,.int .i64 j,.pointer (some ⟨Bs,0,none⟩)] W fun e w'=>e= .returned (.bool (decide (G i<G j))) /\ ∃q,w'=W.drewN q:=by
 have ci:=hc i hi
 have cj:=hc j hj
 go_enter Tryz.func74,Tryz.ntmps74
 go_wp2
 go_quiet (fail)
 go_wp2
 go_ret
 exact ⟨rfl,nq,rfl⟩
end Go.Proofs
namespace Go.PL
open Go Go.Proofs Go.Sort
def Span.cells (x:Span):List Go.Value:=[.int .i64 x.From,.int .i64 x.To]
theorem d4e:SWO (fun x y:Span=>decide (x.From<y.From)):=by
 constructor
 ·intro x;simp
 ·intro x y z;simp only [decide_eq_true_eq];omega
 ·intro x y z;simp only [decide_eq_false_iff_not];omega
set_option maxHeartbeats 2000000 in
theorem c4d {w0:World} (l:List Span) {v:Go.Value} {B bc:Nat} (hO:Own B 44 2 Span.cells w0 v l) (hb:Mb w0 bc 40 [v]) (hnb:Go.Value.ownBlock v≠some bc) {r:List Span} (hF:b0v l=some r):
  Calls Tryz.prog 73 #[.iface 40 v,.func (.func 74) #[] #[.pointer (some ⟨bc,0,none⟩)]] w0 fun e w1=>e= .returned (.tuple #[]) /\ Ext (fun b=>Go.Value.ownBlock v=some b) w0 w1 /\ Own B 44 2 Span.cells w1 v r:=by
 unfold b0v d9u at hF
 by_cases h1:l.length <= 1
 ·rw [if_pos h1] at hF
  obtain rfl:=qH hF
  obtain ⟨a,cap,hv,_,_⟩:=hO.shape
  have key: ∀n,l.length=n -> Calls Tryz.prog 73 #[.iface 40 (.slice a n cap),.func (.func 74) #[] #[.pointer (some ⟨bc,0,none⟩)]] w0 (fun e w'=>e= .returned (.tuple #[]) /\ ∃os,w'=Go.Sort.grow w0 os) ->
    Calls Tryz.prog 73 #[.iface 40 v,.func (.func 74) #[] #[.pointer (some ⟨bc,0,none⟩)]] w0 fun e w1=>e= .returned (.tuple #[]) /\ Ext (fun b=>Go.Value.ownBlock v=some b) w0 w1 /\ Own B 44 2 Span.cells w1 v l:=by
   intro n hn h
   rw [hn] at hv
   rw [<- hv] at h
   refine Calls.mono h ?_
   rintro e w1 ⟨rfl,os,rfl⟩
   have hE:Ext noG w0 (Go.Sort.grow w0 os):=⟨rfl,rfl,rfl,by show _ <= (w0.heap++os).size;simp,fun b hb _=>by show (w0.heap++os)[b]? =_;rw [Array.getElem?_append_left hb]⟩
   exact ⟨rfl,hE.of_no,hO.exn hE⟩
  rcases (show l.length=0 \/ l.length=1 by omega) with h0 | h0
  ·exact key 0 h0 (Any.sort_Slice_tiny Tryz.sliceLay 40 44 Tryz.spT Tryz.spE (by kernel_rfl) (by kernel_rfl) (by kernel_rfl) (by kernel_rfl) 25 (fun _=>by kernel_rfl) a 0 cap (by omega) 155 (by kernel_rfl) (.func 74) #[] #[.pointer (some ⟨bc,0,none⟩)] w0)
  ·exact key 1 h0 (Any.sort_Slice_tiny Tryz.sliceLay 40 44 Tryz.spT Tryz.spE (by kernel_rfl) (by kernel_rfl) (by kernel_rfl) (by kernel_rfl) 25 (fun _=>by kernel_rfl) a 1 cap (by omega) 156 (by kernel_rfl) (.func 74) #[] #[.pointer (some ⟨bc,0,none⟩)] w0)
 ·rw [if_neg h1] at hF
  split at hF
  case isFalse=>cases hF
  rename_i hsz
  obtain rfl:=qH hF
  obtain ⟨a,cap,hv,hlc,hcm⟩:=hO.shape
  cases a with
  | none=>
    exfalso
    rcases hO with ⟨_,h⟩ | ⟨g,o,c',cur,hv',_⟩
    ·rw [h] at h1;simp at h1
    ·rw [hv] at hv';cases hv'
  | some ad=>
    obtain ⟨g,o,hg⟩: ∃g o,ad=⟨g,o,none⟩:=by
     rcases hO with ⟨h,_⟩ | ⟨g,o,c',cur,hv',_⟩
     ·rw [hv] at h;cases h
     ·rw [hv] at hv';cases hv';exact ⟨g,o,rfl⟩
    subst hg
    subst hv
    have hlt:g<w0.heap.size:=(hO.lt rfl).2
    have hbg:bc≠g:=fun e=>hnb (by rw [e];rfl)
    have hcell:w0.cell? ⟨bc,0,none⟩=some (.slice (some ⟨g,o,none⟩) l.toArray.size cap):=hb.ca 0 _ rfl
    have hH:=d0o (n:=2) (cells:=Span.cells) (fun _=>rfl) hO
    have h2:2 <= l.toArray.size:=by rw [List.size_toArray];omega
    have hsz':l.toArray.size<4611686018427387904:=by rw [List.size_toArray];exact hsz
    have hless:LessReadsK Tryz.prog 74 #[.pointer (some ⟨bc,0,none⟩)] Span.cells 2 (fun x y:Span=>decide (x.From<y.From)) g o l.toArray.size w0:=by
     intro m os dk hs i j hi hj
     have e:sortWorldK Span.cells 2 w0 g o m dk os=putRowK Span.cells 2 (grow (Go.Sort.ahead w0 m) os) g o dk:=by
      unfold sortWorldK;rw [putRowK_grow _ _ (Go.Sort.ahead w0 m) _ g o _ hlt]
     have hHg:HoldsK Span.cells 2 (grow (Go.Sort.ahead w0 m) os) g o l.toArray:=holdsK_grow _ _ _ _ g o _ hlt (holdsK_ahead _ _ _ _ _ _ _ hH)
     refine Tryz.spLess g o cap bc l.toArray.size _ (fun t=>dk[t]!.From) ?_ (fun t ht=> ?_) i j hi hj (by omega)
     ·rw [e,cell?_putRowK_other _ _ _ g o dk _ (by exact hbg),cell?_grow _ _ _ (by exact hb.lt)];exact hcell
     ·rw [e];exact ((holdsK_putRowK _ _ _ g o l.toArray dk hHg hs).cell (i:=t) (c:=0) (by omega) (by omega)).1
    have hS:=Any.sort_Slice_cells_eq Tryz.sliceLay 40 44 Tryz.spT Tryz.spE (by kernel_rfl) (by kernel_rfl) (by kernel_rfl) (by kernel_rfl) 25 (fun _=>by kernel_rfl) Span.cells 2 (fun _=>rfl) (by kernel_rfl) (fun _=>by kernel_rfl)
     (fun x u hu=>by simp [Span.cells] at hu;rcases hu with rfl | rfl<;>rfl) (fun x y:Span=>decide (x.From<y.From)) d4e 74 _
     (enters_of Tryz.func74 (by kernel_rfl) rfl) g o cap l.toArray h2 hsz' 163 (by rw [Tryz.spK _ h2];kernel_rfl) false
     (fun args W=>run_callFunc_extern Tryz.func163 (by kernel_rfl) (by kernel_rfl) (by kernel_rfl) (e:=Extern.ReflectliteSwapper.swap false) (by kernel_rfl) args W) w0 hless hH hlt
    have hp:=(pdq_sorts (fun x y:Span=>decide (x.From<y.From)) d4e l.toArray 0 l.toArray.size (Lib.bitLen l.toArray.size) true true (Nat.zero_le _) (Nat.le_refl _) (Or.inl rfl)).1.1
    rw [List.size_toArray] at hS hp
    generalize pdq (fun x y:Span=>decide (x.From<y.From)) l.toArray 0 l.length (Lib.bitLen l.length) true true=d at hS hp⊢
    refine Calls.mono hS ?_
    rintro e w1 ⟨rfl,q,os,rfl⟩
    exact ⟨rfl,e1i rfl,d9p (n:=2) (cells:=Span.cells) (fun _=>rfl) hO hp⟩
end Go.PL
namespace Go.PL
open Go Go.SX Go.Proofs
theorem mixed:Tryz.prog.follows .mixedOrders=true:=by kernel_rfl
noncomputable section
def e7l:Fent VV:=⟨⟨[.v .zv,.v .zy],[.v .z4]⟩,Int,fun x=>b04 x.1 x.2.1,fun n=>((n,()),()),none⟩
theorem f5h:e0l Tryz.prog 258 e7l:=e31 (U:=VV) (a:= .zv) (b:= .zy) (c:= .z4) (fn:=Tryz.f258) (by kernel_rfl) (by kernel_rfl) (by kernel_rfl) (by kernel_rfl) (by kernel_rfl) (fun x=>x) (fun x=>x) (fun n=>n) (fun _=>rfl) (fun _=>rfl) (fun _=>rfl)
def e6k:Fent VV:=⟨⟨[.ls .z4],[.ow 3 .z4]⟩,List Int,fun x=>a61 x.1,w1,none⟩
theorem f2f:SX.Spec Tryz.prog 146 e6k:=d6p (U:=VV) (c:= .z4) (e:=3) (t:=22) (b:=4) (N:=8) uok mixed (fn:=Tryz.f146) (by kernel_rfl) (by kernel_rfl) rfl rfl (by kernel_rfl) (by kernel_rfl) (by kernel_rfl) (fun l=>by kernel_rfl)
def f8a:Fent VV:=⟨⟨[],[]⟩,Unit,fun _=>none,fun _=>((),()),some (.qy (slQ 40 44 .zj 74 b0v))⟩
def K73:Kn Tryz.prog VV:=⟨73,f8a,show c9z Tryz.prog 73 _ from e91 (U:=VV) (c:= .zj) (cells:=Span.cells) (a7n (fn:=Tryz.f73) (by kernel_rfl) (by kernel_rfl) (by kernel_rfl)) (fun G w cs x h=>by
    obtain ⟨_,css,rfl,hh⟩:=a73.1 h
    match css,hh with
    | [a,b],⟨h1,h2,_⟩=>rw [show a=_ from h1,show b=_ from h2];rfl) (fun G w x=>a73.2 ⟨rfl,[[.int .i64 x.From],[.int .i64 x.To]],rfl,⟨rfl,rfl,trivial⟩⟩) fun l r w v bc hO hM hne hF=>c4d l hO hM hne hF⟩
def f5n:Fent VV:=⟨⟨[],[]⟩,Unit,fun _=>none,fun _=>((),()),some (.qy (soQ 3 .z4 c88))⟩
def f5j:Fent VV:=⟨⟨[],[]⟩,Unit,fun _=>none,fun _=>((),()),some (.qy (skQ 203 214 3 .z4 fun x=>x))⟩
def K146:Kn Tryz.prog VV:=⟨146,e6k,knS rfl ⟨f2f,fun _ _=>by kernel_rfl⟩⟩
def f3z:Fent VV:=⟨⟨[],[]⟩,Unit,fun _=>none,fun _=>((),()),some (.seq 200 25 (some .zh))⟩
def K145:Kn Tryz.prog VV:=⟨145,f3z,show c3a _ _ _ _ from e1p (tS:=25) (tF:=210) (tG:=209) (p1:= "iter.go:26") (p2:= "iter.go:27") (a7n (fn:=Tryz.f145) (by kernel_rfl) (by kernel_rfl) (by kernel_rfl)) (fn:=Tryz.f145) (by kernel_rfl) (by kernel_rfl) rfl rfl⟩
def f4k:Fent VV:=⟨⟨[],[]⟩,Unit,fun _=>none,fun _=>((),()),some (.seq 203 214 none)⟩
def K149:Kn Tryz.prog VV:=⟨149,f4k,show c3a _ _ _ _ from e1p (tS:=214) (tF:=217) (tG:=216) (p1:= "iter.go:25") (p2:= "iter.go:26") (a7n (fn:=Tryz.f149) (by kernel_rfl) (by kernel_rfl) (by kernel_rfl)) (fn:=Tryz.f149) (by kernel_rfl) (by kernel_rfl) rfl rfl⟩
def bkL:List (Nat×TypeId×TyC×Bool):=[(200,25,.zh,false)]
theorem bkA:f5s (U:=VV) Tryz.prog bkL:=⟨⟨67,⟨⟨Tryz.f200,3,4,252,by kernel_rfl,⟨by kernel_rfl,rfl⟩,rfl⟩,fun _ _=>a7n (fn:=Tryz.f200) (by kernel_rfl) (by kernel_rfl) (by kernel_rfl) _ _,by kernel_rfl,by kernel_rfl⟩,fun _=>by kernel_rfl,fun _=>by kernel_rfl⟩,trivial⟩
abbrev mkR:= @knR Tryz.prog VV uok mixed bkL bkA
def K258:Kn Tryz.prog VV:=⟨258,e7l,knX rfl f5h⟩
abbrev mk:= @kn Tryz.prog VV uok mixed
def K57:Kn Tryz.prog VV:=mk 57 Tryz.f57 ⟨[.v .z4],[.v .zv]⟩ (fun x=>i6 x.1) w1 u1 (sk 2 (.s (.l [] [] [.v 0 .z4,.v 3 .zv] .n) .n)) [] (by kernel_rfl) (by kernel_rfl) (fun _=>rfl) fun x=>by kernel_rfl
def K23:Kn Tryz.prog VV:=mk 23 Tryz.f23 ⟨[.v .z4,.v .z4],[.v .z4]⟩ (fun x=>b7 x.1 x.2.1) w1 u1 .n [] (by kernel_rfl) (by kernel_rfl) (fun _=>rfl) fun x=>by kernel_rfl
def K24:Kn Tryz.prog VV:=mk 24 Tryz.f24 ⟨[.ls .z4,.v .z4],[.v .z4]⟩ (fun x=>c6 x.1 x.2.1) w1 u1 .n [K23] (by kernel_rfl) (by kernel_rfl) (fun _=>rfl) fun x=>by kernel_rfl
def K92:Kn Tryz.prog VV:=mk 92 Tryz.f92 ⟨[.v .z4],[.v .zv]⟩ (fun x=>u5 x.1) w1 u1 .n [K57] (by kernel_rfl) (by kernel_rfl) (fun _=>rfl) fun x=>by kernel_rfl
def K58:Kn Tryz.prog VV:=mk 58 Tryz.f58 ⟨[.v .zv,.ls .z4,.v .z4],[.v .zv]⟩ (fun x=>a1w x.1 x.2.1 x.2.2.1) w1 u1 (sk 3 (.j [] [.ls 1 .z4,.v 2 .z4,.v 7 .zv,.v 8 .zv] .n (.s .n (.j [] [.ls 1 .z4,.v 2 .z4,.v 7 .zv,.v 8 .zv] .n (.j [] [.ls 1 .z4,.v 2 .z4,.v 7 .zv,.v 8 .zv] .n (.s .n (.s .n (.s .n (.s .n (.j [] [.ls 1 .z4,.v 2 .z4,.v 8 .zv] .n (.s .n (.s .n (.j [] [.ls 1 .z4,.v 2 .z4,.v 8 .zv] .n .n))))))))))))) [K23,K24,K57,K92] (by kernel_rfl) (by kernel_rfl) (fun _=>rfl) fun x=>by kernel_rfl
def K22:Kn Tryz.prog VV:=mk 22 Tryz.f22 ⟨[.v .z4,.ls .z4],[.v .zv]⟩ (fun x=>a8s x.1 x.2.1) w1 u1 (sk 3 (.j [] [.v 0 .z4,.ls 1 .z4,.v 6 .zv] .n .n)) [K23,K24,K57,K58] (by kernel_rfl) (by kernel_rfl) (fun _=>rfl) fun x=>by kernel_rfl
def K174:Kn Tryz.prog VV:=mk 174 Tryz.f174 ⟨[.v .zv,.v .z4],[.v .z4]⟩ (fun x=>a8o x.1 x.2.1) w1 u1 (sk 2 (.s (.l [0] [] [.v 1 .z4,.v 5 .z3] .n) .n)) [] (by kernel_rfl) (by kernel_rfl) (fun _=>rfl) fun x=>by kernel_rfl
def f7j:Kn Tryz.prog VV:=mk 175 Tryz.f175 ⟨[.v .zy],[.v .z3]⟩ (fun x=>a2j x.1) w1 u1 .n [] (by kernel_rfl) (by kernel_rfl) (fun _=>rfl) fun x=>by kernel_rfl
def f5t:Kn Tryz.prog VV:=mk 177 Tryz.f177 ⟨[.v .zy],[.v .z3]⟩ (fun x=>a1s x.1) w1 u1 .n [] (by kernel_rfl) (by kernel_rfl) (fun _=>rfl) fun x=>by kernel_rfl
def K176:Kn Tryz.prog VV:=mk 176 Tryz.f176 ⟨[.v .zv,.v .z4,.v .z3],[.v .z4]⟩ (fun x=>a7f x.1 x.2.1 x.2.2.1) w1 u1 (sk 2 (.s (.l [0,1,2] [] [.v 7 .z4] .n) .n)) [f7j,f5t] (by kernel_rfl) (by kernel_rfl) (fun _=>rfl) fun x=>by kernel_rfl
def K122:Kn Tryz.prog VV:=mk 122 Tryz.f122 ⟨[.v .zv],[.v .zv,.v .zv,.v .z4,.v .z3]⟩ (fun x=>a5b x.1) (fun b=>((b.1,(b.2.1,(b.2.2.1,(b.2.2.2,())))),())) (fun p=>(p.1.1,p.1.2.1,p.1.2.2.1,p.1.2.2.2.1)) (sk 2 (.j [] [.v 0 .zv,.v 6 .z4] .n (.s .n (.s (.s .n (.l [0,6] [] [.v 8 .z4,.v 9 .z4] .n)) (.s .n (.j [] [.v 6 .z4,.v 10 .zv,.v 11 .zv] .n (.s (.s .n (.l [6,10,11] [] [.v 12 .z4] .n)) .n))))))) [f5t] (by kernel_rfl) (by kernel_rfl) (fun _=>rfl) fun x=>by kernel_rfl
def K181:Kn Tryz.prog VV:=mk 181 Tryz.f181 ⟨[.v .zv],[.v .z4,.v .z3]⟩ (fun x=>a3c x.1) w2 u2 (sk 2 (.s (.s .n (.l [0] [] [.v 4 .z4,.v 5 .z4] .n)) .n)) [] (by kernel_rfl) (by kernel_rfl) (fun _=>rfl) fun x=>by kernel_rfl
def K75:Kn Tryz.prog VV:=mk 75 Tryz.f75 ⟨[.v .z4],[.v .z3]⟩ (fun x=>a6b x.1) w1 u1 .n [] (by kernel_rfl) (by kernel_rfl) (fun _=>rfl) fun x=>by kernel_rfl
def K39:Kn Tryz.prog VV:=mk 39 Tryz.f39 ⟨[.v .z4,.v .z4],[.v .z4]⟩ (fun x=>y7 x.1 x.2.1) w1 u1 .n [K75] (by kernel_rfl) (by kernel_rfl) (fun _=>rfl) fun x=>by kernel_rfl
def K30:Kn Tryz.prog VV:=mk 30 Tryz.f30 ⟨[.v .z4],[.v .z4]⟩ (fun x=>a1x x.1) w1 u1 (sk 2 (.s (.s .n (.l [0] [] [.v 3 .z4,.v 4 .z4] .n)) .n)) [K39] (by kernel_rfl) (by kernel_rfl) (fun _=>rfl) fun x=>by kernel_rfl
def K182:Kn Tryz.prog VV:=mk 182 Tryz.f182 ⟨[.v .z4,.v .z4,.v .z4],[.v .z4,.v .z3]⟩ (fun x=>b0d x.1 x.2.1 x.2.2.1) w2 u2 .n [K30,K39] (by kernel_rfl) (by kernel_rfl) (fun _=>rfl) fun x=>by kernel_rfl
def K124:Kn Tryz.prog VV:=mk 124 Tryz.f124 ⟨[.v .zv],[.v .z4,.v .z3]⟩ (fun x=>a2y x.1) w2 u2 .n [K181,K182] (by kernel_rfl) (by kernel_rfl) (fun _=>rfl) fun x=>by kernel_rfl
def K178:Kn Tryz.prog VV:=mk 178 Tryz.f178 ⟨[.v .zv,.v .z4],[.v .z4]⟩ (fun x=>a8w x.1 x.2.1) w1 u1 (.s .n (.j [] [.v 0 .zv,.v 1 .z4] .n .n)) [] (by kernel_rfl) (by kernel_rfl) (fun _=>rfl) fun x=>by kernel_rfl
def K119:Kn Tryz.prog VV:=mk 119 Tryz.f119 ⟨[.v .zv,.v .z4],[.v .zm,.v .z4,.v .z4]⟩ (fun x=>a8l x.1 x.2.1) (fun b=>((b.1,(b.2.1,(b.2.2,()))),())) (fun p=>(p.1.1,p.1.2.1,p.1.2.2.1)) (sk 5 (.j [] [.v 0 .zv,.v 1 .z4,.bx 4 2 145 .zm,.v 7 .z4,.v 8 .z4,.v 9 .z3] .n .n)) [K122,K124,K174,f7j,K176,f5t,K178] (by kernel_rfl) (by kernel_rfl) (fun _=>rfl) fun x=>by kernel_rfl
def K82:Kn Tryz.prog VV:=mk 82 Tryz.f82 ⟨[.v .zv],[.ow 145 .zm,.v .z4,.v .z4]⟩ (fun x=>a9q x.1) (fun b=>((b.1,(b.2.1,(b.2.2,()))),())) (fun p=>(p.1.1,p.1.2.1,p.1.2.2.1)) (sk 4 (.l [0] [] [.ow 5 1 145 .zm,.v 6 .z4] .n)) [K119] (by kernel_rfl) (by kernel_rfl) (fun _=>rfl) fun x=>by kernel_rfl
def K49:Kn Tryz.prog VV:=mk 49 Tryz.f49 ⟨[.v .zv],[.bo 106 .zt,.v .z4,.v .z4]⟩ (fun x=>a7x x.1) (fun b=>((b.1,(b.2.1,(b.2.2,()))),())) (fun p=>(p.1.1,p.1.2.1,p.1.2.2.1)) .n [K82] (by kernel_rfl) (by kernel_rfl) (fun _=>rfl) fun x=>by kernel_rfl
def K87:Kn Tryz.prog VV:=mk 87 Tryz.f87 ⟨[.rp 106 .zt,.v .zv],[.v .z3]⟩ (fun x=>s5 x.1 x.2.1) w1 u1 .n [] (by kernel_rfl) (by kernel_rfl) (fun _=>rfl) fun x=>by kernel_rfl
def K53:Kn Tryz.prog VV:=mk 53 Tryz.f53 ⟨[.io 106 .zt,.v .zv],[.v .z3]⟩ (fun x=>d4 x.1 x.2.1) (fun b=>((b.1,()),(b.2,()))) (fun p=>(p.1.1,p.2.1)) .n [K87] (by kernel_rfl) (by kernel_rfl) (fun _=>rfl) fun x=>by kernel_rfl
def K83:Kn Tryz.prog VV:=mk 83 Tryz.f83 ⟨[.io 106 .zt],[]⟩ (fun x=>j4 x.1) (fun b=>((),(b,()))) (fun p=>p.2.1) .n [] (by kernel_rfl) (by kernel_rfl) (fun _=>rfl) fun x=>by kernel_rfl
def K50:Kn Tryz.prog VV:=mk 50 Tryz.f50 ⟨[.io 106 .zt,.v .zv],[]⟩ (fun x=>b9 x.1 x.2.1) (fun b=>((),(b,()))) (fun p=>p.2.1) .n [K53,K83] (by kernel_rfl) (by kernel_rfl) (fun _=>rfl) fun x=>by kernel_rfl
def K84:Kn Tryz.prog VV:=mk 84 Tryz.f84 ⟨[.rp 106 .zt,.v .z4],[.v .z3]⟩ (fun x=>o5 x.1 x.2.1) w1 u1 .n [] (by kernel_rfl) (by kernel_rfl) (fun _=>rfl) fun x=>by kernel_rfl
def K120:Kn Tryz.prog VV:=mk 120 Tryz.f120 ⟨[.v .zv],[.v .z3]⟩ (fun x=>a6x x.1) w1 u1 (.s .n (.s (.s .n (.l [0] [] [.v 3 .z4] .n)) .n)) [f7j,f5t] (by kernel_rfl) (by kernel_rfl) (fun _=>rfl) fun x=>by kernel_rfl
def K121:Kn Tryz.prog VV:=mk 121 Tryz.f121 ⟨[.v .zv],[.v .z3]⟩ (fun x=>a5k x.1) w1 u1 .n [] (by kernel_rfl) (by kernel_rfl) (fun _=>rfl) fun x=>by kernel_rfl
def K85:Kn Tryz.prog VV:=mk 85 Tryz.f85 ⟨[.v .zv],[.v .z3]⟩ (fun x=>a1f x.1) w1 u1 .n [K120,K121] (by kernel_rfl) (by kernel_rfl) (fun _=>rfl) fun x=>by kernel_rfl
def K51:Kn Tryz.prog VV:=mk 51 Tryz.f51 ⟨[.io 106 .zt],[.v .zv]⟩ (fun x=>a09 x.1) (fun b=>((b.1,()),(b.2,()))) (fun p=>(p.1.1,p.2.1)) .n [K83,K84,K85] (by kernel_rfl) (by kernel_rfl) (fun _=>rfl) fun x=>by kernel_rfl
def f6q:Kn Tryz.prog VV:=mk 180 Tryz.f180 ⟨[.v .z4],[.v .zx]⟩ (fun x=>a2r x.1) w1 u1 .n [] (by kernel_rfl) (by kernel_rfl) (fun _=>rfl) fun x=>by kernel_rfl
def K165:Kn Tryz.prog VV:=mk 165 Tryz.f165 ⟨[.v .zx],[.v .z4]⟩ (fun x=>b8o x.1) w1 u1 (.s .n (.j [] [.v 0 .zx,.v 2 .z4] .n (.j [] [.v 0 .zx,.v 2 .z4] .n .n))) [] (by kernel_rfl) (by kernel_rfl) (fun _=>rfl) fun x=>by kernel_rfl
def K249:Kn Tryz.prog VV:=mk 249 Tryz.f249 ⟨[.v .zx],[.v .z4]⟩ (fun x=>b32 x.1) w1 u1 .n [K165] (by kernel_rfl) (by kernel_rfl) (fun _=>rfl) fun x=>by kernel_rfl
def K233:Kn Tryz.prog VV:=mk 233 Tryz.f233 ⟨[.v .zx,.v .zx,.v .zx],[.v .zx,.v .zx]⟩ (fun x=>b60 x.1 x.2.1 x.2.2.1) w2 u2 (.s .n (.j [] [.v 0 .zx,.v 1 .zx,.v 2 .zx] .n (.j [] [.v 0 .zx,.v 1 .zx,.v 2 .zx] .n (.s .n (.s .n (.s .n (.s .n (.s .n (.s .n (.s .n (.s .n (.s .n (.s .n (.s .n (.j [] [.v 2 .zx,.v 8 .zx,.v 9 .zx,.v 10 .zx,.v 11 .zx,.v 13 .zx,.v 14 .zx,.v 15 .zx] (.l [2,8,9,10,11,13,14] [] [.v 15 .zx,.v 16 .zx] .n) (.s .n (.s .n (.s .n (.j [] [.v 2 .zx,.v 8 .zx,.v 14 .zx,.v 15 .zx,.v 17 .zx,.v 18 .zx] (.l [2,8,9,10,14,15,17] [] [.v 16 .zx,.v 18 .zx] .n) .n))))))))))))))))))) [K249] (by kernel_rfl) (by kernel_rfl) (fun _=>rfl) fun x=>by kernel_rfl
def K213:Kn Tryz.prog VV:=mk 213 Tryz.f213 ⟨[.v .zs,.v .zx],[.v .zs,.v .zx]⟩ (fun x=>a2e x.1 x.2.1) w2 u2 .n [K233] (by kernel_rfl) (by kernel_rfl) (fun _=>rfl) fun x=>by kernel_rfl
def K214:Kn Tryz.prog VV:=mk 214 Tryz.f214 ⟨[.v .zx,.v .zx],[.v .zx]⟩ (fun x=>a7a x.1 x.2.1) w1 u1 (.s .n (.s (.l [] [] [.v 0 .zx,.v 1 .zx] .n) .n)) [] (by kernel_rfl) (by kernel_rfl) (fun _=>rfl) fun x=>by kernel_rfl
def K179:Kn Tryz.prog VV:=mk 179 Tryz.f179 ⟨[.v .z3,.v .zs,.v .zx],[.v .z8,.v .z4]⟩ (fun x=>b00 x.1 x.2.1 x.2.2.1) w2 u2 .n [K213,K214] (by kernel_rfl) (by kernel_rfl) (fun _=>rfl) fun x=>by kernel_rfl
def K123:Kn Tryz.prog VV:=mk 123 Tryz.f123 ⟨[.v .z4,.v .z4],[.v .z8,.v .z4]⟩ (fun x=>a2l x.1 x.2.1) w2 u2 .n [K179,f6q] (by kernel_rfl) (by kernel_rfl) (fun _=>rfl) fun x=>by kernel_rfl
def K86:Kn Tryz.prog VV:=mk 86 Tryz.f86 ⟨[.v .zv],[.v .z8,.v .z4,.v .z3]⟩ (fun x=>a1t x.1) (fun b=>((b.1,(b.2.1,(b.2.2,()))),())) (fun p=>(p.1.1,p.1.2.1,p.1.2.2.1)) (sk 4 (.s (.s .n (.l [5,6,7] [] [.bx 2 1 52 .z8,.v 9 .z4,.v 10 .z4,.v 11 .z4] .n)) .n)) [K122,K123] (by kernel_rfl) (by kernel_rfl) (fun _=>rfl) fun x=>by kernel_rfl
def K52:Kn Tryz.prog VV:=mk 52 Tryz.f52 ⟨[.io 106 .zt,.v .z4,.v .z4],[.v .z4]⟩ (fun x=>p6 x.1 x.2.1 x.2.2.1) (fun b=>((b.1,()),(b.2,()))) (fun p=>(p.1.1,p.2.1)) .n [K83,K84,K86] (by kernel_rfl) (by kernel_rfl) (fun _=>rfl) fun x=>by kernel_rfl
def K88:Kn Tryz.prog VV:=mk 88 Tryz.f88 ⟨[.v .zv],[.v .z4]⟩ (fun x=>a7o x.1) w1 u1 .n [K124] (by kernel_rfl) (by kernel_rfl) (fun _=>rfl) fun x=>by kernel_rfl
def K125:Kn Tryz.prog VV:=mk 125 Tryz.f125 ⟨[.v .zv],[.v .z4]⟩ (fun x=>a6g x.1) w1 u1 .n [] (by kernel_rfl) (by kernel_rfl) (fun _=>rfl) fun x=>by kernel_rfl
def K126:Kn Tryz.prog VV:=mk 126 Tryz.f126 ⟨[.v .zv],[.v .z4]⟩ (fun x=>a3q x.1) w1 u1 .n [] (by kernel_rfl) (by kernel_rfl) (fun _=>rfl) fun x=>by kernel_rfl
def K127:Kn Tryz.prog VV:=mk 127 Tryz.f127 ⟨[.v .zv],[.v .z4]⟩ (fun x=>a6e x.1) w1 u1 .n [] (by kernel_rfl) (by kernel_rfl) (fun _=>rfl) fun x=>by kernel_rfl
def K89:Kn Tryz.prog VV:=mk 89 Tryz.f89 ⟨[.io 106 .zt,.v .z4],[.v .z4]⟩ (fun x=>a05 x.1 x.2.1) (fun b=>((b.1,()),(b.2,()))) (fun p=>(p.1.1,p.2.1)) .n [K83,K84,K125,K126,K127] (by kernel_rfl) (by kernel_rfl) (fun _=>rfl) fun x=>by kernel_rfl
def f5y:Kn Tryz.prog VV:=mk 219 Tryz.f219 ⟨[.v .z4],[.v .z4]⟩ (fun x=>a68 x.1) w1 u1 .n [] (by kernel_rfl) (by kernel_rfl) (fun _=>rfl) fun x=>by kernel_rfl
def K216:Kn Tryz.prog VV:=mk 216 Tryz.f216 ⟨[.v .z4],[.v .z4]⟩ (fun x=>a7y x.1) w1 u1 (.s .n (.s (.s .n (.s .n (.s .n (.s .n (.s .n (.s .n (.s .n (.s .n (.s .n (.j [] [.v 3 .z4,.v 12 .z3] .n (.s .n (.j [] [.v 3 .z4,.v 19 .z3] .n .n)))))))))))) .n)) [] (by kernel_rfl) (by kernel_rfl) (fun _=>rfl) fun x=>by kernel_rfl
def K217:Kn Tryz.prog VV:=mk 217 Tryz.f217 ⟨[.v .z4],[.v .zv]⟩ (fun x=>a71 x.1) w1 u1 .n [] (by kernel_rfl) (by kernel_rfl) (fun _=>rfl) fun x=>by kernel_rfl
def K184:Kn Tryz.prog VV:=mk 184 Tryz.f184 ⟨[.rp 106 .zt,.v .z4],[.v .z4]⟩ (fun x=>a2a x.1 x.2.1) w1 u1 (.s .n (.s (.s .n (.l [0,1] [] [.v 5 .z4] .n)) .n)) [K87,K216,K217] (by kernel_rfl) (by kernel_rfl) (fun _=>rfl) fun x=>by kernel_rfl
def d0j:Sig VV:=⟨[.io 106 .zt,.v .z4],[.v .z7]⟩
def b80 (R:eQ):Fent VV:=⟨d0j,Expr×rQ,fun x=>R.f_pensionref5_reader_expr x.1 x.2.1,fun b=>((b.1,()),(b.2,())),none⟩
def f3s:Fent VV:=b80 (c7 FU)
def e6h:Ress VV d0j.rs×Outs VV d0j.ps -> Expr×rQ:=fun p=>(p.1.1,p.2.1)
def e84:Ann VV.C:=(.s .n (.s .n (.s .n (.s .n (.s (.l [1] [] [.bx 0 0 106 .zt,.of 4 4 3 187 .z7,.bm 4 2 187 .z7 [(4,3)],.bx 8 4 187 .z7] .n) .n)))))
def c94:Sig VV:=⟨[.io 106 .zt],[.v .z7]⟩
def d3l (R:eQ):Fent VV:=⟨c94,Expr×rQ,fun x=>R.f_pensionref5_reader_factor x.1,fun b=>((b.1,()),(b.2,())),none⟩
def e7o:Ress VV c94.rs×Outs VV c94.ps -> Expr×rQ:=fun p=>(p.1.1,p.2.1)
def e78:Ann VV.C:= .n
def c93:Sig VV:=⟨[.io 106 .zt,.v .z4],[.v .z7]⟩
def d2u (R:eQ):Fent VV:=⟨c93,Expr×rQ,fun x=>R.f_pensionref5_reader_call x.1 x.2.1,fun b=>((b.1,()),(b.2,())),none⟩
def e82:Ress VV c93.rs×Outs VV c93.ps -> Expr×rQ:=fun p=>(p.1.1,p.2.1)
def e7j:Ann VV.C:= .n
def e6v (R:eQ):Phi VV:=fun f ys=>lkF f ys [K50.e,K53.e,(128,b80 R),(183,d3l R),K184.e]
theorem f0m (R:eQ) (hr128:SX.Spec Tryz.prog 128 (b80 R)) (hr183:SX.Spec Tryz.prog 183 (d3l R)):OKΦ Tryz.prog (e6v R):=okl ⟨K50.ok,K53.ok,knS rfl ⟨hr128,fun _ _=>by kernel_rfl⟩,knS rfl ⟨hr183,fun _ _=>by kernel_rfl⟩,K184.ok,trivial⟩
theorem f2i (R:eQ): ∀x,d7q Tryz.prog (e6v R) d0j e6h Tryz.f128 e84 x=a1y R x.1 x.2.1:=fun x=>by kernel_rfl
theorem e7p:d7l Tryz.f128 d0j=true:=by kernel_rfl
def e6d (R:eQ):Phi VV:=fun f ys=>lkF f ys [K50.e,K51.e,K52.e,K53.e,K84.e,K86.e,K87.e,(128,b80 R),(215,d2u R)]
theorem e9r (R:eQ) (hr128:SX.Spec Tryz.prog 128 (b80 R)) (hr215:SX.Spec Tryz.prog 215 (d2u R)):OKΦ Tryz.prog (e6d R):=okl ⟨K50.ok,K51.ok,K52.ok,K53.ok,K84.ok,K86.ok,K87.ok,knS rfl ⟨hr128,fun _ _=>by kernel_rfl⟩,knS rfl ⟨hr215,fun _ _=>by kernel_rfl⟩,trivial⟩
theorem f3q (R:eQ): ∀x,d7q Tryz.prog (e6d R) c94 e7o Tryz.f183 e78 x=a1e R x.1:=fun x=>by kernel_rfl
theorem e6y:d7l Tryz.f183 c94=true:=by kernel_rfl
def e85 (R:eQ):Phi VV:=fun f ys=>lkF f ys [K50.e,(128,b80 R),f5y.e]
theorem e9q (R:eQ) (hr128:SX.Spec Tryz.prog 128 (b80 R)):OKΦ Tryz.prog (e85 R):=okl ⟨K50.ok,knS rfl ⟨hr128,fun _ _=>by kernel_rfl⟩,f5y.ok,trivial⟩
theorem f4e (R:eQ): ∀x,d7q Tryz.prog (e85 R) c93 e82 Tryz.f215 e7j x=a29 R x.1 x.2.1:=fun x=>by kernel_rfl
theorem e65:d7l Tryz.f215 c93=true:=by kernel_rfl
theorem a5c: ∀n,SX.Spec Tryz.prog 128 (b80 (c7 n)) /\ SX.Spec Tryz.prog 183 (d3l (c7 n)) /\ SX.Spec Tryz.prog 215 (d2u (c7 n))
 | 0=>⟨(fun _ _ h=>(by cases (show none=some _ from h))),(fun _ _ h=>(by cases (show none=some _ from h))),(fun _ _ h=>(by cases (show none=some _ from h)))⟩
 | n+1=>let ⟨h128,h183,h215⟩:=a5c n;⟨b0x (fe:=b80 (c7 (n+1))) uok (f0m (c7 n) h128 h183) mixed (fn:=Tryz.f128) (by kernel_rfl) e6h e84 (t7 e7p).1 (t7 e7p).2 (fun _=>rfl) (f2i (c7 n)),b0x (fe:=d3l (c7 (n+1))) uok (e9r (c7 n) h128 h215) mixed (fn:=Tryz.f183) (by kernel_rfl) e7o e78 (t7 e6y).1 (t7 e6y).2 (fun _=>rfl) (f3q (c7 n)),b0x (fe:=d2u (c7 (n+1))) uok (e9q (c7 n) h128) mixed (fn:=Tryz.f215) (by kernel_rfl) e82 e7j (t7 e65).1 (t7 e65).2 (fun _=>rfl) (f4e (c7 n))⟩
def K128:Kn Tryz.prog VV:=⟨128,f3s,knS rfl ⟨(a5c FU).1,fun _ _=>by kernel_rfl⟩⟩
def K90:Kn Tryz.prog VV:=mk 90 Tryz.f90 ⟨[.io 106 .zt,.im 116 .zn [(2,2),(3,3),(4,4),(5,5),(6,6)],.po 1 2 182 .z6,.po 1 3 184 .za,.po 1 4 189 .zc,.po 1 5 192 .z9,.po 1 6 194 .zf],[]⟩ (fun x=>a1z x.1 x.2.1 x.2.2.1 x.2.2.2.1 x.2.2.2.2.1 x.2.2.2.2.2.1 x.2.2.2.2.2.2.1) (fun b=>((),(b.1,(b.2.1,(b.2.2.1,(b.2.2.2.1,(b.2.2.2.2.1,(b.2.2.2.2.2.1,(b.2.2.2.2.2.2,()))))))))) (fun p=>(p.2.1,p.2.2.1,p.2.2.2.1,p.2.2.2.2.1,p.2.2.2.2.2.1,p.2.2.2.2.2.2.1,p.2.2.2.2.2.2.2.1)) (.s (.s .n (.s (.s .n (.j [] [.bx 0 0 106 .zt,.of 1 2 7 182 .z6,.of 1 3 8 184 .za,.of 1 4 9 189 .zc,.of 1 5 10 192 .z9,.of 1 6 11 194 .zf,.bm 1 1 116 .zn [(2,7),(3,8),(4,9),(5,10),(6,11)],.bx 4 12 182 .z6] .n .n)) (.s .n (.s (.s .n (.j [] [.bx 0 0 106 .zt,.of 1 2 7 182 .z6,.of 1 3 8 184 .za,.of 1 4 9 189 .zc,.of 1 5 10 192 .z9,.of 1 6 11 194 .zf,.bm 1 1 116 .zn [(2,7),(3,8),(4,9),(5,10),(6,11)],.bx 6 12 184 .za] .n (.j [] [.bx 0 0 106 .zt,.of 1 2 7 182 .z6,.of 1 3 8 184 .za,.of 1 4 9 189 .zc,.of 1 5 10 192 .z9,.of 1 6 11 194 .zf,.bm 1 1 116 .zn [(2,7),(3,8),(4,9),(5,10),(6,11)],.bx 6 12 184 .za] .n .n))) .n)))) .n) [K50,K51,K52,K53,K83,K84,K86,K89,K128] (by kernel_rfl) (by kernel_rfl) (fun _=>rfl) fun x=>by kernel_rfl
def K54:Kn Tryz.prog VV:=mk 54 Tryz.f54 ⟨[.io 106 .zt],[.v .zn]⟩ (fun x=>a1l x.1) (fun b=>((b.1,()),(b.2,()))) (fun p=>(p.1.1,p.2.1)) (sk 3 (.j [] [.bx 0 0 106 .zt,.of 2 2 2 182 .z6,.of 2 3 3 184 .za,.of 2 4 4 189 .zc,.of 2 5 5 192 .z9,.of 2 6 6 194 .zf,.bm 2 1 116 .zn [(2,2),(3,3),(4,4),(5,5),(6,6)],.of 3 2 8 182 .z6,.of 3 3 9 184 .za,.of 3 4 10 189 .zc,.of 3 5 11 192 .z9,.of 3 6 12 194 .zf,.bm 3 7 116 .zn [(2,8),(3,9),(4,10),(5,11),(6,12)]] .n (.s .n (.s .n (.s .n (.s .n (.s .n (.s (.l [] [] [.bx 0 0 106 .zt,.of 2 2 2 182 .z6,.of 2 3 3 184 .za,.of 2 4 4 189 .zc,.of 2 5 5 192 .z9,.of 2 6 6 194 .zf,.bm 2 1 116 .zn [(2,2),(3,3),(4,4),(5,5),(6,6)],.of 3 2 8 182 .z6,.of 3 3 9 184 .za,.of 3 4 10 189 .zc,.of 3 5 11 192 .z9,.of 3 6 12 194 .zf,.bm 3 7 116 .zn [(2,8),(3,9),(4,10),(5,11),(6,12)]] (.s (.s (.g [5]) .n) .n)) .n)))))))) [K50,K52,K53,K83,K84,K88,K89,K90] (by kernel_rfl) (by kernel_rfl) (fun _=>rfl) fun x=>by kernel_rfl
def K55:Kn Tryz.prog VV:=mk 55 Tryz.f55 ⟨[.rp 106 .zt],[.v .z4]⟩ (fun x=>a2m x.1) w1 u1 .n [] (by kernel_rfl) (by kernel_rfl) (fun _=>rfl) fun x=>by kernel_rfl
def K76:Kn Tryz.prog VV:=mk 76 Tryz.f76 ⟨[.v .z4],[.v .z3]⟩ (fun x=>e7 x.1) w1 u1 .n [] (by kernel_rfl) (by kernel_rfl) (fun _=>rfl) fun x=>by kernel_rfl
def K129:Kn Tryz.prog VV:=mk 129 Tryz.f129 ⟨[.v .zg],[.v .z3]⟩ (fun x=>a21 x.1) w1 u1 .n [] (by kernel_rfl) (by kernel_rfl) (fun _=>rfl) fun x=>by kernel_rfl
def K130:Kn Tryz.prog VV:=mk 130 Tryz.f130 ⟨[.v .z4,.v .z4],[.v .zv]⟩ (fun x=>a2n x.1 x.2.1) w1 u1 (sk 2 (.s (.s .n (.l [0,1] [] [.ow 5 2 9 .zv,.v 6 .z4] .n)) .n)) [K125,K126,K127] (by kernel_rfl) (by kernel_rfl) (fun _=>rfl) fun x=>by kernel_rfl
def K185:Kn Tryz.prog VV:=mk 185 Tryz.f185 ⟨[.v .z8],[.v .z3]⟩ (fun x=>a0n x.1) w1 u1 .n [f6q,K214] (by kernel_rfl) (by kernel_rfl) (fun _=>rfl) fun x=>by kernel_rfl
def K218:Kn Tryz.prog VV:=mk 218 Tryz.f218 ⟨[.v .z4,.v .z4],[.v .zv]⟩ (fun x=>a4a x.1 x.2.1) w1 u1 (sk 2 (.s (.l [1] [] [.v 0 .z4,.v 5 .zv] .n) .n)) [] (by kernel_rfl) (by kernel_rfl) (fun _=>rfl) fun x=>by kernel_rfl
def K186:Kn Tryz.prog VV:=mk 186 Tryz.f186 ⟨[.v .z8],[.v .zv]⟩ (fun x=>a1p x.1) w1 u1 (sk 3 (.j [] [.bx 1 1 52 .z8,.v 3 .zv] .n .n)) [f6q,K185,K218] (by kernel_rfl) (by kernel_rfl) (fun _=>rfl) fun x=>by kernel_rfl
def f7x:Kn Tryz.prog VV:=mk 131 Tryz.f131 ⟨[.v .z8,.v .z4],[.v .zv,.v .z3]⟩ (fun x=>a0p x.1 x.2.1) w2 u2 (sk 6 (.j [] [.v 1 .z4,.v 7 .zv,.v 8 .z4] .n (.s (.s .n (.l [1] [] [.v 7 .zv,.v 8 .z4,.v 9 .z4] .n)) .n))) [K185,K186] (by kernel_rfl) (by kernel_rfl) (fun _=>rfl) fun x=>by kernel_rfl
def c9d:Sig VV:=⟨[.v .z7],[.v .z4]⟩
def c8y (R:Ring_pensionref5_Depth):Fent VV:=⟨c9d,Int,fun x=>R.f_pensionref5_Depth x.1,fun b=>((b,()),()),none⟩
def f5g:Fent VV:=c8y (p5 FU)
def e7z:Ress VV c9d.rs×Outs VV c9d.ps -> Int:=fun p=>p.1.1
def e7q:Ann VV.C:=(.s .n (.s .n (.s (.s .n (.l [] [] [.bx 1 1 187 .z7,.v 3 .z4,.v 4 .z4] .n)) .n)))
def e69 (R:Ring_pensionref5_Depth):Phi VV:=fun f ys=>lkF f ys [(187,c8y R)]
theorem f0j (R:Ring_pensionref5_Depth) (hr187:SX.Spec Tryz.prog 187 (c8y R)):OKΦ Tryz.prog (e69 R):=okl ⟨knS rfl ⟨hr187,fun _ _=>by kernel_rfl⟩,trivial⟩
theorem f3e (R:Ring_pensionref5_Depth): ∀x,d7q Tryz.prog (e69 R) c9d e7z Tryz.f187 e7q x=a5r R x.1:=fun x=>by kernel_rfl
theorem e7k:d7l Tryz.f187 c9d=true:=by kernel_rfl
theorem a8g: ∀n,SX.Spec Tryz.prog 187 (c8y (p5 n))
 | 0=>(fun _ _ h=>(by cases (show none=some _ from h)))
 | n+1=>let h187:=a8g n;b0x (fe:=c8y (p5 (n+1))) uok (f0j (p5 n) h187) mixed (fn:=Tryz.f187) (by kernel_rfl) e7z e7q (t7 e7k).1 (t7 e7k).2 (fun _=>rfl) (f3e (p5 n))
def K187:Kn Tryz.prog VV:=⟨187,f5g,knS rfl ⟨(a8g FU),fun _ _=>by kernel_rfl⟩⟩
def c98:Sig VV:=⟨[.v .z7],[.v .z4]⟩
def c8m (R:Ring_pensionref5_Size):Fent VV:=⟨c98,Int,fun x=>R.f_pensionref5_Size x.1,fun b=>((b,()),()),none⟩
def f5i:Fent VV:=c8m (s4 FU)
def e6w:Ress VV c98.rs×Outs VV c98.ps -> Int:=fun p=>p.1.1
def e6f:Ann VV.C:=(.s .n (.s .n (.s (.s .n (.l [] [] [.bx 1 1 187 .z7,.v 3 .z4,.v 4 .z4] .n)) .n)))
def e7n (R:Ring_pensionref5_Size):Phi VV:=fun f ys=>lkF f ys [(188,c8m R)]
theorem e93 (R:Ring_pensionref5_Size) (hr188:SX.Spec Tryz.prog 188 (c8m R)):OKΦ Tryz.prog (e7n R):=okl ⟨knS rfl ⟨hr188,fun _ _=>by kernel_rfl⟩,trivial⟩
theorem f4p (R:Ring_pensionref5_Size): ∀x,d7q Tryz.prog (e7n R) c98 e6w Tryz.f188 e6f x=a6p R x.1:=fun x=>by kernel_rfl
theorem e7t:d7l Tryz.f188 c98=true:=by kernel_rfl
theorem a9h: ∀n,SX.Spec Tryz.prog 188 (c8m (s4 n))
 | 0=>(fun _ _ h=>(by cases (show none=some _ from h)))
 | n+1=>let h188:=a9h n;b0x (fe:=c8m (s4 (n+1))) uok (e93 (s4 n) h188) mixed (fn:=Tryz.f188) (by kernel_rfl) e6w e6f (t7 e7t).1 (t7 e7t).2 (fun _=>rfl) (f4p (s4 n))
def K188:Kn Tryz.prog VV:=⟨188,f5i,knS rfl ⟨(a9h FU),fun _ _=>by kernel_rfl⟩⟩
def c8l:Sig VV:=⟨[.v .z7],[.v .z3]⟩
def c80 (R:Ring_pensionref5_formed):Fent VV:=⟨c8l,Bool,fun x=>R.f_pensionref5_formed x.1,fun b=>((b,()),()),none⟩
def f3c:Fent VV:=c80 (o4 FU)
def e6e:Ress VV c8l.rs×Outs VV c8l.ps -> Bool:=fun p=>p.1.1
def e6n:Ann VV.C:=(.s .n (.s .n (.s .n (.s .n (.s (.s .n (.l [3] [] [.bx 1 1 187 .z7,.v 6 .z4] .n)) .n)))))
def e7c (R:Ring_pensionref5_formed):Phi VV:=fun f ys=>lkF f ys [K85.e,f7x.e,(189,c80 R),f5y.e]
theorem e9j (R:Ring_pensionref5_formed) (hr189:SX.Spec Tryz.prog 189 (c80 R)):OKΦ Tryz.prog (e7c R):=okl ⟨K85.ok,f7x.ok,knS rfl ⟨hr189,fun _ _=>by kernel_rfl⟩,f5y.ok,trivial⟩
theorem f4r (R:Ring_pensionref5_formed): ∀x,d7q Tryz.prog (e7c R) c8l e6e Tryz.f189 e6n x=a4v R x.1:=fun x=>by kernel_rfl
theorem e7h:d7l Tryz.f189 c8l=true:=by kernel_rfl
theorem a8d: ∀n,SX.Spec Tryz.prog 189 (c80 (o4 n))
 | 0=>(fun _ _ h=>(by cases (show none=some _ from h)))
 | n+1=>let h189:=a8d n;b0x (fe:=c80 (o4 (n+1))) uok (e9j (o4 n) h189) mixed (fn:=Tryz.f189) (by kernel_rfl) e6e e6n (t7 e7h).1 (t7 e7h).2 (fun _=>rfl) (f4r (o4 n))
def K189:Kn Tryz.prog VV:=⟨189,f3c,knS rfl ⟨(a8d FU),fun _ _=>by kernel_rfl⟩⟩
def K132:Kn Tryz.prog VV:=mk 132 Tryz.f132 ⟨[.v .z7],[.v .z3]⟩ (fun x=>a00 x.1) w1 u1 .n [K187,K188,K189] (by kernel_rfl) (by kernel_rfl) (fun _=>rfl) fun x=>by kernel_rfl
def K91:Kn Tryz.prog VV:=mk 91 Tryz.f91 ⟨[.v .zn],[.v .z3]⟩ (fun x=>a2i x.1) w1 u1 (sk 2 (.s (.s .n (.l [] [] [.bx 1 1 116 .zn,.v 3 .z4] .n)) (.s (.s .n (.l [] [] [.bx 1 1 116 .zn,.v 4 .z4] .n)) (.s (.s .n (.l [] [] [.bx 1 1 116 .zn,.v 7 .z4] .n)) (.s (.s .n (.l [] [] [.bx 1 1 116 .zn,.v 8 .z4] .n)) (.s (.s .n (.l [] [] [.bx 1 1 116 .zn,.v 9 .z4] .n)) .n)))))) [K76,K85,K129,K130,f7x,K132] (by kernel_rfl) (by kernel_rfl) (fun _=>rfl) fun x=>by kernel_rfl
def K56:Kn Tryz.prog VV:=mk 56 Tryz.f56 ⟨[.v .zl],[.v .z3]⟩ (fun x=>a7z x.1) w1 u1 (sk 2 (.s (.s .n (.l [] [] [.bx 1 1 57 .zl,.v 3 .z4] .n)) .n)) [K85,K91] (by kernel_rfl) (by kernel_rfl) (fun _=>rfl) fun x=>by kernel_rfl
def K21:Kn Tryz.prog VV:=mk 21 Tryz.f21 ⟨[.v .zv],[.v .zl,.v .z4,.v .z4]⟩ (fun x=>a7r x.1) (fun b=>((b.1,(b.2.1,(b.2.2,()))),())) (fun p=>(p.1.1,p.1.2.1,p.1.2.2.1)) (sk 8 (.j [] [.of 2 2 2 116 .zn,.bm 2 1 57 .zl [(2,2)],.bx 5 3 106 .zt,.of 8 2 5 116 .zn,.bm 8 4 57 .zl [(2,5)]] (.s .n (.l [] [] [.of 2 2 2 116 .zn,.bm 2 1 57 .zl [(2,2)],.bx 5 3 106 .zt,.of 8 2 5 116 .zn,.bm 8 4 57 .zl [(2,5)],.v 9 .z3] (.j [] [.of 2 2 2 116 .zn,.bm 2 1 57 .zl [(2,2)],.bx 5 3 106 .zt,.of 8 2 5 116 .zn,.bm 8 4 57 .zl [(2,5)]] (.s (.g [5,7]) .n) .n))) .n)) [K49,K50,K51,K52,K53,K54,K55,K56] (by kernel_rfl) (by kernel_rfl) (fun _=>rfl) fun x=>by kernel_rfl
def K4:Kn Tryz.prog VV:=mk 4 Tryz.f4 ⟨[.ls .z4],[.v .zb]⟩ (fun x=>a8p x.1) w1 u1 (sk 2 (.s (.s .n (.l [0] [] [.of 2 0 2 63 .zk,.of 2 1 3 67 .zh,.of 2 2 4 54 .ze,.bm 2 1 28 .zb [(0,2),(1,3),(2,4)],.of 3 0 6 63 .zk,.of 3 1 7 67 .zh,.bm 3 5 28 .zb [(0,6),(1,7)],.v 4 .z4] .n)) .n)) [K21,K22,K23,K24] (by kernel_rfl) (by kernel_rfl) (fun _=>rfl) fun x=>by kernel_rfl
def K7:Kn Tryz.prog VV:=mk 7 Tryz.f7 ⟨[.ls .z4],[.ow 69 .zo]⟩ (fun x=>a87 x.1) w1 u1 (sk 2 (.s (.s .n (.l [0] [] [.ow 3 1 69 .zo,.v 4 .z4] .n)) .n)) [K23,K24] (by kernel_rfl) (by kernel_rfl) (fun _=>rfl) fun x=>by kernel_rfl
def K62:Kn Tryz.prog VV:=mk 62 Tryz.f62 ⟨[.v .z4],[.v .z4]⟩ (fun x=>a6z x.1) w1 u1 .n [K23] (by kernel_rfl) (by kernel_rfl) (fun _=>rfl) fun x=>by kernel_rfl
def K59:Kn Tryz.prog VV:=mk 59 Tryz.f59 ⟨[.v .z4],[.v .zv]⟩ (fun x=>q8 x.1) w1 u1 .n [] (by kernel_rfl) (by kernel_rfl) (fun _=>rfl) fun x=>by kernel_rfl
def K28:Kn Tryz.prog VV:=mk 28 Tryz.f28 ⟨[.v .zr],[.v .zo]⟩ (fun x=>a8k x.1) w1 u1 (sk 5 (.j [] [.bx 1 1 75 .zr,.bx 2 2 69 .zo,.bx 3 3 69 .zo,.v 4 .z4,.v 5 .z4] .n (.s .n (.s (.s .n (.l [4,5,6] [] [.bx 1 1 75 .zr,.bx 2 2 69 .zo,.bx 3 3 69 .zo,.v 7 .z4] .n)) .n)))) [K23,K59,K62] (by kernel_rfl) (by kernel_rfl) (fun _=>rfl) fun x=>by kernel_rfl
def K8:Kn Tryz.prog VV:=mk 8 Tryz.f8 ⟨[.ls .zr],[.ow 69 .zo]⟩ (fun x=>a83 x.1) w1 u1 (sk 2 (.s (.s .n (.l [0] [] [.ow 3 1 69 .zo,.v 4 .z4] .n)) .n)) [K28] (by kernel_rfl) (by kernel_rfl) (fun _=>rfl) fun x=>by kernel_rfl
def K93:Kn Tryz.prog VV:=mk 93 Tryz.f93 ⟨[.v .z4,.v .zy],[.v .z3]⟩ (fun x=>i8 x.1 x.2.1) w1 u1 (sk 2 (.s (.s .n (.l [1,5] [] [.v 6 .z4] .n)) .n)) [K59] (by kernel_rfl) (by kernel_rfl) (fun _=>rfl) fun x=>by kernel_rfl
def K60:Kn Tryz.prog VV:=mk 60 Tryz.f60 ⟨[.v .z4,.v .zy,.v .z4,.v .z4,.v .z4],[.v .z3]⟩ (fun x=>y5 x.1 x.2.1 x.2.2.1 x.2.2.2.1 x.2.2.2.2.1) w1 u1 .n [K93] (by kernel_rfl) (by kernel_rfl) (fun _=>rfl) fun x=>by kernel_rfl
def K25:Kn Tryz.prog VV:=mk 25 Tryz.f25 ⟨[.v .zo],[.v .z3]⟩ (fun x=>j8 x.1) w1 u1 .n [K59,K60] (by kernel_rfl) (by kernel_rfl) (fun _=>rfl) fun x=>by kernel_rfl
def K26:Kn Tryz.prog VV:=mk 26 Tryz.f26 ⟨[.v .zo,.v .zo],[.v .z4]⟩ (fun x=>a3s x.1 x.2.1) w1 u1 .n [] (by kernel_rfl) (by kernel_rfl) (fun _=>rfl) fun x=>by kernel_rfl
def K94:Kn Tryz.prog VV:=mk 94 Tryz.f94 ⟨[.ow 5 .zy,.v .z4,.v .z4],[.ow 5 .zy]⟩ (fun x=>d8 x.1 x.2.1 x.2.2.1) w1 u1 (.s .n (.s (.s .n (.l [1] [] [.ow 0 3 5 .zy,.v 7 .z4] .n)) .n)) [] (by kernel_rfl) (by kernel_rfl) (fun _=>rfl) fun x=>by kernel_rfl
def K61:Kn Tryz.prog VV:=mk 61 Tryz.f61 ⟨[.v .zo],[.ow 5 .zy]⟩ (fun x=>a4i x.1) w1 u1 (sk 3 (.j [] [.bx 1 1 69 .zo,.v 3 .z4] .n (.s .n (.s .n (.s (.s .n (.l [5] [] [.bx 1 1 69 .zo,.ow 4 2 5 .zy,.v 6 .z4] .n)) .n))))) [K25,K59,K94] (by kernel_rfl) (by kernel_rfl) (fun _=>rfl) fun x=>by kernel_rfl
def K27:Kn Tryz.prog VV:=mk 27 Tryz.f27 ⟨[.v .zo,.v .zo],[.v .z3]⟩ (fun x=>a7w x.1 x.2.1) w1 u1 .n [K25,K26,K61] (by kernel_rfl) (by kernel_rfl) (fun _=>rfl) fun x=>by kernel_rfl
def K6:Kn Tryz.prog VV:=mk 6 Tryz.f6 ⟨[.ls .zo,.ls .zo],[.ow 69 .zo]⟩ (fun x=>a70 x.1 x.2.1) w1 u1 (sk 2 (.s (.s .n (.l [0,1] [] [.ow 5 2 69 .zo,.v 6 .z4] (.s .n (.s (.s .n (.j [] [.ls 0 .zo,.ls 1 .zo,.ow 5 2 69 .zo,.v 6 .z4,.bx 7 3 69 .zo] .n (.s .n (.s .n (.s (.l [0,1,6] [] [.ow 5 2 69 .zo,.bx 7 3 69 .zo,.v 8 .z4] .n) (.s .n (.z [5] []))))))) .n)))) .n)) [K25,K26,K27] (by kernel_rfl) (by kernel_rfl) (fun _=>rfl) fun x=>by kernel_rfl
def K5:Kn Tryz.prog VV:=mk 5 Tryz.f5 ⟨[.ls .zo,.v .z4],[.ow 69 .zo]⟩ (fun x=>b09 x.1 x.2.1) w1 u1 (sk 2 (.s (.s .n (.l [0,1] [] [.ow 5 2 69 .zo,.v 6 .z4] .n)) .n)) [] (by kernel_rfl) (by kernel_rfl) (fun _=>rfl) fun x=>by kernel_rfl
def K9:Kn Tryz.prog VV:=mk 9 Tryz.f9 ⟨[.v .z4],[.v .z4]⟩ (fun x=>a7v x.1) w1 u1 .n [K23] (by kernel_rfl) (by kernel_rfl) (fun _=>rfl) fun x=>by kernel_rfl
def K29:Kn Tryz.prog VV:=mk 29 Tryz.f29 ⟨[.v .z4],[.v .z3]⟩ (fun x=>a3y x.1) w1 u1 .n [] (by kernel_rfl) (by kernel_rfl) (fun _=>rfl) fun x=>by kernel_rfl
def K10:Kn Tryz.prog VV:=mk 10 Tryz.f10 ⟨[.v .z4],[.v .z4,.v .z3]⟩ (fun x=>a3x x.1) w2 u2 .n [K29,K30] (by kernel_rfl) (by kernel_rfl) (fun _=>rfl) fun x=>by kernel_rfl
def K190:Kn Tryz.prog VV:=mk 190 Tryz.f190 ⟨[.v .z4],[.v .zv]⟩ (fun x=>b0c x.1) w1 u1 (.s .n (.s (.s .n (.s .n (.s .n (.j [] [.v 3 .z4,.v 6 .z3] .n (.s .n (.s .n (.s .n (.j [] [.v 3 .z4,.v 11 .z3] .n (.s .n (.s .n (.s .n (.s .n (.s .n (.j [] [.v 3 .z4,.v 20 .z3] .n .n)))))))))))))) .n)) [] (by kernel_rfl) (by kernel_rfl) (fun _=>rfl) fun x=>by kernel_rfl
def K250:Kn Tryz.prog VV:=mk 250 Tryz.f250 ⟨[.v .zv,.v .zy],[.v .z4]⟩ (fun x=>b1f x.1 x.2.1) w1 u1 .n [K258] (by kernel_rfl) (by kernel_rfl) (fun _=>rfl) fun x=>by kernel_rfl
def K259:Kn Tryz.prog VV:=mk 259 Tryz.f259 ⟨[.v .zv],[.v .zw,.v .zw]⟩ (fun x=>a8h x.1) w2 u2 (sk 2 (.s (.s .n (.l [0] [] [.v 4 .zw,.v 5 .z4] .n)) (.s .n (.s (.s .n (.l [4] [] [.v 6 .zw,.v 7 .zw,.v 8 .z4] .n)) .n)))) [] (by kernel_rfl) (by kernel_rfl) (fun _=>rfl) fun x=>by kernel_rfl
def K253:Kn Tryz.prog VV:=mk 253 Tryz.f253 ⟨[.v .zv,.v .zv],[.v .z4]⟩ (fun x=>b0h x.1 x.2.1) w1 u1 (sk 4 (.s (.s .n (.l [0,1,5,6,7] [] [.v 8 .zw,.v 9 .z4] .n)) (.s .n (.s (.s .n (.l [0,1,5,6,7] [] [.v 8 .zw,.v 10 .z4] .n)) .n)))) [K259] (by kernel_rfl) (by kernel_rfl) (fun _=>rfl) fun x=>by kernel_rfl
def K234:Kn Tryz.prog VV:=mk 234 Tryz.f234 ⟨[.v .zv,.v .zv],[.v .z4]⟩ (fun x=>b45 x.1 x.2.1) w1 u1 .n [K250] (by kernel_rfl) (by kernel_rfl) (fun _=>rfl) fun x=>by kernel_rfl
def K220:Kn Tryz.prog VV:=mk 220 Tryz.f220 ⟨[.v .zv,.v .zv],[.v .z4]⟩ (fun x=>b7p x.1 x.2.1) w1 u1 .n [K234] (by kernel_rfl) (by kernel_rfl) (fun _=>rfl) fun x=>by kernel_rfl
def K192:Kn Tryz.prog VV:=mk 192 Tryz.f192 ⟨[.v .zv,.v .zv],[.v .z3]⟩ (fun x=>b4u x.1 x.2.1) w1 u1 .n [K220] (by kernel_rfl) (by kernel_rfl) (fun _=>rfl) fun x=>by kernel_rfl
def K191:Kn Tryz.prog VV:=mk 191 Tryz.f191 ⟨[.v .zv,.rp 9 .zv],[.v .z3]⟩ (fun x=>o6 x.1 x.2.1) w1 u1 .n [K192] (by kernel_rfl) (by kernel_rfl) (fun _=>rfl) fun x=>by kernel_rfl
def K193:Kn Tryz.prog VV:=mk 193 Tryz.f193 ⟨[.v .z4,.v .z4,.v .z4],[.v .z3]⟩ (fun x=>a7k x.1 x.2.1 x.2.2.1) w1 u1 .n [] (by kernel_rfl) (by kernel_rfl) (fun _=>rfl) fun x=>by kernel_rfl
def K194:Kn Tryz.prog VV:=mk 194 Tryz.f194 ⟨[.v .z3,.v .z4,.v .z4,.v .z4],[.v .z3]⟩ (fun x=>a7t x.1 x.2.1 x.2.2.1 x.2.2.2.1) w1 u1 .n [K193] (by kernel_rfl) (by kernel_rfl) (fun _=>rfl) fun x=>by kernel_rfl
def K195:Kn Tryz.prog VV:=mk 195 Tryz.f195 ⟨[.v .zj],[.v .z3]⟩ (fun x=>b3s x.1) w1 u1 .n [] (by kernel_rfl) (by kernel_rfl) (fun _=>rfl) fun x=>by kernel_rfl
def K133:Kn Tryz.prog VV:=mk 133 Tryz.f133 ⟨[.v .zo],[.v .z3]⟩ (fun x=>b2l x.1) w1 u1 (sk 4 (.s (.s .n (.s .n (.s .n (.j [] [.bx 1 1 69 .zo,.v 89 .z4,.v 97 .z3] .n (.s .n (.j [] [.bx 1 1 69 .zo,.v 108 .z3] .n .n)))))) .n)) [K190,K191,K193,K194,K195] (by kernel_rfl) (by kernel_rfl) (fun _=>rfl) fun x=>by kernel_rfl
def K95:Kn Tryz.prog VV:=mk 95 Tryz.f95 ⟨[.v .zo],[.v .z3]⟩ (fun x=>a4s x.1) w1 u1 .n [K133] (by kernel_rfl) (by kernel_rfl) (fun _=>rfl) fun x=>by kernel_rfl
def K196:Kn Tryz.prog VV:=mk 196 Tryz.f196 ⟨[.ls .zo,.v .z4],[.v .z4,.v .z3]⟩ (fun x=>b1a x.1 x.2.1) w2 u2 (sk 2 (.s (.s .n (.l [1,10,11] [] [.v 6 .z4,.v 7 .z3,.v 12 .z4] .n)) .n)) [K95] (by kernel_rfl) (by kernel_rfl) (fun _=>rfl) fun x=>by kernel_rfl
def K134:Kn Tryz.prog VV:=mk 134 Tryz.f134 ⟨[.ls .zo],[.v .z4,.v .z3]⟩ (fun x=>b5w x.1) w2 u2 .n [K196] (by kernel_rfl) (by kernel_rfl) (fun _=>rfl) fun x=>by kernel_rfl
def K135:Kn Tryz.prog VV:=mk 135 Tryz.f135 ⟨[.ls .zo],[.v .z4,.v .z3]⟩ (fun x=>b3l x.1) w2 u2 .n [K196] (by kernel_rfl) (by kernel_rfl) (fun _=>rfl) fun x=>by kernel_rfl
def e23:Sig VV:=⟨[.ls .zo],[.v .zj]⟩
def e9s:Fent VV:=⟨e23,Span,fun x=>a2s x.1,fun b=>((b,()),()),none⟩
def f8j:Ress VV e23.rs×Outs VV e23.ps -> Span:=fun p=>p.1.1
def f7e:Ann VV.C:=(.s .n (.s .n (.s .n (.j [] [.bx 2 1 44 .zj,.v 3 .z4,.v 5 .z4] .n .n))))
theorem f7d:SX.Spec Tryz.prog 96 e9s:=b0x (fe:=e9s) uok (okl (e5r [K134,K135])) mixed (fn:=Tryz.f96) (by kernel_rfl) f8j f7e (t7 (s:=e23) (by kernel_rfl)).1 (t7 (s:=e23) (by kernel_rfl)).2 (fun _=>rfl) fun x=>by kernel_rfl
def K96:Kn Tryz.prog VV:=⟨96,e9s,knS rfl ⟨f7d,fun _ _=>by kernel_rfl⟩⟩
def K72:Kn Tryz.prog VV:=mk 72 Tryz.f72 ⟨[.v .zj],[.v .zj]⟩ (fun x=>b79 x.1) w1 u1 .n [] (by kernel_rfl) (by kernel_rfl) (fun _=>rfl) fun x=>by kernel_rfl
def K114:Kn Tryz.prog VV:=mk 114 Tryz.f114 ⟨[.v .zx],[.v .z4]⟩ (fun x=>c0w x.1) w1 u1 .n [K165] (by kernel_rfl) (by kernel_rfl) (fun _=>rfl) fun x=>by kernel_rfl
def K38:Kn Tryz.prog VV:=mk 38 Tryz.f38 ⟨[.ls .zj],[.ow 44 .zj]⟩ (fun x=>a9g x.1) w1 u1 (.s .n (.s (.g [6000]) (.s (.s .n (.l [10,11] [] [.of 3 0 2 44 .zj,.bm 3 1 40 .z5 [(0,2)],.v 12 .z4] (.s .n (.s .n (.s (.s .n (.s .n (.s .n (.s (.g [6000,6004]) .n)))) .n))))) (.s (.g [6000]) (.s .n (.s (.s (.g [6000]) (.l [33] [] [.ow 6 1 44 .zj,.ow 32 2 44 .zj,.v 34 .z4] .n)) .n)))))) [K72,K73] (by kernel_rfl) (by kernel_rfl) (fun _=>rfl) fun x=>by kernel_rfl
def K66:Kn Tryz.prog VV:=mk 66 Tryz.f66 ⟨[.ls .zj,.ls .zj],[.ow 44 .zj]⟩ (fun x=>a9t x.1 x.2.1) w1 u1 (sk 3 (.s (.s .n (.l [] [] [.ow 0 2 44 .zj,.ow 1 3 44 .zj,.ow 5 4 44 .zj,.v 6 .z4,.v 7 .z4] (.s .n (.s .n (.j [] [.ow 0 2 44 .zj,.ow 1 3 44 .zj,.ow 5 4 44 .zj,.v 6 .z4,.v 7 .z4] .n .n))))) .n)) [K38] (by kernel_rfl) (by kernel_rfl) (fun _=>rfl) fun x=>by kernel_rfl
def e07:Sig VV:=⟨[.ls .zj,.v .zj],[.ow 44 .zj]⟩
def e9g:Fent VV:=⟨e07,List Span,fun x=>a0m x.1 x.2.1,fun b=>((b,()),()),none⟩
def f8h:Ress VV e07.rs×Outs VV e07.ps -> List Span:=fun p=>p.1.1
def f7y:Ann VV.C:= .n
theorem f8o:SX.Spec Tryz.prog 34 e9g:=b0x (fe:=e9g) uok (okl (e5r [K66])) mixed (fn:=Tryz.f34) (by kernel_rfl) f8h f7y (t7 (s:=e07) (by kernel_rfl)).1 (t7 (s:=e07) (by kernel_rfl)).2 (fun _=>rfl) fun x=>by kernel_rfl
def K34:Kn Tryz.prog VV:=⟨34,e9g,knS rfl ⟨f8o,fun _ _=>by kernel_rfl⟩⟩
def K63:Kn Tryz.prog VV:=mk 63 Tryz.f63 ⟨[.ls .zo,.v .z4,.v .z4],[.ow 44 .zj]⟩ (fun x=>b3c x.1 x.2.1 x.2.2.1) w1 u1 (sk 2 (.s (.s .n (.l [0,1,2,10,11] [] [.ow 7 3 44 .zj,.v 12 .z4] .n)) .n)) [K34,K95,K96] (by kernel_rfl) (by kernel_rfl) (fun _=>rfl) fun x=>by kernel_rfl
def K31:Kn Tryz.prog VV:=mk 31 Tryz.f31 ⟨[.ls .zo],[.ow 44 .zj]⟩ (fun x=>a86 x.1) w1 u1 (sk 2 (.s (.s .n (.l [0] [] [.ow 3 1 44 .zj,.v 5 .z4] .n)) .n)) [K38,K63] (by kernel_rfl) (by kernel_rfl) (fun _=>rfl) fun x=>by kernel_rfl
def K32:Kn Tryz.prog VV:=mk 32 Tryz.f32 ⟨[.ls .zo],[.ow 44 .zj]⟩ (fun x=>a7d x.1) w1 u1 (sk 2 (.s (.s .n (.l [9] [] [.ow 3 1 44 .zj,.ow 8 2 44 .zj,.v 10 .z4] .n)) .n)) [K31] (by kernel_rfl) (by kernel_rfl) (fun _=>rfl) fun x=>by kernel_rfl
def K37:Kn Tryz.prog VV:=mk 37 Tryz.f37 ⟨[.im 83 .zu [(0,2)],.v .z4,.po 0 0 3 .z4],[.v .z3]⟩ (fun x=>a52 x.1 x.2.1 x.2.2.1) (fun b=>((b.1,()),(b.2.1,(b.2.2,())))) (fun p=>(p.1.1,p.2.1,p.2.2.1)) (.s .n (.s (.l [1] [] [.of 0 0 3 3 .z4,.bm 0 0 83 .zu [(0,3)]] (.s .n (.g [2005]))) .n)) [] (by kernel_rfl) (by kernel_rfl) (fun _=>rfl) fun x=>by kernel_rfl
def K14:Kn Tryz.prog VV:=mk 14 Tryz.f14 ⟨[.ls .zo],[.ow 44 .zj]⟩ (fun x=>a2u x.1) w1 u1 (sk 4 (.s (.s .n (.l [16] [] [.of 3 0 2 3 .z4,.bm 3 1 83 .zu [(0,2)],.ow 4 3 44 .zj,.ow 5 4 44 .zj,.ow 15 5 44 .zj,.v 17 .z4] (.s .n (.s .n (.s (.s .n (.s .n (.s .n (.l [16,17,24] [] [.of 3 0 2 3 .z4,.bm 3 1 83 .zu [(0,2)],.ow 4 3 44 .zj,.ow 5 4 44 .zj,.v 8 .z4,.ow 15 5 44 .zj,.ow 23 6 44 .zj,.v 25 .z4] (.s .n (.s .n (.s (.s .n (.s .n (.l [16,17,24,25] [] [.of 3 0 2 3 .z4,.bm 3 1 83 .zu [(0,2)],.ow 4 3 44 .zj,.ow 5 4 44 .zj,.v 8 .z4,.bx 10 5 44 .zj,.v 11 .z4,.ow 15 6 44 .zj,.ow 23 7 44 .zj] .n))) .n))))))) .n))))) .n)) [K31,K32,K34,K37,K38] (by kernel_rfl) (by kernel_rfl) (fun _=>rfl) fun x=>by kernel_rfl
def K11:Kn Tryz.prog VV:=mk 11 Tryz.f11 ⟨[],[.v .z3]⟩ (fun x=>a9m) w1 u1 (sk 3 (.s (.g [10,16]) .n)) [K14,K31,K32] (by kernel_rfl) (by kernel_rfl) (fun _=>rfl) fun x=>by kernel_rfl
def K97:Kn Tryz.prog VV:=mk 97 Tryz.f97 ⟨[.v .z4],[.v .z3]⟩ (fun x=>a3h x.1) w1 u1 .n [] (by kernel_rfl) (by kernel_rfl) (fun _=>rfl) fun x=>by kernel_rfl
def K137:Kn Tryz.prog VV:=mk 137 Tryz.f137 ⟨[.v .z4],[.v .z3]⟩ (fun x=>b49 x.1) w1 u1 .n [] (by kernel_rfl) (by kernel_rfl) (fun _=>rfl) fun x=>by kernel_rfl
def K99:Kn Tryz.prog VV:=mk 99 Tryz.f99 ⟨[.v .z4,.v .z4],[.v .z4]⟩ (fun x=>a0f x.1 x.2.1) w1 u1 .n [K137] (by kernel_rfl) (by kernel_rfl) (fun _=>rfl) fun x=>by kernel_rfl
def K136:Kn Tryz.prog VV:=mk 136 Tryz.f136 ⟨[.v .z4],[.v .z4]⟩ (fun x=>a4d x.1) w1 u1 .n [] (by kernel_rfl) (by kernel_rfl) (fun _=>rfl) fun x=>by kernel_rfl
def K98:Kn Tryz.prog VV:=mk 98 Tryz.f98 ⟨[.v .z4,.v .z4,.v .z4],[.v .z4,.v .z3]⟩ (fun x=>a9i x.1 x.2.1 x.2.2.1) w2 u2 (sk 3 (.s (.s .n (.l [0,1] [] [.v 8 .z4,.v 9 .z4] .n)) .n)) [K99,K136] (by kernel_rfl) (by kernel_rfl) (fun _=>rfl) fun x=>by kernel_rfl
def K64:Kn Tryz.prog VV:=mk 64 Tryz.f64 ⟨[.v .z4],[.v .z4,.v .z3]⟩ (fun x=>a5x x.1) w2 u2 .n [K97,K98] (by kernel_rfl) (by kernel_rfl) (fun _=>rfl) fun x=>by kernel_rfl
def K65:Kn Tryz.prog VV:=mk 65 Tryz.f65 ⟨[.v .z4],[.v .z4]⟩ (fun x=>a9z x.1) w1 u1 .n [K97,K99] (by kernel_rfl) (by kernel_rfl) (fun _=>rfl) fun x=>by kernel_rfl
def K33:Kn Tryz.prog VV:=mk 33 Tryz.f33 ⟨[.v .z4],[.v .zj,.v .z3]⟩ (fun x=>a6h x.1) w2 u2 .n [K64,K65] (by kernel_rfl) (by kernel_rfl) (fun _=>rfl) fun x=>by kernel_rfl
def e9n:Kn Tryz.prog VV:=mk 138 Tryz.f138 ⟨[.ls .zo,.cl 95 []],[.ow 69 .zo]⟩ (fun x=>a2g x.1) w1 u1 (sk 2 (.s (.s .n (.l [1,8,9] [] [.ow 5 2 69 .zo,.v 10 .z4] .n)) .n)) [K95] (by kernel_rfl) (by kernel_rfl) (fun _=>rfl) fun x=>by kernel_rfl
def d0c:Sig VV:=⟨[.ls .zo],[.ow 69 .zo]⟩
def e02:Fent VV:=⟨d0c,List aQ,fun x=>a6j x.1,fun b=>((b,()),()),none⟩
def f5e:Ress VV d0c.rs×Outs VV d0c.ps -> List aQ:=fun p=>p.1.1
def f2v:Ann VV.C:= .n
theorem f4s:SX.Spec Tryz.prog 100 e02:=b0x (fe:=e02) uok (okl (e5r [e9n])) mixed (fn:=Tryz.f100) (by kernel_rfl) f5e f2v (t7 (s:=d0c) (by kernel_rfl)).1 (t7 (s:=d0c) (by kernel_rfl)).2 (fun _=>rfl) fun x=>by kernel_rfl
def K100:Kn Tryz.prog VV:=⟨100,e02,knS rfl ⟨f4s,fun _ _=>by kernel_rfl⟩⟩
def K198:Kn Tryz.prog VV:=mk 198 Tryz.f198 ⟨[.v .z4],[.v .z3]⟩ (fun x=>a8u x.1) w1 u1 .n [] (by kernel_rfl) (by kernel_rfl) (fun _=>rfl) fun x=>by kernel_rfl
def K142:Kn Tryz.prog VV:=mk 142 Tryz.f142 ⟨[.v .z4,.v .z4],[.v .z4]⟩ (fun x=>a19 x.1 x.2.1) w1 u1 .n [K198] (by kernel_rfl) (by kernel_rfl) (fun _=>rfl) fun x=>by kernel_rfl
def K141:Kn Tryz.prog VV:=mk 141 Tryz.f141 ⟨[.ls .z4],[.v .z4]⟩ (fun x=>b2c x.1) w1 u1 (sk 2 (.s (.s .n (.l [3,6,7] [] [.v 8 .z4] .n)) .n)) [] (by kernel_rfl) (by kernel_rfl) (fun _=>rfl) fun x=>by kernel_rfl
def c82:Sig VV:=⟨[.v .zd,.v .zd],[.v .z4]⟩
def d97:Fent VV:=⟨c82,Int,fun x=>a02 x.1 x.2.1,fun b=>((b,()),()),none⟩
def f2j:Ress VV c82.rs×Outs VV c82.ps -> Int:=fun p=>p.1.1
def f2p:Ann VV.C:= .n
theorem f2o:SX.Spec Tryz.prog 140 d97:=b0x (fe:=d97) uok (okl (e5r [K141,K142])) mixed (fn:=Tryz.f140) (by kernel_rfl) f2j f2p (t7 (s:=c82) (by kernel_rfl)).1 (t7 (s:=c82) (by kernel_rfl)).2 (fun _=>rfl) fun x=>by kernel_rfl
def K140:Kn Tryz.prog VV:=⟨140,d97,knS rfl ⟨f2o,fun _ _=>by kernel_rfl⟩⟩
def d43:Kn Tryz.prog VV:=mk 221 Tryz.f221 ⟨[.so 94 .zd,.v .z4,.v .z4,.cl 140 []],[]⟩ (fun x=>k9 x.1 x.2.1 x.2.2.1) (fun b=>((),(b,()))) (fun p=>p.2.1) (.s .n (.l [1,2,3] [] [.ow 0 0 94 .zd,.v 8 .z4] (.s .n (.s (.s .n (.l [1,2,3,8] [] [.ow 0 0 94 .zd,.v 9 .z4] .n)) .n)))) [K140] (by kernel_rfl) (by kernel_rfl) (fun _=>rfl) fun x=>by kernel_rfl
def b3v:Sig VV:=⟨[.so 94 .zd,.v .z4,.v .z4,.v .z4,.cl 140 []],[]⟩
def b92 (R:oQ):Fent VV:=⟨b3v,List Posting,fun x=>R.f_slices_pdqsortCmpFunc_of_api_Posting x.1 x.2.1 x.2.2.1 x.2.2.2.1,fun b=>((),(b,())),none⟩
def d5e:Fent VV:=b92 (c3 FU)
def c4x:Ress VV b3v.rs×Outs VV b3v.ps -> List Posting:=fun p=>p.2.1
def c4i:Ann VV.C:=(.s .n (.s .n (.l [4] [] [.ow 0 0 94 .zd,.v 1 .z4,.v 2 .z4,.v 3 .z4,.v 10 .z3,.v 11 .z3] (.s .n (.s .n (.s .n (.j [] [.ow 0 0 94 .zd,.v 1 .z4,.v 2 .z4,.v 3 .z4,.cl 4 140 [],.v 10 .z3,.v 11 .z3,.v 12 .z4] .n .n)))))))
def c5b (R:oQ):Phi VV:=fun f ys=>lkF f ys [d43.e]
theorem d19 (R:oQ):OKΦ Tryz.prog (c5b R):=okl ⟨d43.ok,trivial⟩
theorem d7b (R:oQ): ∀x,d7q Tryz.prog (c5b R) b3v c4x Tryz.f197 c4i x=g9 R x.1 x.2.1 x.2.2.1 x.2.2.2.1:=fun x=>by kernel_rfl
theorem c5x:d7l Tryz.f197 b3v=true:=by kernel_rfl
theorem o7: ∀n,SX.Spec Tryz.prog 197 (b92 (c3 n))
 | 0=>(fun _ _ h=>(by cases (show none=some _ from h)))
 | n+1=>let h197:=o7 n;b0x (fe:=b92 (c3 (n+1))) uok (d19 (c3 n)) mixed (fn:=Tryz.f197) (by kernel_rfl) c4x c4i (t7 c5x).1 (t7 c5x).2 (fun _=>rfl) (d7b (c3 n))
def e54:Kn Tryz.prog VV:=⟨197,d5e,knS rfl ⟨(o7 FU),fun _ _=>by kernel_rfl⟩⟩
def e5q:Kn Tryz.prog VV:=mk 139 Tryz.f139 ⟨[.so 94 .zd,.cl 140 []],[]⟩ (fun x=>c9 x.1) (fun b=>((),(b,()))) (fun p=>p.2.1) .n [K114,e54] (by kernel_rfl) (by kernel_rfl) (fun _=>rfl) fun x=>by kernel_rfl
def e6c:Fent VV:=⟨⟨[.ls .zo],[.ow 94 .zd]⟩,List Posting,fun x=>competence_Postings x.1,w1,none⟩
end
end Go.PL
