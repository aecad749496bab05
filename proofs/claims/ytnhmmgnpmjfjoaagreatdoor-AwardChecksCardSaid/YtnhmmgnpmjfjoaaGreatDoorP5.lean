/- Texts of the proof, joined. -/
import Derived.Test.YtnhmmgnpmjfjoaaGreatDoorP4
import Derived.Sort.Defs
import Derived.Lib.BitFns
import Derived.Shelf.Strconv.Itoa3
import Derived.Lib.LaidTab
import Derived.Laws.BitsLemmas
import Derived.Laws.Bits64
import Derived.KernelRfl
set_option linter.unusedVariables false
set_option linter.unusedSimpArgs false
set_option maxRecDepth 100000
namespace Go.PL
def e9e {α:Type} [Inhabited α] (lt:α -> α -> Bool) (l:List α):Option (List α):=
 if l.length <= 1 then some l else if l.length<4611686018427387904 then some (Go.Sort.pdq lt l.toArray 0 l.length (Lib.bitLen l.length) true true).toList else none
end Go.PL
namespace Go.PL
open Go
def a7i:Nat -> Nat -> List UInt8
 | 0,u=>[UInt8.ofNat (48+u)]
 | k+1,u=>if u<10 then [UInt8.ofNat (48+u)] else a7i k (u/10)++[UInt8.ofNat (48+u%10)]
theorem d8x: ∀(k u:Nat),u<10^(k+1) -> a7i k u=Lib.decDigits u
 | 0,u,h=>by rw [Lib.decDigits,dif_pos (by simpa using h)];rfl
 | k+1,u,h=>by
   rw [Lib.decDigits]
   unfold a7i
   by_cases hu:u<10
   ·rw [if_pos hu,dif_pos hu]
   ·rw [if_neg hu,dif_neg hu,d8x k (u/10) (by rw [Nat.pow_succ] at h;omega)]
def strconv_Itoa (a0:Int):Option ByteArray:=if 0 <= a0 /\ a0 <= 9223372036854775807 then some ⟨(a7i 20 a0.toNat).toArray⟩ else none
end Go.PL
namespace Go.SX
open Go Go.PL Go.Proofs Go.Shelf
theorem e4b {P:Program} {nm:String} {k:IntKind} {zs:List Int} {g:Nat} (hg:P.globalNamed nm=some g) {w w':World} (h:Lib.TabIs P w nm k zs) (hb:w'.heap[g]? =w.heap[g]?):Lib.TabIs P w' nm k zs:=by
 unfold Lib.TabIs World.var? at*
 rw [hg] at*
 simpa [hb] using h
theorem f5e {P:Program} {nm:String} {k:IntKind} {zs:List Int} {g:Nat} (hg:P.globalNamed nm=some g) {w:World} (h:Lib.TabIs P w nm k zs):g<w.heap.size:=by
 unfold Lib.TabIs World.var? at h
 rw [hg] at h
 cases hh:w.heap[g]? with
 | none=>simp [hh] at h
 | some o=>exact (Array.getElem?_eq_some_iff.1 hh).1
theorem e5x (G:Nat -> Prop) (w:World) (k:Nat) (os:Array Obj):Ext G w (Sort.grow (w.drewN k) os):=
 ⟨rfl,rfl,rfl,by simp [Sort.grow,World.drewN],fun b hb _=>by simp [Sort.grow,World.drewN,Array.getElem?_append_left hb]⟩
section
variable {P:Program} {U:Uni}
theorem e0o {ρ:Ren} (L:LaysM.n171 P ρ) (ht: ∀w,U.tab w -> Lib.TabIs P w "internal/strconv.uint64pow10" .u64 Lib.pow10Tab) {a c:U.C} (fa:U.T a -> Int) (ha: ∀x,(inj a x:U.AV)= .int .i64 (fa x)) (fc:ByteArray -> U.T c) (hc: ∀s,(inj c (fc s):U.AV)= .str s):
  Spec P (ρ.f 171) (⟨⟨[.v a],[.v c]⟩,ByteArray,fun x=>strconv_Itoa (fa x.1),fun b=>((fc b,()),()),none⟩:Fent U):=by
 intro xs r hr Z G w us hl hR
 match us,hl with
 | [u1],_=>
   have s0:AVR _ (inj a xs.1) u1:=hR.slot 0
   rw [ha] at s0
   have s0:u1= .int .i64 (fa xs.1):=s0
   have hr:strconv_Itoa (fa xs.1)=some r:=hr
   unfold strconv_Itoa at hr
   split at hr
   ·rename_i hb
    have hr:=(Option.some.inj hr).symm
    have e:Lib.itoa (fa xs.1)=a7i 20 (fa xs.1).toNat:=by
     unfold Lib.itoa
     rw [if_neg (by omega),d8x 20 _ (by omega)]
    have hC:=Any.strconv_Itoa L (fa xs.1) (by omega) hb.2 w (ht w hR.tab.1)
    subst s0
    show Calls P (ρ.f 171) #[Value.int .i64 (fa xs.1)] w _
    refine hC.mono ?_
    rintro e' w' ⟨he,k,os,hw⟩
    subst hw
    refine ⟨_,he,⟨Z,[_],[.int .i64 (fa xs.1)],rfl,fun _ h=>h,fun _ h=> .inl h,e5x _ _ _ _,rfl,fun _ _ _ _=>rfl,⟨?_,trivial⟩,trivial,?_,?_⟩⟩
    ·show a16 _ (inj c (fc r)) _
     rw [hc,hr,<- e];rfl
    ·intro v hv;cases hv
    ·intro i j v v' b _ hv;cases hv
   ·cases hr
end
end Go.SX
namespace Go.PL
open Go Go.SX
structure Rules where
 From:Int
 MinDays:Int
 PostingLimit:Int
 Substantial:Int
 Members:List Int
structure Rounding where
 Mode:Int
 Unit:Int
structure Credit where
 Kind:Int
 Limit:Int
structure Fraction where
 Num:Int
 Den:Int
structure Index where
 Year:Int
 Factor:Fraction
structure Expr where
 Op:Int
 Value:Fraction
 Dim:Int
 Name:ByteArray
 Args:List Expr
structure Let where
 Name:ByteArray
 Body:Expr
structure Grant where
 Benefit:Int
 If:Expr
 Pay:Expr
structure Reduce where
 Benefit:Int
 By:Expr
structure Version where
 From:Int
 Rounding:Rounding
 Credits:List Credit
 Series:List Index
 Lets:List Let
 Grants:List Grant
 Reduces:List Reduce
structure Value where
 Dim:Int
 Yes:Bool
 Num:Fraction
structure Step where
 Name:ByteArray
 Value:Value
structure Binding where
 Name:ByteArray
 Dim:Int
structure Span where
 From:Int
 To:Int
structure Token where
 Kind:Int
 Text:ByteArray
 At:Int
structure pensionref5_reader where
 l:List Token
 at_:Int
 end_:Int
 bad:Bool
structure pensionref1_wide where
 hi:Int
 lo:Int
structure Statute where
 Name:ByteArray
 Currency:Int
 Versions:List Version
structure State where
 State:Int
 Statute:Statute
structure Rate where
 Currency:Int
 Month:Int
 Value:Fraction
structure Laws where
 States:List State
 Treaty:List Rules
 Rates:List Rate
structure syntax_entry where
 name:ByteArray
 number:Int
structure View where
 Age:Int
 Year:Int
 Children:Int
 Insured:Int
 Worked:Int
 Voluntary:Int
 Service:Int
 Equated:Int
 Raising:Int
 Resident:Int
 Base:Fraction
 Years:List Int
structure eval_evaluator where
 view:View
 steps:List Step
structure api_Fact where
 Issuer:Int
 Number:Int
 Version:Int
 Withdrawn:Bool
 Person:Int
 Kind:Int
 State:Int
 Span:Span
 Seat:Int
 Share:Int
 Currency:Int
 Amount:Int
 Ref:Int
structure Award where
 State:Int
 Benefit:Int
 Day:Int
 Code:Int
 Few:Bool
 Independent:Int
 Theoretical:Int
 ProRata:Int
 Num:Int
 Den:Int
 Amount:Int
 Steps:List Step
structure award_bench where
 laws:Laws
 day:Int
 rules:Rules
structure Counted where
 Span:Span
 State:Int
 Rank:Int
structure Total where
 Own:Ar 6 Int
 Few:Ar 6 Bool
 Sum:Int
 Base:Int
 Last:Int
structure Result where
 Holds:Bool
 Pay:Fraction
 Steps:List Step
structure Earning where
 Year:Int
 Amount:Int
structure rational_wide where
 hi:Int
 lo:Int
structure earnings_income where
 fact:api_Fact
 days:List Span
structure Scheme where
 State:Int
 Version:Version
structure Segment where
 Span:Span
 State:Int
 Rule:Int
structure Period where
 State:Int
 Rank:Int
 Span:Span
structure Posting where
 Seat:Int
 State:Int
 Span:Span
structure competence_life where
 facts:List api_Fact
 span:Span
 postings:List Posting
 rules:List Rules
structure competence_route where
 seat:Int
 state:Int
structure Anon307 where
 kind:Int
 rank:Int
structure Piece where
 Span:Span
 Members:List Int
def a1y:ByteArray:=⟨#[]⟩
def a3b:ByteArray:=⟨#[48,49,50,51,52,53,54,55,56,57]⟩
def a8m:ByteArray:=⟨#[46]⟩
def b2h:ByteArray:=⟨#[102,114,111,109,32,64]⟩
def a8r:ByteArray:=⟨#[32,123,32,114,111,117,110,100,32]⟩
def b2w:ByteArray:=⟨#[100,111,119,110,32,49,59,32]⟩
def b84:ByteArray:=⟨#[99,114,101,100,105,116,32,118,111,108,117,110,116,97,114,121,59,32,99,114,101,100,105,116,32,117,110,101,109,112,108,111,121,101,100,32,108,105,109,105,116,32]⟩
def a39:ByteArray:=⟨#[59,32]⟩
def b87:ByteArray:=⟨#[99,114,101,100,105,116,32,99,104,105,108,100,32,108,105,109,105,116,32]⟩
def b7b:ByteArray:=⟨#[99,114,101,100,105,116,32,114,101,115,105,100,101,110,99,101,59,32]⟩
def b7j:ByteArray:=⟨#[105,110,100,101,120,32,49,57,54,48,32,49,59,32,105,110,100,101,120,32,49,57,56,48,32]⟩
def b71:ByteArray:=⟨#[59,32,105,110,100,101,120,32,49,57,57,53,32]⟩
def b7o:ByteArray:=⟨#[108,101,116,32,115,112,101,110,116,32,61,32,105,110,115,117,114,101,100,32,47,32]⟩
def b7f:ByteArray:=⟨#[100,59,32,108,101,116,32,112,97,114,116,32,61,32,109,105,110,40,115,112,101,110,116,32,42,32]⟩
def b7l:ByteArray:=⟨#[44,32,48,46,56,48,41,59,32]⟩
def b7h:ByteArray:=⟨#[103,114,97,110,116,32,111,108,100,32,105,102,32,97,103,101,32,62,61,32]⟩
def b78:ByteArray:=⟨#[32,97,110,100,32,105,110,115,117,114,101,100,32,62,61,32]⟩
def b7p:ByteArray:=⟨#[100,32,112,97,121,32,109,97,120,40,98,97,115,101,32,42,32,112,97,114,116,44,32]⟩
def b5o:ByteArray:=⟨#[109,41,59,32]⟩
def b83:ByteArray:=⟨#[103,114,97,110,116,32,100,105,115,97,98,105,108,105,116,121,32,105,102,32,105,110,115,117,114,101,100,32,62,61,32]⟩
def b7v:ByteArray:=⟨#[100,32,112,97,121,32,98,97,115,101,32,42,32]⟩
def b7u:ByteArray:=⟨#[103,114,97,110,116,32,115,117,114,118,105,118,111,114,32,105,102,32,119,111,114,107,101,100,32,43,32,101,113,117,97,116,101,100,32,62,61,32,51,48,100,32,112,97,121,32,98,97,115,101,32,42,32,112,97,114,116,32,42,32,48,46,54,48,59,32]⟩
def b86:ByteArray:=⟨#[103,114,97,110,116,32,102,97,109,105,108,121,32,105,102,32,105,110,115,117,114,101,100,32,62,61,32]⟩
def c0j:ByteArray:=⟨#[100,32,112,97,121,32]⟩
def b72:ByteArray:=⟨#[109,32,42,32,99,104,105,108,100,114,101,110,59,32]⟩
def b7s:ByteArray:=⟨#[103,114,97,110,116,32,115,105,99,107,110,101,115,115,32,105,102,32,105,110,115,117,114,101,100,32,62,61,32]⟩
def b7x:ByteArray:=⟨#[100,32,112,97,121,32,98,101,115,116,40,51,41,32,47,32,49,50,32,42,32,48,46,55,48,59,32]⟩
def a8z:ByteArray:=⟨#[114,101,100,117,99,101,32,111,108,100,32,98,121,32]⟩
def b44:ByteArray:=⟨#[114,101,100,117,99,101,32,100,105,115,97,98,105,108,105,116,121,32,98,121,32,105,102,32,97,103,101,32,60,32,54,48,32,116,104,101,110,32,48,46,53,48,32,101,108,115,101,32,49,59,32]⟩
def b02:ByteArray:=⟨#[125,32]⟩
def b2u:ByteArray:=⟨#[104,97,108,102,32,53,59,32]⟩
def b5k:ByteArray:=⟨#[117,112,32,49,59,32]⟩
def b1u:ByteArray:=⟨#[101,118,101,110,32,49,48,59,32]⟩
def b4l:ByteArray:=⟨#[97,108,98,97]⟩
def b4o:ByteArray:=⟨#[98,111,114,97]⟩
def b1p:ByteArray:=⟨#[99,101,100,97,114]⟩
def b2i:ByteArray:=⟨#[115,116,97,116,117,116,101,32]⟩
def a9x:ByteArray:=⟨#[32,99,117,114,114,101,110,99,121,32]⟩
def b8j:ByteArray:=⟨#[32,123,32]⟩
def a5z:ByteArray:=⟨#[49,57,48,48,45,48,49,45,48,49]⟩
def a61:ByteArray:=⟨#[49,57,57,54,45,48,55,45,48,49]⟩
def a5y:ByteArray:=⟨#[50,48,48,49,45,48,49,45,48,49]⟩
def a2c:ByteArray:=⟨#[125]⟩
def b3b:ByteArray:=⟨#[60,61]⟩
def a4r:ByteArray:=⟨#[62,61]⟩
def b38:ByteArray:=⟨#[60,62]⟩
def b5w:ByteArray:=⟨#[97,110,100]⟩
def a9v:ByteArray:=⟨#[98,101,115,116]⟩
def b9d:ByteArray:=⟨#[98,121]⟩
def a1q:ByteArray:=⟨#[99,114,101,100,105,116]⟩
def a1w:ByteArray:=⟨#[99,117,114,114,101,110,99,121]⟩
def b2e:ByteArray:=⟨#[101,108,115,101]⟩
def b09:ByteArray:=⟨#[102,108,111,111,114]⟩
def b2m:ByteArray:=⟨#[102,114,111,109]⟩
def a2z:ByteArray:=⟨#[103,114,97,110,116]⟩
def a9b:ByteArray:=⟨#[105,102]⟩
def a3x:ByteArray:=⟨#[105,110,100,101,120]⟩
def a9j:ByteArray:=⟨#[108,101,116]⟩
def a7k:ByteArray:=⟨#[108,105,109,105,116]⟩
def b34:ByteArray:=⟨#[109,97,120]⟩
def b4d:ByteArray:=⟨#[109,105,110]⟩
def b5c:ByteArray:=⟨#[110,111,116]⟩
def c3o:ByteArray:=⟨#[111,114]⟩
def b0h:ByteArray:=⟨#[112,97,121]⟩
def a3d:ByteArray:=⟨#[114,101,100,117,99,101]⟩
def b04:ByteArray:=⟨#[114,111,117,110,100]⟩
def a2w:ByteArray:=⟨#[115,116,97,116,117,116,101]⟩
def b6a:ByteArray:=⟨#[116,104,101,110]⟩
def c4g:ByteArray:=⟨#[0,1,2,2,3,3,3,3,4,4,4,4,4,4,4,4,5,5,5,5,5,5,5,5,5,5,5,5,5,5,5,5,6,6,6,6,6,6,6,6,6,6,6,6,6,6,6,6,6,6,6,6,6,6,6,6,6,6,6,6,6,6,6,6,7,7,7,7,7,7,7,7,7,7,7,7,7,7,7,7,7,7,7,7,7,7,7,7,7,7,7,7,7,7,7,7,7,7,7,7,7,7,7,7,7,7,7,7,7,7,7,7,7,7,7,7,7,7,7,7,7,7,7,7,7,7,7,7,8,8,8,8,8,8,8,8,8,8,8,8,8,8,8,8,8,8,8,8,8,8,8,8,8,8,8,8,8,8,8,8,8,8,8,8,8,8,8,8,8,8,8,8,8,8,8,8,8,8,8,8,8,8,8,8,8,8,8,8,8,8,8,8,8,8,8,8,8,8,8,8,8,8,8,8,8,8,8,8,8,8,8,8,8,8,8,8,8,8,8,8,8,8,8,8,8,8,8,8,8,8,8,8,8,8,8,8,8,8,8,8,8,8,8,8,8,8,8,8,8,8,8,8,8,8,8,8]⟩
def a2i:ByteArray:=⟨#[118,111,108,117,110,116,97,114,121]⟩
def a6d:ByteArray:=⟨#[115,101,114,118,105,99,101]⟩
def a7p:ByteArray:=⟨#[117,110,101,109,112,108,111,121,101,100]⟩
def c7g:ByteArray:=⟨#[115,105,99,107]⟩
def b5y:ByteArray:=⟨#[99,104,105,108,100]⟩
def a8n:ByteArray:=⟨#[114,101,115,105,100,101,110,99,101]⟩
def b7y:ByteArray:=⟨#[111,108,100]⟩
def a4a:ByteArray:=⟨#[100,105,115,97,98,105,108,105,116,121]⟩
def b0a:ByteArray:=⟨#[115,117,114,118,105,118,111,114]⟩
def b3c:ByteArray:=⟨#[102,97,109,105,108,121]⟩
def b05:ByteArray:=⟨#[115,105,99,107,110,101,115,115]⟩
def b9b:ByteArray:=⟨#[100,111,119,110]⟩
def d0d:ByteArray:=⟨#[117,112]⟩
def b8h:ByteArray:=⟨#[104,97,108,102]⟩
def b8p:ByteArray:=⟨#[101,118,101,110]⟩
def c8f:ByteArray:=⟨#[43]⟩
def b5t:ByteArray:=⟨#[45]⟩
def a7h:ByteArray:=⟨#[42]⟩
def b74:ByteArray:=⟨#[47]⟩
def c87:ByteArray:=⟨#[60]⟩
def b5g:ByteArray:=⟨#[61]⟩
def d3m:ByteArray:=⟨#[62]⟩
def a85:ByteArray:=⟨#[40]⟩
def a9n:ByteArray:=⟨#[41]⟩
def c01:ByteArray:=⟨#[44]⟩
def a05:ByteArray:=⟨#[59]⟩
def b1w:ByteArray:=⟨#[123]⟩
def e43:ByteArray:=⟨#[100]⟩
def e3t:ByteArray:=⟨#[109]⟩
def b2v:ByteArray:=⟨#[97,103,101]⟩
def a1l:ByteArray:=⟨#[105,110,115,117,114,101,100]⟩
def a6x:ByteArray:=⟨#[98,97,115,101]⟩
def a8j:ByteArray:=⟨#[119,111,114,107,101,100]⟩
def a6c:ByteArray:=⟨#[101,113,117,97,116,101,100]⟩
def b1x:ByteArray:=⟨#[114,97,105,115,105,110,103]⟩
def b61:ByteArray:=⟨#[114,101,115,105,100,101,110,116]⟩
def b93:ByteArray:=⟨#[121,101,97,114]⟩
def a6j:ByteArray:=⟨#[99,104,105,108,100,114,101,110]⟩
def a50 (s:ByteArray) (c:Int):Option Int:=some (f0a s c)
def b9j:Option Bool:=some true
def b28 (a0:List Int):Option (List Int):=b1f 8 [] a0
def a71 (a0:List Credit):Option (List Credit):=b1f 16 [] a0
def a7s (a0:List Index):Option (List Index):=b1f 24 [] a0
def a92 (a0:List Let):Option (List Let):=b1f 88 [] a0
def a7t (a0:List Grant):Option (List Grant):=b1f 152 [] a0
def a74 (a0:List Reduce):Option (List Reduce):=b1f 80 [] a0
instance:Inhabited Span:=⟨⟨0,0⟩⟩
def b00 (l:List Span):Option (List Span):=e9e (fun x y=>decide (x.From<y.From)) l
def a0d (r2:(Int×ByteArray) -> Option ByteArray) (v1:Int×ByteArray):Option ByteArray:=
 if (decide (v1.1>9)) then
 (b36 v1.1 10).bind fun v3=>
 (b36 v1.1 10).bind fun v4=>
 (b3v a3b v3 (i64 (v4+1))).bind fun v5=>
 (a3j v5 v1.2).bind fun v6=>
 (b9o v1.1 10).bind fun v7=>
 r2 (v7,v6)
 else
 (b3v a3b v1.1 (i64 (v1.1+1))).bind fun v8=>
 (a3j v8 v1.2).bind fun v9=>
 some v9
def i6 (a0:Int):Option ByteArray:=
 f7 FU a0d (a0,a1y)
def d8 (a0:Int) (a1:Int):Option Int:=
 (b36 a0 a1).bind fun v1=>
 if (decide (v1<0)) then
 some (i64 (v1+a1))
 else
 some v1
def f8 (a0:List Int) (a1:Int):Option Int:=
 if ((a0.length:Int)==0) then
 some 0
 else
 (d8 a1 (a0.length:Int)).bind fun v1=>
 (i7 a0 v1).bind fun v2=>
 some v2
def p8 (a0:Int):Option ByteArray:=
 (b9o a0 100).bind fun v1=>
 (i6 v1).bind fun v2=>
 (a3j v2 a8m).bind fun v3=>
 (b9o a0 10).bind fun v4=>
 (b36 v4 10).bind fun v5=>
 (i6 v5).bind fun v6=>
 (a3j v3 v6).bind fun v7=>
 (b36 a0 10).bind fun v8=>
 (i6 v8).bind fun v9=>
 (a3j v7 v9).bind fun v10=>
 some v10
def a0u (v104:(List Int)×Int×ByteArray):Option ByteArray:=
 (f8 v104.1 (i64 (v104.2.1+18))).bind fun v105=>
 (d8 v105 3).bind fun v106=>
 if (v106==0) then
 (a3j v104.2.2 b44).bind fun v107=>
 (a3j v107 b02).bind fun v108=>
 some v108
 else
 (a3j v104.2.2 b02).bind fun v109=>
 some v109
def a0t (v78:(List Int)×Int×ByteArray):Option ByteArray:=
 (f8 v78.1 (i64 (v78.2.1+14))).bind fun v79=>
 (d8 v79 800).bind fun v80=>
 (i6 v80).bind fun v81=>
 (a3j b86 v81).bind fun v82=>
 (a3j v82 c0j).bind fun v83=>
 (f8 v78.1 (i64 (v78.2.1+15))).bind fun v84=>
 (d8 v84 300).bind fun v85=>
 (i6 (i64 (10+v85))).bind fun v86=>
 (a3j v83 v86).bind fun v87=>
 (a3j v87 b72).bind fun v88=>
 (a3j v78.2.2 v88).bind fun v89=>
 (f8 v78.1 (i64 (v78.2.1+16))).bind fun v90=>
 (d8 v90 400).bind fun v91=>
 (i6 v91).bind fun v92=>
 (a3j b7s v92).bind fun v93=>
 (a3j v93 b7x).bind fun v94=>
 (a3j v89 v94).bind fun v95=>
 (f8 v78.1 (i64 (v78.2.1+17))).bind fun v96=>
 (d8 v96 3).bind fun v97=>
 if (decide (v97>0)) then
 (f8 v78.1 (i64 (v78.2.1+17))).bind fun v98=>
 (d8 v98 11).bind fun v99=>
 (p8 (i64 (10*v99))).bind fun v100=>
 (a3j a8z v100).bind fun v101=>
 (a3j v101 a39).bind fun v102=>
 (a3j v95 v102).bind fun v103=>
 g9 a0u (v78.1,v78.2.1,v103)
 else
 g9 a0u (v78.1,v78.2.1,v95)
def a0w (v28:(List Int)×Int×ByteArray×ByteArray):Option ByteArray:=
 (f8 v28.1 (i64 (v28.2.1+5))).bind fun v29=>
 (d8 v29 300).bind fun v30=>
 (p8 (i64 (100+v30))).bind fun v31=>
 (a3j b7j v31).bind fun v32=>
 (a3j v32 b71).bind fun v33=>
 (f8 v28.1 (i64 (v28.2.1+6))).bind fun v34=>
 (d8 v34 300).bind fun v35=>
 (p8 (i64 (400+v35))).bind fun v36=>
 (a3j v33 v36).bind fun v37=>
 (a3j v37 a39).bind fun v38=>
 (a3j v28.2.2.2 v38).bind fun v39=>
 (a3j b7o v28.2.2.1).bind fun v40=>
 (a3j v40 b7f).bind fun v41=>
 (f8 v28.1 (i64 (v28.2.1+7))).bind fun v42=>
 (d8 v42 4).bind fun v43=>
 (p8 (i64 (1+v43))).bind fun v44=>
 (a3j v41 v44).bind fun v45=>
 (a3j v45 b7l).bind fun v46=>
 (a3j v39 v46).bind fun v47=>
 (f8 v28.1 (i64 (v28.2.1+8))).bind fun v48=>
 (d8 v48 12).bind fun v49=>
 (i6 (i64 (50+v49))).bind fun v50=>
 (a3j b7h v50).bind fun v51=>
 (a3j v51 b78).bind fun v52=>
 (f8 v28.1 (i64 (v28.2.1+9))).bind fun v53=>
 (d8 v53 6000).bind fun v54=>
 (i6 v54).bind fun v55=>
 (a3j v52 v55).bind fun v56=>
 (a3j v56 b7p).bind fun v57=>
 (f8 v28.1 (i64 (v28.2.1+10))).bind fun v58=>
 (d8 v58 900).bind fun v59=>
 (i6 v59).bind fun v60=>
 (a3j v57 v60).bind fun v61=>
 (a3j v61 b5o).bind fun v62=>
 (a3j v47 v62).bind fun v63=>
 (f8 v28.1 (i64 (v28.2.1+11))).bind fun v64=>
 (d8 v64 2000).bind fun v65=>
 (i6 v65).bind fun v66=>
 (a3j b83 v66).bind fun v67=>
 (a3j v67 b7v).bind fun v68=>
 (f8 v28.1 (i64 (v28.2.1+12))).bind fun v69=>
 (d8 v69 60).bind fun v70=>
 (p8 (i64 (20+v70))).bind fun v71=>
 (a3j v68 v71).bind fun v72=>
 (a3j v72 a39).bind fun v73=>
 (a3j v63 v73).bind fun v74=>
 (f8 v28.1 (i64 (v28.2.1+13))).bind fun v75=>
 (d8 v75 5).bind fun v76=>
 if (decide (v76>0)) then
 (a3j v74 b7u).bind fun v77=>
 g9 a0t (v28.1,v28.2.1,v77)
 else
 g9 a0t (v28.1,v28.2.1,v74)
def a0s (v24:(List Int)×Int×ByteArray×ByteArray):Option ByteArray:=
 (f8 v24.1 (i64 (v24.2.1+4))).bind fun v25=>
 (d8 v25 4).bind fun v26=>
 if (v26==0) then
 (a3j v24.2.2.2 b7b).bind fun v27=>
 g9 a0w (v24.1,v24.2.1,v24.2.2.1,v27)
 else
 g9 a0w (v24.1,v24.2.1,v24.2.2.1,v24.2.2.2)
def y6 (v9:(List Int)×Int×ByteArray×ByteArray):Option ByteArray:=
 (f8 v9.1 (i64 (v9.2.1+2))).bind fun v10=>
 (d8 v10 900).bind fun v11=>
 (i6 (i64 (1+v11))).bind fun v12=>
 (a3j b84 v12).bind fun v13=>
 (a3j v13 a39).bind fun v14=>
 (a3j v9.2.2.2 v14).bind fun v15=>
 (f8 v9.1 (i64 (v9.2.1+3))).bind fun v16=>
 (d8 v16 3).bind fun v17=>
 if (decide (v17>0)) then
 (f8 v9.1 (i64 (v9.2.1+3))).bind fun v18=>
 (d8 v18 1000).bind fun v19=>
 (i6 (i64 (100+v19))).bind fun v20=>
 (a3j b87 v20).bind fun v21=>
 (a3j v21 a39).bind fun v22=>
 (a3j v15 v22).bind fun v23=>
 g9 a0s (v9.1,v9.2.1,v9.2.2.1,v23)
 else
 g9 a0s (v9.1,v9.2.1,v9.2.2.1,v15)
def a0e (a0:ByteArray) (a1:List Int) (a2:Int):Option ByteArray:=
 (f8 a1 a2).bind fun v1=>
 (d8 v1 90).bind fun v2=>
 (i6 (i64 (300+v2))).bind fun v3=>
 (a3j b2h a0).bind fun v4=>
 (a3j v4 a8r).bind fun v5=>
 (f8 a1 (i64 (a2+1))).bind fun v6=>
 (d8 v6 4).bind fun v7=>
 if (v7==0) then
 (a3j v5 b2w).bind fun v8=>
 g9 y6 (a1,a2,v3,v8)
 else
 if (v7==1) then
 (a3j v5 b2u).bind fun v110=>
 g9 y6 (a1,a2,v3,v110)
 else
 if (v7==2) then
 (a3j v5 b5k).bind fun v111=>
 g9 y6 (a1,a2,v3,v111)
 else
 (a3j v5 b1u).bind fun v112=>
 g9 y6 (a1,a2,v3,v112)
def a28 (v14:Int×(List Int)×ByteArray):Option ByteArray:=
 (f8 v14.2.1 (i64 (37+v14.1))).bind fun v15=>
 (d8 v15 3).bind fun v16=>
 if (v16==0) then
 (a0e a5y v14.2.1 (i64 ((i64 (7*v14.1))+5))).bind fun v17=>
 (a3j v14.2.2 v17).bind fun v18=>
 (a3j v18 a2c).bind fun v19=>
 some v19
 else
 (a3j v14.2.2 a2c).bind fun v20=>
 some v20
def a0k (a0:Int) (a1:List Int):Option ByteArray:=
 (i7 (⟨[b4l,b4o,b1p],rfl⟩:Ar 3 ByteArray).l a0).bind fun v1=>
 (i7 (⟨[b4l,b4o,b1p],rfl⟩:Ar 3 ByteArray).l a0).bind fun v2=>
 (a3j b2i v2).bind fun v3=>
 (a3j v3 a9x).bind fun v4=>
 (i6 (i64 (1+a0))).bind fun v5=>
 (a3j v4 v5).bind fun v6=>
 (a3j v6 b8j).bind fun v7=>
 (a0e a5z a1 (i64 (7*a0))).bind fun v8=>
 (a3j v7 v8).bind fun v9=>
 (f8 a1 (i64 (31+a0))).bind fun v10=>
 (d8 v10 3).bind fun v11=>
 if (decide (v11>0)) then
 (a0e a61 a1 (i64 ((i64 (7*a0))+3))).bind fun v12=>
 (a3j v9 v12).bind fun v13=>
 g9 a28 (a0,a1,v13)
 else
 g9 a28 (a0,a1,v9)
def a3h (a0:ByteArray) (r2:(Int×Bool) -> Option Int) (v1:Int×Bool):Option Int:=
 if (decide (v1.1<(a0.size:Int))) then
 (a96 a0 v1.1).bind fun v3=>
 if (v3==10) then
 r2 (i64 (v1.1+1),false)
 else
 if (v3==35) then
 r2 (i64 (v1.1+1),true)
 else
 (if (!v1.2) then some (v3 != 9) else some false).bind fun v4=>
 (if v4 then some (v3 != 13) else some false).bind fun v5=>
 (if v5 then some (v3 != 32) else some false).bind fun v6=>
 if v6 then
 some v1.1
 else
 r2 (i64 (v1.1+1),v1.2)
 else
 some v1.1
def a5e (a0:ByteArray) (a1:Int):Option Int:=
 f7 FU (a3h a0) (a1,false)
def a2o (a0:Int):Option Bool:=
 (if (decide (a0 >= 97)) then some (decide (a0 <= 122)) else some false).bind fun v1=>
 some v1
def a29 (a0:Int):Option Bool:=
 (if (decide (a0 >= 48)) then some (decide (a0 <= 57)) else some false).bind fun v1=>
 some v1
def a42 (a1:Int) (a0:ByteArray) (a2:Bool) (r2:Int -> Option Int) (v1:Int):Option Int:=
 (if (decide ((i64 (a1+v1))<(a0.size:Int))) then (a96 a0 (i64 (a1+v1))).bind fun v3=>
 (a2o v3).bind fun v4=>
 (if v4 then some true else (a96 a0 (i64 (a1+v1))).bind fun v5=>
 (a29 v5).bind fun v6=>
 some v6).bind fun v7=>
 (if v7 then some true else (a96 a0 (i64 (a1+v1))).bind fun v8=>
 some (v8==95)).bind fun v9=>
 (if v9 then some true else (if a2 then (a96 a0 (i64 (a1+v1))).bind fun v10=>
 some (v10==46) else some false).bind fun v11=>
 some v11).bind fun v12=>
 some v12 else some false).bind fun v13=>
 if v13 then
 r2 (i64 (v1+1))
 else
 some v1
def a3k (a0:ByteArray) (a1:Int) (a2:Bool):Option Int:=
 f7 FU (a42 a1 a0 a2) 0
def a30 (v11:Int×ByteArray×ByteArray) (r13:Int -> Option (ByteArray×ByteArray×Int×Bool)) (v12:Int):Option (ByteArray×ByteArray×Int×Bool):=
 if (decide (v12<(i64 ((v11.2.1.size:Int)+(v11.2.2.size:Int))))) then
 (a3j v11.2.1 v11.2.2).bind fun v14=>
 (a96 v14 v12).bind fun v15=>
 (a29 v15).bind fun v16=>
 if (!v16) then
 some (a1y,a1y,0,false)
 else
 r13 (i64 (v12+1))
 else
 (if (decide ((v11.2.1.size:Int)<1)) then some true else some (decide ((v11.2.1.size:Int)>9))).bind fun v17=>
 (if v17 then some true else (if (decide ((v11.2.1.size:Int)>1)) then (a96 v11.2.1 0).bind fun v18=>
 some (v18==48) else some false).bind fun v19=>
 some v19).bind fun v20=>
 if v20 then
 some (a1y,a1y,0,false)
 else
 some (v11.2.1,v11.2.2,v11.1,true)
def b0x (v11:Int×ByteArray×ByteArray):Option (ByteArray×ByteArray×Int×Bool):=
 f7 FU (a30 v11) 0
def a2x (v4:ByteArray×Int) (r6:(Int×Int) -> Option (ByteArray×ByteArray×Int×Bool)) (v5:Int×Int):Option (ByteArray×ByteArray×Int×Bool):=
 if (decide (v5.2 >= 0)) then
 (a96 v4.1 v5.2).bind fun v7=>
 if (v7==46) then
 r6 (v5.2,i64 (v5.2-1))
 else
 r6 (v5.1,i64 (v5.2-1))
 else
 (b3v v4.1 0 v5.1).bind fun v8=>
 if (decide (v5.1<(v4.1.size:Int))) then
 (b3v v4.1 (i64 (v5.1+1)) (v4.1.size:Int)).bind fun v9=>
 (if (decide ((v9.size:Int)<1)) then some true else some (decide ((v9.size:Int)>4))).bind fun v10=>
 if v10 then
 some (a1y,a1y,0,false)
 else
 g9 b0x (v4.2,v8,v9)
 else
 g9 b0x (v4.2,v8,a1y)
def a31 (v4:ByteArray×Int):Option (ByteArray×ByteArray×Int×Bool):=
 f7 FU (a2x v4) ((v4.1.size:Int),i64 ((v4.1.size:Int)-1))
def a07 (a0:ByteArray):Option (ByteArray×ByteArray×Int×Bool):=
 (if (decide ((a0.size:Int)>0)) then (a96 a0 (i64 ((a0.size:Int)-1))).bind fun v1=>
 some (v1==100) else some false).bind fun v2=>
 if v2 then
 (b3v a0 0 (i64 ((a0.size:Int)-1))).bind fun v3=>
 g9 a31 (v3,3)
 else
 (if (decide ((a0.size:Int)>0)) then (a96 a0 (i64 ((a0.size:Int)-1))).bind fun v21=>
 some (v21==109) else some false).bind fun v22=>
 if v22 then
 (b3v a0 0 (i64 ((a0.size:Int)-1))).bind fun v23=>
 g9 a31 (v23,4)
 else
 g9 a31 (a0,2)
def b6p (a0:ByteArray) (r2:(Int×Int) -> Option (Int×Bool)) (v1:Int×Int):Option (Int×Bool):=
 if (decide (v1.2<(a0.size:Int))) then
 (a96 a0 v1.2).bind fun v3=>
 (if (decide (v3<48)) then some true else (a96 a0 v1.2).bind fun v4=>
 some (decide (v4>57))).bind fun v5=>
 if v5 then
 some (0,false)
 else
 (a96 a0 v1.2).bind fun v6=>
 r2 (i64 ((i64 (v1.1*10))+(i64 (IntKind.u8.wrap (v6-48)))),i64 (v1.2+1))
 else
 some (v1.1,decide ((a0.size:Int)>0))
def a6u (a0:ByteArray):Option (Int×Bool):=
 f7 FU (b6p a0) (0,0)
def b4y (a0:Int):Option Bool:=
 (b36 a0 4).bind fun v1=>
 (if (v1==0) then (b36 a0 100).bind fun v2=>
 (if (v2 != 0) then some true else (b36 a0 400).bind fun v3=>
 some (v3==0)).bind fun v4=>
 some v4 else some false).bind fun v5=>
 some v5
def a8p (a0:Int) (a1:Int):Option Int:=
 if (a1==2) then
 (b4y a0).bind fun v1=>
 if v1 then
 some 29
 else
 some 28
 else
 if (a1==4) then
 if (a1==4) then
 some 30
 else
 some 31
 else
 if (a1==6) then
 if (a1==6) then
 some 30
 else
 some 31
 else
 if (a1==9) then
 if (a1==9) then
 some 30
 else
 some 31
 else
 if (a1==11) then
 some 30
 else
 some 31
def b6n (a0:Int) (r2:(Int×Int) -> Option Int) (v1:Int×Int):Option Int:=
 if (decide (v1.2<a0)) then
 (b9o v1.2 12).bind fun v3=>
 (b36 v1.2 12).bind fun v4=>
 (a8p (i64 (1900+v3)) (i64 (v4+1))).bind fun v5=>
 r2 (i64 (v1.1+v5),i64 (v1.2+1))
 else
 some v1.1
def b3h (a0:Int):Option Int:=
 f7 FU (b6n a0) (0,0)
def b5p (a0:Int) (a1:Int) (a2:Int):Option (Int×Bool):=
 (if (decide (a0<1900)) then some true else some (decide (a0>2099))).bind fun v1=>
 (if v1 then some true else some (decide (a1<1))).bind fun v2=>
 (if v2 then some true else some (decide (a1>12))).bind fun v3=>
 (if v3 then some true else some (decide (a2<1))).bind fun v4=>
 (if v4 then some true else (a8p a0 a1).bind fun v5=>
 some (decide (a2>v5))).bind fun v6=>
 if v6 then
 some (0,false)
 else
 (b3h (i64 ((i64 ((i64 ((i64 (a0-1900))*12))+a1))-1))).bind fun v7=>
 some (i64 ((i64 (v7+a2))-1),true)
def a1r (a0:ByteArray):Option (Int×Bool):=
 (if ((a0.size:Int) != 10) then some true else (a96 a0 4).bind fun v1=>
 some (v1 != 45)).bind fun v2=>
 (if v2 then some true else (a96 a0 7).bind fun v3=>
 some (v3 != 45)).bind fun v4=>
 if v4 then
 some (0,false)
 else
 (b3v a0 0 4).bind fun v5=>
 (a6u v5).bind fun v6=>
 (b3v a0 5 7).bind fun v7=>
 (a6u v7).bind fun v8=>
 (b3v a0 8 (a0.size:Int)).bind fun v9=>
 (a6u v9).bind fun v10=>
 (if (!v6.2) then some true else some (!v8.2)).bind fun v11=>
 (if v11 then some true else some (!v10.2)).bind fun v12=>
 if v12 then
 some (0,false)
 else
 (b5p v6.1 v8.1 v10.1).bind fun v13=>
 some (v13.1,v13.2)
def a4z (v4:ByteArray×Int):Option Int:=
 (a96 v4.1 v4.2).bind fun v5=>
 if (v5==60) then
 if (v5==60) then
 some 1
 else
 some 0
 else
 if (v5==62) then
 if (v5==62) then
 some 1
 else
 some 0
 else
 if (v5==61) then
 if (v5==61) then
 some 1
 else
 some 0
 else
 if (v5==43) then
 if (v5==43) then
 some 1
 else
 some 0
 else
 if (v5==45) then
 if (v5==45) then
 some 1
 else
 some 0
 else
 if (v5==42) then
 if (v5==42) then
 some 1
 else
 some 0
 else
 if (v5==47) then
 if (v5==47) then
 some 1
 else
 some 0
 else
 if (v5==40) then
 if (v5==40) then
 some 1
 else
 some 0
 else
 if (v5==41) then
 if (v5==41) then
 some 1
 else
 some 0
 else
 if (v5==123) then
 if (v5==123) then
 some 1
 else
 some 0
 else
 if (v5==125) then
 if (v5==125) then
 some 1
 else
 some 0
 else
 if (v5==44) then
 if (v5==44) then
 some 1
 else
 some 0
 else
 if (v5==59) then
 some 1
 else
 some 0
def a2t (a0:ByteArray) (a1:Int):Option Int:=
 if (decide ((i64 (a1+1))<(a0.size:Int))) then
 (b3v a0 a1 (i64 (a1+2))).bind fun v1=>
 (if (v1.toList==b3b.toList) then some true else some (v1.toList==a4r.toList)).bind fun v2=>
 (if v2 then some true else some (v1.toList==b38.toList)).bind fun v3=>
 if v3 then
 some 2
 else
 g9 a4z (a0,a1)
 else
 g9 a4z (a0,a1)
def p9 (v6:ByteArray×Int×Token×Int×Int×Bool):Option (Token×Int×Int):=
 if (!v6.2.2.2.2.2) then
 some ((⟨0,a1y,0⟩:Token),v6.2.1,4)
 else
 (b3v v6.1 v6.2.1 (i64 (v6.2.1+v6.2.2.2.2.1))).bind fun v7=>
 some ((⟨v6.2.2.2.1,v7,v6.2.1⟩:Token),i64 (v6.2.1+v6.2.2.2.2.1),0)
def a3u (a0:ByteArray) (a1:Int):Option (Token×Int×Int):=
 (if (decide (a1<0)) then some true else some (decide (a1>(a0.size:Int)))).bind fun v1=>
 if v1 then
 some ((⟨0,a1y,0⟩:Token),0,1)
 else
 (a5e a0 a1).bind fun v2=>
 if (v2==(a0.size:Int)) then
 some ((⟨0,a1y,v2⟩:Token),v2,0)
 else
 (a96 a0 v2).bind fun v3=>
 (a2o v3).bind fun v4=>
 if v4 then
 (a3k a0 v2 false).bind fun v5=>
 g9 p9 (a0,v2,(⟨0,a1y,0⟩:Token),1,v5,decide (v5 <= 12))
 else
 (a96 a0 v2).bind fun v8=>
 (a29 v8).bind fun v9=>
 if v9 then
 (a3k a0 v2 true).bind fun v10=>
 (b3v a0 v2 (i64 (v2+v10))).bind fun v11=>
 (a07 v11).bind fun v12=>
 g9 p9 (a0,v2,(⟨0,a1y,0⟩:Token),2,v10,v12.2.2.2)
 else
 (a96 a0 v2).bind fun v13=>
 if (v13==64) then
 if (decide ((i64 ((a0.size:Int)-v2)) >= 11)) then
 (b3v a0 (i64 (v2+1)) (i64 (v2+11))).bind fun v14=>
 (a1r v14).bind fun v15=>
 g9 p9 (a0,v2,(⟨0,a1y,0⟩:Token),3,11,v15.2)
 else
 g9 p9 (a0,v2,(⟨0,a1y,0⟩:Token),3,11,decide ((i64 ((a0.size:Int)-v2)) >= 11))
 else
 (a2t a0 v2).bind fun v16=>
 g9 p9 (a0,v2,(⟨0,a1y,0⟩:Token),4,v16,decide (v16>0))
def a3v (a0:ByteArray) (r2:((List Token)×Int) -> Option ((List Token)×Int×Int)) (v1:(List Token)×Int):Option ((List Token)×Int×Int):=
 (a3u a0 v1.2).bind fun v3=>
 if (v3.2.2 != 0) then
 some ([],v3.2.1,v3.2.2)
 else
 if (v3.1.Kind==0) then
 some (v1.1,0,0)
 else
 (b1f 32 v1.1 [v3.1]).bind fun v4=>
 r2 (v4,v3.2.1)
def a68 (a0:ByteArray):Option ((List Token)×Int×Int):=
 if (decide ((a0.size:Int)>8000)) then
 some ([],0,7)
 else
 f7 FU (a3v a0) ([],0)
def a9u (a0:ByteArray):Option ((Option pensionref5_reader)×Int×Int):=
 (a68 a0).bind fun v1=>
 if (v1.2.2 != 0) then
 some (none,v1.2.1,v1.2.2)
 else
 some (some (⟨v1.1,0,(a0.size:Int),false⟩:pensionref5_reader),0,0)
def z7 (a0:pensionref5_reader) (a1:ByteArray):Option Bool:=
 (if (!a0.bad) then some (decide (a0.at_<(a0.l.length:Int))) else some false).bind fun v1=>
 (if v1 then (i7 a0.l a0.at_).bind fun v2=>
 some (v2.Text.toList==a1.toList) else some false).bind fun v3=>
 some v3
def d9 (a0:pensionref5_reader) (a1:ByteArray):Option (Bool×pensionref5_reader):=
 (z7 a0 a1).bind fun v1=>
 if (!v1) then
 some (false,a0)
 else
 some (true,(⟨a0.l,i64 (a0.at_+1),a0.end_,a0.bad⟩:pensionref5_reader))
def p5 (a0:pensionref5_reader):Option pensionref5_reader:=
 some (⟨a0.l,a0.at_,a0.end_,true⟩:pensionref5_reader)
def b6 (a0:pensionref5_reader) (a1:ByteArray):Option pensionref5_reader:=
 (d9 a0 a1).bind fun v1=>
 if (!v1.1) then
 (p5 v1.2).bind fun v2=>
 some v2
 else
 some v1.2
def q9 (a0:pensionref5_reader) (a1:Int):Option Bool:=
 (if (!a0.bad) then some (decide (a0.at_<(a0.l.length:Int))) else some false).bind fun v1=>
 (if v1 then (i7 a0.l a0.at_).bind fun v2=>
 some (v2.Kind==a1) else some false).bind fun v3=>
 some v3
def b5q (a0:ByteArray) (r2:Int -> Option Bool) (v1:Int):Option Bool:=
 if (decide (v1<(a0.size:Int))) then
 (a96 a0 v1).bind fun v3=>
 (a2o v3).bind fun v4=>
 (if (!v4) then (if (v1==0) then some true else (a96 a0 v1).bind fun v5=>
 (a29 v5).bind fun v6=>
 (if (!v6) then (a96 a0 v1).bind fun v7=>
 some (v7 != 95) else some false).bind fun v8=>
 some v8).bind fun v9=>
 some v9 else some false).bind fun v10=>
 if v10 then
 some false
 else
 r2 (i64 (v1+1))
 else
 (if (decide ((a0.size:Int) >= 1)) then some (decide ((a0.size:Int) <= 12)) else some false).bind fun v11=>
 some v11
def b2r (a0:ByteArray):Option Bool:=
 f7 FU (b5q a0) 0
def b1r (a0:ByteArray):Option Bool:=
 if (a0.toList==b5w.toList) then
 if (a0.toList==b5w.toList) then
 some true
 else
 some false
 else
 if (a0.toList==a9v.toList) then
 if (a0.toList==a9v.toList) then
 some true
 else
 some false
 else
 if (a0.toList==b9d.toList) then
 if (a0.toList==b9d.toList) then
 some true
 else
 some false
 else
 if (a0.toList==a1q.toList) then
 if (a0.toList==a1q.toList) then
 some true
 else
 some false
 else
 if (a0.toList==a1w.toList) then
 if (a0.toList==a1w.toList) then
 some true
 else
 some false
 else
 if (a0.toList==b2e.toList) then
 if (a0.toList==b2e.toList) then
 some true
 else
 some false
 else
 if (a0.toList==b09.toList) then
 if (a0.toList==b09.toList) then
 some true
 else
 some false
 else
 if (a0.toList==b2m.toList) then
 if (a0.toList==b2m.toList) then
 some true
 else
 some false
 else
 if (a0.toList==a2z.toList) then
 if (a0.toList==a2z.toList) then
 some true
 else
 some false
 else
 if (a0.toList==a9b.toList) then
 if (a0.toList==a9b.toList) then
 some true
 else
 some false
 else
 if (a0.toList==a3x.toList) then
 if (a0.toList==a3x.toList) then
 some true
 else
 some false
 else
 if (a0.toList==a9j.toList) then
 if (a0.toList==a9j.toList) then
 some true
 else
 some false
 else
 if (a0.toList==a7k.toList) then
 if (a0.toList==a7k.toList) then
 some true
 else
 some false
 else
 if (a0.toList==b34.toList) then
 if (a0.toList==b34.toList) then
 some true
 else
 some false
 else
 if (a0.toList==b4d.toList) then
 if (a0.toList==b4d.toList) then
 some true
 else
 some false
 else
 if (a0.toList==b5c.toList) then
 if (a0.toList==b5c.toList) then
 some true
 else
 some false
 else
 if (a0.toList==c3o.toList) then
 if (a0.toList==c3o.toList) then
 some true
 else
 some false
 else
 if (a0.toList==b0h.toList) then
 if (a0.toList==b0h.toList) then
 some true
 else
 some false
 else
 if (a0.toList==a3d.toList) then
 if (a0.toList==a3d.toList) then
 some true
 else
 some false
 else
 if (a0.toList==b04.toList) then
 if (a0.toList==b04.toList) then
 some true
 else
 some false
 else
 if (a0.toList==a2w.toList) then
 if (a0.toList==a2w.toList) then
 some true
 else
 some false
 else
 if (a0.toList==b6a.toList) then
 some true
 else
 some false
def p7 (a0:ByteArray):Option Bool:=
 (b2r a0).bind fun v1=>
 (if v1 then (b1r a0).bind fun v2=>
 some (!v2) else some false).bind fun v3=>
 some v3
def a0m (a0:pensionref5_reader):Option (ByteArray×pensionref5_reader):=
 (q9 a0 1).bind fun v1=>
 (if (!v1) then some true else (i7 a0.l a0.at_).bind fun v2=>
 (p7 v2.Text).bind fun v3=>
 some (!v3)).bind fun v4=>
 if v4 then
 (p5 a0).bind fun v5=>
 some (a1y,v5)
 else
 (i7 a0.l (i64 ((i64 (a0.at_+1))-1))).bind fun v6=>
 some (v6.Text,(⟨a0.l,i64 (a0.at_+1),a0.end_,a0.bad⟩:pensionref5_reader))
def a1u (a0:Int):Option Int:=
 if (decide (a0<0)) then
 some (u64 ((u64 (i64 (-(i64 (a0+1)))))+1))
 else
 some (u64 (a0))
def b8v (v4:Int×Int):Option Int:=
 if (decide (v4.1 >= 256)) then
 (d8j .u64 v4.1 8).bind fun v5=>
 (a96 c4g (IntKind.u8.wrap (v5))).bind fun v6=>
 some (i64 ((i64 (v4.2+8))+(i64 (v6))))
 else
 (a96 c4g (IntKind.u8.wrap (v4.1))).bind fun v7=>
 some (i64 (v4.2+(i64 (v7))))
def b98 (v2:Int×Int):Option Int:=
 if (decide (v2.1 >= 65536)) then
 (d8j .u64 v2.1 16).bind fun v3=>
 g9 b8v (v3,i64 (v2.2+16))
 else
 g9 b8v (v2.1,v2.2)
def c09 (a0:Int):Option Int:=
 if (decide (a0 >= 4294967296)) then
 (d8j .u64 a0 32).bind fun v1=>
 g9 b98 (v1,32)
 else
 g9 b98 (a0,0)
def b20 (a0:Int):Option Int:=
 (c09 a0).bind fun v1=>
 some (i64 (64-v1))
def b92 (v21:Int×Int×Int×Int×Int×Int):Option (Int×Int):=
 (d8j .u64 (u64 ((u64 ((u64 (v21.2.2.2.2.1*4294967296))+v21.2.2.1))-(u64 (v21.2.2.2.2.2*v21.1)))) v21.2.1).bind fun v22=>
 some (u64 ((u64 (v21.2.2.2.1*4294967296))+v21.2.2.2.2.2),v22)
def c7q (v16:Int×Int×Int×Int×Int×Int×Int×Int) (r19:(Int×Int) -> Option (Int×Int)) (v18:Int×Int):Option (Int×Int):=
 (if (decide (v18.2 >= 4294967296)) then some true else some (decide ((u64 (v18.2*v16.2.2.2.1))>(u64 ((u64 (4294967296*v18.1))+v16.2.2.2.2.2.2.1))))).bind fun v20=>
 if v20 then
 if (decide ((u64 (v18.1+v16.2.2.1)) >= 4294967296)) then
 g9 b92 (v16.1,v16.2.1,v16.2.2.2.2.2.2.1,v16.2.2.2.2.2.2.2,u64 ((u64 ((u64 (v16.2.2.2.2.1*4294967296))+v16.2.2.2.2.2.1))-(u64 (v16.2.2.2.2.2.2.2*v16.1))),u64 (v18.2-1))
 else
 r19 (u64 (v18.1+v16.2.2.1),u64 (v18.2-1))
 else
 g9 b92 (v16.1,v16.2.1,v16.2.2.2.2.2.2.1,v16.2.2.2.2.2.2.2,u64 ((u64 ((u64 (v16.2.2.2.2.1*4294967296))+v16.2.2.2.2.2.1))-(u64 (v16.2.2.2.2.2.2.2*v16.1))),v18.2)
def b9g (v16:Int×Int×Int×Int×Int×Int×Int×Int):Option (Int×Int):=
 (if v16.2.2.1=0 then none else some (u64 (Int.tdiv (u64 ((u64 ((u64 (v16.2.2.2.2.1*4294967296))+v16.2.2.2.2.2.1))-(u64 (v16.2.2.2.2.2.2.2*v16.1)))) v16.2.2.1))).bind fun v17=>
 f7 FU (c7q v16) (u64 ((u64 ((u64 ((u64 (v16.2.2.2.2.1*4294967296))+v16.2.2.2.2.2.1))-(u64 (v16.2.2.2.2.2.2.2*v16.1))))-(u64 (v17*v16.2.2.1))),v17)
def c8e (v6:Int) (v11:Int) (v7:Int) (v5:Int) (v8:Int) (v9:Int) (v10:Int) (r14:(Int×Int) -> Option (Int×Int)) (v13:Int×Int):Option (Int×Int):=
 (if (decide (v13.1 >= 4294967296)) then some true else some (decide ((u64 (v13.1*(e3e .u64 v6 4294967295)))>(u64 ((u64 (4294967296*v13.2))+v11))))).bind fun v15=>
 if v15 then
 if (decide ((u64 (v13.2+v7)) >= 4294967296)) then
 g9 b9g (v6,u64 (v5),v7,e3e .u64 v6 4294967295,orK .u64 v8 v9,v11,e3e .u64 v10 4294967295,u64 (v13.1-1))
 else
 r14 (u64 (v13.1-1),u64 (v13.2+v7))
 else
 g9 b9g (v6,u64 (v5),v7,e3e .u64 v6 4294967295,orK .u64 v8 v9,v11,e3e .u64 v10 4294967295,v13.1)
def b9l (v2:Int×Int×Int):Option (Int×Int):=
 if (v2.1==0) then
 (if v2.2.2=0 then none else some (u64 (Int.tdiv v2.2.1 v2.2.2))).bind fun v3=>
 (b36 v2.2.1 v2.2.2).bind fun v4=>
 some (v3,v4)
 else
 (b20 v2.2.2).bind fun v5=>
 (f3f .u64 v2.2.2 (u64 (v5))).bind fun v6=>
 (d8j .u64 v6 32).bind fun v7=>
 (f3f .u64 v2.1 (u64 (v5))).bind fun v8=>
 (d8j .u64 v2.2.1 (u64 (64-(u64 (v5))))).bind fun v9=>
 (f3f .u64 v2.2.1 (u64 (v5))).bind fun v10=>
 (d8j .u64 v10 32).bind fun v11=>
 (if v7=0 then none else some (u64 (Int.tdiv (orK .u64 v8 v9) v7))).bind fun v12=>
 f7 FU (c8e v6 v11 v7 v5 v8 v9 v10) (v12,u64 ((orK .u64 v8 v9)-(u64 (v12*v7))))
def b9h (v1:Int×Int×Int):Option (Int×Int):=
 if (decide (v1.2.2 <= v1.1)) then
 none
 else
 g9 b9l (v1.1,v1.2.1,v1.2.2)
def b6d (a0:Int) (a1:Int) (a2:Int):Option (Int×Int):=
 if (a2==0) then
 none
 else
 g9 b9h (a0,a1,a2)
def a2n (a0:pensionref1_wide) (a1:Int):Option (pensionref1_wide×Int):=
 (b36 a0.hi a1).bind fun v1=>
 (b6d v1 a0.lo a1).bind fun v2=>
 (if a1=0 then none else some (u64 (Int.tdiv a0.hi a1))).bind fun v3=>
 some ((⟨v3,v2.1⟩:pensionref1_wide),v2.2)
def a8q (r2:(Int×Int) -> Option Int) (v1:Int×Int):Option Int:=
 if (v1.2 != 0) then
 (b36 v1.1 v1.2).bind fun v3=>
 r2 (v1.2,v3)
 else
 some v1.1
def a1n (a0:Int) (a1:Int):Option Int:=
 f7 FU a8q (a0,a1)
def a8w (a0:Bool) (a1:pensionref1_wide) (a2:Int):Option (Fraction×Int):=
 (a2n a1 a2).bind fun v1=>
 (a1n a2 v1.2).bind fun v2=>
 (a2n a1 v2).bind fun v3=>
 (if v2=0 then none else some (u64 (Int.tdiv a2 v2))).bind fun v4=>
 (if (v3.1.hi != 0) then some true else some (decide (v3.1.lo>1000000000000000))).bind fun v5=>
 (if v5 then some true else some (decide (v4>1000000000))).bind fun v6=>
 if v6 then
 some ((⟨0,0⟩:Fraction),2)
 else
 if a0 then
 some ((⟨i64 (-(i64 (v3.1.lo))),i64 (v4)⟩:Fraction),0)
 else
 some ((⟨i64 (v3.1.lo),i64 (v4)⟩:Fraction),0)
def a2r (a0:Int) (a1:Int):Option (Fraction×Int):=
 if (a1==0) then
 some ((⟨0,0⟩:Fraction),3)
 else
 (a1u a0).bind fun v1=>
 (a1u a1).bind fun v2=>
 (a8w ((decide (a0<0)) != (decide (a1<0))) (⟨0,v1⟩:pensionref1_wide) v2).bind fun v3=>
 some (v3.1,v3.2)
def a25 (v1:ByteArray×ByteArray×Int×Bool) (r3:(Fraction×Int×Int×Int) -> Option (Fraction×Int×Bool)) (v2:Fraction×Int×Int×Int):Option (Fraction×Int×Bool):=
 if (decide (v2.2.2.2<(i64 ((v1.1.size:Int)+(v1.2.1.size:Int))))) then
 (a3j v1.1 v1.2.1).bind fun v4=>
 (a96 v4 v2.2.2.2).bind fun v5=>
 if (decide (v2.2.2.2 >= (v1.1.size:Int))) then
 r3 (v2.1,i64 ((i64 (v2.2.1*10))+(i64 (IntKind.u8.wrap (v5-48)))),i64 (v2.2.2.1*10),i64 (v2.2.2.2+1))
 else
 r3 (v2.1,i64 ((i64 (v2.2.1*10))+(i64 (IntKind.u8.wrap (v5-48)))),v2.2.2.1,i64 (v2.2.2.2+1))
 else
 (a2r v2.2.1 v2.2.2.1).bind fun v6=>
 some (v6.1,v1.2.2.1,true)
def s7 (a0:ByteArray):Option (Fraction×Int×Bool):=
 (a07 a0).bind fun v1=>
 if (!v1.2.2.2) then
 some ((⟨0,0⟩:Fraction),0,false)
 else
 f7 FU (a25 v1) ((⟨0,0⟩:Fraction),0,1,0)
def s9 (a0:pensionref5_reader) (a1:Int) (a2:Int):Option (Int×pensionref5_reader):=
 (q9 a0 2).bind fun v1=>
 if v1 then
 (i7 a0.l a0.at_).bind fun v2=>
 (s7 v2.Text).bind fun v3=>
 (if (v3.2.1==2) then some (v3.1.Den==1) else some false).bind fun v4=>
 (if v4 then some (decide (v3.1.Num >= a1)) else some false).bind fun v5=>
 (if v5 then some (decide (v3.1.Num <= a2)) else some false).bind fun v6=>
 if v6 then
 some (v3.1.Num,(⟨a0.l,i64 (a0.at_+1),a0.end_,a0.bad⟩:pensionref5_reader))
 else
 (p5 a0).bind fun v7=>
 some (0,v7)
 else
 (p5 a0).bind fun v8=>
 some (0,v8)
def a4j (a0:ByteArray):Option Int:=
 (b3v a0 1 (a0.size:Int)).bind fun v1=>
 (a1r v1).bind fun v2=>
 some v2.1
def a7z (a0:ByteArray):Option Int:=
 if (a0.toList==a2i.toList) then
 some 6
 else
 if (a0.toList==a6d.toList) then
 some 9
 else
 if (a0.toList==a7p.toList) then
 some 7
 else
 if (a0.toList==c7g.toList) then
 some 8
 else
 if (a0.toList==b5y.toList) then
 some 10
 else
 if (a0.toList==a8n.toList) then
 some 5
 else
 some 0
def a4t (a0:ByteArray):Option Int:=
 if (a0.toList==b7y.toList) then
 some 1
 else
 if (a0.toList==a4a.toList) then
 some 2
 else
 if (a0.toList==b0a.toList) then
 some 3
 else
 if (a0.toList==b3c.toList) then
 some 4
 else
 if (a0.toList==b05.toList) then
 some 5
 else
 some 0
def a7w (a0:ByteArray):Option Int:=
 if (a0.toList==b9b.toList) then
 some 1
 else
 if (a0.toList==d0d.toList) then
 some 2
 else
 if (a0.toList==b8h.toList) then
 some 3
 else
 if (a0.toList==b8p.toList) then
 some 4
 else
 some 0
def a0f (a0:pensionref5_reader) (a1:Int):Option (Int×pensionref5_reader):=
 (q9 a0 1).bind fun v1=>
 if v1 then
 (i7 a0.l a0.at_).bind fun v2=>
 (a7z v2.Text).bind fun v3=>
 (a4t v2.Text).bind fun v4=>
 (a7w v2.Text).bind fun v5=>
 (i7 [v3,v4,v5] (i64 (a1-1))).bind fun v6=>
 (i7 [v3,v4,v5] (i64 (a1-1))).bind fun v7=>
 if (decide (v7>0)) then
 some (v7,(⟨a0.l,i64 (a0.at_+1),a0.end_,a0.bad⟩:pensionref5_reader))
 else
 (p5 a0).bind fun v8=>
 some (0,v8)
 else
 (p5 a0).bind fun v9=>
 some (0,v9)
def a0j (a0:Int):Option Int:=
 (if (decide (a0 >= 1)) then some (decide (a0 <= 3)) else some false).bind fun v1=>
 if v1 then
 some 0
 else
 (if (decide (a0 >= 4)) then some (decide (a0 <= 6)) else some false).bind fun v2=>
 if v2 then
 some 1
 else
 (if (decide (a0 >= 7)) then some (decide (a0 <= 20)) else some false).bind fun v3=>
 if v3 then
 some 2
 else
 if (a0==21) then
 some 3
 else
 some (-1:Int)
def b0z (v2:Int×Bool):Option Int:=
 if v2.2 then
 some 5
 else
 if (v2.1==9) then
 if (v2.1==9) then
 some 6
 else
 some 7
 else
 if (v2.1==10) then
 some 6
 else
 some 7
def a1s (v1:Int×Bool):Option Int:=
 if v1.2 then
 some 4
 else
 if (v1.1==7) then
 g9 b0z (v1.1,v1.1==7)
 else
 g9 b0z (v1.1,v1.1==8)
def a9m (a0:Int):Option Int:=
 if (a0==21) then
 some 0
 else
 if (a0==18) then
 some 1
 else
 if (a0==17) then
 some 2
 else
 if (a0==5) then
 some 3
 else
 if (a0==11) then
 g9 a1s (a0,a0==11)
 else
 if (a0==12) then
 g9 a1s (a0,a0==12)
 else
 if (a0==13) then
 g9 a1s (a0,a0==13)
 else
 if (a0==14) then
 g9 a1s (a0,a0==14)
 else
 if (a0==15) then
 g9 a1s (a0,a0==15)
 else
 g9 a1s (a0,a0==16)
def a8v (a0:Int):Option ByteArray:=
 if (a0==7) then
 some c8f
 else
 if (a0==8) then
 some b5t
 else
 if (a0==9) then
 some a7h
 else
 if (a0==10) then
 some b74
 else
 if (a0==11) then
 some c87
 else
 if (a0==12) then
 some b3b
 else
 if (a0==13) then
 some b5g
 else
 if (a0==14) then
 some b38
 else
 if (a0==15) then
 some d3m
 else
 if (a0==16) then
 some a4r
 else
 if (a0==17) then
 some b5w
 else
 some c3o
def y4 (a1:Int) (a0:pensionref5_reader) (r2:Int -> Option Int) (v1:Int):Option Int:=
 if (decide (v1 <= 18)) then
 (a9m v1).bind fun v3=>
 (if (v3==a1) then (a8v v1).bind fun v4=>
 (z7 a0 v4).bind fun v5=>
 some v5 else some false).bind fun v6=>
 if v6 then
 some v1
 else
 r2 (i64 (v1+1))
 else
 some 0
def a2m (a0:pensionref5_reader) (a1:Int):Option Int:=
 f7 FU (y4 a1 a0) 7
structure Ring_pensionref5_reader_expr where
 f_pensionref5_reader_expr:pensionref5_reader -> Int -> Option (Expr×pensionref5_reader)
 f_pensionref5_reader_factor:pensionref5_reader -> Option (Expr×pensionref5_reader)
 f_pensionref5_reader_call:pensionref5_reader -> Int -> Option (Expr×pensionref5_reader)
def u9 (R:Ring_pensionref5_reader_expr) (a1:Int) (r14:(pensionref5_reader×(List Expr)×Expr×Expr) -> Option (Expr×pensionref5_reader)) (v13:pensionref5_reader×(List Expr)×Expr×Expr):Option (Expr×pensionref5_reader):=
 if (!v13.1.bad) then
 (a2m v13.1 a1).bind fun v15=>
 if (v15==0) then
 some (v13.2.2.2,v13.1)
 else
 (R.f_pensionref5_reader_expr (⟨v13.1.l,i64 (v13.1.at_+1),v13.1.end_,v13.1.bad⟩:pensionref5_reader) (i64 (a1+1))).bind fun v16=>
 if (a1==4) then
 some ((⟨v15,(⟨0,0⟩:Fraction),0,a1y,[v13.2.2.2,v16.1]⟩:Expr),v16.2)
 else
 r14 (v16.2,v13.2.1,(⟨v13.2.2.1.Op,v13.2.2.1.Value,v13.2.2.1.Dim,v13.2.2.1.Name,[]⟩:Expr),(⟨v15,(⟨0,0⟩:Fraction),0,a1y,[v13.2.2.2,v16.1]⟩:Expr))
 else
 some (v13.2.2.2,v13.1)
def j8 (R:Ring_pensionref5_reader_expr) (a0:pensionref5_reader) (a1:Int):Option (Expr×pensionref5_reader):=
 if a0.bad then
 some ((⟨0,(⟨0,0⟩:Fraction),0,a1y,[]⟩:Expr),a0)
 else
 if (a1==0) then
 (d9 a0 a9b).bind fun v1=>
 if (!v1.1) then
 (R.f_pensionref5_reader_expr v1.2 1).bind fun v2=>
 some (v2.1,v2.2)
 else
 (R.f_pensionref5_reader_expr v1.2 0).bind fun v3=>
 (b6 v3.2 b6a).bind fun v4=>
 (R.f_pensionref5_reader_expr v4 0).bind fun v5=>
 (b6 v5.2 b2e).bind fun v6=>
 (R.f_pensionref5_reader_expr v6 0).bind fun v7=>
 some ((⟨21,(⟨0,0⟩:Fraction),0,a1y,[v3.1,v5.1,v7.1]⟩:Expr),v7.2)
 else
 if (a1==3) then
 (d9 a0 b5c).bind fun v8=>
 if v8.1 then
 (R.f_pensionref5_reader_expr v8.2 3).bind fun v9=>
 some ((⟨5,(⟨0,0⟩:Fraction),0,a1y,[v9.1]⟩:Expr),v9.2)
 else
 (R.f_pensionref5_reader_expr v8.2 4).bind fun v10=>
 some (v10.1,v10.2)
 else
 if (a1==7) then
 (R.f_pensionref5_reader_factor a0).bind fun v11=>
 some (v11.1,v11.2)
 else
 (R.f_pensionref5_reader_expr a0 (i64 (a1+1))).bind fun v12=>
 f7 FU (u9 R a1) (v12.2,[],(⟨0,(⟨0,0⟩:Fraction),0,a1y,[]⟩:Expr),v12.1)
def i8 (R:Ring_pensionref5_reader_expr) (a0:pensionref5_reader):Option (Expr×pensionref5_reader):=
 (q9 a0 2).bind fun v1=>
 if v1 then
 (i7 a0.l a0.at_).bind fun v2=>
 (s7 v2.Text).bind fun v3=>
 some ((⟨1,v3.1,v3.2.1,a1y,[]⟩:Expr),(⟨a0.l,i64 (a0.at_+1),a0.end_,a0.bad⟩:pensionref5_reader))
 else
 (d9 a0 b5t).bind fun v4=>
 if v4.1 then
 (R.f_pensionref5_reader_expr v4.2 7).bind fun v5=>
 some ((⟨4,(⟨0,0⟩:Fraction),0,a1y,[v5.1]⟩:Expr),v5.2)
 else
 (d9 v4.2 a85).bind fun v6=>
 if v6.1 then
 (R.f_pensionref5_reader_expr v6.2 0).bind fun v7=>
 (b6 v7.2 a9n).bind fun v8=>
 some (v7.1,v8)
 else
 (d9 v6.2 a9v).bind fun v9=>
 if v9.1 then
 (b6 v9.2 a85).bind fun v10=>
 (s9 v10 1 45).bind fun v11=>
 (b6 v11.2 a9n).bind fun v12=>
 some ((⟨3,(⟨v11.1,1⟩:Fraction),0,a1y,[]⟩:Expr),v12)
 else
 (z7 v9.2 b09).bind fun v13=>
 if v13 then
 (R.f_pensionref5_reader_call v9.2 6).bind fun v14=>
 some (v14.1,v14.2)
 else
 (z7 v9.2 b4d).bind fun v15=>
 if v15 then
 (R.f_pensionref5_reader_call v9.2 19).bind fun v16=>
 some (v16.1,v16.2)
 else
 (z7 v9.2 b34).bind fun v17=>
 if v17 then
 (R.f_pensionref5_reader_call v9.2 20).bind fun v18=>
 some (v18.1,v18.2)
 else
 (a0m v9.2).bind fun v19=>
 some ((⟨2,(⟨0,0⟩:Fraction),0,v19.1,[]⟩:Expr),v19.2)
def a2k (R:Ring_pensionref5_reader_expr) (a0:pensionref5_reader) (a1:Int):Option (Expr×pensionref5_reader):=
 (b6 (⟨a0.l,i64 (a0.at_+1),a0.end_,a0.bad⟩:pensionref5_reader) a85).bind fun v1=>
 (R.f_pensionref5_reader_expr v1 0).bind fun v2=>
 (a0j a1).bind fun v3=>
 if (v3==2) then
 (b6 v2.2 c01).bind fun v4=>
 (i7 [v2.1] 0).bind fun v5=>
 (R.f_pensionref5_reader_expr v4 0).bind fun v6=>
 (b6 v6.2 a9n).bind fun v7=>
 some ((⟨a1,(⟨0,0⟩:Fraction),0,a1y,[v5,v6.1]⟩:Expr),v7)
 else
 (b6 v2.2 a9n).bind fun v8=>
 some ((⟨a1,(⟨0,0⟩:Fraction),0,a1y,[v2.1]⟩:Expr),v8)
def c7:Nat -> Ring_pensionref5_reader_expr
 | 0=>⟨fun _ _=>none,fun _=>none,fun _ _=>none⟩
 | n+1=>⟨j8 (c7 n),i8 (c7 n),a2k (c7 n)⟩
def a1j (a0:pensionref5_reader) (a1:Int):Option (Expr×pensionref5_reader):=(c7 FU).f_pensionref5_reader_expr a0 a1
def a1d (v5:pensionref5_reader×(List Credit)×(List Index)×(List Let)×(List Grant)×(List Reduce)×Version×Credit):Option (pensionref5_reader×Version×(List Credit)×(List Index)×(List Let)×(List Grant)×(List Reduce)):=
 (b1f 16 v5.2.1 [v5.2.2.2.2.2.2.2]).bind fun v6=>
 (b6 v5.1 a05).bind fun v7=>
 some (v7,(⟨v5.2.2.2.2.2.2.1.From,v5.2.2.2.2.2.2.1.Rounding,[],[],[],[],[]⟩:Version),v6,v5.2.2.1,v5.2.2.2.1,v5.2.2.2.2.1,v5.2.2.2.2.2.1)
def a34 (v16:pensionref5_reader×(List Credit)×(List Index)×(List Let)×(List Grant)×(List Reduce)×Version×Index):Option (pensionref5_reader×Version×(List Credit)×(List Index)×(List Let)×(List Grant)×(List Reduce)):=
 (b1f 24 v16.2.2.1 [v16.2.2.2.2.2.2.2]).bind fun v17=>
 (b6 v16.1 a05).bind fun v18=>
 some (v18,(⟨v16.2.2.2.2.2.2.1.From,v16.2.2.2.2.2.2.1.Rounding,[],[],[],[],[]⟩:Version),v16.2.1,v17,v16.2.2.2.1,v16.2.2.2.2.1,v16.2.2.2.2.2.1)
def a1c (v14:pensionref5_reader×(List Credit)×(List Index)×(List Let)×(List Grant)×(List Reduce)×Version×Index):Option (pensionref5_reader×Version×(List Credit)×(List Index)×(List Let)×(List Grant)×(List Reduce)):=
 if (v14.2.2.2.2.2.2.2.Factor.Den==0) then
 (p5 v14.1).bind fun v15=>
 g9 a34 (v15,v14.2.1,v14.2.2.1,v14.2.2.2.1,v14.2.2.2.2.1,v14.2.2.2.2.2.1,(⟨v14.2.2.2.2.2.2.1.From,v14.2.2.2.2.2.2.1.Rounding,[],[],[],[],[]⟩:Version),v14.2.2.2.2.2.2.2)
 else
 g9 a34 (v14.1,v14.2.1,v14.2.2.1,v14.2.2.2.1,v14.2.2.2.2.1,v14.2.2.2.2.2.1,(⟨v14.2.2.2.2.2.2.1.From,v14.2.2.2.2.2.2.1.Rounding,[],[],[],[],[]⟩:Version),v14.2.2.2.2.2.2.2)
def a2j (a0:pensionref5_reader) (a1:Version) (a2:List Credit) (a3:List Index) (a4:List Let) (a5:List Grant) (a6:List Reduce):Option (pensionref5_reader×Version×(List Credit)×(List Index)×(List Let)×(List Grant)×(List Reduce)):=
 (d9 a0 a1q).bind fun v1=>
 if v1.1 then
 (a0f v1.2 1).bind fun v2=>
 (d9 v2.2 a7k).bind fun v3=>
 if v3.1 then
 (s9 v3.2 1 73049).bind fun v4=>
 g9 a1d (v4.2,a2,a3,a4,a5,a6,(⟨a1.From,a1.Rounding,[],[],[],[],[]⟩:Version),(⟨v2.1,v4.1⟩:Credit))
 else
 g9 a1d (v3.2,a2,a3,a4,a5,a6,(⟨a1.From,a1.Rounding,[],[],[],[],[]⟩:Version),(⟨v2.1,0⟩:Credit))
 else
 (d9 v1.2 a3x).bind fun v8=>
 if v8.1 then
 (s9 v8.2 1900 2099).bind fun v9=>
 (q9 v9.2 2).bind fun v10=>
 if v10 then
 (i7 v9.2.l v9.2.at_).bind fun v11=>
 (s7 v11.Text).bind fun v12=>
 (if (v12.2.1==2) then some (decide (v12.1.Num>0)) else some false).bind fun v13=>
 if v13 then
 g9 a1c ((⟨v9.2.l,i64 (v9.2.at_+1),v9.2.end_,v9.2.bad⟩:pensionref5_reader),a2,a3,a4,a5,a6,(⟨a1.From,a1.Rounding,[],[],[],[],[]⟩:Version),(⟨v9.1,v12.1⟩:Index))
 else
 g9 a1c (v9.2,a2,a3,a4,a5,a6,(⟨a1.From,a1.Rounding,[],[],[],[],[]⟩:Version),(⟨v9.1,(⟨0,0⟩:Fraction)⟩:Index))
 else
 g9 a1c (v9.2,a2,a3,a4,a5,a6,(⟨a1.From,a1.Rounding,[],[],[],[],[]⟩:Version),(⟨v9.1,(⟨0,0⟩:Fraction)⟩:Index))
 else
 (d9 v8.2 a9j).bind fun v19=>
 if v19.1 then
 (a0m v19.2).bind fun v20=>
 (b6 v20.2 b5g).bind fun v21=>
 (a1j v21 0).bind fun v22=>
 (b1f 88 a4 [(⟨v20.1,v22.1⟩:Let)]).bind fun v23=>
 (b6 v22.2 a05).bind fun v24=>
 some (v24,(⟨a1.From,a1.Rounding,[],[],[],[],[]⟩:Version),a2,a3,v23,a5,a6)
 else
 (d9 v19.2 a2z).bind fun v25=>
 if v25.1 then
 (a0f v25.2 2).bind fun v26=>
 (b6 v26.2 a9b).bind fun v27=>
 (a1j v27 0).bind fun v28=>
 (b6 v28.2 b0h).bind fun v29=>
 (a1j v29 0).bind fun v30=>
 (b1f 152 a5 [(⟨v26.1,v28.1,v30.1⟩:Grant)]).bind fun v31=>
 (b6 v30.2 a05).bind fun v32=>
 some (v32,(⟨a1.From,a1.Rounding,[],[],[],[],[]⟩:Version),a2,a3,a4,v31,a6)
 else
 (d9 v25.2 a3d).bind fun v33=>
 if v33.1 then
 (a0f v33.2 2).bind fun v34=>
 (b6 v34.2 b9d).bind fun v35=>
 (a1j v35 0).bind fun v36=>
 (b1f 80 a6 [(⟨v34.1,v36.1⟩:Reduce)]).bind fun v37=>
 (b6 v36.2 a05).bind fun v38=>
 some (v38,(⟨a1.From,a1.Rounding,[],[],[],[],[]⟩:Version),a2,a3,a4,a5,v37)
 else
 (p5 v33.2).bind fun v39=>
 (b6 v39 a05).bind fun v40=>
 some (v40,(⟨a1.From,a1.Rounding,[],[],[],[],[]⟩:Version),a2,a3,a4,a5,a6)
def a04 (r12:(pensionref5_reader×(List Credit)×(List Index)×(List Let)×(List Grant)×(List Reduce)×Version×(List Credit)×(List Index)×(List Let)×(List Grant)×(List Reduce)×Version) -> Option (Version×pensionref5_reader)) (v11:pensionref5_reader×(List Credit)×(List Index)×(List Let)×(List Grant)×(List Reduce)×Version×(List Credit)×(List Index)×(List Let)×(List Grant)×(List Reduce)×Version):Option (Version×pensionref5_reader):=
 if (!v11.1.bad) then
 (d9 v11.1 a2c).bind fun v13=>
 if (!v13.1) then
 (a2j v13.2 (⟨v11.2.2.2.2.2.2.2.2.2.2.2.2.From,v11.2.2.2.2.2.2.2.2.2.2.2.2.Rounding,[],[],[],[],[]⟩:Version) v11.2.2.2.2.2.2.2.1 v11.2.2.2.2.2.2.2.2.1 v11.2.2.2.2.2.2.2.2.2.1 v11.2.2.2.2.2.2.2.2.2.2.1 v11.2.2.2.2.2.2.2.2.2.2.2.1).bind fun v14=>
 r12 (v14.1,v11.2.1,v11.2.2.1,v11.2.2.2.1,v11.2.2.2.2.1,v11.2.2.2.2.2.1,(⟨v11.2.2.2.2.2.2.1.From,v11.2.2.2.2.2.2.1.Rounding,[],[],[],[],[]⟩:Version),v14.2.2.1,v14.2.2.2.1,v14.2.2.2.2.1,v14.2.2.2.2.2.1,v14.2.2.2.2.2.2,(⟨v14.2.1.From,v14.2.1.Rounding,[],[],[],[],[]⟩:Version))
 else
 some ((⟨v11.2.2.2.2.2.2.2.2.2.2.2.2.From,v11.2.2.2.2.2.2.2.2.2.2.2.2.Rounding,v11.2.2.2.2.2.2.2.1,v11.2.2.2.2.2.2.2.2.1,v11.2.2.2.2.2.2.2.2.2.1,v11.2.2.2.2.2.2.2.2.2.2.1,v11.2.2.2.2.2.2.2.2.2.2.2.1⟩:Version),v13.2)
 else
 some ((⟨v11.2.2.2.2.2.2.2.2.2.2.2.2.From,v11.2.2.2.2.2.2.2.2.2.2.2.2.Rounding,v11.2.2.2.2.2.2.2.1,v11.2.2.2.2.2.2.2.2.1,v11.2.2.2.2.2.2.2.2.2.1,v11.2.2.2.2.2.2.2.2.2.2.1,v11.2.2.2.2.2.2.2.2.2.2.2.1⟩:Version),v11.1)
def a2u (v5:pensionref5_reader×(List Credit)×(List Index)×(List Let)×(List Grant)×(List Reduce)×Version×(List Credit)×(List Index)×(List Let)×(List Grant)×(List Reduce)×Version):Option (Version×pensionref5_reader):=
 (b6 v5.1 b1w).bind fun v6=>
 (b6 v6 b04).bind fun v7=>
 (a0f v7 3).bind fun v8=>
 (s9 v8.2 1 100000).bind fun v9=>
 (b6 v9.2 a05).bind fun v10=>
 f7 FU a04 (v10,v5.2.1,v5.2.2.1,v5.2.2.2.1,v5.2.2.2.2.1,v5.2.2.2.2.2.1,(⟨v5.2.2.2.2.2.2.1.From,v5.2.2.2.2.2.2.1.Rounding,[],[],[],[],[]⟩:Version),v5.2.2.2.2.2.2.2.1,v5.2.2.2.2.2.2.2.2.1,v5.2.2.2.2.2.2.2.2.2.1,v5.2.2.2.2.2.2.2.2.2.2.1,v5.2.2.2.2.2.2.2.2.2.2.2.1,(⟨v5.2.2.2.2.2.2.2.2.2.2.2.2.From,(⟨v8.1,v9.1⟩:Rounding),[],[],[],[],[]⟩:Version))
def a21 (a0:pensionref5_reader):Option (Version×pensionref5_reader):=
 (b6 a0 b2m).bind fun v1=>
 (q9 v1 3).bind fun v2=>
 if v2 then
 (i7 v1.l v1.at_).bind fun v3=>
 (a4j v3.Text).bind fun v4=>
 g9 a2u ((⟨v1.l,i64 (v1.at_+1),v1.end_,v1.bad⟩:pensionref5_reader),[],[],[],[],[],(⟨0,(⟨0,0⟩:Rounding),[],[],[],[],[]⟩:Version),[],[],[],[],[],(⟨v4,(⟨0,0⟩:Rounding),[],[],[],[],[]⟩:Version))
 else
 (p5 v1).bind fun v15=>
 g9 a2u (v15,[],[],[],[],[],(⟨0,(⟨0,0⟩:Rounding),[],[],[],[],[]⟩:Version),[],[],[],[],[],(⟨0,(⟨0,0⟩:Rounding),[],[],[],[],[]⟩:Version))
def a8g (a0:pensionref5_reader):Option Int:=
 if (decide (a0.at_<(a0.l.length:Int))) then
 (i7 a0.l a0.at_).bind fun v1=>
 some v1.At
 else
 some a0.end_
def a08 (a0:Int):Option Bool:=
 (if (decide (a0 >= 0)) then some (decide (a0 <= 73048)) else some false).bind fun v1=>
 some v1
def a48 (a0:Rounding):Option Bool:=
 (if (decide (a0.Mode >= 1)) then some (decide (a0.Mode <= 4)) else some false).bind fun v1=>
 (if v1 then some (decide (a0.Unit >= 1)) else some false).bind fun v2=>
 (if v2 then some (decide (a0.Unit <= 100000)) else some false).bind fun v3=>
 some v3
def b5b (a0:Int) (a1:Int) (r2:((List ByteArray)×Int) -> Option ByteArray) (v1:(List ByteArray)×Int):Option ByteArray:=
 (if (decide (v1.2<(v1.1.length:Int))) then some (decide (a0>0)) else some false).bind fun v3=>
 if v3 then
 (if (a1==1) then (i7 v1.1 v1.2).bind fun v4=>
 (i7 v1.1 v1.2).bind fun v5=>
 (a7z v5).bind fun v6=>
 some (v6==a0) else some false).bind fun v7=>
 (if v7 then some true else (if (a1==2) then (i7 v1.1 v1.2).bind fun v8=>
 (i7 v1.1 v1.2).bind fun v9=>
 (a4t v9).bind fun v10=>
 some (v10==a0) else some false).bind fun v11=>
 some v11).bind fun v12=>
 (if v12 then some true else (if (a1==3) then (i7 v1.1 v1.2).bind fun v13=>
 (i7 v1.1 v1.2).bind fun v14=>
 (a7w v14).bind fun v15=>
 some (v15==a0) else some false).bind fun v16=>
 some v16).bind fun v17=>
 if v17 then
 (i7 v1.1 v1.2).bind fun v18=>
 (i7 v1.1 v1.2).bind fun v19=>
 some v19
 else
 r2 (v1.1,i64 (v1.2+1))
 else
 some a1y
def a2p (a0:Int) (a1:Int):Option ByteArray:=
 f7 FU (b5b a0 a1) ([a2i,a6d,a7p,c7g,b5y,a8n,b7y,a4a,b0a,b3c,b05,b9b,d0d,b8h,b8p],0)
def s5 (a0:Fraction):Option Bool:=
 (if (decide (a0.Den >= 1)) then some (decide (a0.Den <= 1000000000)) else some false).bind fun v1=>
 (if v1 then some (decide (a0.Num >= (-1000000000000000:Int))) else some false).bind fun v2=>
 (if v2 then some (decide (a0.Num <= 1000000000000000)) else some false).bind fun v3=>
 (if v3 then (a1u a0.Num).bind fun v4=>
 (a1n v4 (u64 (a0.Den))).bind fun v5=>
 some (v5==1) else some false).bind fun v6=>
 some v6
def b03 (a1:Int) (r2:(Int×ByteArray) -> Option ByteArray) (v1:Int×ByteArray):Option ByteArray:=
 (if (decide (v1.1>0)) then some true else some (decide ((v1.2.size:Int)<a1))).bind fun v3=>
 if v3 then
 (b36 v1.1 10).bind fun v4=>
 (b36 v1.1 10).bind fun v5=>
 (b3v a3b v4 (i64 (v5+1))).bind fun v6=>
 (a3j v6 v1.2).bind fun v7=>
 (b9o v1.1 10).bind fun v8=>
 r2 (v8,v7)
 else
 some v1.2
def a3w (a0:Int) (a1:Int):Option ByteArray:=
 f7 FU (b03 a1) (a0,a1y)
def a2v (v5:Fraction×ByteArray):Option ByteArray:=
 if (v5.1.Den != 1) then
 (a3j v5.2 b74).bind fun v6=>
 (a3w v5.1.Den 1).bind fun v7=>
 (a3j v6 v7).bind fun v8=>
 some v8
 else
 some v5.2
def a22 (a0:Fraction):Option ByteArray:=
 (s5 a0).bind fun v1=>
 if (!v1) then
 some a1y
 else
 (a1u a0.Num).bind fun v2=>
 (a3w (i64 (v2)) 1).bind fun v3=>
 if (decide (a0.Num<0)) then
 (a3j b5t v3).bind fun v4=>
 g9 a2v (a0,v4)
 else
 g9 a2v (a0,v3)
def a65 (v11:Int×ByteArray×Int) (r13:(ByteArray×Int×Int) -> Option (ByteArray×Bool)) (v12:ByteArray×Int×Int):Option (ByteArray×Bool):=
 if (decide (v12.2.1>0)) then
 (b9o v12.2.1 v12.2.2).bind fun v14=>
 (b9o v12.2.1 v12.2.2).bind fun v15=>
 (b3v a3b v14 (i64 (v15+1))).bind fun v16=>
 (a3j v12.1 v16).bind fun v17=>
 (b36 v12.2.1 v12.2.2).bind fun v18=>
 (b9o v12.2.2 10).bind fun v19=>
 r13 (v17,v18,v19)
 else
 (i7 [a1y,e43,e3t] (i64 (v11.1-2))).bind fun v20=>
 (i7 [a1y,e43,e3t] (i64 (v11.1-2))).bind fun v21=>
 (a3j v12.1 v21).bind fun v22=>
 some (v22,true)
def a36 (v11:Int×ByteArray×Int):Option (ByteArray×Bool):=
 f7 FU (a65 v11) (v11.2.1,v11.2.2,1000)
def p4 (a0:Fraction) (a1:Int):Option (ByteArray×Bool):=
 (s5 a0).bind fun v1=>
 (if (!v1) then some true else some (decide (a0.Num<0))).bind fun v2=>
 (if v2 then some true else (b36 10000 a0.Den).bind fun v3=>
 some (v3 != 0)).bind fun v4=>
 (if v4 then some true else some (decide (a1<2))).bind fun v5=>
 (if v5 then some true else some (decide (a1>4))).bind fun v6=>
 if v6 then
 some (a1y,false)
 else
 (b9o a0.Num a0.Den).bind fun v7=>
 if (decide (v7>999999999)) then
 some (a1y,false)
 else
 (a22 (⟨v7,1⟩:Fraction)).bind fun v8=>
 (b9o 10000 a0.Den).bind fun v9=>
 if (decide ((i64 ((i64 (a0.Num-(i64 (v7*a0.Den))))*v9))>0)) then
 (a3j v8 a8m).bind fun v10=>
 g9 a36 (a1,v10,i64 ((i64 (a0.Num-(i64 (v7*a0.Den))))*v9))
 else
 g9 a36 (a1,v8,i64 ((i64 (a0.Num-(i64 (v7*a0.Den))))*v9))
structure Ring_pensionref5_Depth where
 f_pensionref5_Depth:Expr -> Option Int
def a7b (R:Ring_pensionref5_Depth) (r2:(Expr×Int×Int) -> Option Int) (v1:Expr×Int×Int):Option Int:=
 if (decide (v1.2.2<(v1.1.Args.length:Int))) then
 (i7 v1.1.Args v1.2.2).bind fun v3=>
 (R.f_pensionref5_Depth v3).bind fun v4=>
 r2 (v1.1,max v1.2.1 v4,i64 (v1.2.2+1))
 else
 some (i64 (v1.2.1+1))
def a4x (R:Ring_pensionref5_Depth) (a0:Expr):Option Int:=
 f7 FU (a7b R) (a0,0,0)
def y5:Nat -> Ring_pensionref5_Depth
 | 0=>⟨fun _=>none⟩
 | n+1=>⟨a4x (y5 n)⟩
def b3g (a0:Expr):Option Int:=(y5 FU).f_pensionref5_Depth a0
structure Ring_pensionref5_Size where
 f_pensionref5_Size:Expr -> Option Int
def a8a (R:Ring_pensionref5_Size) (r2:(Expr×Int×Int) -> Option Int) (v1:Expr×Int×Int):Option Int:=
 if (decide (v1.2.2<(v1.1.Args.length:Int))) then
 (i7 v1.1.Args v1.2.2).bind fun v3=>
 (R.f_pensionref5_Size v3).bind fun v4=>
 r2 (v1.1,i64 (v1.2.1+v4),i64 (v1.2.2+1))
 else
 some v1.2.1
def a5x (R:Ring_pensionref5_Size) (a0:Expr):Option Int:=
 f7 FU (a8a R) (a0,1,0)
def z6:Nat -> Ring_pensionref5_Size
 | 0=>⟨fun _=>none⟩
 | n+1=>⟨a5x (z6 n)⟩
def b4s (a0:Expr):Option Int:=(z6 FU).f_pensionref5_Size a0
structure Ring_pensionref5_formed where
 f_pensionref5_formed:Expr -> Option Bool
def a43 (R:Ring_pensionref5_formed) (v3:Bool) (r14:(Expr×Int) -> Option Bool) (v13:Expr×Int):Option Bool:=
 if (decide (v13.2<(v13.1.Args.length:Int))) then
 (i7 v13.1.Args v13.2).bind fun v15=>
 (R.f_pensionref5_formed v15).bind fun v16=>
 if (!v16) then
 some false
 else
 r14 (v13.1,i64 (v13.2+1))
 else
 some v3
def o5 (R:Ring_pensionref5_formed) (a0:Expr):Option Bool:=
 (a0j a0.Op).bind fun v1=>
 if ((a0.Args.length:Int) != v1) then
 some false
 else
 (if ((a0.Value.Num==0)&&((a0.Value.Den==0)&&(true))) then some (a0.Dim==0) else some false).bind fun v2=>
 (if v2 then some (a0.Name.toList==a1y.toList) else some false).bind fun v3=>
 if (a0.Op==1) then
 (p4 a0.Value a0.Dim).bind fun v4=>
 (if v4.2 then some (a0.Name.toList==a1y.toList) else some false).bind fun v5=>
 some v5
 else
 if (a0.Op==2) then
 (if ((a0.Value.Num==0)&&((a0.Value.Den==0)&&(true))) then some (a0.Dim==0) else some false).bind fun v6=>
 (if v6 then (p7 a0.Name).bind fun v7=>
 some v7 else some false).bind fun v8=>
 some v8
 else
 if (a0.Op==3) then
 (if (a0.Dim==0) then some (a0.Name.toList==a1y.toList) else some false).bind fun v9=>
 (if v9 then some (a0.Value.Den==1) else some false).bind fun v10=>
 (if v10 then some (decide (a0.Value.Num >= 1)) else some false).bind fun v11=>
 (if v11 then some (decide (a0.Value.Num <= 45)) else some false).bind fun v12=>
 some v12
 else
 f7 FU (a43 R v3) (a0,0)
def f9:Nat -> Ring_pensionref5_formed
 | 0=>⟨fun _=>none⟩
 | n+1=>⟨o5 (f9 n)⟩
def b2d (a0:Expr):Option Bool:=(f9 FU).f_pensionref5_formed a0
def s4 (a0:Expr):Option Bool:=
 (b3g a0).bind fun v1=>
 (if (decide (v1 <= 10)) then (b4s a0).bind fun v2=>
 some (decide (v2 <= 60)) else some false).bind fun v3=>
 (if v3 then (b2d a0).bind fun v4=>
 some v4 else some false).bind fun v5=>
 some v5
def a1g (r45:(Version×Int) -> Option Bool) (v44:Version×Int):Option Bool:=
 if (decide (v44.2<(v44.1.Reduces.length:Int))) then
 (i7 v44.1.Reduces v44.2).bind fun v46=>
 (a2p v46.Benefit 2).bind fun v47=>
 (if (v47.toList==a1y.toList) then some true else (i7 v44.1.Reduces v44.2).bind fun v48=>
 (s4 v48.By).bind fun v49=>
 some (!v49)).bind fun v50=>
 if v50 then
 some false
 else
 r45 (v44.1,i64 (v44.2+1))
 else
 some true
def a1f (r35:(Version×Int) -> Option Bool) (v34:Version×Int):Option Bool:=
 if (decide (v34.2<(v34.1.Grants.length:Int))) then
 (i7 v34.1.Grants v34.2).bind fun v36=>
 (a2p v36.Benefit 2).bind fun v37=>
 (if (v37.toList==a1y.toList) then some true else (i7 v34.1.Grants v34.2).bind fun v38=>
 (s4 v38.If).bind fun v39=>
 some (!v39)).bind fun v40=>
 (if v40 then some true else (i7 v34.1.Grants v34.2).bind fun v41=>
 (s4 v41.Pay).bind fun v42=>
 some (!v42)).bind fun v43=>
 if v43 then
 some false
 else
 r35 (v34.1,i64 (v34.2+1))
 else
 f7 FU a1g (v34.1,0)
def a1e (r28:(Version×Int) -> Option Bool) (v27:Version×Int):Option Bool:=
 if (decide (v27.2<(v27.1.Lets.length:Int))) then
 (i7 v27.1.Lets v27.2).bind fun v29=>
 (p7 v29.Name).bind fun v30=>
 (if (!v30) then some true else (i7 v27.1.Lets v27.2).bind fun v31=>
 (s4 v31.Body).bind fun v32=>
 some (!v32)).bind fun v33=>
 if v33 then
 some false
 else
 r28 (v27.1,i64 (v27.2+1))
 else
 f7 FU a1f (v27.1,0)
def a1k (r18:(Version×Int) -> Option Bool) (v17:Version×Int):Option Bool:=
 if (decide (v17.2<(v17.1.Series.length:Int))) then
 (i7 v17.1.Series v17.2).bind fun v19=>
 (p4 v19.Factor 2).bind fun v20=>
 (i7 v17.1.Series v17.2).bind fun v21=>
 (if (decide (v21.Year<1900)) then some true else (i7 v17.1.Series v17.2).bind fun v22=>
 some (decide (v22.Year>2099))).bind fun v23=>
 (if v23 then some true else some (!v20.2)).bind fun v24=>
 (if v24 then some true else (i7 v17.1.Series v17.2).bind fun v25=>
 some (decide (v25.Factor.Num<1))).bind fun v26=>
 if v26 then
 some false
 else
 r18 (v17.1,i64 (v17.2+1))
 else
 f7 FU a1e (v17.1,0)
def a1p (r10:(Version×Int) -> Option Bool) (v9:Version×Int):Option Bool:=
 if (decide (v9.2<(v9.1.Credits.length:Int))) then
 (i7 v9.1.Credits v9.2).bind fun v11=>
 (a2p v11.Kind 1).bind fun v12=>
 (if (v12.toList==a1y.toList) then some true else (i7 v9.1.Credits v9.2).bind fun v13=>
 some (decide (v13.Limit<0))).bind fun v14=>
 (if v14 then some true else (i7 v9.1.Credits v9.2).bind fun v15=>
 some (decide (v15.Limit>73049))).bind fun v16=>
 if v16 then
 some false
 else
 r10 (v9.1,i64 (v9.2+1))
 else
 f7 FU a1k (v9.1,0)
def a2q (a0:Version):Option Bool:=
 (a08 a0.From).bind fun v1=>
 (if (!v1) then some true else (a48 a0.Rounding).bind fun v2=>
 some (!v2)).bind fun v3=>
 (if v3 then some true else some (decide ((a0.Credits.length:Int)>6))).bind fun v4=>
 (if v4 then some true else some (decide ((a0.Series.length:Int)>20))).bind fun v5=>
 (if v5 then some true else some (decide ((a0.Lets.length:Int)>10))).bind fun v6=>
 (if v6 then some true else some (decide ((a0.Grants.length:Int)>5))).bind fun v7=>
 (if v7 then some true else some (decide ((a0.Reduces.length:Int)>5))).bind fun v8=>
 if v8 then
 some false
 else
 f7 FU a1p (a0,0)
def a4i (r7:(Statute×Int) -> Option Bool) (v6:Statute×Int):Option Bool:=
 if (decide (v6.2<(v6.1.Versions.length:Int))) then
 (i7 v6.1.Versions v6.2).bind fun v8=>
 (a2q v8).bind fun v9=>
 if (!v9) then
 some false
 else
 r7 (v6.1,i64 (v6.2+1))
 else
 some true
def a19 (a0:Statute):Option Bool:=
 (p7 a0.Name).bind fun v1=>
 (if (!v1) then some true else some (decide (a0.Currency<1))).bind fun v2=>
 (if v2 then some true else some (decide (a0.Currency>999))).bind fun v3=>
 (if v3 then some true else some (decide ((a0.Versions.length:Int)<1))).bind fun v4=>
 (if v4 then some true else some (decide ((a0.Versions.length:Int)>6))).bind fun v5=>
 if v5 then
 some false
 else
 f7 FU a4i (a0,0)
def a4g (r9:((List Version)×Statute×pensionref5_reader×(List Version)×Statute×Bool) -> Option (Statute×Int×Int)) (v10:(List Version)×Statute×pensionref5_reader×(List Version)×Statute):Option (Statute×Int×Int):=
 (a21 v10.2.2.1).bind fun v11=>
 (b1f 144 v10.2.2.2.1 [v11.1]).bind fun v12=>
 r9 (v10.1,(⟨v10.2.1.Name,v10.2.1.Currency,[]⟩:Statute),v11.2,v12,(⟨v10.2.2.2.2.Name,v10.2.2.2.2.Currency,[]⟩:Statute),false)
def a7e (v14:(List Version)×Statute×pensionref5_reader×(List Version)×Statute):Option (Statute×Int×Int):=
 (if v14.2.2.1.bad then some true else some (decide (v14.2.2.1.at_<(v14.2.2.1.l.length:Int)))).bind fun v15=>
 if v15 then
 (a8g v14.2.2.1).bind fun v16=>
 some ((⟨a1y,0,[]⟩:Statute),v16,4)
 else
 (a19 (⟨v14.2.2.2.2.Name,v14.2.2.2.2.Currency,v14.2.2.2.1⟩:Statute)).bind fun v17=>
 if (!v17) then
 some ((⟨a1y,0,[]⟩:Statute),0,7)
 else
 some ((⟨v14.2.2.2.2.Name,v14.2.2.2.2.Currency,v14.2.2.2.1⟩:Statute),0,0)
def a2y (r9:((List Version)×Statute×pensionref5_reader×(List Version)×Statute×Bool) -> Option (Statute×Int×Int)) (v8:(List Version)×Statute×pensionref5_reader×(List Version)×Statute×Bool):Option (Statute×Int×Int):=
 if (!v8.2.2.1.bad) then
 if v8.2.2.2.2.2 then
 g9 (a4g r9) (v8.1,(⟨v8.2.1.Name,v8.2.1.Currency,[]⟩:Statute),v8.2.2.1,v8.2.2.2.1,(⟨v8.2.2.2.2.1.Name,v8.2.2.2.2.1.Currency,[]⟩:Statute))
 else
 (d9 v8.2.2.1 a2c).bind fun v13=>
 if (!v13.1) then
 g9 (a4g r9) (v8.1,(⟨v8.2.1.Name,v8.2.1.Currency,[]⟩:Statute),v13.2,v8.2.2.2.1,(⟨v8.2.2.2.2.1.Name,v8.2.2.2.2.1.Currency,[]⟩:Statute))
 else
 g9 a7e (v8.1,(⟨v8.2.1.Name,v8.2.1.Currency,[]⟩:Statute),v13.2,v8.2.2.2.1,(⟨v8.2.2.2.2.1.Name,v8.2.2.2.2.1.Currency,[]⟩:Statute))
 else
 g9 a7e (v8.1,(⟨v8.2.1.Name,v8.2.1.Currency,[]⟩:Statute),v8.2.2.1,v8.2.2.2.1,(⟨v8.2.2.2.2.1.Name,v8.2.2.2.2.1.Currency,[]⟩:Statute))
def a2a (a0:ByteArray):Option (Statute×Int×Int):=
 (a9u a0).bind fun v1=>
 optC v1.1 (if (v1.2.2 != 0) then
 some ((⟨a1y,0,[]⟩:Statute),v1.2.1,v1.2.2)
 else
 none) fun v2=>
 if (v1.2.2 != 0) then
 some ((⟨a1y,0,[]⟩:Statute),v1.2.1,v1.2.2)
 else
 (b6 v2 a2w).bind fun v3=>
 (a0m v3).bind fun v4=>
 (b6 v4.2 a1w).bind fun v5=>
 (s9 v5 1 999).bind fun v6=>
 (b6 v6.2 b1w).bind fun v7=>
 f7 FU a2y ([],(⟨a1y,0,[]⟩:Statute),v7,[],(⟨v4.1,v6.1,[]⟩:Statute),true)
def a0g (a0:List Int) (r2:((List State)×(List Rules)×(List Rate)×Laws×(List State)×(List Rules)×Laws×Int) -> Option (Laws×(List State)×(List Rules)×Unit)) (v1:(List State)×(List Rules)×(List Rate)×Laws×(List State)×(List Rules)×Laws×Int):Option (Laws×(List State)×(List Rules)×Unit):=
 if (decide (v1.2.2.2.2.2.2.2<3)) then
 (a0k v1.2.2.2.2.2.2.2 a0).bind fun v3=>
 (a2a v3).bind fun v4=>
 if (v4.2.2==0) then
 (b1f 56 v1.2.2.2.2.1 [(⟨v1.2.2.2.2.2.2.2,v4.1⟩:State)]).bind fun v5=>
 r2 (v1.1,v1.2.1,v1.2.2.1,(⟨[],[],[]⟩:Laws),v5,v1.2.2.2.2.2.1,(⟨[],[],v1.2.2.2.2.2.2.1.Rates⟩:Laws),i64 (v1.2.2.2.2.2.2.2+1))
 else
 r2 (v1.1,v1.2.1,v1.2.2.1,(⟨[],[],[]⟩:Laws),v1.2.2.2.2.1,v1.2.2.2.2.2.1,(⟨[],[],v1.2.2.2.2.2.2.1.Rates⟩:Laws),i64 (v1.2.2.2.2.2.2.2+1))
 else
 (f8 a0 2).bind fun v6=>
 (d8 v6 6).bind fun v7=>
 (f8 a0 5).bind fun v8=>
 (d8 v8 3).bind fun v9=>
 if (v9==0) then
 (i7 [(⟨0,i64 (90*v7),730,25,[0,1]⟩:Rules)] 0).bind fun v10=>
 (i7 [(⟨0,i64 (90*v7),730,25,[0,1]⟩:Rules)] 0).bind fun v11=>
 some ((⟨[],[],v1.2.2.2.2.2.2.1.Rates⟩:Laws),v1.2.2.2.2.1,b3d [(⟨0,i64 (90*v7),730,25,[0,1]⟩:Rules)] 0 (⟨v11.From,v11.MinDays,v11.PostingLimit,v11.Substantial,[0,1,2]⟩:Rules),())
 else
 if (v9==1) then
 (b1f 56 [(⟨0,i64 (90*v7),730,25,[0,1]⟩:Rules)] [(⟨35000,i64 (90*v7),365,30,[0,1,2]⟩:Rules)]).bind fun v12=>
 some ((⟨[],[],v1.2.2.2.2.2.2.1.Rates⟩:Laws),v1.2.2.2.2.1,v12,())
 else
 (i7 [(⟨0,i64 (90*v7),730,25,[0,1]⟩:Rules)] 0).bind fun v13=>
 (i7 [(⟨0,i64 (90*v7),730,25,[0,1]⟩:Rules)] 0).bind fun v14=>
 (b1f 56 (b3d [(⟨0,i64 (90*v7),730,25,[0,1]⟩:Rules)] 0 (⟨v14.From,v14.MinDays,v14.PostingLimit,v14.Substantial,[0,1,2]⟩:Rules)) [(⟨36000,i64 (90*v7),730,25,[0,1]⟩:Rules)]).bind fun v15=>
 some ((⟨[],[],v1.2.2.2.2.2.2.1.Rates⟩:Laws),v1.2.2.2.2.1,v15,())
def a5a (a0:List Int):Option (Laws×(List State)×(List Rules)×Unit):=
 f7 FU (a0g a0) ([],[],[],(⟨[],[],[]⟩:Laws),[],[],(⟨[],[],[(⟨1,0,(⟨1,1⟩:Fraction)⟩:Rate),(⟨2,0,(⟨3,2⟩:Fraction)⟩:Rate),(⟨3,0,(⟨1,7⟩:Fraction)⟩:Rate),(⟨3,1150,(⟨1,9⟩:Fraction)⟩:Rate)]⟩:Laws),0)
def a84 (a0:Int) (a1:Int):Option Int:=
 if (decide (a1<1)) then
 some 0
 else
 (b36 a0 a1).bind fun v1=>
 (b36 (i64 (v1+a1)) a1).bind fun v2=>
 some v2
def a3f (a0:List Int) (a1:Int):Option Laws:=
 (a5a a0).bind fun v1=>
 (a84 a1 24).bind fun v2=>
 if (v2==0) then
 (a3q v1.2.1 1 (v1.2.1.length:Int)).bind fun v3=>
 some (⟨v3,v1.2.2.1,v1.1.Rates⟩:Laws)
 else
 if (v2==1) then
 (i7 v1.2.1 0).bind fun v4=>
 (i7 v1.2.1 0).bind fun v5=>
 some (⟨b3d v1.2.1 0 (⟨2,v5.Statute⟩:State),v1.2.2.1,v1.1.Rates⟩:Laws)
 else
 if (v2==2) then
 some (⟨v1.2.1,[],v1.1.Rates⟩:Laws)
 else
 if (v2==3) then
 (b1f 32 [] v1.1.Rates).bind fun v6=>
 (i7 v1.1.Rates 0).bind fun v7=>
 (b1f 32 v6 [v7]).bind fun v8=>
 some (⟨v1.2.1,v1.2.2.1,v8⟩:Laws)
 else
 if (v2==4) then
 (a3q v1.1.Rates 0 2).bind fun v9=>
 some (⟨v1.2.1,v1.2.2.1,v9⟩:Laws)
 else
 if (v2==5) then
 (i7 v1.2.1 0).bind fun v10=>
 (i7 v1.2.1 0).bind fun v11=>
 (b1f 144 [] v11.Statute.Versions).bind fun v12=>
 (i7 v12 0).bind fun v13=>
 (i7 v12 0).bind fun v14=>
 (a3q (b3d v12 0 (⟨36000,v14.Rounding,v14.Credits,v14.Series,v14.Lets,v14.Grants,v14.Reduces⟩:Version)) 0 1).bind fun v15=>
 (i7 v1.2.1 0).bind fun v16=>
 (i7 v1.2.1 0).bind fun v17=>
 some (⟨b3d v1.2.1 0 (⟨v17.State,(⟨v11.Statute.Name,v11.Statute.Currency,v15⟩:Statute)⟩:State),v1.2.2.1,v1.1.Rates⟩:Laws)
 else
 if (v2==6) then
 (i7 v1.2.1 1).bind fun v18=>
 (i7 v1.2.1 1).bind fun v19=>
 some (⟨b3d v1.2.1 1 (⟨v19.State,(⟨v19.Statute.Name,0,v19.Statute.Versions⟩:Statute)⟩:State),v1.2.2.1,v1.1.Rates⟩:Laws)
 else
 some (⟨v1.2.1,v1.2.2.1,v1.1.Rates⟩:Laws)
def b6z (a0:Int):Option Bool:=
 (if (decide (a0 >= 97)) then some (decide (a0 <= 122)) else some false).bind fun v1=>
 some v1
def b4n (a0:Int):Option Bool:=
 (if (decide (a0 >= 48)) then some (decide (a0 <= 57)) else some false).bind fun v1=>
 some v1
def c1c (a0:Int):Option Bool:=
 (b6z a0).bind fun v1=>
 (if v1 then some true else (b4n a0).bind fun v2=>
 some v2).bind fun v3=>
 (if v3 then some true else some (a0==95)).bind fun v4=>
 some v4
def c4h (a0:ByteArray) (r6:Int -> Option Bool) (v5:Int):Option Bool:=
 if (decide (v5<(a0.size:Int))) then
 (a96 a0 v5).bind fun v7=>
 (c1c v7).bind fun v8=>
 if (!v8) then
 some false
 else
 r6 (i64 (v5+1))
 else
 some true
def c1e (a0:ByteArray):Option Bool:=
 (if (decide ((a0.size:Int)<1)) then some true else some (decide ((a0.size:Int)>12))).bind fun v1=>
 (if v1 then some true else (a96 a0 0).bind fun v2=>
 (b6z v2).bind fun v3=>
 some (!v3)).bind fun v4=>
 if v4 then
 some false
 else
 f7 FU (c4h a0) 0
def b6t (a0:ByteArray):Option Bool:=
 if (a0.toList==b5w.toList) then
 if (a0.toList==b5w.toList) then
 some true
 else
 some false
 else
 if (a0.toList==a9v.toList) then
 if (a0.toList==a9v.toList) then
 some true
 else
 some false
 else
 if (a0.toList==b9d.toList) then
 if (a0.toList==b9d.toList) then
 some true
 else
 some false
 else
 if (a0.toList==a1q.toList) then
 if (a0.toList==a1q.toList) then
 some true
 else
 some false
 else
 if (a0.toList==a1w.toList) then
 if (a0.toList==a1w.toList) then
 some true
 else
 some false
 else
 if (a0.toList==b2e.toList) then
 if (a0.toList==b2e.toList) then
 some true
 else
 some false
 else
 if (a0.toList==b09.toList) then
 if (a0.toList==b09.toList) then
 some true
 else
 some false
 else
 if (a0.toList==b2m.toList) then
 if (a0.toList==b2m.toList) then
 some true
 else
 some false
 else
 if (a0.toList==a2z.toList) then
 if (a0.toList==a2z.toList) then
 some true
 else
 some false
 else
 if (a0.toList==a9b.toList) then
 if (a0.toList==a9b.toList) then
 some true
 else
 some false
 else
 if (a0.toList==a3x.toList) then
 if (a0.toList==a3x.toList) then
 some true
 else
 some false
 else
 if (a0.toList==a9j.toList) then
 if (a0.toList==a9j.toList) then
 some true
 else
 some false
 else
 if (a0.toList==a7k.toList) then
 if (a0.toList==a7k.toList) then
 some true
 else
 some false
 else
 if (a0.toList==b34.toList) then
 if (a0.toList==b34.toList) then
 some true
 else
 some false
 else
 if (a0.toList==b4d.toList) then
 if (a0.toList==b4d.toList) then
 some true
 else
 some false
 else
 if (a0.toList==b5c.toList) then
 if (a0.toList==b5c.toList) then
 some true
 else
 some false
 else
 if (a0.toList==c3o.toList) then
 if (a0.toList==c3o.toList) then
 some true
 else
 some false
 else
 if (a0.toList==b0h.toList) then
 if (a0.toList==b0h.toList) then
 some true
 else
 some false
 else
 if (a0.toList==a3d.toList) then
 if (a0.toList==a3d.toList) then
 some true
 else
 some false
 else
 if (a0.toList==b04.toList) then
 if (a0.toList==b04.toList) then
 some true
 else
 some false
 else
 if (a0.toList==a2w.toList) then
 if (a0.toList==a2w.toList) then
 some true
 else
 some false
 else
 if (a0.toList==b6a.toList) then
 some true
 else
 some false
def a45 (a0:ByteArray):Option Bool:=
 (c1e a0).bind fun v1=>
 (if v1 then (b6t a0).bind fun v2=>
 some (!v2) else some false).bind fun v3=>
 some v3
def a4c (a0:Int):Option Bool:=
 (if (decide (a0 >= 0)) then some (decide (a0 <= 73048)) else some false).bind fun v1=>
 some v1
def b2s:Option (List syntax_entry):=
 some [(⟨b9b,1⟩:syntax_entry),(⟨d0d,2⟩:syntax_entry),(⟨b8h,3⟩:syntax_entry),(⟨b8p,4⟩:syntax_entry)]
def b3l (a0:syntax_entry) (a1:Int):Option Bool:=
 some (a0.number==a1)
def a2s (a0:List syntax_entry) (a1_0:Int) (r2:Int -> Option Int) (v1:Int):Option Int:=
 if (decide (v1<(a0.length:Int))) then
 (i7 a0 v1).bind fun v3=>
 (b3l v3 a1_0).bind fun v4=>
 if v4 then
 some v1
 else
 r2 (i64 (v1+1))
 else
 some (-1:Int)
def a0b (a0:List syntax_entry) (a1_0:Int):Option Int:=
 f7 FU (a2s a0 a1_0) 0
def a0y (a0:List syntax_entry) (a1:Int):Option ByteArray:=
 (a0b a0 a1).bind fun v1=>
 if (decide (v1<0)) then
 some a1y
 else
 (i7 a0 v1).bind fun v2=>
 some v2.name
def b2o:Option (List syntax_entry):=
 some [(⟨a2i,6⟩:syntax_entry),(⟨a6d,9⟩:syntax_entry),(⟨a7p,7⟩:syntax_entry),(⟨c7g,8⟩:syntax_entry),(⟨b5y,10⟩:syntax_entry),(⟨a8n,5⟩:syntax_entry)]
def a6b (a0:ByteArray) (a1:Int):Option Int:=
 (a50 a0 a1).bind fun v1=>
 some v1
def b1e (v1:Int×Int) (r5:(Int×Int×Int) -> Option (Int×Int)) (v4:Int×Int×Int):Option (Int×Int):=
 if (decide (v4.2.2>0)) then
 if ((e3e .i64 v4.2.2 1) != 0) then
 (d8j .i64 v4.2.2 1).bind fun v6=>
 r5 (IntKind.u32.wrap (v4.1*v4.2.1),IntKind.u32.wrap (v4.2.1*v4.2.1),v6)
 else
 (d8j .i64 v4.2.2 1).bind fun v7=>
 r5 (v4.1,IntKind.u32.wrap (v4.2.1*v4.2.1),v7)
 else
 some (v1.1,v4.1)
def b1d (a0:ByteArray) (r2:(Int×Int) -> Option (Int×Int)) (v1:Int×Int):Option (Int×Int):=
 if (decide (v1.2<(a0.size:Int))) then
 (a96 a0 v1.2).bind fun v3=>
 r2 (IntKind.u32.wrap ((IntKind.u32.wrap (v1.1*16777619))+(IntKind.u32.wrap (v3))),i64 (v1.2+1))
 else
 f7 FU (b1e v1) (1,16777619,(a0.size:Int))
def a7r (a0:ByteArray):Option (Int×Int):=
 f7 FU (b1d a0) (0,0)
def a88 (a0:ByteArray) (a1:ByteArray) (v1:Int×Int) (r8:(Int×Int) -> Option Int) (v7:Int×Int):Option Int:=
 if (decide (v7.2<(a0.size:Int))) then
 (a96 a0 v7.2).bind fun v9=>
 (a96 a0 (i64 (v7.2-(a1.size:Int)))).bind fun v10=>
 (if ((IntKind.u32.wrap ((IntKind.u32.wrap ((IntKind.u32.wrap (v7.1*16777619))+(IntKind.u32.wrap (v9))))-(IntKind.u32.wrap (v1.2*(IntKind.u32.wrap (v10))))))==v1.1) then (b3v a0 (i64 ((i64 (v7.2+1))-(a1.size:Int))) (i64 (v7.2+1))).bind fun v11=>
 some (v11.toList==a1.toList) else some false).bind fun v12=>
 if v12 then
 some (i64 ((i64 (v7.2+1))-(a1.size:Int)))
 else
 r8 (IntKind.u32.wrap ((IntKind.u32.wrap ((IntKind.u32.wrap (v7.1*16777619))+(IntKind.u32.wrap (v9))))-(IntKind.u32.wrap (v1.2*(IntKind.u32.wrap (v10))))),i64 (v7.2+1))
 else
 some (-1:Int)
def a87 (a1:ByteArray) (a0:ByteArray) (v1:Int×Int) (r3:(Int×Int) -> Option Int) (v2:Int×Int):Option Int:=
 if (decide (v2.2<(a1.size:Int))) then
 (a96 a0 v2.2).bind fun v4=>
 r3 (IntKind.u32.wrap ((IntKind.u32.wrap (v2.1*16777619))+(IntKind.u32.wrap (v4))),i64 (v2.2+1))
 else
 (if (v2.1==v1.1) then (b3v a0 0 (a1.size:Int)).bind fun v5=>
 some (v5.toList==a1.toList) else some false).bind fun v6=>
 if v6 then
 some 0
 else
 f7 FU (a88 a0 a1 v1) (v2.1,(a1.size:Int))
def a97 (a0:ByteArray) (a1:ByteArray):Option Int:=
 (a7r a1).bind fun v1=>
 f7 FU (a87 a1 a0 v1) (0,0)
def a6s (a0:ByteArray) (a1:ByteArray):Option Int:=
 (if ((a1.size:Int)==0) then some true else some (a1.toList==a0.toList)).bind fun v1=>
 if v1 then
 some 0
 else
 if ((a1.size:Int)==1) then
 (a96 a1 0).bind fun v2=>
 (a6b a0 v2).bind fun v3=>
 some v3
 else
 if (decide ((a1.size:Int) >= (a0.size:Int))) then
 some (-1:Int)
 else
 none
def b2b (a0:ByteArray) (a1:ByteArray):Option (ByteArray×ByteArray×Bool):=
 (a6s a0 a1).bind fun v1=>
 if (decide (v1 >= 0)) then
 (b3v a0 0 v1).bind fun v2=>
 (b3v a0 (i64 (v1+(a1.size:Int))) (a0.size:Int)).bind fun v3=>
 some (v2,v3,true)
 else
 some (a0,a1y,false)
def b4h (a0:ByteArray) (a1:ByteArray):Option (ByteArray×ByteArray×Bool):=
 (b2b a0 a1).bind fun v1=>
 some (v1.1,v1.2.1,v1.2.2)
def a59 (a0:ByteArray) (r2:(Int×Int) -> Option (Int×Bool)) (v1:Int×Int):Option (Int×Bool):=
 if (decide (v1.2<(a0.size:Int))) then
 (a96 a0 v1.2).bind fun v3=>
 (b4n v3).bind fun v4=>
 if (!v4) then
 some (0,false)
 else
 (a96 a0 v1.2).bind fun v5=>
 r2 (i64 ((i64 (10*v1.1))+(i64 (IntKind.u8.wrap (v5-48)))),i64 (v1.2+1))
 else
 some (v1.1,true)
def a4w (a0:ByteArray):Option (Int×Bool):=
 f7 FU (a59 a0) (0,0)
def b0l (v23:Int) (r22:(Fraction×Int) -> Option (Fraction×Int×Bool)) (v21:Fraction×Int) (r25:Fraction -> Option (Fraction×Int×Bool)) (v24:Fraction):Option (Fraction×Int×Bool):=
 (b36 v24.Num v23).bind fun v26=>
 (if (v26==0) then (b36 v24.Den v23).bind fun v27=>
 some (v27==0) else some false).bind fun v28=>
 if v28 then
 (b9o v24.Num v23).bind fun v29=>
 (b9o v24.Den v23).bind fun v30=>
 r25 (⟨v29,v30⟩:Fraction)
 else
 r22 (v24,i64 (v21.2+1))
def a13 (v20:Fraction×Int×Int×Int) (r22:(Fraction×Int) -> Option (Fraction×Int×Bool)) (v21:Fraction×Int):Option (Fraction×Int×Bool):=
 if (decide (v21.2<2)) then
 (i7 (⟨[2,5],rfl⟩:Ar 2 Int).l v21.2).bind fun v23=>
 f7 FU (b0l v23 r22 v21) v21.1
 else
 some (v21.1,v20.2.1,true)
def b4x (v20:Fraction×Int×Int×Int):Option (Fraction×Int×Bool):=
 f7 FU (a13 v20) ((⟨i64 (v20.2.2.1+v20.2.2.2),v20.1.Den⟩:Fraction),0)
def b4p (v4:ByteArray×Fraction×Int) (v14:Int×Bool) (r17:(Fraction×Int×(ByteArray×Int)) -> Option (Fraction×Int×Bool)) (v16:Fraction×Int×(ByteArray×Int)):Option (Fraction×Int×Bool):=
 optC (d75 v16.2.2.1 v16.2.2.2) (g9 b4x (v16.1,v4.2.2,v16.2.1,v14.1)) fun v18=>
 (v18).bind fun v19=>
 r17 ((⟨v16.1.Num,i64 (10*v16.1.Den)⟩:Fraction),i64 (10*v16.2.1),(v16.2.2.1,v16.2.2.2+1))
def a5c (v4:ByteArray×Fraction×Int):Option (Fraction×Int×Bool):=
 (b4h v4.1 a8m).bind fun v5=>
 (if (decide ((v5.1.size:Int)<1)) then some true else some (decide ((v5.1.size:Int)>9))).bind fun v6=>
 (if v6 then some true else (if (decide ((v5.1.size:Int)>1)) then (a96 v5.1 0).bind fun v7=>
 some (v7==48) else some false).bind fun v8=>
 some v8).bind fun v9=>
 (if v9 then some true else (if v5.2.2 then (if (decide ((v5.2.1.size:Int)<1)) then some true else some (decide ((v5.2.1.size:Int)>4))).bind fun v10=>
 some v10 else some false).bind fun v11=>
 some v11).bind fun v12=>
 if v12 then
 some ((⟨0,0⟩:Fraction),0,false)
 else
 (a4w v5.1).bind fun v13=>
 (a4w v5.2.1).bind fun v14=>
 (if (!v13.2) then some true else some (!v14.2)).bind fun v15=>
 if v15 then
 some ((⟨0,0⟩:Fraction),0,false)
 else
 f7 FU (b4p v4 v14) ((⟨v4.2.1.Num,1⟩:Fraction),v13.1,(v5.2.1,0))
def b1b (a0:ByteArray):Option (Fraction×Int×Bool):=
 (if (decide ((a0.size:Int)>0)) then (a96 a0 (i64 ((a0.size:Int)-1))).bind fun v1=>
 some (v1==100) else some false).bind fun v2=>
 if v2 then
 (b3v a0 0 (i64 ((a0.size:Int)-1))).bind fun v3=>
 g9 a5c (v3,(⟨0,0⟩:Fraction),3)
 else
 (if (decide ((a0.size:Int)>0)) then (a96 a0 (i64 ((a0.size:Int)-1))).bind fun v31=>
 some (v31==109) else some false).bind fun v32=>
 if v32 then
 (b3v a0 0 (i64 ((a0.size:Int)-1))).bind fun v33=>
 g9 a5c (v33,(⟨0,0⟩:Fraction),4)
 else
 g9 a5c (a0,(⟨0,0⟩:Fraction),2)
def a9f (r8:(Fraction×ByteArray×Int×Int) -> Option (ByteArray×Bool)) (v10:Int×Fraction×ByteArray×Int×Int):Option (ByteArray×Bool):=
 if (v10.2.2.2.2==4) then
 some (a1y,false)
 else
 (b9o (i64 (v10.2.2.2.1*10)) v10.2.1.Den).bind fun v11=>
 (strconv_Itoa v11).bind fun v12=>
 (a3j v10.2.2.1 v12).bind fun v13=>
 (b36 (i64 (v10.2.2.2.1*10)) v10.2.1.Den).bind fun v14=>
 r8 (v10.2.1,v13,v14,i64 (v10.2.2.2.2+1))
def a23 (v16:Int×Fraction×ByteArray):Option (ByteArray×Bool):=
 (b1b v16.2.2).bind fun v17=>
 (if (!v17.2.2) then some true else some (!((v17.1.Num==v16.2.1.Num)&&((v17.1.Den==v16.2.1.Den)&&(true))))).bind fun v18=>
 (if v18 then some true else some (v17.2.1 != v16.1)).bind fun v19=>
 if v19 then
 some (a1y,false)
 else
 some (v16.2.2,true)
def a9d (a1:Int) (r8:(Fraction×ByteArray×Int×Int) -> Option (ByteArray×Bool)) (v7:Fraction×ByteArray×Int×Int):Option (ByteArray×Bool):=
 if (decide (v7.2.2.1>0)) then
 if (v7.2.2.2==0) then
 (a3j v7.2.1 a8m).bind fun v9=>
 g9 (a9f r8) (a1,v7.1,v9,v7.2.2.1,v7.2.2.2)
 else
 g9 (a9f r8) (a1,v7.1,v7.2.1,v7.2.2.1,v7.2.2.2)
 else
 if (a1==3) then
 (a3j v7.2.1 e43).bind fun v15=>
 g9 a23 (a1,v7.1,v15)
 else
 if (a1==4) then
 (a3j v7.2.1 e3t).bind fun v20=>
 g9 a23 (a1,v7.1,v20)
 else
 g9 a23 (a1,v7.1,v7.2.1)
def a02 (a0:Fraction) (a1:Int):Option (ByteArray×Bool):=
 (if (decide (a0.Den<1)) then some true else some (decide (a0.Den>10000))).bind fun v1=>
 (if v1 then some true else some (decide (a0.Num<0))).bind fun v2=>
 (if v2 then some true else some (decide (a0.Num>1000000000000000))).bind fun v3=>
 if v3 then
 some (a1y,false)
 else
 (b9o a0.Num a0.Den).bind fun v4=>
 (strconv_Itoa v4).bind fun v5=>
 (b36 a0.Num a0.Den).bind fun v6=>
 f7 FU (a9d a1) (a0,v5,v6,0)
def b0n (a0:Int):Option Bool:=
 (if (decide (a0 >= 1900)) then some (decide (a0 <= 2099)) else some false).bind fun v1=>
 some v1
def a9i (a0:Index):Option Bool:=
 (a02 a0.Factor 2).bind fun v1=>
 (if v1.2 then some (decide (a0.Factor.Num>0)) else some false).bind fun v2=>
 (if v2 then (b0n a0.Year).bind fun v3=>
 some v3 else some false).bind fun v4=>
 some v4
structure Ring_syntax_Depth where
 f_syntax_Depth:Expr -> Option Int
def b27 (R:Ring_syntax_Depth) (a0:Expr) (r2:(Int×Int) -> Option Int) (v1:Int×Int):Option Int:=
 if (decide (v1.2<(a0.Args.length:Int))) then
 (i7 a0.Args v1.2).bind fun v3=>
 (R.f_syntax_Depth v3).bind fun v4=>
 r2 (max v1.1 v4,i64 (v1.2+1))
 else
 some (i64 (v1.1+1))
def a9y (R:Ring_syntax_Depth) (a0:Expr):Option Int:=
 f7 FU (b27 R a0) (0,0)
def a1a:Nat -> Ring_syntax_Depth
 | 0=>⟨fun _=>none⟩
 | n+1=>⟨a9y (a1a n)⟩
def c14 (a0:Expr):Option Int:=(a1a FU).f_syntax_Depth a0
structure Ring_syntax_Size where
 f_syntax_Size:Expr -> Option Int
def b33 (R:Ring_syntax_Size) (a0:Expr) (r2:(Int×Int) -> Option Int) (v1:Int×Int):Option Int:=
 if (decide (v1.2<(a0.Args.length:Int))) then
 (i7 a0.Args v1.2).bind fun v3=>
 (R.f_syntax_Size v3).bind fun v4=>
 r2 (i64 (v1.1+v4),i64 (v1.2+1))
 else
 some v1.1
def b13 (R:Ring_syntax_Size) (a0:Expr):Option Int:=
 f7 FU (b33 R a0) (1,0)
def a1t:Nat -> Ring_syntax_Size
 | 0=>⟨fun _=>none⟩
 | n+1=>⟨b13 (a1t n)⟩
def c2s (a0:Expr):Option Int:=(a1t FU).f_syntax_Size a0
def a4s (a0:Int):Option Int:=
 (if (a0==1) then some true else some (a0==2)).bind fun v1=>
 (if v1 then some true else some (a0==3)).bind fun v2=>
 if v2 then
 some 0
 else
 (if (a0==4) then some true else some (a0==5)).bind fun v3=>
 (if v3 then some true else some (a0==6)).bind fun v4=>
 if v4 then
 some 1
 else
 (if (decide (a0 >= 7)) then some (decide (a0 <= 20)) else some false).bind fun v5=>
 if v5 then
 some 2
 else
 if (a0==21) then
 some 3
 else
 some (-1:Int)
def a2g (a0:Expr):Option Bool:=
 (a4s a0.Op).bind fun v1=>
 if ((a0.Args.length:Int) != v1) then
 some false
 else
 if (a0.Op==1) then
 (a02 a0.Value a0.Dim).bind fun v2=>
 (if v2.2 then some (a0.Name.toList==a1y.toList) else some false).bind fun v3=>
 some v3
 else
 if (a0.Op==2) then
 (a45 a0.Name).bind fun v4=>
 (if v4 then some ((a0.Value.Num==0)&&((a0.Value.Den==0)&&(true))) else some false).bind fun v5=>
 (if v5 then some (a0.Dim==0) else some false).bind fun v6=>
 some v6
 else
 if (a0.Op==3) then
 (if (a0.Value.Den==1) then some (decide (a0.Value.Num >= 1)) else some false).bind fun v7=>
 (if v7 then some (decide (a0.Value.Num <= 45)) else some false).bind fun v8=>
 (if v8 then some (a0.Dim==0) else some false).bind fun v9=>
 (if v9 then some (a0.Name.toList==a1y.toList) else some false).bind fun v10=>
 some v10
 else
 (if ((a0.Value.Num==0)&&((a0.Value.Den==0)&&(true))) then some (a0.Dim==0) else some false).bind fun v11=>
 (if v11 then some (a0.Name.toList==a1y.toList) else some false).bind fun v12=>
 some v12
structure Ring_syntax_form where
 f_syntax_form:Expr -> Option Bool
 f_syntax_form_1:Expr -> Option Bool
 f_slices_ContainsFunc_of_api_Expr:(List Expr) -> Option Bool
 f_slices_IndexFunc_of_api_Expr:(List Expr) -> Option Int
def b12 (R:Ring_syntax_form) (a0:Expr):Option Bool:=
 (a2g a0).bind fun v1=>
 (if v1 then (R.f_slices_ContainsFunc_of_api_Expr a0.Args).bind fun v2=>
 some (!v2) else some false).bind fun v3=>
 some v3
def a94 (R:Ring_syntax_form) (a0:Expr):Option Bool:=
 (R.f_syntax_form a0).bind fun v1=>
 some (!v1)
def o9 (R:Ring_syntax_form) (a0:List Expr):Option Bool:=
 (R.f_slices_IndexFunc_of_api_Expr a0).bind fun v1=>
 some (decide (v1 >= 0))
def y3 (R:Ring_syntax_form) (a0:List Expr) (r2:Int -> Option Int) (v1:Int):Option Int:=
 if (decide (v1<(a0.length:Int))) then
 (i7 a0 v1).bind fun v3=>
 (R.f_syntax_form_1 v3).bind fun v4=>
 if v4 then
 some v1
 else
 r2 (i64 (v1+1))
 else
 some (-1:Int)
def l8 (R:Ring_syntax_form) (a0:List Expr):Option Int:=
 f7 FU (y3 R a0) 0
def d7:Nat -> Ring_syntax_form
 | 0=>⟨fun _=>none,fun _=>none,fun _=>none,fun _=>none⟩
 | n+1=>⟨b12 (d7 n),a94 (d7 n),o9 (d7 n),l8 (d7 n)⟩
def c42 (a0:Expr):Option Bool:=(d7 FU).f_syntax_form a0
def a06 (a0:Expr):Option Bool:=
 (c14 a0).bind fun v1=>
 (if (decide (v1 <= 10)) then (c2s a0).bind fun v2=>
 some (decide (v2 <= 60)) else some false).bind fun v3=>
 (if v3 then (c42 a0).bind fun v4=>
 some v4 else some false).bind fun v5=>
 some v5
def a6g:Option (List syntax_entry):=
 some [(⟨b7y,1⟩:syntax_entry),(⟨a4a,2⟩:syntax_entry),(⟨b0a,3⟩:syntax_entry),(⟨b3c,4⟩:syntax_entry),(⟨b05,5⟩:syntax_entry)]
def a5v (v38:Version) (r40:Int -> Option Bool) (v39:Int):Option Bool:=
 if (decide (v39<(v38.Reduces.length:Int))) then
 (i7 v38.Reduces v39).bind fun v41=>
 (a6g).bind fun v42=>
 (a0y v42 v41.Benefit).bind fun v43=>
 (if (v43.toList==a1y.toList) then some true else (a06 v41.By).bind fun v44=>
 some (!v44)).bind fun v45=>
 if v45 then
 some false
 else
 r40 (i64 (v39+1))
 else
 some true
def a5p (v38:Version):Option Bool:=
 f7 FU (a5v v38) 0
def a5l (v28:Version) (r30:(Version×Int) -> Option Bool) (v29:Version×Int):Option Bool:=
 if (decide (v29.2<(v28.Grants.length:Int))) then
 (i7 v28.Grants v29.2).bind fun v31=>
 (a6g).bind fun v32=>
 (a0y v32 v31.Benefit).bind fun v33=>
 (if (v33.toList==a1y.toList) then some true else (a06 v31.If).bind fun v34=>
 some (!v34)).bind fun v35=>
 (if v35 then some true else (a06 v31.Pay).bind fun v36=>
 some (!v36)).bind fun v37=>
 if v37 then
 some false
 else
 r30 (v29.1,i64 (v29.2+1))
 else
 g9 a5p v29.1
def a5m (v28:Version):Option Bool:=
 f7 FU (a5l v28) (v28,0)
def a5u (v21:Version) (r23:(Version×Int) -> Option Bool) (v22:Version×Int):Option Bool:=
 if (decide (v22.2<(v21.Lets.length:Int))) then
 (i7 v21.Lets v22.2).bind fun v24=>
 (a45 v24.Name).bind fun v25=>
 (if (!v25) then some true else (a06 v24.Body).bind fun v26=>
 some (!v26)).bind fun v27=>
 if v27 then
 some false
 else
 r23 (v22.1,i64 (v22.2+1))
 else
 g9 a5m v22.1
def a5r (v21:Version):Option Bool:=
 f7 FU (a5u v21) (v21,0)
def a5o (v16:Version) (r18:(Version×Int) -> Option Bool) (v17:Version×Int):Option Bool:=
 if (decide (v17.2<(v16.Series.length:Int))) then
 (i7 v16.Series v17.2).bind fun v19=>
 (a9i v19).bind fun v20=>
 if (!v20) then
 some false
 else
 r18 (v17.1,i64 (v17.2+1))
 else
 g9 a5r v17.1
def a5q (v16:Version):Option Bool:=
 f7 FU (a5o v16) (v16,0)
def a3m (v4:Version) (r10:(Version×Int) -> Option Bool) (v9:Version×Int):Option Bool:=
 if (decide (v9.2<(v4.Credits.length:Int))) then
 (i7 v4.Credits v9.2).bind fun v11=>
 (b2o).bind fun v12=>
 (a0y v12 v11.Kind).bind fun v13=>
 (if (v13.toList==a1y.toList) then some true else some (decide (v11.Limit<0))).bind fun v14=>
 (if v14 then some true else some (decide (v11.Limit>73049))).bind fun v15=>
 if v15 then
 some false
 else
 r10 (v9.1,i64 (v9.2+1))
 else
 g9 a5q v9.1
def a5n (v4:Version):Option Bool:=
 (if (decide ((v4.Credits.length:Int)>6)) then some true else some (decide ((v4.Series.length:Int)>20))).bind fun v5=>
 (if v5 then some true else some (decide ((v4.Lets.length:Int)>10))).bind fun v6=>
 (if v6 then some true else some (decide ((v4.Grants.length:Int)>5))).bind fun v7=>
 (if v7 then some true else some (decide ((v4.Reduces.length:Int)>5))).bind fun v8=>
 if v8 then
 some false
 else
 f7 FU (a3m v4) (v4,0)
def a52 (a0:Version):Option Bool:=
 (a4c a0.From).bind fun v1=>
 if (!v1) then
 (if true then some true else some (decide (a0.Rounding.Unit<1))).bind fun v2=>
 (if v2 then some true else some (decide (a0.Rounding.Unit>100000))).bind fun v3=>
 if v3 then
 some false
 else
 g9 a5n a0
 else
 (b2s).bind fun v46=>
 (a0y v46 a0.Rounding.Mode).bind fun v47=>
 (if (v47.toList==a1y.toList) then some true else some (decide (a0.Rounding.Unit<1))).bind fun v48=>
 (if v48 then some true else some (decide (a0.Rounding.Unit>100000))).bind fun v49=>
 if v49 then
 some false
 else
 g9 a5n a0
def a8u (a0:Statute) (r7:Int -> Option Bool) (v6:Int):Option Bool:=
 if (decide (v6<(a0.Versions.length:Int))) then
 (i7 a0.Versions v6).bind fun v8=>
 (a52 v8).bind fun v9=>
 if (!v9) then
 some false
 else
 r7 (i64 (v6+1))
 else
 some true
def b08 (a0:Statute):Option Bool:=
 (a45 a0.Name).bind fun v1=>
 (if (!v1) then some true else some (decide (a0.Currency<1))).bind fun v2=>
 (if v2 then some true else some (decide (a0.Currency>999))).bind fun v3=>
 (if v3 then some true else some (decide ((a0.Versions.length:Int)<1))).bind fun v4=>
 (if v4 then some true else some (decide ((a0.Versions.length:Int)>6))).bind fun v5=>
 if v5 then
 some false
 else
 f7 FU (a8u a0) 0
def a3i (v2:ByteArray×Bool):Option (Int×Bool):=
 if v2.2 then
 some (3,true)
 else
 if (v2.1.toList==a6x.toList) then
 some (4,true)
 else
 some (0,false)
def b2a (v1:ByteArray×Bool):Option (Int×Bool):=
 if v1.2 then
 some (2,true)
 else
 if (v1.1.toList==a1l.toList) then
 g9 a3i (v1.1,v1.1.toList==a1l.toList)
 else
 if (v1.1.toList==a8j.toList) then
 g9 a3i (v1.1,v1.1.toList==a8j.toList)
 else
 if (v1.1.toList==a2i.toList) then
 g9 a3i (v1.1,v1.1.toList==a2i.toList)
 else
 if (v1.1.toList==a6d.toList) then
 g9 a3i (v1.1,v1.1.toList==a6d.toList)
 else
 if (v1.1.toList==a6c.toList) then
 g9 a3i (v1.1,v1.1.toList==a6c.toList)
 else
 if (v1.1.toList==b1x.toList) then
 g9 a3i (v1.1,v1.1.toList==b1x.toList)
 else
 g9 a3i (v1.1,v1.1.toList==b61.toList)
def a8c (a0:ByteArray):Option (Int×Bool):=
 if (a0.toList==b2v.toList) then
 g9 b2a (a0,a0.toList==b2v.toList)
 else
 if (a0.toList==b93.toList) then
 g9 b2a (a0,a0.toList==b93.toList)
 else
 g9 b2a (a0,a0.toList==a6j.toList)
def b14 (a0:ByteArray):Option Bool:=
 (a06 (⟨2,(⟨0,0⟩:Fraction),0,a0,[]⟩:Expr)).bind fun v1=>
 some v1
def b8e (a0:Binding) (a1:Let):Option Bool:=
 some (a0.Name.toList==a1.Name.toList)
def b2y (a0:Binding):Option Bool:=
 (if (decide (a0.Dim<1)) then some true else some (decide (a0.Dim>4))).bind fun v1=>
 some v1
def c1n (a1:List Binding) (r3:((ByteArray×Int×Bool)×Int) -> Option (Int×Bool)) (v2:(ByteArray×Int×Bool)×Int):Option (Int×Bool):=
 if decide (v2.2<0) then
 some (0,false)
 else
 (i7 a1 v2.2).bind fun v4=>
 if (v4.Name.toList==v2.1.1.toList) then
 some ((v2.1.1,v4.Dim,true).2.1,(v2.1.1,v4.Dim,true).2.2)
 else
 r3 ((v2.1.1,v2.1.2.1,v2.1.2.2),v2.2-1)
def b1a (a0:ByteArray) (a1:List Binding):Option (Int×Bool):=
 (a8c a0).bind fun v1=>
 if v1.2 then
 some (v1.1,true)
 else
 f7 FU (c1n a1) ((a0,0,false),(a1.length:Int)-1)
def b4q (v30:(List Int)×Int×Bool):Option (Int×Bool):=
 if v30.2.2 then
 (i7 v30.1 0).bind fun v31=>
 (if (v31==1) then (i7 v30.1 1).bind fun v32=>
 some (v32==1) else some false).bind fun v33=>
 some (1,v33)
 else
 if (v30.2.1==21) then
 (i7 v30.1 1).bind fun v34=>
 (i7 v30.1 0).bind fun v35=>
 (if (v35==1) then (i7 v30.1 1).bind fun v36=>
 (i7 v30.1 2).bind fun v37=>
 some (v36==v37) else some false).bind fun v38=>
 some (v34,v38)
 else
 some (0,false)
def a3s (v25:(List Int)×Int×Bool):Option (Int×Bool):=
 if v25.2.2 then
 (i7 v25.1 0).bind fun v26=>
 (i7 v25.1 1).bind fun v27=>
 (if (v26==v27) then (i7 v25.1 0).bind fun v28=>
 some (v28 != 1) else some false).bind fun v29=>
 some (1,v29)
 else
 if (v25.2.1==17) then
 g9 b4q (v25.1,v25.2.1,v25.2.1==17)
 else
 g9 b4q (v25.1,v25.2.1,v25.2.1==18)
def a7x (v5:(List Int)×Int×Bool):Option (Int×Bool):=
 if v5.2.2 then
 (i7 v5.1 0).bind fun v6=>
 (i7 v5.1 0).bind fun v7=>
 (i7 v5.1 1).bind fun v8=>
 (if (v7==v8) then (i7 v5.1 0).bind fun v9=>
 some (v9 != 1) else some false).bind fun v10=>
 some (v6,v10)
 else
 if (v5.2.1==9) then
 (i7 v5.1 0).bind fun v11=>
 if (v11==2) then
 (i7 v5.1 1).bind fun v12=>
 (i7 v5.1 1).bind fun v13=>
 some (v12,v13 != 1)
 else
 (i7 v5.1 0).bind fun v14=>
 (i7 v5.1 1).bind fun v15=>
 (if (v15==2) then (i7 v5.1 0).bind fun v16=>
 some (v16 != 1) else some false).bind fun v17=>
 some (v14,v17)
 else
 if (v5.2.1==10) then
 (i7 v5.1 1).bind fun v18=>
 if (v18==2) then
 (i7 v5.1 0).bind fun v19=>
 (i7 v5.1 0).bind fun v20=>
 some (v19,v20 != 1)
 else
 (i7 v5.1 0).bind fun v21=>
 (i7 v5.1 1).bind fun v22=>
 (if (v21==v22) then (i7 v5.1 0).bind fun v23=>
 some (v23 != 1) else some false).bind fun v24=>
 some (2,v24)
 else
 if (v5.2.1==11) then
 g9 a3s (v5.1,v5.2.1,v5.2.1==11)
 else
 if (v5.2.1==12) then
 g9 a3s (v5.1,v5.2.1,v5.2.1==12)
 else
 if (v5.2.1==13) then
 g9 a3s (v5.1,v5.2.1,v5.2.1==13)
 else
 if (v5.2.1==14) then
 g9 a3s (v5.1,v5.2.1,v5.2.1==14)
 else
 if (v5.2.1==15) then
 g9 a3s (v5.1,v5.2.1,v5.2.1==15)
 else
 g9 a3s (v5.1,v5.2.1,v5.2.1==16)
def b50 (v1:(List Int)×Int×Bool):Option (Int×Bool):=
 if v1.2.2 then
 (i7 v1.1 0).bind fun v2=>
 (i7 v1.1 0).bind fun v3=>
 some (v2,v3 != 1)
 else
 if (v1.2.1==5) then
 (i7 v1.1 0).bind fun v4=>
 some (1,v4==1)
 else
 if (v1.2.1==7) then
 g9 a7x (v1.1,v1.2.1,v1.2.1==7)
 else
 if (v1.2.1==8) then
 g9 a7x (v1.1,v1.2.1,v1.2.1==8)
 else
 if (v1.2.1==19) then
 g9 a7x (v1.1,v1.2.1,v1.2.1==19)
 else
 g9 a7x (v1.1,v1.2.1,v1.2.1==20)
def a90 (a0:Int) (a1:List Int):Option (Int×Bool):=
 if (a0==4) then
 g9 b50 (a1,a0,a0==4)
 else
 g9 b50 (a1,a0,a0==6)
structure Ring_typing_infer where
 f_typing_infer:Expr -> (List Binding) -> Option (Int×Int)
def a8x (R:Ring_typing_infer) (a0:Expr) (a1:List Binding) (r3:(Expr×(List Int)×Int) -> Option (Int×Int)) (v2:Expr×(List Int)×Int):Option (Int×Int):=
 if (decide (v2.2.2<(a0.Args.length:Int))) then
 (i7 a0.Args v2.2.2).bind fun v4=>
 (R.f_typing_infer v4 a1).bind fun v5=>
 if (v5.2 != 0) then
 some (0,v5.2)
 else
 (b1f 8 v2.2.1 [v5.1]).bind fun v6=>
 r3 (v2.1,v6,i64 (v2.2.2+1))
 else
 (a90 v2.1.Op v2.2.1).bind fun v7=>
 if (!v7.2) then
 some (0,6)
 else
 some (v7.1,0)
def a2l (R:Ring_typing_infer) (a0:Expr) (a1:List Binding):Option (Int×Int):=
 if (a0.Op==1) then
 some (a0.Dim,0)
 else
 if (a0.Op==3) then
 some (4,0)
 else
 if (a0.Op==2) then
 (b1a a0.Name a1).bind fun v1=>
 if (!v1.2) then
 some (0,5)
 else
 some (v1.1,0)
 else
 f7 FU (a8x R a0 a1) (a0,[],0)
def s6:Nat -> Ring_typing_infer
 | 0=>⟨fun _ _=>none⟩
 | n+1=>⟨a2l (s6 n)⟩
def c1k (a0:Expr) (a1:List Binding):Option (Int×Int):=(s6 FU).f_typing_infer a0 a1
def n8 (a0:List Binding) (r2:Int -> Option Int) (v1:Int):Option Int:=
 if (decide (v1<(a0.length:Int))) then
 (i7 a0 v1).bind fun v3=>
 (b2y v3).bind fun v4=>
 if v4 then
 some v1
 else
 r2 (i64 (v1+1))
 else
 some (-1:Int)
def w6 (a0:List Binding):Option Int:=
 f7 FU (n8 a0) 0
def n9 (a0:List Binding):Option Bool:=
 (w6 a0).bind fun v1=>
 some (decide (v1 >= 0))
def b0d (a0:Expr) (a1:List Binding):Option (Int×Int):=
 (a06 a0).bind fun v1=>
 (if (!v1) then some true else (n9 a1).bind fun v2=>
 some v2).bind fun v3=>
 if v3 then
 some (0,1)
 else
 (c1k a0 a1).bind fun v4=>
 some (v4.1,v4.2)
def a3p (a0:List Binding) (a1_0:Let) (r2:Int -> Option Int) (v1:Int):Option Int:=
 if (decide (v1<(a0.length:Int))) then
 (i7 a0 v1).bind fun v3=>
 (b8e v3 a1_0).bind fun v4=>
 if v4 then
 some v1
 else
 r2 (i64 (v1+1))
 else
 some (-1:Int)
def a0x (a0:List Binding) (a1_0:Let):Option Int:=
 f7 FU (a3p a0 a1_0) 0
def o7 (a0:List Binding) (a1_0:Let):Option Bool:=
 (a0x a0 a1_0).bind fun v1=>
 some (decide (v1 >= 0))
def a5f (a0:List Let) (r2:((List Binding)×Int) -> Option ((List Binding)×Int)) (v1:(List Binding)×Int):Option ((List Binding)×Int):=
 if (decide (v1.2<(a0.length:Int))) then
 (i7 a0 v1.2).bind fun v3=>
 (a8c v3.Name).bind fun v4=>
 (if v4.2 then some true else (b14 v3.Name).bind fun v5=>
 some (!v5)).bind fun v6=>
 if v6 then
 some ([],5)
 else
 (o7 v1.1 v3).bind fun v7=>
 if v7 then
 some ([],10)
 else
 (b0d v3.Body v1.1).bind fun v8=>
 if (v8.2 != 0) then
 some ([],v8.2)
 else
 (b1f 24 v1.1 [(⟨v3.Name,v8.1⟩:Binding)]).bind fun v9=>
 r2 (v9,i64 (v1.2+1))
 else
 some (v1.1,0)
def b1l (a0:List Let):Option ((List Binding)×Int):=
 if (decide ((a0.length:Int)>10)) then
 some ([],7)
 else
 f7 FU (a5f a0) ([],0)
def b0k (a0:Credit) (a1:Credit):Option Bool:=
 some (a0.Kind==a1.Kind)
def b0i (a0:Grant) (a1:Grant):Option Bool:=
 some (a0.Benefit==a1.Benefit)
def b25 (a0:Expr) (a1:List Binding) (a2:Int):Option Int:=
 (b0d a0 a1).bind fun v1=>
 if (v1.2 != 0) then
 some v1.2
 else
 if (v1.1 != a2) then
 some 6
 else
 some 0
def b0f (a0:Reduce) (a1:Reduce):Option Bool:=
 some (a0.Benefit==a1.Benefit)
def m4 (a0:List Credit) (a1_0:Credit) (r2:Int -> Option Int) (v1:Int):Option Int:=
 if (decide (v1<(a0.length:Int))) then
 (i7 a0 v1).bind fun v3=>
 (b0k v3 a1_0).bind fun v4=>
 if v4 then
 some v1
 else
 r2 (i64 (v1+1))
 else
 some (-1:Int)
def u6 (a0:List Credit) (a1_0:Credit):Option Int:=
 f7 FU (m4 a0 a1_0) 0
def m7 (a0:List Credit) (a1_0:Credit):Option Bool:=
 (u6 a0 a1_0).bind fun v1=>
 some (decide (v1 >= 0))
def m8 (a0:List Grant) (a1_0:Grant) (r2:Int -> Option Int) (v1:Int):Option Int:=
 if (decide (v1<(a0.length:Int))) then
 (i7 a0 v1).bind fun v3=>
 (b0i v3 a1_0).bind fun v4=>
 if v4 then
 some v1
 else
 r2 (i64 (v1+1))
 else
 some (-1:Int)
def w8 (a0:List Grant) (a1_0:Grant):Option Int:=
 f7 FU (m8 a0 a1_0) 0
def o4 (a0:List Grant) (a1_0:Grant):Option Bool:=
 (w8 a0 a1_0).bind fun v1=>
 some (decide (v1 >= 0))
def m6 (a0:List Reduce) (a1_0:Reduce) (r2:Int -> Option Int) (v1:Int):Option Int:=
 if (decide (v1<(a0.length:Int))) then
 (i7 a0 v1).bind fun v3=>
 (b0f v3 a1_0).bind fun v4=>
 if v4 then
 some v1
 else
 r2 (i64 (v1+1))
 else
 some (-1:Int)
def u7 (a0:List Reduce) (a1_0:Reduce):Option Int:=
 f7 FU (m6 a0 a1_0) 0
def m5 (a0:List Reduce) (a1_0:Reduce):Option Bool:=
 (u7 a0 a1_0).bind fun v1=>
 some (decide (v1 >= 0))
def a6o (v12:Version×(List Binding)×Int) (r20:(Version×(List Binding)×Int) -> Option Int) (v19:Version×(List Binding)×Int):Option Int:=
 if (decide (v19.2.2<(v12.1.Reduces.length:Int))) then
 (i7 v12.1.Reduces v19.2.2).bind fun v21=>
 (a3q v19.1.Reduces 0 v19.2.2).bind fun v22=>
 (m5 v22 v21).bind fun v23=>
 if v23 then
 some 10
 else
 (b25 v21.By v19.2.1 2).bind fun v24=>
 if (v24 != 0) then
 some v24
 else
 r20 (v19.1,v19.2.1,i64 (v19.2.2+1))
 else
 some 0
def a6q (v7:Version×(List Binding)×Int) (r13:(Version×(List Binding)×Int) -> Option Int) (v12:Version×(List Binding)×Int):Option Int:=
 if (decide (v12.2.2<(v7.1.Grants.length:Int))) then
 (i7 v7.1.Grants v12.2.2).bind fun v14=>
 (a3q v12.1.Grants 0 v12.2.2).bind fun v15=>
 (o4 v15 v14).bind fun v16=>
 if v16 then
 some 10
 else
 (b25 v14.If v12.2.1 1).bind fun v17=>
 if (v17 != 0) then
 some v17
 else
 (b25 v14.Pay v12.2.1 4).bind fun v18=>
 if (v18 != 0) then
 some v18
 else
 r13 (v12.1,v12.2.1,i64 (v12.2.2+1))
 else
 f7 FU (a6o v12) (v12.1,v12.2.1,0)
def a6t (v2:Version×(List Binding)×Int) (r8:(Version×(List Binding)×Int) -> Option Int) (v7:Version×(List Binding)×Int):Option Int:=
 if (decide (v7.2.2<(v2.1.Series.length:Int))) then
 (i7 v2.1.Series v7.2.2).bind fun v9=>
 (if (decide (v7.2.2>0)) then (i7 v7.1.Series (i64 (v7.2.2-1))).bind fun v10=>
 some (decide (v9.Year <= v10.Year)) else some false).bind fun v11=>
 if v11 then
 some 1
 else
 r8 (v7.1,v7.2.1,i64 (v7.2.2+1))
 else
 f7 FU (a6q v7) (v7.1,v7.2.1,0)
def a6m (a0:Version) (r3:(Version×(List Binding)×Int) -> Option Int) (v2:Version×(List Binding)×Int):Option Int:=
 if (decide (v2.2.2<(a0.Credits.length:Int))) then
 (i7 a0.Credits v2.2.2).bind fun v4=>
 (a3q v2.1.Credits 0 v2.2.2).bind fun v5=>
 (m7 v5 v4).bind fun v6=>
 if v6 then
 some 10
 else
 r3 (v2.1,v2.2.1,i64 (v2.2.2+1))
 else
 f7 FU (a6t v2) (v2.1,v2.2.1,0)
def a9z (a0:Version):Option Int:=
 (b1l a0.Lets).bind fun v1=>
 if (v1.2 != 0) then
 some v1.2
 else
 f7 FU (a6m a0) (a0,v1.1,0)
def a9p (a0:Statute) (r3:(Statute×Int) -> Option (Int×Int)) (v2:Statute×Int):Option (Int×Int):=
 if (decide (v2.2<(a0.Versions.length:Int))) then
 (i7 a0.Versions v2.2).bind fun v4=>
 (if (decide (v2.2>0)) then (i7 v2.1.Versions (i64 (v2.2-1))).bind fun v5=>
 some (decide (v4.From <= v5.From)) else some false).bind fun v6=>
 if v6 then
 some (v2.2,1)
 else
 (a9z v4).bind fun v7=>
 if (v7 != 0) then
 some (v2.2,v7)
 else
 r3 (v2.1,i64 (v2.2+1))
 else
 some (0,0)
def a5j (a0:Statute):Option (Int×Int):=
 (b08 a0).bind fun v1=>
 if (!v1) then
 some (0,1)
 else
 f7 FU (a9p a0) (a0,0)
def a6w (a0:Int) (a1:Int):Option Bool:=
 (if (decide (a0 >= 0)) then some (decide (a0 <= a1)) else some false).bind fun v1=>
 some v1
def b1m (a0:Rules) (r9:(Rules×Int) -> Option Bool) (v8:Rules×Int):Option Bool:=
 if (decide (v8.2<(a0.Members.length:Int))) then
 (i7 a0.Members v8.2).bind fun v10=>
 (a6w v10 5).bind fun v11=>
 (if (!v11) then some true else (if (decide (v8.2>0)) then (i7 v8.1.Members (i64 (v8.2-1))).bind fun v12=>
 some (decide (v10 <= v12)) else some false).bind fun v13=>
 some v13).bind fun v14=>
 if v14 then
 some false
 else
 r9 (v8.1,i64 (v8.2+1))
 else
 some true
def a40 (a0:Rules):Option Bool:=
 (a4c a0.From).bind fun v1=>
 (if (!v1) then some true else (a6w a0.MinDays 73049).bind fun v2=>
 some (!v2)).bind fun v3=>
 (if v3 then some true else (a6w a0.PostingLimit 73049).bind fun v4=>
 some (!v4)).bind fun v5=>
 (if v5 then some true else (a6w a0.Substantial 100).bind fun v6=>
 some (!v6)).bind fun v7=>
 if v7 then
 some false
 else
 f7 FU (b1m a0) (a0,0)
def a1h (a0:List Rules) (r4:Int -> Option Int) (v3:Int):Option Int:=
 if (decide (v3<(a0.length:Int))) then
 (i7 a0 v3).bind fun v5=>
 (a40 v5).bind fun v6=>
 (if (!v6) then some true else (if (decide (v3>0)) then (i7 a0 (i64 (v3-1))).bind fun v7=>
 some (decide (v5.From <= v7.From)) else some false).bind fun v8=>
 some v8).bind fun v9=>
 if v9 then
 some 1
 else
 r4 (i64 (v3+1))
 else
 some 0
def a3c (a0:List Rules):Option Int:=
 if (decide ((a0.length:Int)>8)) then
 some 7
 else
 (if ((a0.length:Int)==0) then some true else (i7 a0 0).bind fun v1=>
 some (v1.From != 0)).bind fun v2=>
 if v2 then
 some 1
 else
 f7 FU (a1h a0) 0
def b6r (a0:Int):Option Bool:=
 (if (decide (a0 >= 1)) then some (decide (a0 <= 999)) else some false).bind fun v1=>
 some v1
def b1j (a0:Int):Option Bool:=
 (if (decide (a0 >= 0)) then some (decide (a0 <= 2399)) else some false).bind fun v1=>
 some v1
def b8s (a0:Int):Option Bool:=
 (b36 a0 4).bind fun v1=>
 (if (v1==0) then (b36 a0 100).bind fun v2=>
 some (v2 != 0) else some false).bind fun v3=>
 (if v3 then some true else (b36 a0 400).bind fun v4=>
 some (v4==0)).bind fun v5=>
 some v5
def b0o (a0:Int) (a1:Int):Option Int:=
 (if (a1==2) then (b8s a0).bind fun v1=>
 some v1 else some false).bind fun v2=>
 if v2 then
 some 29
 else
 (i7 (⟨[31,28,31,30,31,30,31,31,30,31,30,31],rfl⟩:Ar 12 Int).l (i64 (a1-1))).bind fun v3=>
 (i7 (⟨[31,28,31,30,31,30,31,31,30,31,30,31],rfl⟩:Ar 12 Int).l (i64 (a1-1))).bind fun v4=>
 some v4
def b2k (a0:Int):Option Int:=
 (b1j a0).bind fun v1=>
 if (!v1) then
 some 0
 else
 (b9o a0 12).bind fun v2=>
 (b36 a0 12).bind fun v3=>
 (b0o (i64 (1900+v2)) (i64 (v3+1))).bind fun v4=>
 some v4
def c44 (a0:Int):Option Bool:=
 (b2k a0).bind fun v1=>
 some (decide (v1>0))
def b41 (a0:Int):Option Int:=
 if (decide (a0<0)) then
 some (u64 (-(u64 (a0))))
 else
 some (u64 (a0))
def c3w (r2:(Int×Int) -> Option Int) (v1:Int×Int):Option Int:=
 if (v1.2 != 0) then
 (b36 v1.1 v1.2).bind fun v3=>
 r2 (v1.2,v3)
 else
 some v1.1
def c1g (a0:Int) (a1:Int):Option Int:=
 f7 FU c3w (a0,a1)
def b32 (a0:Fraction):Option Bool:=
 (if (decide (a0.Den >= 1)) then some (decide (a0.Den <= 1000000000)) else some false).bind fun v1=>
 (if v1 then some (decide (a0.Num >= (-1000000000000000:Int))) else some false).bind fun v2=>
 (if v2 then some (decide (a0.Num <= 1000000000000000)) else some false).bind fun v3=>
 (if v3 then (b41 a0.Num).bind fun v4=>
 (b41 a0.Den).bind fun v5=>
 (c1g v4 v5).bind fun v6=>
 some (v6==1) else some false).bind fun v7=>
 some v7
def b7g (a0:Int):Option Bool:=
 (if (decide (a0 >= 1)) then some (decide (a0 <= 1000000)) else some false).bind fun v1=>
 some v1
def b7e (a0:List Rate) (r2:Int -> Option Int) (v1:Int):Option Int:=
 if (decide (v1<(a0.length:Int))) then
 (i7 a0 v1).bind fun v3=>
 (b6r v3.Currency).bind fun v4=>
 (if (!v4) then some true else (c44 v3.Month).bind fun v5=>
 some (!v5)).bind fun v6=>
 (if v6 then some true else (b32 v3.Value).bind fun v7=>
 some (!v7)).bind fun v8=>
 (if v8 then some true else (b7g v3.Value.Num).bind fun v9=>
 some (!v9)).bind fun v10=>
 (if v10 then some true else (b7g v3.Value.Den).bind fun v11=>
 some (!v11)).bind fun v12=>
 if v12 then
 some 1
 else
 (if (decide (v1>0)) then (i7 a0 (i64 (v1-1))).bind fun v13=>
 (if (decide (v13.Currency>v3.Currency)) then some true else (i7 a0 (i64 (v1-1))).bind fun v14=>
 (if (v14.Currency==v3.Currency) then (i7 a0 (i64 (v1-1))).bind fun v15=>
 some (decide (v15.Month >= v3.Month)) else some false).bind fun v16=>
 some v16).bind fun v17=>
 some v17 else some false).bind fun v18=>
 if v18 then
 some 1
 else
 r2 (i64 (v1+1))
 else
 some 0
def a1v (a0:List Rate):Option Int:=
 if (decide ((a0.length:Int)>40)) then
 some 7
 else
 f7 FU (b7e a0) 0
def a4b (v1:Laws×Int) (r9:(Laws×Int) -> Option Int) (v8:Laws×Int):Option Int:=
 if (decide (v8.2<(v1.1.States.length:Int))) then
 (i7 v1.1.States v8.2).bind fun v10=>
 (a5j v10.Statute).bind fun v11=>
 if (v11.2 != 0) then
 some v11.2
 else
 r9 (v8.1,i64 (v8.2+1))
 else
 (a3c v8.1.Treaty).bind fun v12=>
 if (v12 != 0) then
 some v12
 else
 (a1v v8.1.Rates).bind fun v13=>
 some v13
def a5i (a0:Laws) (r2:(Laws×Int) -> Option Int) (v1:Laws×Int):Option Int:=
 if (decide (v1.2<(a0.States.length:Int))) then
 (i7 a0.States v1.2).bind fun v3=>
 (if (decide (v3.State<0)) then some true else some (decide (v3.State >= 6))).bind fun v4=>
 (if v4 then some true else (if (decide (v1.2>0)) then (i7 v1.1.States (i64 (v1.2-1))).bind fun v5=>
 some (decide (v3.State <= v5.State)) else some false).bind fun v6=>
 some v6).bind fun v7=>
 if v7 then
 some 1
 else
 r2 (v1.1,i64 (v1.2+1))
 else
 f7 FU (a4b v1) (v1.1,0)
def a4y (a0:Laws):Option Int:=
 f7 FU (a5i a0) (a0,0)
def c8v (a0:List Rules) (r3:((Int×Rules×Bool)×Int) -> Option (Rules×Bool)) (v2:(Int×Rules×Bool)×Int):Option (Rules×Bool):=
 if decide (v2.2<0) then
 some ((⟨0,0,0,0,[]⟩:Rules),false)
 else
 (i7 a0 v2.2).bind fun v4=>
 if (decide (v4.From <= v2.1.1)) then
 (b28 v4.Members).bind fun v5=>
 some ((v2.1.1,(⟨v4.From,v4.MinDays,v4.PostingLimit,v4.Substantial,v5⟩:Rules),true).2.1,(v2.1.1,(⟨v4.From,v4.MinDays,v4.PostingLimit,v4.Substantial,v5⟩:Rules),true).2.2)
 else
 r3 ((v2.1.1,v2.1.2.1,v2.1.2.2),v2.2-1)
def d95 (a0:List Rules) (a1:Int):Option (Rules×Bool):=
 (a4c a1).bind fun v1=>
 if (!v1) then
 some ((⟨0,0,0,0,[]⟩:Rules),false)
 else
 f7 FU (c8v a0) ((a1,(⟨0,0,0,0,[]⟩:Rules),false),(a0.length:Int)-1)
structure Ring_statute_cloneExpr where
 f_statute_cloneExpr:Expr -> Option Expr
def b6l (R:Ring_statute_cloneExpr) (a0:Expr) (r2:((List Expr)×Expr×(List Expr)×Expr×Int) -> Option Expr) (v1:(List Expr)×Expr×(List Expr)×Expr×Int):Option Expr:=
 if (decide (v1.2.2.2.2<(a0.Args.length:Int))) then
 (i7 a0.Args v1.2.2.2.2).bind fun v3=>
 (R.f_statute_cloneExpr v3).bind fun v4=>
 (b1f 72 v1.1 [v4]).bind fun v5=>
 r2 (v5,(⟨v1.2.1.Op,v1.2.1.Value,v1.2.1.Dim,v1.2.1.Name,[]⟩:Expr),v1.2.2.1,(⟨v1.2.2.2.1.Op,v1.2.2.2.1.Value,v1.2.2.2.1.Dim,v1.2.2.2.1.Name,[]⟩:Expr),i64 (v1.2.2.2.2+1))
 else
 some (⟨v1.2.1.Op,v1.2.1.Value,v1.2.1.Dim,v1.2.1.Name,v1.1⟩:Expr)
def b24 (R:Ring_statute_cloneExpr) (a0:Expr):Option Expr:=
 f7 FU (b6l R a0) ([],(⟨a0.Op,a0.Value,a0.Dim,a0.Name,[]⟩:Expr),[],(⟨0,(⟨0,0⟩:Fraction),0,a1y,[]⟩:Expr),0)
def a0a:Nat -> Ring_statute_cloneExpr
 | 0=>⟨fun _=>none⟩
 | n+1=>⟨b24 (a0a n)⟩
def a6p (a0:Expr):Option Expr:=(a0a FU).f_statute_cloneExpr a0
def b4i (v13:(List Credit)×(List Index)×(List Let)×(List Grant)×(List Reduce)×Version×(List Credit)×(List Index)×(List Let)×(List Grant)×(List Reduce)×Version×Int) (r26:((List Credit)×(List Index)×(List Let)×(List Grant)×(List Reduce)×Version×(List Credit)×(List Index)×(List Let)×(List Grant)×(List Reduce)×Version×Int) -> Option Version) (v25:(List Credit)×(List Index)×(List Let)×(List Grant)×(List Reduce)×Version×(List Credit)×(List Index)×(List Let)×(List Grant)×(List Reduce)×Version×Int):Option Version:=
 if (decide (v25.2.2.2.2.2.2.2.2.2.2.2.2<(v13.2.2.2.2.1.length:Int))) then
 (i7 v25.2.2.2.2.1 v25.2.2.2.2.2.2.2.2.2.2.2.2).bind fun v27=>
 (i7 v25.2.2.2.2.1 v25.2.2.2.2.2.2.2.2.2.2.2.2).bind fun v28=>
 (a6p v28.By).bind fun v29=>
 (i7 v25.2.2.2.2.1 v25.2.2.2.2.2.2.2.2.2.2.2.2).bind fun v30=>
 (i7 v25.2.2.2.2.1 v25.2.2.2.2.2.2.2.2.2.2.2.2).bind fun v31=>
 r26 (v25.1,v25.2.1,v25.2.2.1,v25.2.2.2.1,b3d v25.2.2.2.2.1 v25.2.2.2.2.2.2.2.2.2.2.2.2 (⟨v31.Benefit,v29⟩:Reduce),(⟨v25.2.2.2.2.2.1.From,v25.2.2.2.2.2.1.Rounding,[],[],[],[],[]⟩:Version),v25.2.2.2.2.2.2.1,v25.2.2.2.2.2.2.2.1,v25.2.2.2.2.2.2.2.2.1,v25.2.2.2.2.2.2.2.2.2.1,v25.2.2.2.2.2.2.2.2.2.2.1,(⟨v25.2.2.2.2.2.2.2.2.2.2.2.1.From,v25.2.2.2.2.2.2.2.2.2.2.2.1.Rounding,[],[],[],[],[]⟩:Version),i64 (v25.2.2.2.2.2.2.2.2.2.2.2.2+1))
 else
 some (⟨v25.2.2.2.2.2.1.From,v25.2.2.2.2.2.1.Rounding,v25.1,v25.2.1,v25.2.2.1,v25.2.2.2.1,v25.2.2.2.2.1⟩:Version)
def b3w (v6:(List Credit)×(List Index)×(List Let)×(List Grant)×(List Reduce)×Version×(List Credit)×(List Index)×(List Let)×(List Grant)×(List Reduce)×Version×Int) (r14:((List Credit)×(List Index)×(List Let)×(List Grant)×(List Reduce)×Version×(List Credit)×(List Index)×(List Let)×(List Grant)×(List Reduce)×Version×Int) -> Option Version) (v13:(List Credit)×(List Index)×(List Let)×(List Grant)×(List Reduce)×Version×(List Credit)×(List Index)×(List Let)×(List Grant)×(List Reduce)×Version×Int):Option Version:=
 if (decide (v13.2.2.2.2.2.2.2.2.2.2.2.2<(v6.2.2.2.1.length:Int))) then
 (i7 v13.2.2.2.1 v13.2.2.2.2.2.2.2.2.2.2.2.2).bind fun v15=>
 (i7 v13.2.2.2.1 v13.2.2.2.2.2.2.2.2.2.2.2.2).bind fun v16=>
 (a6p v16.If).bind fun v17=>
 (i7 v13.2.2.2.1 v13.2.2.2.2.2.2.2.2.2.2.2.2).bind fun v18=>
 (i7 v13.2.2.2.1 v13.2.2.2.2.2.2.2.2.2.2.2.2).bind fun v19=>
 (a6p v19.Pay).bind fun v20=>
 (i7 v13.2.2.2.1 v13.2.2.2.2.2.2.2.2.2.2.2.2).bind fun v21=>
 (i7 v13.2.2.2.1 v13.2.2.2.2.2.2.2.2.2.2.2.2).bind fun v22=>
 (i7 (b3d v13.2.2.2.1 v13.2.2.2.2.2.2.2.2.2.2.2.2 (⟨v22.Benefit,v17,v22.Pay⟩:Grant)) v13.2.2.2.2.2.2.2.2.2.2.2.2).bind fun v23=>
 (i7 (b3d v13.2.2.2.1 v13.2.2.2.2.2.2.2.2.2.2.2.2 (⟨v22.Benefit,v17,v22.Pay⟩:Grant)) v13.2.2.2.2.2.2.2.2.2.2.2.2).bind fun v24=>
 r14 (v13.1,v13.2.1,v13.2.2.1,b3d (b3d v13.2.2.2.1 v13.2.2.2.2.2.2.2.2.2.2.2.2 (⟨v22.Benefit,v17,v22.Pay⟩:Grant)) v13.2.2.2.2.2.2.2.2.2.2.2.2 (⟨v24.Benefit,v24.If,v20⟩:Grant),v13.2.2.2.2.1,(⟨v13.2.2.2.2.2.1.From,v13.2.2.2.2.2.1.Rounding,[],[],[],[],[]⟩:Version),v13.2.2.2.2.2.2.1,v13.2.2.2.2.2.2.2.1,v13.2.2.2.2.2.2.2.2.1,v13.2.2.2.2.2.2.2.2.2.1,v13.2.2.2.2.2.2.2.2.2.2.1,(⟨v13.2.2.2.2.2.2.2.2.2.2.2.1.From,v13.2.2.2.2.2.2.2.2.2.2.2.1.Rounding,[],[],[],[],[]⟩:Version),i64 (v13.2.2.2.2.2.2.2.2.2.2.2.2+1))
 else
 f7 FU (b4i v13) (v13.1,v13.2.1,v13.2.2.1,v13.2.2.2.1,v13.2.2.2.2.1,(⟨v13.2.2.2.2.2.1.From,v13.2.2.2.2.2.1.Rounding,[],[],[],[],[]⟩:Version),v13.2.2.2.2.2.2.1,v13.2.2.2.2.2.2.2.1,v13.2.2.2.2.2.2.2.2.1,v13.2.2.2.2.2.2.2.2.2.1,v13.2.2.2.2.2.2.2.2.2.2.1,(⟨v13.2.2.2.2.2.2.2.2.2.2.2.1.From,v13.2.2.2.2.2.2.2.2.2.2.2.1.Rounding,[],[],[],[],[]⟩:Version),0)
def b46 (v3:List Let) (r7:((List Credit)×(List Index)×(List Let)×(List Grant)×(List Reduce)×Version×(List Credit)×(List Index)×(List Let)×(List Grant)×(List Reduce)×Version×Int) -> Option Version) (v6:(List Credit)×(List Index)×(List Let)×(List Grant)×(List Reduce)×Version×(List Credit)×(List Index)×(List Let)×(List Grant)×(List Reduce)×Version×Int):Option Version:=
 if (decide (v6.2.2.2.2.2.2.2.2.2.2.2.2<(v3.length:Int))) then
 (i7 v6.2.2.1 v6.2.2.2.2.2.2.2.2.2.2.2.2).bind fun v8=>
 (i7 v6.2.2.1 v6.2.2.2.2.2.2.2.2.2.2.2.2).bind fun v9=>
 (a6p v9.Body).bind fun v10=>
 (i7 v6.2.2.1 v6.2.2.2.2.2.2.2.2.2.2.2.2).bind fun v11=>
 (i7 v6.2.2.1 v6.2.2.2.2.2.2.2.2.2.2.2.2).bind fun v12=>
 r7 (v6.1,v6.2.1,b3d v6.2.2.1 v6.2.2.2.2.2.2.2.2.2.2.2.2 (⟨v12.Name,v10⟩:Let),v6.2.2.2.1,v6.2.2.2.2.1,(⟨v6.2.2.2.2.2.1.From,v6.2.2.2.2.2.1.Rounding,[],[],[],[],[]⟩:Version),v6.2.2.2.2.2.2.1,v6.2.2.2.2.2.2.2.1,v6.2.2.2.2.2.2.2.2.1,v6.2.2.2.2.2.2.2.2.2.1,v6.2.2.2.2.2.2.2.2.2.2.1,(⟨v6.2.2.2.2.2.2.2.2.2.2.2.1.From,v6.2.2.2.2.2.2.2.2.2.2.2.1.Rounding,[],[],[],[],[]⟩:Version),i64 (v6.2.2.2.2.2.2.2.2.2.2.2.2+1))
 else
 f7 FU (b3w v6) (v6.1,v6.2.1,v6.2.2.1,v6.2.2.2.1,v6.2.2.2.2.1,(⟨v6.2.2.2.2.2.1.From,v6.2.2.2.2.2.1.Rounding,[],[],[],[],[]⟩:Version),v6.2.2.2.2.2.2.1,v6.2.2.2.2.2.2.2.1,v6.2.2.2.2.2.2.2.2.1,v6.2.2.2.2.2.2.2.2.2.1,v6.2.2.2.2.2.2.2.2.2.2.1,(⟨v6.2.2.2.2.2.2.2.2.2.2.2.1.From,v6.2.2.2.2.2.2.2.2.2.2.2.1.Rounding,[],[],[],[],[]⟩:Version),0)
def b0q (a0:Version):Option Version:=
 (a71 a0.Credits).bind fun v1=>
 (a7s a0.Series).bind fun v2=>
 (a92 a0.Lets).bind fun v3=>
 (a7t a0.Grants).bind fun v4=>
 (a74 a0.Reduces).bind fun v5=>
 f7 FU (b46 v3) (v1,v2,v3,v4,v5,(⟨a0.From,a0.Rounding,[],[],[],[],[]⟩:Version),[],[],[],[],[],(⟨0,(⟨0,0⟩:Rounding),[],[],[],[],[]⟩:Version),0)
def c86 (a0:Statute) (r3:((Int×Version×Bool)×Int) -> Option (Version×Bool)) (v2:(Int×Version×Bool)×Int):Option (Version×Bool):=
 if decide (v2.2<0) then
 some ((⟨0,(⟨0,0⟩:Rounding),[],[],[],[],[]⟩:Version),false)
 else
 (i7 a0.Versions v2.2).bind fun v4=>
 if (decide (v4.From <= v2.1.1)) then
 (b0q v4).bind fun v5=>
 some ((v2.1.1,v5,true).2.1,(v2.1.1,v5,true).2.2)
 else
 r3 ((v2.1.1,v2.1.2.1,v2.1.2.2),v2.2-1)
def d61 (a0:Statute) (a1:Int):Option (Version×Bool):=
 (a4c a1).bind fun v1=>
 if (!v1) then
 some ((⟨0,(⟨0,0⟩:Rounding),[],[],[],[],[]⟩:Version),false)
 else
 f7 FU (c86 a0) ((a1,(⟨0,(⟨0,0⟩:Rounding),[],[],[],[],[]⟩:Version),false),(a0.Versions.length:Int)-1)
def c2r (a0:Span):Option Span:=
 some (⟨max a0.From 0,min a0.To 73049⟩:Span)
def e4r (a0:Int):Option Int:=
 (c09 a0).bind fun v1=>
 some v1
def c84 (v6:List Span) (r8:((List Span)×(List Span)×Int) -> Option (List Span)) (v7:(List Span)×(List Span)×Int):Option (List Span):=
 if (decide (v7.2.2<(v6.length:Int))) then
 (i7 v7.2.1 v7.2.2).bind fun v9=>
 (i7 v7.2.1 v7.2.2).bind fun v10=>
 (if (decide ((v7.1.length:Int)>0)) then (i7 v7.1 (i64 ((v7.1.length:Int)-1))).bind fun v11=>
 (i7 v7.1 (i64 ((v7.1.length:Int)-1))).bind fun v12=>
 some (decide (v10.From <= v12.To)) else some false).bind fun v13=>
 if v13 then
 (i7 v7.1 (i64 ((v7.1.length:Int)-1))).bind fun v14=>
 (i7 v7.1 (i64 ((v7.1.length:Int)-1))).bind fun v15=>
 (i7 v7.1 (i64 ((v7.1.length:Int)-1))).bind fun v16=>
 (i7 v7.1 (i64 ((v7.1.length:Int)-1))).bind fun v17=>
 r8 (b3d v7.1 (i64 ((v7.1.length:Int)-1)) (⟨v17.From,max v15.To v10.To⟩:Span),v7.2.1,i64 (v7.2.2+1))
 else
 (b1f 16 v7.1 [v10]).bind fun v18=>
 r8 (v18,v7.2.1,i64 (v7.2.2+1))
 else
 some v7.1
def c8a (a0:List Span) (r2:((List Span)×(List Span)×Int) -> Option (List Span)) (v1:(List Span)×(List Span)×Int):Option (List Span):=
 if (decide (v1.2.2<(a0.length:Int))) then
 (i7 a0 v1.2.2).bind fun v3=>
 (c2r v3).bind fun v4=>
 if (decide (v4.From<v4.To)) then
 (b1f 16 v1.1 [v4]).bind fun v5=>
 r2 (v5,[],i64 (v1.2.2+1))
 else
 r2 (v1.1,[],i64 (v1.2.2+1))
 else
 (b00 v1.1).bind fun v6=>
 f7 FU (c84 v6) ([],v6,0)
def d6b (a0:List Span):Option (List Span):=
 f7 FU (c8a a0) ([],[],0)
def b3e (a0:Int):Option Bool:=
 (if (decide (a0<0)) then some true else some (decide (a0>1000000000000))).bind fun v1=>
 some v1
def a4e (a0:List Int) (r2:Int -> Option Int) (v1:Int):Option Int:=
 if (decide (v1<(a0.length:Int))) then
 (i7 a0 v1).bind fun v3=>
 (b3e v3).bind fun v4=>
 if v4 then
 some v1
 else
 r2 (i64 (v1+1))
 else
 some (-1:Int)
def a1m (a0:List Int):Option Int:=
 f7 FU (a4e a0) 0
def a14 (a0:List Int):Option Bool:=
 (a1m a0).bind fun v1=>
 some (decide (v1 >= 0))
def b55 (a0:List Int):Option Bool:=
 (if (decide ((a0.length:Int) <= 200)) then (a14 a0).bind fun v1=>
 some (!v1) else some false).bind fun v2=>
 some v2
def b9r (a0:View) (r9:(View×Int) -> Option Bool) (v8:View×Int):Option Bool:=
 if (decide (v8.2<7)) then
 (i7 (⟨[a0.Insured,a0.Worked,a0.Voluntary,a0.Service,a0.Equated,a0.Raising,a0.Resident],rfl⟩:Ar 7 Int).l v8.2).bind fun v10=>
 (if (decide (v10<0)) then some true else some (decide (v10>73049))).bind fun v11=>
 if v11 then
 some false
 else
 r9 (v8.1,i64 (v8.2+1))
 else
 (b32 v8.1.Base).bind fun v12=>
 (if v12 then some (decide (v8.1.Base.Num >= 0)) else some false).bind fun v13=>
 (if v13 then (b9o v8.1.Base.Num v8.1.Base.Den).bind fun v14=>
 some (decide (v14 <= 1000000000000)) else some false).bind fun v15=>
 (if v15 then (b9o v8.1.Base.Num v8.1.Base.Den).bind fun v16=>
 (if (decide (v16<1000000000000)) then some true else (b36 v8.1.Base.Num v8.1.Base.Den).bind fun v17=>
 some (v17==0)).bind fun v18=>
 some v18 else some false).bind fun v19=>
 some v19
def b6v (a0:View):Option Bool:=
 (if (decide (a0.Age<0)) then some true else some (decide (a0.Age>199))).bind fun v1=>
 (if v1 then some true else some (decide (a0.Year<1900))).bind fun v2=>
 (if v2 then some true else some (decide (a0.Year>2099))).bind fun v3=>
 (if v3 then some true else some (decide (a0.Children<0))).bind fun v4=>
 (if v4 then some true else some (decide (a0.Children>99))).bind fun v5=>
 (if v5 then some true else (b55 a0.Years).bind fun v6=>
 some (!v6)).bind fun v7=>
 if v7 then
 some false
 else
 f7 FU (b9r a0) (a0,0)
def a27 (a0:Int) (a1:Fraction):Option Value:=
 some (⟨a0,false,a1⟩:Value)
def c5p (a0:View) (a1:ByteArray):Option (Value×Bool):=
 (a8c a1).bind fun v1=>
 (if (!v1.2) then some true else (b6v a0).bind fun v2=>
 some (!v2)).bind fun v3=>
 if v3 then
 some ((⟨0,false,(⟨0,0⟩:Fraction)⟩:Value),false)
 else
 if (a1.toList==a6x.toList) then
 (a27 v1.1 a0.Base).bind fun v4=>
 some (v4,true)
 else
 if (a1.toList==b2v.toList) then
 (a27 v1.1 (⟨a0.Age,1⟩:Fraction)).bind fun v5=>
 some (v5,true)
 else
 if (a1.toList==b93.toList) then
 (a27 v1.1 (⟨a0.Year,1⟩:Fraction)).bind fun v6=>
 some (v6,true)
 else
 if (a1.toList==a6j.toList) then
 (a27 v1.1 (⟨a0.Children,1⟩:Fraction)).bind fun v7=>
 some (v7,true)
 else
 if (a1.toList==a1l.toList) then
 (a27 v1.1 (⟨a0.Insured,1⟩:Fraction)).bind fun v8=>
 some (v8,true)
 else
 if (a1.toList==a8j.toList) then
 (a27 v1.1 (⟨a0.Worked,1⟩:Fraction)).bind fun v9=>
 some (v9,true)
 else
 if (a1.toList==a2i.toList) then
 (a27 v1.1 (⟨a0.Voluntary,1⟩:Fraction)).bind fun v10=>
 some (v10,true)
 else
 if (a1.toList==a6d.toList) then
 (a27 v1.1 (⟨a0.Service,1⟩:Fraction)).bind fun v11=>
 some (v11,true)
 else
 if (a1.toList==a6c.toList) then
 (a27 v1.1 (⟨a0.Equated,1⟩:Fraction)).bind fun v12=>
 some (v12,true)
 else
 if (a1.toList==b1x.toList) then
 (a27 v1.1 (⟨a0.Raising,1⟩:Fraction)).bind fun v13=>
 some (v13,true)
 else
 if (a1.toList==b61.toList) then
 (a27 v1.1 (⟨a0.Resident,1⟩:Fraction)).bind fun v14=>
 some (v14,true)
 else
 (a27 v1.1 (⟨0,1⟩:Fraction)).bind fun v15=>
 some (v15,true)
def b51 (a0:eval_evaluator) (r3:((ByteArray×Value)×Int) -> Option Value) (v2:(ByteArray×Value)×Int):Option Value:=
 if decide (v2.2<0) then
 some (⟨0,false,(⟨0,0⟩:Fraction)⟩:Value)
 else
 (i7 a0.steps v2.2).bind fun v4=>
 if (v4.Name.toList==v2.1.1.toList) then
 some ((v2.1.1,v4.Value).2)
 else
 r3 ((v2.1.1,v2.1.2),v2.2-1)
def b81 (a0:eval_evaluator) (a1:ByteArray):Option Value:=
 (c5p a0.view a1).bind fun v1=>
 if v1.2 then
 some v1.1
 else
 f7 FU (b51 a0) ((a1,(⟨0,false,(⟨0,0⟩:Fraction)⟩:Value)),(a0.steps.length:Int)-1)
def a0o (v2:ByteArray×Bool):Option (Int×Bool):=
 if v2.2 then
 some (3,true)
 else
 if (v2.1.toList==a6x.toList) then
 some (4,true)
 else
 some (0,false)
def a7f (v1:ByteArray×Bool):Option (Int×Bool):=
 if v1.2 then
 some (2,true)
 else
 if (v1.1.toList==a1l.toList) then
 g9 a0o (v1.1,v1.1.toList==a1l.toList)
 else
 if (v1.1.toList==a8j.toList) then
 g9 a0o (v1.1,v1.1.toList==a8j.toList)
 else
 if (v1.1.toList==a2i.toList) then
 g9 a0o (v1.1,v1.1.toList==a2i.toList)
 else
 if (v1.1.toList==a6d.toList) then
 g9 a0o (v1.1,v1.1.toList==a6d.toList)
 else
 if (v1.1.toList==a6c.toList) then
 g9 a0o (v1.1,v1.1.toList==a6c.toList)
 else
 if (v1.1.toList==b1x.toList) then
 g9 a0o (v1.1,v1.1.toList==b1x.toList)
 else
 g9 a0o (v1.1,v1.1.toList==b61.toList)
def a4l (a0:ByteArray):Option (Int×Bool):=
 if (a0.toList==b2v.toList) then
 g9 a7f (a0,a0.toList==b2v.toList)
 else
 if (a0.toList==b93.toList) then
 g9 a7f (a0,a0.toList==b93.toList)
 else
 g9 a7f (a0,a0.toList==a6j.toList)
def a63 (a0:Int) (a1:List Int):Option Int:=
 if (a0==5) then
 (i7 a1 0).bind fun v1=>
 if (v1==1) then
 some 1
 else
 some 0
 else
 (if (a0==4) then some true else some (a0==6)).bind fun v2=>
 if v2 then
 (i7 a1 0).bind fun v3=>
 if (v3 != 1) then
 (i7 a1 0).bind fun v4=>
 some v4
 else
 some 0
 else
 (if (a0==7) then some true else some (a0==8)).bind fun v5=>
 (if v5 then some true else some (a0==19)).bind fun v6=>
 (if v6 then some true else some (a0==20)).bind fun v7=>
 if v7 then
 (i7 a1 0).bind fun v8=>
 (i7 a1 1).bind fun v9=>
 (if (v8==v9) then (i7 a1 0).bind fun v10=>
 some (v10 != 1) else some false).bind fun v11=>
 if v11 then
 (i7 a1 0).bind fun v12=>
 some v12
 else
 some 0
 else
 if (a0==9) then
 (i7 a1 0).bind fun v13=>
 (if (v13==2) then (i7 a1 1).bind fun v14=>
 some (v14 != 1) else some false).bind fun v15=>
 if v15 then
 (i7 a1 1).bind fun v16=>
 some v16
 else
 (i7 a1 1).bind fun v17=>
 (if (v17==2) then (i7 a1 0).bind fun v18=>
 some (v18 != 1) else some false).bind fun v19=>
 if v19 then
 (i7 a1 0).bind fun v20=>
 some v20
 else
 some 0
 else
 if (a0==10) then
 (i7 a1 1).bind fun v21=>
 (if (v21==2) then (i7 a1 0).bind fun v22=>
 some (v22 != 1) else some false).bind fun v23=>
 if v23 then
 (i7 a1 0).bind fun v24=>
 some v24
 else
 (i7 a1 0).bind fun v25=>
 (i7 a1 1).bind fun v26=>
 (if (v25==v26) then (i7 a1 0).bind fun v27=>
 some (v27 != 1) else some false).bind fun v28=>
 if v28 then
 some 2
 else
 some 0
 else
 (if (a0==17) then some true else some (a0==18)).bind fun v29=>
 if v29 then
 (i7 a1 0).bind fun v30=>
 (if (v30==1) then (i7 a1 1).bind fun v31=>
 some (v31==1) else some false).bind fun v32=>
 if v32 then
 some 1
 else
 some 0
 else
 if (a0==21) then
 (i7 a1 0).bind fun v33=>
 (if (v33==1) then (i7 a1 1).bind fun v34=>
 (i7 a1 2).bind fun v35=>
 some (v34==v35) else some false).bind fun v36=>
 if v36 then
 (i7 a1 1).bind fun v37=>
 some v37
 else
 some 0
 else
 (i7 a1 0).bind fun v38=>
 (i7 a1 1).bind fun v39=>
 (if (v38==v39) then (i7 a1 0).bind fun v40=>
 some (v40 != 1) else some false).bind fun v41=>
 if v41 then
 some 1
 else
 some 0
structure Ring_pensionref5_infer where
 f_pensionref5_infer:Expr -> (List Binding) -> Option (Int×Int)
def a7d (R:Ring_pensionref5_infer) (a1:List Binding) (r3:(Expr×Int) -> Option (Int×Int)) (v2:Expr×Int):Option (Int×Int):=
 if (decide (v2.2 >= 0)) then
 (i7 a1 v2.2).bind fun v4=>
 if (v4.Name.toList==v2.1.Name.toList) then
 (i7 a1 v2.2).bind fun v5=>
 some (v5.Dim,0)
 else
 r3 (v2.1,i64 (v2.2-1))
 else
 some (0,5)
def a4h (R:Ring_pensionref5_infer) (a1:List Binding) (r7:(Expr×(List Int)×Int) -> Option (Int×Int)) (v6:Expr×(List Int)×Int):Option (Int×Int):=
 if (decide (v6.2.2<(v6.1.Args.length:Int))) then
 (i7 v6.1.Args v6.2.2).bind fun v8=>
 (R.f_pensionref5_infer v8 a1).bind fun v9=>
 if (v9.2 != 0) then
 some (0,v9.2)
 else
 (b1f 8 v6.2.1 [v9.1]).bind fun v10=>
 r7 (v6.1,v10,i64 (v6.2.2+1))
 else
 (a63 v6.1.Op v6.2.1).bind fun v11=>
 if (v11==0) then
 some (0,6)
 else
 some (v11,0)
def y2 (R:Ring_pensionref5_infer) (a0:Expr) (a1:List Binding):Option (Int×Int):=
 if (a0.Op==1) then
 some (a0.Dim,0)
 else
 if (a0.Op==3) then
 some (4,0)
 else
 if (a0.Op==2) then
 (a4l a0.Name).bind fun v1=>
 if v1.2 then
 some (v1.1,0)
 else
 f7 FU (a7d R a1) (a0,i64 ((a1.length:Int)-1))
 else
 f7 FU (a4h R a1) (a0,[],0)
def l9:Nat -> Ring_pensionref5_infer
 | 0=>⟨fun _ _=>none⟩
 | n+1=>⟨y2 (l9 n)⟩
def b3p (a0:Expr) (a1:List Binding):Option (Int×Int):=(l9 FU).f_pensionref5_infer a0 a1
def a7c (a1:List Binding) (r3:(Expr×Int) -> Option (Int×Int)) (v2:Expr×Int):Option (Int×Int):=
 if (decide (v2.2<(a1.length:Int))) then
 (i7 a1 v2.2).bind fun v4=>
 (if (decide (v4.Dim<1)) then some true else (i7 a1 v2.2).bind fun v5=>
 some (decide (v5.Dim>4))).bind fun v6=>
 if v6 then
 some (0,1)
 else
 r3 (v2.1,i64 (v2.2+1))
 else
 (b3p v2.1 a1).bind fun v7=>
 some (v7.1,v7.2)
def a4k (a0:Expr) (a1:List Binding):Option (Int×Int):=
 (s4 a0).bind fun v1=>
 if (!v1) then
 some (0,1)
 else
 f7 FU (a7c a1) (a0,0)
def a15 (v1:(List Binding)×Int) (a0:List Let) (r2:((List Binding)×Int) -> Option ((List Binding)×Int)) (r9:((List Binding)×Int) -> Option ((List Binding)×Int)) (v8:(List Binding)×Int):Option ((List Binding)×Int):=
 if (decide (v8.2<v1.2)) then
 (i7 a0 v8.2).bind fun v10=>
 (i7 a0 v1.2).bind fun v11=>
 if (v10.Name.toList==v11.Name.toList) then
 some ([],10)
 else
 r9 (v8.1,i64 (v8.2+1))
 else
 (i7 a0 v1.2).bind fun v12=>
 (a4k v12.Body v8.1).bind fun v13=>
 if (v13.2 != 0) then
 some ([],v13.2)
 else
 (i7 a0 v1.2).bind fun v14=>
 (b1f 24 v8.1 [(⟨v14.Name,v13.1⟩:Binding)]).bind fun v15=>
 r2 (v15,i64 (v1.2+1))
def a2h (a0:List Let) (r2:((List Binding)×Int) -> Option ((List Binding)×Int)) (v1:(List Binding)×Int):Option ((List Binding)×Int):=
 if (decide (v1.2<(a0.length:Int))) then
 (i7 a0 v1.2).bind fun v3=>
 (a4l v3.Name).bind fun v4=>
 (if v4.2 then some true else (i7 a0 v1.2).bind fun v5=>
 (p7 v5.Name).bind fun v6=>
 some (!v6)).bind fun v7=>
 if v7 then
 some ([],5)
 else
 f7 FU (a15 v1 a0 r2) (v1.1,0)
 else
 some (v1.1,0)
def a5b (a0:List Let):Option ((List Binding)×Int):=
 if (decide ((a0.length:Int)>10)) then
 some ([],7)
 else
 f7 FU (a2h a0) ([],0)
def a2f (a0:Expr) (a1:List Binding) (a2:Int):Option Int:=
 (a4k a0 a1).bind fun v1=>
 (if (v1.2==0) then some (v1.1 != a2) else some false).bind fun v2=>
 if v2 then
 some 6
 else
 some v1.2
def a5w (v2:Version×(List Binding)×Int) (r3:(Version×(List Binding)×Int) -> Option Int) (r5:(Version×(List Binding)×Int) -> Option Int) (v4:Version×(List Binding)×Int):Option Int:=
 if (decide (v4.2.2<v2.2.2)) then
 (i7 v4.1.Credits v4.2.2).bind fun v6=>
 (i7 v4.1.Credits v2.2.2).bind fun v7=>
 if (v6.Kind==v7.Kind) then
 some 10
 else
 r5 (v4.1,v4.2.1,i64 (v4.2.2+1))
 else
 r3 (v4.1,v4.2.1,i64 (v2.2.2+1))
def a5k (v12:Version×(List Binding)×Int) (r13:(Version×(List Binding)×Int) -> Option Int) (r15:(Version×(List Binding)×Int) -> Option Int) (v14:Version×(List Binding)×Int):Option Int:=
 if (decide (v14.2.2<v12.2.2)) then
 (i7 v14.1.Grants v14.2.2).bind fun v16=>
 (i7 v14.1.Grants v12.2.2).bind fun v17=>
 if (v16.Benefit==v17.Benefit) then
 some 10
 else
 r15 (v14.1,v14.2.1,i64 (v14.2.2+1))
 else
 (i7 v14.1.Grants v12.2.2).bind fun v18=>
 (a2f v18.If v14.2.1 1).bind fun v19=>
 if (v19 != 0) then
 some v19
 else
 (i7 v14.1.Grants v12.2.2).bind fun v20=>
 (a2f v20.Pay v14.2.1 4).bind fun v21=>
 if (v21 != 0) then
 some v21
 else
 r13 (v14.1,v14.2.1,i64 (v12.2.2+1))
def a5t (v22:Version×(List Binding)×Int) (r23:(Version×(List Binding)×Int) -> Option Int) (r25:(Version×(List Binding)×Int) -> Option Int) (v24:Version×(List Binding)×Int):Option Int:=
 if (decide (v24.2.2<v22.2.2)) then
 (i7 v24.1.Reduces v24.2.2).bind fun v26=>
 (i7 v24.1.Reduces v22.2.2).bind fun v27=>
 if (v26.Benefit==v27.Benefit) then
 some 10
 else
 r25 (v24.1,v24.2.1,i64 (v24.2.2+1))
 else
 (i7 v24.1.Reduces v22.2.2).bind fun v28=>
 (a2f v28.By v24.2.1 2).bind fun v29=>
 if (v29 != 0) then
 some v29
 else
 r23 (v24.1,v24.2.1,i64 (v22.2.2+1))
def a3l (r23:(Version×(List Binding)×Int) -> Option Int) (v22:Version×(List Binding)×Int):Option Int:=
 if (decide (v22.2.2<(v22.1.Reduces.length:Int))) then
 f7 FU (a5t v22 r23) (v22.1,v22.2.1,0)
 else
 some 0
def a3n (r13:(Version×(List Binding)×Int) -> Option Int) (v12:Version×(List Binding)×Int):Option Int:=
 if (decide (v12.2.2<(v12.1.Grants.length:Int))) then
 f7 FU (a5k v12 r13) (v12.1,v12.2.1,0)
 else
 f7 FU a3l (v12.1,v12.2.1,0)
def a24 (r9:(Version×(List Binding)×Int) -> Option Int) (v8:Version×(List Binding)×Int):Option Int:=
 if (decide (v8.2.2<(v8.1.Series.length:Int))) then
 (i7 v8.1.Series v8.2.2).bind fun v10=>
 (i7 v8.1.Series (i64 (v8.2.2-1))).bind fun v11=>
 if (decide (v10.Year <= v11.Year)) then
 some 1
 else
 r9 (v8.1,v8.2.1,i64 (v8.2.2+1))
 else
 f7 FU a3n (v8.1,v8.2.1,0)
def a3o (r3:(Version×(List Binding)×Int) -> Option Int) (v2:Version×(List Binding)×Int):Option Int:=
 if (decide (v2.2.2<(v2.1.Credits.length:Int))) then
 f7 FU (a5w v2 r3) (v2.1,v2.2.1,0)
 else
 f7 FU a24 (v2.1,v2.2.1,1)
def a55 (a0:Version):Option Int:=
 (a5b a0.Lets).bind fun v1=>
 if (v1.2 != 0) then
 some v1.2
 else
 f7 FU a3o (a0,v1.1,0)
def a5s (r3:(Statute×Int) -> Option (Int×Int)) (v2:Statute×Int):Option (Int×Int):=
 if (decide (v2.2<(v2.1.Versions.length:Int))) then
 (if (decide (v2.2>0)) then (i7 v2.1.Versions v2.2).bind fun v4=>
 (i7 v2.1.Versions (i64 (v2.2-1))).bind fun v5=>
 some (decide (v4.From <= v5.From)) else some false).bind fun v6=>
 if v6 then
 some (v2.2,1)
 else
 (i7 v2.1.Versions v2.2).bind fun v7=>
 (a55 v7).bind fun v8=>
 if (v8 != 0) then
 some (v2.2,v8)
 else
 r3 (v2.1,i64 (v2.2+1))
 else
 some (0,0)
def a2d (a0:Statute):Option (Int×Int):=
 (a19 a0).bind fun v1=>
 if (!v1) then
 some (0,1)
 else
 f7 FU a5s (a0,0)
def a3z (r4:Int -> Option Int) (v3:Int) (r17:(Rules×Int) -> Option Int) (v16:Rules×Int):Option Int:=
 if (decide (v16.2<(v16.1.Members.length:Int))) then
 (i7 v16.1.Members v16.2).bind fun v18=>
 (if (decide (v18<0)) then some true else (i7 v16.1.Members v16.2).bind fun v19=>
 some (decide (v19 >= 6))).bind fun v20=>
 (if v20 then some true else (if (decide (v16.2>0)) then (i7 v16.1.Members v16.2).bind fun v21=>
 (i7 v16.1.Members (i64 (v16.2-1))).bind fun v22=>
 some (decide (v21 <= v22)) else some false).bind fun v23=>
 some v23).bind fun v24=>
 if v24 then
 some 1
 else
 r17 (v16.1,i64 (v16.2+1))
 else
 r4 (i64 (v3+1))
def a18 (a0:List Rules) (r4:Int -> Option Int) (v3:Int):Option Int:=
 if (decide (v3<(a0.length:Int))) then
 (i7 a0 v3).bind fun v5=>
 (a08 v5.From).bind fun v6=>
 (if (!v6) then some true else (if (decide (v3>0)) then (i7 a0 (i64 (v3-1))).bind fun v7=>
 some (decide (v5.From <= v7.From)) else some false).bind fun v8=>
 some v8).bind fun v9=>
 (if v9 then some true else some (decide (v5.MinDays<0))).bind fun v10=>
 (if v10 then some true else some (decide (v5.MinDays>73049))).bind fun v11=>
 (if v11 then some true else some (decide (v5.PostingLimit<0))).bind fun v12=>
 (if v12 then some true else some (decide (v5.PostingLimit>73049))).bind fun v13=>
 (if v13 then some true else some (decide (v5.Substantial<0))).bind fun v14=>
 (if v14 then some true else some (decide (v5.Substantial>100))).bind fun v15=>
 if v15 then
 some 1
 else
 f7 FU (a3z r4 v3) (v5,0)
 else
 some 0
def a0p (a0:List Rules):Option Int:=
 if (decide ((a0.length:Int)>8)) then
 some 7
 else
 (if ((a0.length:Int)==0) then some true else (i7 a0 0).bind fun v1=>
 some (v1.From != 0)).bind fun v2=>
 if v2 then
 some 1
 else
 f7 FU (a18 a0) 0
def a99 (a0:Int):Option Bool:=
 (if (decide (a0 >= 0)) then some (decide (a0 <= 2399)) else some false).bind fun v1=>
 some v1
def b2x (a0:List Rate) (r2:Int -> Option Int) (v1:Int):Option Int:=
 if (decide (v1<(a0.length:Int))) then
 (i7 a0 v1).bind fun v3=>
 (i7 a0 v1).bind fun v4=>
 (if (decide (v4.Currency<1)) then some true else (i7 a0 v1).bind fun v5=>
 some (decide (v5.Currency>999))).bind fun v6=>
 (if v6 then some true else (i7 a0 v1).bind fun v7=>
 (a99 v7.Month).bind fun v8=>
 some (!v8)).bind fun v9=>
 (if v9 then some true else (s5 v3.Value).bind fun v10=>
 some (!v10)).bind fun v11=>
 (if v11 then some true else some (decide (v3.Value.Num<1))).bind fun v12=>
 (if v12 then some true else some (decide (v3.Value.Num>1000000))).bind fun v13=>
 (if v13 then some true else some (decide (v3.Value.Den>1000000))).bind fun v14=>
 if v14 then
 some 1
 else
 (if (decide (v1>0)) then (i7 a0 (i64 (v1-1))).bind fun v15=>
 (i7 a0 v1).bind fun v16=>
 (if (decide (v15.Currency>v16.Currency)) then some true else (i7 a0 (i64 (v1-1))).bind fun v17=>
 (i7 a0 v1).bind fun v18=>
 (if (v17.Currency==v18.Currency) then (i7 a0 (i64 (v1-1))).bind fun v19=>
 (i7 a0 v1).bind fun v20=>
 some (decide (v19.Month >= v20.Month)) else some false).bind fun v21=>
 some v21).bind fun v22=>
 some v22 else some false).bind fun v23=>
 if v23 then
 some 1
 else
 r2 (i64 (v1+1))
 else
 some 0
def a0v (a0:List Rate):Option Int:=
 if (decide ((a0.length:Int)>40)) then
 some 7
 else
 f7 FU (b2x a0) 0
def a47 (r9:(Laws×Int) -> Option Int) (v8:Laws×Int):Option Int:=
 if (decide (v8.2<(v8.1.States.length:Int))) then
 (i7 v8.1.States v8.2).bind fun v10=>
 (a2d v10.Statute).bind fun v11=>
 if (v11.2 != 0) then
 some v11.2
 else
 r9 (v8.1,i64 (v8.2+1))
 else
 (a0p v8.1.Treaty).bind fun v12=>
 if (v12 != 0) then
 some v12
 else
 (a0v v8.1.Rates).bind fun v13=>
 some v13
def a7u (r2:(Laws×Int) -> Option Int) (v1:Laws×Int):Option Int:=
 if (decide (v1.2<(v1.1.States.length:Int))) then
 (i7 v1.1.States v1.2).bind fun v3=>
 (if (decide (v3.State<0)) then some true else some (decide (v3.State >= 6))).bind fun v4=>
 (if v4 then some true else (if (decide (v1.2>0)) then (i7 v1.1.States (i64 (v1.2-1))).bind fun v5=>
 some (decide (v3.State <= v5.State)) else some false).bind fun v6=>
 some v6).bind fun v7=>
 if v7 then
 some 1
 else
 r2 (v1.1,i64 (v1.2+1))
 else
 f7 FU a47 (v1.1,0)
def y7 (a0:Laws):Option Int:=
 f7 FU a7u (a0,0)
def a4p (a0:List Int) (a1:Int):Option Bool:=
 if (decide ((a0.length:Int)>60)) then
 some true
 else
 (a3f a0 a1).bind fun v1=>
 (b9j).bind fun v2=>
 (if v2 then (a4y v1).bind fun v3=>
 (y7 v1).bind fun v4=>
 some (v3==v4) else some false).bind fun v5=>
 some v5
end Go.PL
namespace Go.PL
open Go
theorem u4 {n:Int} (h0: -9223372036854775808 <= n) (h1:n <= 9223372036854775807):i64 n=n:=by
 unfold i64;rw [IntKind.wrap_i64];omega
theorem e1w {n:Int} (h0:0 <= n) (h1:n <= 18446744073709551615):u64 n=n:=by
 unfold u64;rw [IntKind.wrap_u64];omega
theorem f3w (n:Int):u64 n=n%18446744073709551616:=by unfold u64;rw [IntKind.wrap_u64]
theorem b90 (n:Int):0 <= u64 n /\ u64 n <= 18446744073709551615:=by rw [f3w];omega
theorem e27 {α:Type} {l:List α} {i:Int} {x:α} (h0:0 <= i) (h:l[i.toNat]? =some x):i7 l i=some x:=by unfold i7;rw [if_pos h0];exact h
theorem c4z {b e:Bool}:(if b=true then some true else some e)=some (b||e):=by cases b<;>rfl
theorem c7s {b e:Bool}:(if b=true then some e else some false)=some (b&&e):=by cases b<;>rfl
theorem c0g {a b:Int} (h:b≠0):b36 a b=some (a.tmod b):=by unfold b36;rw [if_neg h]
theorem e06 {a b:Int} (h:b≠0):b9o a b=some (i64 (a.tdiv b)):=by unfold b9o;rw [if_neg h]
theorem d9w {α:Type} {bytes:Nat} {l x:List α} (h:(l.length+x.length)*bytes <= 140737488355328):b1f bytes l x=some (l++x):=by unfold b1f;rw [if_pos h]
theorem e30 {α:Type} {l:List α} {lo hi:Int} (h0:0 <= lo) (h1:lo <= hi) (h2:hi <= (l.length:Int)):a3q l lo hi=some ((l.drop lo.toNat).take (hi.toNat-lo.toNat)):=by
 unfold a3q;rw [if_pos ⟨h0,h1,h2⟩]
theorem c3c {a b:Int} (h:0 <= a):a.tmod b=a%b:=Int.tmod_eq_emod_of_nonneg h
theorem d3e {a b:Int} (h:0 <= a):a.tdiv b=a/b:=Int.tdiv_eq_ediv_of_nonneg h
end Go.PL
namespace Go.PL
open Go Go.SX
def Tot {α:Type} (o:Option α) (Q:α -> Prop):Prop:= ∃a,o=some a /\ Q a
section
variable {α β:Type} {o:Option α} {Q R:α -> Prop} {S:β -> Prop} {f:α -> Option β} {a:α}
theorem Tot.some (h:Q a):Tot (some a) Q:=⟨a,rfl,h⟩
theorem Tot.bind (h:Tot o Q) (hf: ∀a,Q a -> Tot (f a) S):Tot (Option.bind o f) S:=by
 obtain ⟨a,rfl,hq⟩:=h
 exact hf a hq
theorem Tot.ite {c:Prop} [Decidable c] {x y:Option α} (h1:c -> Tot x Q) (h2: ¬c -> Tot y Q):Tot (if c then x else y) Q:=by
 split
 ·exact h1 (by assumption)
 ·exact h2 (by assumption)
theorem Tot.join (h:Tot (f a) S):Tot (g9 f a) S:=h
end
theorem Tot.loop {σ ρ:Type} {f:(σ -> Option ρ) -> σ -> Option ρ} (I:σ -> Prop) (μ:σ -> Nat) {Q:ρ -> Prop} {s:σ} (h0:I s) (hμ:μ s<2^70) (step: ∀(r:σ -> Option ρ) (s:σ),I s -> (∀s',I s' -> μ s'<μ s -> Tot (r s') Q) -> Tot (f r s) Q):Tot (f7 FU f s) Q:=by
 have key: ∀(k:Nat) (s:σ),I s -> μ s<k -> Tot (f7 k f s) Q:=by
  intro k
  induction k with
  | zero=>intro s _ h;omega
  | succ k ih=>
    intro s hI hk
    exact step (f7 k f) s hI fun s' h1 h2=>ih s' h1 (by omega)
 exact key FU s h0 (by unfold FU;exact hμ)
theorem c7l {s:ByteArray} {a b:Int} (h0:0 <= a) (h1:a <= b) (h2:b <= (s.size:Int)):Tot (b3v s a b) fun r=>(r.size:Int)=b-a:=by
 unfold b3v
 rw [if_pos ⟨h0,h1,h2⟩]
 refine ⟨_,rfl,?_⟩
 show ((s.extract a.toNat b.toNat).size:Int)=b-a
 rw [ByteArray.size_extract]
 omega
theorem g7 {a b:ByteArray} (h:a.size+b.size <= 9223372036854775807):Tot (a3j a b) fun r=>r.size=a.size+b.size:=by
 unfold a3j
 rw [if_pos h]
 exact ⟨_,rfl,ByteArray.size_append⟩
theorem c25 {α:Type} {l:List α} {i:Int} (h0:0 <= i) (h1:i<(l.length:Int)):Tot (i7 l i) fun x=>x∈l:=by
 unfold i7
 rw [if_pos h0]
 have hlt:i.toNat<l.length:=by omega
 rw [List.getElem?_eq_getElem hlt]
 exact ⟨_,rfl,List.getElem_mem hlt⟩
theorem b4f {a b:Int} (h0:0 <= a) (hb:0<b):Tot (b36 a b) fun r=>r=a%b /\ 0 <= r /\ r<b /\ r <= a:=by
 rw [c0g (by omega),c3c h0]
 have h1:=Int.emod_nonneg a (show b≠0 by omega)
 have h2:=Int.emod_lt_of_pos a hb
 have h3:a%b <= a:=by
  have:=Int.emod_add_mul_ediv a b
  have h5:0 <= b*(a/b):=Int.mul_nonneg (by omega) (Int.ediv_nonneg h0 (by omega))
  omega
 exact ⟨_,rfl,rfl,h1,h2,h3⟩
theorem c27 {a b:Int} (h0:0 <= a) (h1:a <= 9223372036854775807) (hb:0<b):Tot (b9o a b) fun r=>r=a/b /\ 0 <= r /\ r <= a:=by
 rw [e06 (by omega),d3e h0]
 have g1:=Int.ediv_nonneg h0 (show 0 <= b by omega)
 have g2:a/b <= a:=Int.ediv_le_self b h0
 rw [u4 (by omega) (by omega)]
 exact ⟨_,rfl,rfl,g1,g2⟩
theorem b6j {x:Int} (h0:0 <= x) (h1:x <= 4611686018427387904):i64 (x+1)=x+1:=u4 (by omega) (by omega)
theorem a2b {a n:Int} (hn:0<n) (h1:n <= 9223372036854775807):Tot (d8 a n) fun r=>0 <= r /\ r<n:=by
 unfold d8
 rw [c0g (by omega),Option.bind_some]
 have h2:=Int.tmod_lt_of_pos a hn
 have h3: -n<a.tmod n:=Int.lt_tmod_of_pos a hn
 refine Tot.ite (fun h=> ?_) fun h=> ?_
 ·simp at h
  rw [u4 (by omega) (by omega)]
  exact Tot.some (by omega)
 ·simp at h
  exact Tot.some (by omega)
theorem a0z (l:List Int) (i:Int) (hl:l.length <= 9223372036854775807):Tot (f8 l i) fun _=>True:=by
 unfold f8
 refine Tot.ite (fun h=>Tot.some trivial) fun h=> ?_
 have hp:0<l.length:=by
  rcases Nat.eq_zero_or_pos l.length with h0 | h0
  ·rw [h0] at h;exact absurd rfl h
  ·exact h0
 refine Tot.bind (a2b (by omega) (by omega)) fun v hv=> ?_
 exact Tot.bind (c25 (by omega) (by omega)) fun x _=>Tot.some trivial
theorem a6v {n:Int} (h0:0 <= n) (h1:n <= 9999999):Tot (i6 n) fun r=>1 <= r.size /\ r.size <= 8:=by
 unfold i6
 have hs:a3b.size=10:=by decide
 refine Tot.loop (I:=fun v:Int×ByteArray=>0 <= v.1 /\ ((v.1 <= 9 /\ v.2.size <= 6) \/ (v.1 <= 99 /\ v.2.size <= 5) \/ (v.1 <= 999 /\ v.2.size <= 4) \/ (v.1 <= 9999 /\ v.2.size <= 3) \/ (v.1 <= 99999 /\ v.2.size <= 2) \/ (v.1 <= 999999 /\ v.2.size <= 1) \/ (v.1 <= 9999999 /\ v.2.size <= 0))) (μ:=fun v=>v.1.toNat) (s:=(n,a1y)) ⟨h0,.inr (.inr (.inr (.inr (.inr (.inr ⟨h1,(by decide:a1y.size <= 0)⟩)))))⟩ (by show n.toNat<_;omega) ?_
 intro r v hI ih
 obtain ⟨g1,g2⟩:=hI
 unfold a0d
 refine Tot.ite (fun h=> ?_) fun h=> ?_
 ·simp at h
  refine Tot.bind (b4f g1 (by omega)) fun a ha=> ?_
  refine Tot.bind (b4f g1 (by omega)) fun b hb=> ?_
  have hab:a=b:=by omega
  subst hab
  rw [b6j (by omega) (by omega)]
  refine Tot.bind (c7l (by omega) (by omega) (by rw [hs];omega)) fun c hc=> ?_
  refine Tot.bind (g7 (by omega)) fun d hd=> ?_
  refine Tot.bind (c27 g1 (by omega) (by omega)) fun e he=> ?_
  refine ih (e,d) ⟨he.2.1,?_⟩ (by show e.toNat<v.1.toNat;omega)
  show (e <= 9 /\ d.size <= 6) \/ (e <= 99 /\ d.size <= 5) \/ (e <= 999 /\ d.size <= 4) \/ (e <= 9999 /\ d.size <= 3) \/ (e <= 99999 /\ d.size <= 2) \/ (e <= 999999 /\ d.size <= 1) \/ (e <= 9999999 /\ d.size <= 0)
  omega
 ·simp at h
  rw [b6j (by omega) (by omega)]
  refine Tot.bind (c7l (by omega) (by omega) (by rw [hs];omega)) fun c hc=> ?_
  exact Tot.bind (g7 (by omega)) fun d hd=>Tot.some (by omega)
theorem d2m {n:Int} (h0:0 <= n) (h1:n <= 999999):Tot (p8 n) fun r=>r.size <= 25:=by
 unfold p8
 have hs:a8m.size=1:=by decide
 refine Tot.bind (c27 h0 (by omega) (by omega)) fun a ha=> ?_
 refine Tot.bind (a6v (by omega) (by omega)) fun b hb=> ?_
 refine Tot.bind (g7 (by omega)) fun c hc=> ?_
 refine Tot.bind (c27 h0 (by omega) (by omega)) fun d hd=> ?_
 refine Tot.bind (b4f (by omega) (by omega)) fun e he=> ?_
 refine Tot.bind (a6v (by omega) (by omega)) fun g hg=> ?_
 refine Tot.bind (g7 (by omega)) fun i hi=> ?_
 refine Tot.bind (b4f h0 (by omega)) fun j hj=> ?_
 refine Tot.bind (a6v (by omega) (by omega)) fun k hk=> ?_
 exact Tot.bind (g7 (by omega)) fun l hl=>Tot.some (by omega)
theorem b6g {x:Int} (h0:0 <= x) (h1:x <= 9999999):Tot (i6 (i64 x)) fun r=>1 <= r.size /\ r.size <= 8:=by
 rw [u4 (by omega) (by omega)];exact a6v h0 h1
theorem b58 {x:Int} (h0:0 <= x) (h1:x <= 999999):Tot (p8 (i64 x)) fun r=>r.size <= 25:=by
 rw [u4 (by omega) (by omega)];exact d2m h0 h1
end Go.PL
namespace Go.PL
open Go Go.SX
def d6g (b:Int):Bool:=decide (b >= 97)&&decide (b <= 122)
def c82 (b:Int):Bool:=decide (b >= 48)&&decide (b <= 57)
theorem d0i (b:Int):a2o b=some (d6g b):=by
 unfold a2o d6g
 rw [c7s,Option.bind_some]
theorem c72 (b:Int):a29 b=some (c82 b):=by
 unfold a29 c82
 rw [c7s,Option.bind_some]
end Go.PL
namespace Go.PL
open Go Go.SX
theorem c1x (a:Int): ∃v,a1u a=some v /\ 0 <= v /\ v <= 18446744073709551615 /\ (0 <= a -> a <= 18446744073709551615 -> v=a):=by
 unfold a1u
 split
 ·rename_i h
  simp at h
  exact ⟨_,rfl,(b90 _).1,(b90 _).2,fun h0=>by omega⟩
 ·exact ⟨_,rfl,(b90 _).1,(b90 _).2,fun h0 h1=>e1w h0 h1⟩
theorem e4u {a b:Int} (ha:0 <= a) (hb:0 <= b) (h:0<a+b) (hma:a <= 18446744073709551615) (hm:b <= 18446744073709551615):Tot (a1n a b) fun g=>0<g /\ g <= 18446744073709551615:=by
 unfold a1n
 refine Tot.loop (I:=fun v:Int×Int=>0 <= v.1 /\ 0 <= v.2 /\ 0<v.1+v.2 /\ v.1 <= 18446744073709551615 /\ v.2 <= 18446744073709551615) (μ:=fun v=>v.2.toNat) ⟨ha,hb,h,hma,hm⟩ (by show b.toNat<_;omega) ?_
 intro r v hI ih
 obtain ⟨g1,g2,g3,g4,g5⟩:=hI
 unfold a8q
 refine Tot.ite (fun hc=> ?_) fun hc=>Tot.some ⟨by simp at hc;omega,g4⟩
 have hv:0<v.2:=by
  have:v.2≠0:=by simpa using hc
  omega
 refine Tot.bind (b4f g1 hv) fun c hcc=>ih (v.2,c) ⟨g2,hcc.2.1,by show 0<v.2+c;omega,g5,by show c <= _;omega⟩ (by show c.toNat<v.2.toNat;omega)
end Go.PL
namespace Go.PL
open Go Go.SX
inductive Tk where
 | w (s:ByteArray)
 | s (s:ByteArray)
 | n (v:Fraction) (d:Int)
 | d (day:Int)
def a38 (s:ByteArray):Bool:=match s.toList with | c::_=> !(48 <= c.toNat&&c.toNat <= 57)&& !c.toNat==64 | []=>false
def TkR (t:Token):Tk -> Prop
 | .w x=>t.Kind=1 /\ t.Text=x
 | .s x=>t.Kind=4 /\ t.Text=x
 | .n v d=>t.Kind=2 /\ s7 t.Text=some (v,d,true) /\ a38 t.Text=false
 | .d day=>t.Kind=3 /\ a4j t.Text=some day /\ a38 t.Text=false
def isT (t:Tk) (s:ByteArray):Bool:=match t with | .w x=>x.toList==s.toList | .s x=>x.toList==s.toList | _=>false
def kdT:Tk -> Int | .w _=>1 | .s _=>4 | .n _ _=>2 | .d _=>3
structure RdrA (r:pensionref5_reader) (ts:List Tk):Prop where
 bad:r.bad=false
 nn:0 <= r.at_
 len:r.l.length <= 8000
 all:o8 TkR (r.l.drop r.at_.toNat) ts
def adv (r:pensionref5_reader):pensionref5_reader:=⟨r.l,r.at_+1,r.end_,r.bad⟩
section
variable {r:pensionref5_reader} {t:Tk} {ts:List Tk} {s:ByteArray}
theorem RdrA.cons (h:RdrA r (t::ts)): ∃x,i7 r.l r.at_=some x /\ TkR x t /\ r.at_<(r.l.length:Int) /\ RdrA (adv r) ts /\ i64 (r.at_+1)=r.at_+1:=by
 obtain ⟨h1,h2,h3,h4⟩:=h
 cases hd:r.l.drop r.at_.toNat with
 | nil=>rw [hd] at h4;exact h4.elim
 | cons x rest=>
   rw [hd] at h4
   have hlt:r.at_.toNat<r.l.length:=by
    have:=congrArg List.length hd
    simp at this;omega
   have hx:r.l[r.at_.toNat]? =some x:=by
    have:=congrArg List.head? hd
    simpa [List.head?_drop] using this
   refine ⟨x,e27 h2 hx,h4.1,by omega,⟨h1,by show 0 <= r.at_+1;omega,h3,?_⟩,b6j h2 (by omega)⟩
   show o8 TkR (r.l.drop (r.at_+1).toNat) ts
   rw [show (r.at_+1).toNat=r.at_.toNat+1 by omega,<- List.drop_drop,hd]
   exact h4.2
theorem TkR.eq {x:Token} (h:TkR x t) (hs:a38 s=true):(x.Text.toList==s.toList)=isT t s:=by
 have no:a38 x.Text=false -> (x.Text.toList==s.toList)=false:=fun hw=>by
  cases he:(x.Text.toList==s.toList) with
  | false=>rfl
  | true=>
    have he:=eq_of_beq he
    unfold a38 at hw hs
    rw [he,hs] at hw
    cases hw
 cases t with
 | w y=>rw [h.2];rfl
 | s y=>rw [h.2];rfl
 | n v d=>exact no h.2.2
 | d day=>exact no h.2.2
theorem TkR.kd {x:Token} (h:TkR x t):x.Kind=kdT t:=by cases t<;>exact h.1
theorem e2y (h:RdrA r (t::ts)) (hs:a38 s=true):z7 r s=some (isT t s):=by
 obtain ⟨x,hx,hk,hlt,_,_⟩:=h.cons
 unfold z7
 rw [h.bad]
 simp only [Bool.not_false,if_true,Option.bind_some,decide_eq_true hlt,hx,hk.eq hs]
theorem b31 (h:RdrA r (t::ts)) (k:Int):q9 r k=some (kdT t==k):=by
 obtain ⟨x,hx,hk,hlt,_,_⟩:=h.cons
 unfold q9
 rw [h.bad]
 simp only [Bool.not_false,if_true,Option.bind_some,decide_eq_true hlt,hx,hk.kd]
theorem b1n (h:RdrA r (t::ts)) (hs:a38 s=true):d9 r s=some (isT t s,if isT t s then adv r else r):=by
 obtain ⟨x,hx,hk,hlt,_,hi⟩:=h.cons
 unfold d9
 rw [e2y h hs,Option.bind_some]
 cases hb:isT t s with
 | true=>rw [hi];rfl
 | false=>rfl
theorem d2o (h:RdrA r (t::ts)) (hs:a38 s=true) (ht:isT t s=true):b6 r s=some (adv r):=by
 unfold b6
 rw [b1n h hs,Option.bind_some,ht]
 rfl
theorem d2j {x:ByteArray} (h:RdrA r (.w x::ts)) (hn:p7 x=some true):a0m r=some (x,adv r):=by
 obtain ⟨y,hy,hk,hlt,_,hi⟩:=h.cons
 have hx:y.Text=x:=hk.2
 have h1:=h.nn
 have h2:=h.len
 unfold a0m
 rw [b31 h,Option.bind_some]
 simp only [kdT,hy,Option.bind_some,hx,hn,hi,show i64 (r.at_+1-1)=r.at_ from by rw [u4 (by omega) (by omega)];omega]
 rfl
theorem b8z {v a b:Int} (h:RdrA r (.n ⟨v,1⟩ 2::ts)) (h1:a <= v) (h2:v <= b):s9 r a b=some (v,adv r):=by
 obtain ⟨y,hy,hk,hlt,_,hi⟩:=h.cons
 unfold s9
 rw [b31 h,Option.bind_some]
 simp only [kdT,hy,Option.bind_some,hk.2.1,hi,decide_eq_true h1,decide_eq_true h2,ge_iff_le]
 rfl
end
inductive AE where
 | lit (v:Fraction) (d:Int)
 | nm (s:ByteArray)
 | best (k:Int)
 | bin (op:Int) (a b:AE)
 | ite (a b c:AE)
def AE.e:AE -> Expr
 | .lit v d=>⟨1,v,d,a1y,[]⟩
 | .nm s=>⟨2,⟨0,0⟩,0,s,[]⟩
 | .best k=>⟨3,⟨k,1⟩,0,a1y,[]⟩
 | .bin op a b=>⟨op,⟨0,0⟩,0,a1y,[a.e,b.e]⟩
 | .ite a b c=>⟨21,⟨0,0⟩,0,a1y,[a.e,b.e,c.e]⟩
def f7x:List (Int×Int×ByteArray):=[(7,5,c8f),(8,5,b5t),(9,6,a7h),(10,6,b74),(11,4,c87),(12,4,b3b),(13,4,b5g),(14,4,b38),(15,4,d3m),(16,4,a4r),(17,2,b5w),(18,1,c3o)]
def f6q (lvl:Int) (t:Tk):List (Int×Int×ByteArray) -> Int
 | []=>0
 | (op,l,s)::q=>bif (l==lvl)&&isT t s then op else f6q lvl t q
def e7z (s:ByteArray):Bool:=match p7 s with | some true=>true | _=>false
inductive Md where
 | E (lvl:Nat)
 | L (lvl:Nat) (e:AE)
 | F
 | C (op:Int)
def eat (s:ByteArray):List Tk -> Option (List Tk)
 | t::r=>bif isT t s then some r else none
 | []=>none
def pX:Nat -> Md -> List Tk -> Option (AE×List Tk)
 | 0,_,_=>none
 | k+1,.E 0,t::r=>bif isT t a9b then
    (pX k (.E 0) r).bind fun a=>(eat b6a a.2).bind fun r1=>(pX k (.E 0) r1).bind fun b=>(eat b2e b.2).bind fun r2=>(pX k (.E 0) r2).bind fun c=>some (.ite a.1 b.1 c.1,c.2)
   else pX k (.E 1) (t::r)
 | k+1,.E 3,t::r=>bif isT t b5c then none else pX k (.E 4) (t::r)
 | k+1,.E 7,t::r=>pX k .F (t::r)
 | k+1,.E lvl,t::r=>(pX k (.E (lvl+1)) (t::r)).bind fun a=>pX k (.L lvl a.1) a.2
 | k+1,.L lvl e,t::r=>match f6q lvl t f7x with
   | 0=>some (e,t::r)
   | op=>(pX k (.E (lvl+1)) r).bind fun a=>bif Nat.beq lvl 4 then some (.bin op e a.1,a.2) else pX k (.L lvl (.bin op e a.1)) a.2
 | k+1,.F,t::r=>match t with
   | .n v d=>some (.lit v d,r)
   | .w x=>bif isT t b5t then none else bif isT t a85 then none else bif isT t a9v then (eat a85 r).bind fun r1=>match r1 with | .n ⟨v,1⟩ 2::r2=>(bif decide (1 <= v)&&decide (v <= 45) then (eat a9n r2).bind fun r3=>some (.best v,r3) else none) | _=>none
     else bif isT t b09 then none
     else bif isT t b4d then pX k (.C 19) (t::r)
     else bif isT t b34 then pX k (.C 20) (t::r)
     else bif e7z x then some (.nm x,r) else none
   | _=>none
 | k+1,.C op,t::r=>match a0j op with
   | some 2=>(eat a85 r).bind fun r1=>(pX k (.E 0) r1).bind fun a=>(eat c01 a.2).bind fun r2=>(pX k (.E 0) r2).bind fun b=>(eat a9n b.2).bind fun r3=>some (.bin op a.1 b.1,r3)
   | _=>none
 | _,_,[]=>none
end Go.PL
namespace Go.PL
open Go Go.SX
theorem e1l: ∃m,FU=m+1+1:=⟨FU-2,by
 have:1000000 <= FU:=by unfold FU;decide
 omega⟩
theorem a1o:100000 <= FU:=by unfold FU;decide
def rmn (s:ByteArray) (p:Nat):List UInt8:=s.data.toList.drop p
theorem b9m (s:ByteArray):s.size=s.data.toList.length:=by rw [Array.length_toList];rfl
section
variable {s:ByteArray} {p:Nat} {c:UInt8} {rest w:List UInt8}
theorem c7r (h:rmn s p=c::rest):p<s.size:=by
 have:=congrArg List.length h
 unfold rmn at this
 rw [b9m];simp at this ⊢; omega
theorem d5h:rmn s p=[]↔s.size <= p:=by unfold rmn;rw [List.drop_eq_nil_iff,b9m]
theorem c9f {a:List UInt8} (h:rmn s p=a++rest):rmn s (p+a.length)=rest:=by
 unfold rmn at*
 rw [<- List.drop_drop,h,List.drop_left]
theorem c4d (h:rmn s p=c::rest):rmn s (p+1)=rest:=c9f (a:=[c]) h
theorem c0l {a:List UInt8} (h:rmn s p=a++rest) (hp:p <= s.size):p+a.length <= s.size:=by
 have:=congrArg List.length h
 unfold rmn at this
 rw [b9m] at *; simp at this hp ⊢; omega
theorem c02 (h:rmn s p=c::rest):a96 s (p:Int)=some (c.toNat:Int):=by
 unfold a96
 rw [if_pos (by omega)]
 have hlt:=c7r h
 have hg:s[p]? =some c:=by
  rw [getElem?_pos s p hlt]
  have h2:s.data.toList[p]? =some c:=by
   have:=congrArg List.head? h
   unfold rmn at this
   simpa [List.head?_drop] using this
  rw [List.getElem?_eq_some_iff] at h2
  obtain ⟨_,h3⟩:=h2
  rw [<- h3];rfl
 rw [Int.toNat_natCast,hg];rfl
theorem b7z {a:List UInt8} (h:rmn s p=a++rest) (hp:p <= s.size):b3v s (p:Int) ((p:Int)+(a.length:Int))=some ⟨a.toArray⟩:=by
 unfold b3v
 have:=c0l h hp
 rw [if_pos ⟨by omega,by omega,by omega⟩]
 congr 1
 apply ByteArray.ext
 apply Array.ext'
 rw [ByteArray.data_extract,Array.toList_extract,List.extract_eq_take_drop,Int.toNat_natCast,show ((p:Int)+(a.length:Int)).toNat=p+a.length by omega]
 unfold rmn at h
 rw [h,show p+a.length-p=a.length by omega,List.take_left]
end
def iv (c:UInt8):Int:=(c.toNat:Int)
def c9a (b:Bool) (c:UInt8):Bool:=d6g (iv c)||c82 (iv c)||(iv c==95)||(b&&(iv c==46))
theorem f3m {s:ByteArray} (hs:s.size <= 8000) (p:Nat) (b:Bool) (rest:List UInt8) (hr: ∀c r,rest=c::r -> c9a b c=false):
  ∀(w:List UInt8) (n k:Nat),rmn s (p+n)=w++rest -> p+n <= s.size -> (∀c∈w,c9a b c=true) -> w.length<k -> f7 k (a42 (p:Int) s b) (n:Int)=some ((n+w.length:Nat):Int):=by
 have one: ∀(n:Nat) (c:UInt8) (r:List UInt8) (rec:Int -> Option Int),rmn s (p+n)=c::r -> a42 (p:Int) s b rec (n:Int)=if c9a b c=true then rec ((n+1:Nat):Int) else some (n:Int):=by
  intro n c r rec h
  have hlt:=c7r h
  have hi:i64 ((p:Int)+(n:Int))=((p+n:Nat):Int):=by rw [u4 (by omega) (by omega)];omega
  unfold a42
  rw [hi]
  have h3:a96 s ((p+n:Nat):Int)=some (iv c):=c02 h
  rw [if_pos (by simp;omega)]
  simp only [h3,Option.bind_some,d0i,c72,c4z,c7s]
  rw [show i64 ((n:Int)+1)=((n+1:Nat):Int) by rw [b6j (by omega) (by omega)];omega]
  rfl
 intro w
 induction w with
 | nil=>
   intro n k h hp _ hk
   obtain ⟨k,rfl⟩: ∃m,k=m+1:=⟨k-1,by simp at hk;omega⟩
   rw [c8]
   cases rest with
   | nil=>
     have h0:=d5h.1 h
     unfold a42
     have hi:i64 ((p:Int)+(n:Int))=((p+n:Nat):Int):=by rw [u4 (by omega) (by omega)];omega
     rw [hi,if_neg (by simp;omega)]
     rfl
   | cons c r=>rw [one n c r _ h,if_neg (by rw [hr c r rfl];decide)];rfl
 | cons c w ih=>
   intro n k h hp hw hk
   have hk:w.length+1<k:=hk
   obtain ⟨k,rfl⟩: ∃m,k=m+1:=⟨k-1,by omega⟩
   have hlt:=c7r h
   rw [c8,one n c (w++rest) _ h,if_pos (hw c (by simp)),ih (n+1) k (c4d h) (by omega) (fun c hc=>hw c (List.mem_cons_of_mem _ hc)) (by omega)]
   congr 2
   simp;omega
theorem e8o {s:ByteArray} (hs:s.size <= 8000) {p:Nat} {b:Bool} {w rest:List UInt8} (h:rmn s p=w++rest) (hp:p <= s.size) (hr: ∀c r,rest=c::r -> c9a b c=false) (hw: ∀c∈w,c9a b c=true):a3k s (p:Int) b=some (w.length:Int):=by
 have hl:=c0l h hp
 have:=f3m hs p b rest hr w 0 FU h (by omega) hw (by have:=a1o;omega)
 unfold a3k
 simpa using this
def blk (b:Bool):List UInt8:=bif b then [32] else []
def d7n (c:UInt8):Bool:= !(iv c==10)&& !(iv c==35)&&(iv c != 9)&&(iv c != 13)&&(iv c != 32)
theorem d9s {s:ByteArray} (hs:s.size <= 8000) {p:Nat} {b:Bool} {w:List UInt8} (h:rmn s p=blk b++w) (hp:p <= s.size) (hw: ∀c r,w=c::r -> d7n c=true):a5e s (p:Int)=some ((p+(blk b).length:Nat):Int):=by
 have one: ∀(q k:Nat),rmn s q=w -> q <= s.size -> f7 (k+1) (a3h s) ((q:Int),false)=some (q:Int):=by
  intro q k h hq
  rw [c8]
  unfold a3h
  cases w with
  | nil=>
    have:=d5h.1 h
    rw [if_neg (by simp;omega)]
  | cons c r=>
    have hlt:=c7r h
    have h3:a96 s (q:Int)=some (iv c):=c02 h
    have hc:=hw c r rfl
    unfold d7n at hc
    simp only [Bool.and_eq_true,Bool.not_eq_true'] at hc
    obtain ⟨⟨⟨⟨h1,h2⟩,h4⟩,h5⟩,h6⟩:=hc
    rw [if_pos (by simp;omega)]
    simp only [h3,Option.bind_some,h1,h2,h4,h5,h6,Bool.false_eq_true,if_false,Bool.not_false,if_true]
 unfold a5e
 obtain ⟨m,hm⟩:=e1l
 rw [hm]
 cases b with
 | false=>exact one p (m+1) h hp
 | true=>
   have h:rmn s p=32::w:=h
   have hlt:=c7r h
   have h3:a96 s (p:Int)=some (32:Int):=c02 h
   rw [c8]
   generalize hLP:f7 (m+1) (a3h s)=LP
   unfold a3h
   rw [if_pos (by simp;omega)]
   simp only [h3,Option.bind_some,show ((32:Int)==10)=false from rfl,show ((32:Int)==35)=false from rfl,show ((32:Int) != 9)=true from rfl,show ((32:Int) != 13)=true from rfl,show ((32:Int) != 32)=false from rfl,Bool.false_eq_true,if_false,Bool.not_false,if_true]
   rw [b6j (by omega) (by omega),<- hLP,show (p:Int)+1=((p+1:Nat):Int) by omega]
   exact one (p+1) m (c4d h) (by omega)
end Go.PL
namespace Go.PL
open Go Go.SX
def b73 (p:UInt8 -> Bool) (rest:List UInt8):Prop:= ∀c r,rest=c::r -> p c=false
def e2s (c:UInt8):Bool:=[60,62,61,43,45,42,47,40,41,123,125,44,59].any fun n=>iv c==n
inductive LxOK:Tk -> List UInt8 -> List UInt8 -> Prop
 | w {c:UInt8} {w rest:List UInt8}:d6g (iv c)=true -> (∀x∈c::w,c9a false x=true) -> (c::w).length <= 12 -> b73 (c9a false) rest -> LxOK (.w ⟨(c::w).toArray⟩) (c::w) rest
 | n {c:UInt8} {w rest:List UInt8} {v:Fraction} {d:Int} {x y:ByteArray}:c82 (iv c)=true -> d6g (iv c)=false -> (∀x∈c::w,c9a true x=true) -> b73 (c9a true) rest -> a07 ⟨(c::w).toArray⟩=some (x,y,d,true) -> s7 ⟨(c::w).toArray⟩=some (v,d,true) -> LxOK (.n v d) (c::w) rest
 | d {w rest:List UInt8} {day:Int}:w.length=10 -> a1r ⟨w.toArray⟩=some (day,true) -> LxOK (.d day) (64::w) rest
 | s1 {c:UInt8} {rest:List UInt8}:e2s c=true -> (((iv c==60)=false /\ (iv c==62)=false) \/ b73 (fun c=>iv c==61||iv c==62) rest) -> LxOK (.s ⟨#[c]⟩) [c] rest
 | s2 {c c2:UInt8} {rest:List UInt8}:(c,c2)=(60,61) \/ (c,c2)=(62,61) \/ (c,c2)=(60,62) -> LxOK (.s ⟨#[c,c2]⟩) [c,c2] rest
theorem e1p {c:UInt8} {w:List UInt8}:a38 ⟨(c::w).toArray⟩=(!(48 <= c.toNat&&c.toNat <= 57)&& !c.toNat==64):=by
 unfold a38
 rw [ByteArray.toList_eq]
theorem e21 {s:ByteArray} (hs:s.size <= 8000) {q:Nat} {w rest:List UInt8} (h:rmn s q=w++rest) (hq:q <= s.size) (k:Int) (t0:Token):
  p9 (s,(q:Int),t0,k,(w.length:Int),true)=some (⟨k,⟨w.toArray⟩,(q:Int)⟩,((q+w.length:Nat):Int),0):=by
 have hl:=c0l h hq
 unfold p9
 have hi:i64 ((q:Int)+(w.length:Int))=(q:Int)+(w.length:Int):=u4 (by omega) (by omega)
 simp only [Bool.not_true,Bool.false_eq_true,if_false,hi,b7z h hq,Option.bind_some]
 rfl
theorem e5h {s:ByteArray} (hs:s.size <= 8000) {q:Nat} {c:UInt8} {rest:List UInt8} (h:rmn s q=c::rest) (h1:e2s c=true) (h2:((iv c==60)=false /\ (iv c==62)=false) \/ b73 (fun c=>iv c==61||iv c==62) rest):a2t s (q:Int)=some 1:=by
 have hlt:=c7r h
 have h3:a96 s (q:Int)=some (iv c):=c02 h
 have hj:g9 a4z (s,(q:Int))=some 1:=by
  unfold g9 a4z
  simp only [h3,Option.bind_some]
  unfold e2s at h1
  simp only [List.any_cons,List.any_nil,Bool.or_false,Bool.or_eq_true] at h1
  rcases h1 with h1 | h1 | h1 | h1 | h1 | h1 | h1 | h1 | h1 | h1 | h1 | h1 | h1<;>(rw [eq_of_beq h1];rfl)
 unfold a2t
 have hi:i64 ((q:Int)+1)=((q+1:Nat):Int):=by rw [b6j (by omega) (by omega)];omega
 rw [hi]
 by_cases hlt2:q+1<s.size
 ·rw [if_pos (by simp;omega)]
  cases rest with
  | nil=>exact absurd (d5h.1 (c4d h)) (by omega)
  | cons c2 r=>
    have hs2:b3v s (q:Int) (i64 ((q:Int)+2))=some ⟨#[c,c2]⟩:=by
     have:=b7z (s:=s) (p:=q) (a:=[c,c2]) (rest:=r) h (by omega)
     rw [u4 (by omega) (by omega)]
     exact this
    simp only [hs2,Option.bind_some,c4z]
    have key: ∀(a b:UInt8) (x:ByteArray),x=⟨#[a,b]⟩ -> (iv a==60||iv a==62)=true -> (iv b==61||iv b==62)=true -> (((⟨#[c,c2]⟩:ByteArray).toList==x.toList))=false:=by
     intro a b x hx ha hb
     subst hx
     cases he:((⟨#[c,c2]⟩:ByteArray).toList==(⟨#[a,b]⟩:ByteArray).toList) with
     | false=>rfl
     | true=>
       have he:=eq_of_beq he
       rw [ByteArray.toList_eq,ByteArray.toList_eq] at he
       have he:[c,c2]=[a,b]:=he
       injection he with e1 e2
       injection e2 with e2 _
       subst e1;subst e2
       rcases h2 with ⟨g1,g2⟩ | g
       ·rw [g1,g2] at ha;cases ha
       ·have g:=g c2 r rfl
        have g:(iv c2==61||iv c2==62)=false:=g
        rw [g] at hb;cases hb
    rw [key 60 61 b3b rfl (by decide) (by decide),key 62 61 a4r rfl (by decide) (by decide),key 60 62 b38 rfl (by decide) (by decide)]
    exact hj
 ·rw [if_neg (by simp;omega)]
  exact hj
theorem e5z {s:ByteArray} (hs:s.size <= 8000) {q:Nat} {c c2:UInt8} {rest:List UInt8} (h:rmn s q=c::c2::rest) (h1:(c,c2)=(60,61) \/ (c,c2)=(62,61) \/ (c,c2)=(60,62)):a2t s (q:Int)=some 2:=by
 have hlt:=c7r h
 have hlt2:=c7r (c4d h)
 unfold a2t
 have hi:i64 ((q:Int)+1)=((q+1:Nat):Int):=by rw [b6j (by omega) (by omega)];omega
 rw [hi,if_pos (by simp;omega)]
 have hs2:b3v s (q:Int) (i64 ((q:Int)+2))=some ⟨#[c,c2]⟩:=by
  have:=b7z (s:=s) (p:=q) (a:=[c,c2]) (rest:=rest) h (by omega)
  rw [u4 (by omega) (by omega)]
  exact this
 simp only [hs2,Option.bind_some,c4z,ByteArray.toList_eq]
 rcases h1 with h1 | h1 | h1<;>(injection h1 with e1 e2;subst e1;subst e2;rfl)
theorem f0b {s:ByteArray} (hs:s.size <= 8000) {p:Nat} {b:Bool} {t:Tk} {w rest:List UInt8} (h:rmn s p=blk b++(w++rest)) (hp:p <= s.size) (hl:LxOK t w rest):
  ∃tok,TkR tok t /\ (tok.Kind==0)=false /\ a3u s (p:Int)=some (tok,((p+(blk b).length+w.length:Nat):Int),0) /\ p+(blk b).length+w.length <= s.size /\ 1 <= w.length:=by
 have hq:rmn s (p+(blk b).length)=w++rest:=c9f h
 have hqs:=c0l h hp
 obtain ⟨q,hqe⟩: ∃q,p+(blk b).length=q:=⟨_,rfl⟩
 have hsk:(∀c r,w++rest=c::r -> d7n c=true) -> a5e s (p:Int)=some (q:Int):=fun hh=>by rw [<- hqe];exact d9s hs h hp hh
 rw [hqe] at hq hqs⊢
 have hws:=c0l hq hqs
 have head: ∀(c:UInt8) (r:List UInt8),w++rest=c::r -> d7n c=true -> ∀o,(∀v3,v3=iv c -> q<s.size -> (if d6g v3=true then
   (a3k s (q:Int) false).bind fun v5=>g9 p9 (s,(q:Int),(⟨0,a1y,0⟩:Token),1,v5,decide (v5 <= 12))
  else if c82 v3=true then
   (a3k s (q:Int) true).bind fun v10=>(b3v s (q:Int) (i64 ((q:Int)+v10))).bind fun v11=>(a07 v11).bind fun v12=>g9 p9 (s,(q:Int),(⟨0,a1y,0⟩:Token),2,v10,v12.2.2.2)
  else if (v3==64)=true then
   (if decide ((i64 ((s.size:Int)-(q:Int))) >= 11)=true then (b3v s (i64 ((q:Int)+1)) (i64 ((q:Int)+11))).bind fun v14=>(a1r v14).bind fun v15=>g9 p9 (s,(q:Int),(⟨0,a1y,0⟩:Token),3,11,v15.2)
    else g9 p9 (s,(q:Int),(⟨0,a1y,0⟩:Token),3,11,decide ((i64 ((s.size:Int)-(q:Int))) >= 11)))
  else (a2t s (q:Int)).bind fun v16=>g9 p9 (s,(q:Int),(⟨0,a1y,0⟩:Token),4,v16,decide (v16>0)))=o) -> a3u s (p:Int)=o:=by
  intro c r hw hsol o ho
  have hc:rmn s q=c::r:=by rw [hq,hw]
  have hlt:=c7r hc
  have h3:a96 s (q:Int)=some (iv c):=c02 hc
  unfold a3u
  have e1:(decide ((p:Int)<0))=false:=by simp
  have e2:(decide ((p:Int)>(s.size:Int)))=false:=by simp;omega
  have e3:((q:Int)==(s.size:Int))=false:=by simp;omega
  simp only [e1,e2,c4z,Bool.or_false,Bool.false_eq_true,if_false,Option.bind_some,hsk (fun c' r' h'=>by rw [hw] at h';injection h' with a _;rw [<- a];exact hsol),e3,h3,d0i,c72]
  exact ho _ rfl hlt
 have ns: ∀c:UInt8,d7n c=true↔ ¬(iv c=10 \/ iv c=35 \/ iv c=9 \/ iv c=13 \/ iv c=32):=fun c=>by unfold d7n;simp;omega
 cases hl with
 | w h1 h2 h3 h4=>
   rename_i c w
   have hr:=e8o hs (b:=false) hq (by omega) h4 h2
   refine ⟨⟨1,⟨(c::w).toArray⟩,(q:Int)⟩,⟨rfl,rfl⟩,rfl,?_,by omega,by simp⟩
   refine head c (w++rest) rfl ((ns c).2 (by unfold d6g at h1;simp at h1;omega)) _ fun v3 hv _=> ?_
   subst hv
   rw [if_pos h1,hr,Option.bind_some,decide_eq_true (show ((c::w).length:Int) <= 12 by omega)]
   exact e21 hs hq (by omega) 1 _
 | n h1 h2 h3 h4 h5 h6=>
   rename_i c w v d x y
   have hr:=e8o hs (b:=true) hq (by omega) h4 h3
   refine ⟨⟨2,⟨(c::w).toArray⟩,(q:Int)⟩,⟨rfl,h6,?_⟩,rfl,?_,by omega,by simp⟩
   ·rw [e1p]
    unfold c82 iv at h1
    simp at h1⊢
    omega
   ·refine head c (w++rest) rfl ((ns c).2 (by unfold c82 at h1;simp at h1;omega)) _ fun v3 hv _=> ?_
    subst hv
    have hss:=b7z (s:=s) (p:=q) (a:=c::w) (rest:=rest) hq (by omega)
    rw [if_neg (by rw [h2];decide),if_pos h1,hr,Option.bind_some,u4 (by omega) (by omega),hss,Option.bind_some,h5,Option.bind_some]
    exact e21 hs hq (by omega) 2 _
 | d h1 h2=>
   rename_i w day
   have hs1:=b7z (s:=s) (p:=q+1) (a:=w) (rest:=rest) (c4d hq) (by simp at hws;omega)
   have hl11:((64:UInt8)::w).length=11:=by simp [h1]
   refine ⟨⟨3,⟨(64::w).toArray⟩,(q:Int)⟩,⟨rfl,?_,?_⟩,rfl,?_,by omega,by simp⟩
   ·show a4j ⟨(64::w).toArray⟩=some day
    unfold a4j
    have hsz:(⟨(64::w).toArray⟩:ByteArray).size=11:=by rw [b9m];exact hl11
    have h4:=b7z (s:=⟨(64::w).toArray⟩) (p:=1) (a:=w) (rest:=[]) (by simp [rmn]) (by omega)
    have h4:b3v (⟨(64::w).toArray⟩:ByteArray) 1 ((⟨(64::w).toArray⟩:ByteArray).size:Int)=some ⟨w.toArray⟩:=by
     rw [hsz]
     rw [h1] at h4
     exact h4
    rw [h4,Option.bind_some,h2]
    rfl
   ·rw [e1p];rfl
   ·refine head 64 (w++rest) rfl rfl _ fun v3 hv hlt=> ?_
    subst hv
    rw [if_neg (by decide),if_neg (by decide),if_pos (by decide),if_pos (by rw [u4 (by omega) (by omega)];simp;omega)]
    rw [b6j (by omega) (by omega),u4 (n:=(q:Int)+11) (by omega) (by omega)]
    have hs1:b3v s ((q:Int)+1) ((q:Int)+11)=some ⟨w.toArray⟩:=by
     rw [h1] at hs1
     rw [show (q:Int)+1=((q+1:Nat):Int) by omega,show (q:Int)+11=((q+1:Nat):Int)+((10:Nat):Int) by omega]
     exact hs1
    rw [hs1,Option.bind_some,h2,Option.bind_some]
    have:=e21 hs hq (by omega) 3 ⟨0,a1y,0⟩
    rw [hl11] at this⊢
    exact this
 | s1 h1 h2=>
   rename_i c
   have hs1:=e5h hs (rest:=rest) hq h1 h2
   have h10:iv c=60 \/ iv c=62 \/ iv c=61 \/ iv c=43 \/ iv c=45 \/ iv c=42 \/ iv c=47 \/ iv c=40 \/ iv c=41 \/ iv c=123 \/ iv c=125 \/ iv c=44 \/ iv c=59:=by
    unfold e2s at h1
    simpa using h1
   refine ⟨⟨4,⟨#[c]⟩,(q:Int)⟩,⟨rfl,rfl⟩,rfl,?_,by omega,by simp⟩
   refine head c rest rfl ((ns c).2 (by omega)) _ fun v3 hv _=> ?_
   subst hv
   rw [if_neg (by unfold d6g;simp;omega),if_neg (by unfold c82;simp;omega),if_neg (by simp;omega),hs1,Option.bind_some]
   exact e21 hs hq (by omega) 4 _
 | s2 h1=>
   rename_i c c2
   have hs1:=e5z hs (rest:=rest) hq h1
   have h10:iv c=60 \/ iv c=62:=by rcases h1 with h1 | h1 | h1<;>(injection h1 with e1 e2;subst e1;subst e2;decide)
   refine ⟨⟨4,⟨#[c,c2]⟩,(q:Int)⟩,⟨rfl,rfl⟩,rfl,?_,by omega,by simp⟩
   refine head c (c2::rest) rfl ((ns c).2 (by omega)) _ fun v3 hv _=> ?_
   subst hv
   rw [if_neg (by unfold d6g;simp;omega),if_neg (by unfold c82;simp;omega),if_neg (by simp;omega),hs1,Option.bind_some]
   exact e21 hs hq (by omega) 4 _
structure Lx where
 t:Tk
 w:List UInt8
 sp:Bool
def y8:List Lx -> List UInt8
 | []=>[]
 | l::ls=>l.w++(blk l.sp++y8 ls)
def okL:List Lx -> Prop
 | []=>True
 | l::ls=>LxOK l.t l.w (blk l.sp++y8 ls) /\ okL ls
theorem f7b {s:ByteArray} (hs:s.size <= 8000): ∀(ls:List Lx) (p:Nat) (b:Bool) (acc:List Token) (k:Nat),rmn s p=blk b++y8 ls -> p <= s.size -> okL ls -> acc.length <= p -> ls.length<k ->
  ∃toks,f7 k (a3v s) (acc,(p:Int))=some (acc++toks,0,0) /\ o8 TkR toks (ls.map (·.t)) /\ acc.length+toks.length <= s.size:=by
 intro ls
 induction ls with
 | nil=>
   intro p b acc k h hp _ ha hk
   obtain ⟨k,rfl⟩: ∃m,k=m+1:=⟨k-1,by simp at hk;omega⟩
   have hsk:=d9s (w:=[]) hs h hp (fun _ _ h=>by cases h)
   have hq:rmn s (p+(blk b).length)=[]:=c9f (rest:=[]) h
   have hq2:=c0l (rest:=[]) h hp
   have hq1:=d5h.1 hq
   refine ⟨[],?_,trivial,by simp;omega⟩
   rw [c8]
   unfold a3v a3u
   have e1:(decide ((p:Int)<0))=false:=by simp
   have e2:(decide ((p:Int)>(s.size:Int)))=false:=by simp;omega
   have e3:(((p+(blk b).length:Nat):Int)==(s.size:Int))=true:=by simp;omega
   simp only [e1,e2,c4z,Bool.or_false,Bool.false_eq_true,if_false,Option.bind_some,hsk,e3,if_true,List.append_nil,show ((0:Int) != 0)=false from rfl,BEq.rfl]
 | cons l ls ih=>
   intro p b acc k h hp hok ha hk
   have hk:ls.length+1<k:=hk
   obtain ⟨k,rfl⟩: ∃m,k=m+1:=⟨k-1,by omega⟩
   obtain ⟨tok,ht,hkd,hn,hle,h1⟩:=f0b hs h hp hok.1
   have hrm:rmn s (p+(blk b).length+l.w.length)=blk l.sp++y8 ls:=c9f (c9f h)
   obtain ⟨toks,e,hrel,hlen⟩:=ih (p+(blk b).length+l.w.length) l.sp (acc++[tok]) k hrm hle hok.2 (by simp;omega) (by omega)
   refine ⟨tok::toks,?_,⟨ht,hrel⟩,by simp at hlen ⊢; omega⟩
   rw [c8]
   generalize hLP:f7 k (a3v s)=LP at e⊢
   unfold a3v
   simp only [hn,Option.bind_some,show ((0:Int) != 0)=false from rfl,Bool.false_eq_true,if_false,hkd]
   rw [show b1f 32 acc [tok]=some (acc++[tok]) from d9w (by simp;omega),Option.bind_some,e,List.append_assoc]
   rfl
theorem e08 {s:ByteArray} (hs:s.size <= 8000) (ls:List Lx) (h:s.data.toList=y8 ls) (hok:okL ls) (hl:ls.length <= 8000): ∃toks,a68 s=some (toks,0,0) /\ o8 TkR toks (ls.map (·.t)) /\ toks.length <= 8000:=by
 obtain ⟨toks,e,h1,h2⟩:=f7b hs ls 0 false [] FU h (Nat.zero_le _) hok (Nat.zero_le _) (by have:=a1o;omega)
 refine ⟨toks,?_,h1,by simp at h2;omega⟩
 unfold a68
 rw [if_neg (by simp;omega)]
 exact e
end Go.PL
namespace Go.PL
open Go Go.SX
theorem b8t (f:Fraction):Tot (s5 f) fun b=>b=true -> 1 <= f.Den /\ f.Den <= 1000000000 /\ -1000000000000000 <= f.Num /\ f.Num <= 1000000000000000:=by
 unfold s5
 simp only [c7s,Option.bind_some]
 refine Tot.bind (Q:=fun b=>b=true -> 1 <= f.Den /\ f.Den <= 1000000000 /\ -1000000000000000 <= f.Num /\ f.Num <= 1000000000000000) (Tot.ite (fun h=> ?_) fun _=>Tot.some fun h=>by cases h) fun b hb=>Tot.some hb
 simp at h
 obtain ⟨x,hx,x0,x1,_⟩:=c1x f.Num
 rw [hx,Option.bind_some,e1w (by omega) (by omega)]
 exact Tot.bind (e4u x0 (by omega) (by omega) x1 (by omega)) fun _ _=>Tot.some fun _=>⟨by omega,by omega,by omega,by omega⟩
theorem d2e {n:Int} (h0:0 <= n) (h1:n <= 1000000000000000):Tot (a3w n 1) fun r=>(r.size:Int) <= n+1:=by
 unfold a3w
 have hs:a3b.size=10:=by decide
 refine Tot.loop (I:=fun v:Int×ByteArray=>0 <= v.1 /\ v.1 <= n /\ v.1+(v.2.size:Int) <= n+1) (μ:=fun v=>2*v.1.toNat+(1-v.2.size)) (s:=(n,a1y)) ⟨h0,Int.le_refl _,by show n+(a1y.size:Int) <= n+1;rw [show a1y.size=0 from rfl];omega⟩ (by show 2*n.toNat+(1-a1y.size)<_;omega) ?_
 intro r v hI ih
 obtain ⟨g1,g2,g3⟩:=hI
 unfold b03
 rw [c4z,Option.bind_some]
 refine Tot.ite (fun h=> ?_) fun _=>Tot.some (by omega)
 simp at h
 refine Tot.bind (b4f g1 (by omega)) fun a ha=>Tot.bind (b4f g1 (by omega)) fun b hb=> ?_
 have hab:a=b:=by omega
 subst hab
 rw [b6j (by omega) (by omega)]
 refine Tot.bind (c7l (by omega) (by omega) (by rw [hs];omega)) fun c hc=>Tot.bind (g7 (by omega)) fun d hd=>Tot.bind (c27 g1 (by omega) (by omega)) fun e he=> ?_
 refine ih (e,d) ⟨he.2.1,by show e <= n;omega,by show e+(d.size:Int) <= n+1;omega⟩ (by show 2*e.toNat+(1-d.size)<2*v.1.toNat+(1-v.2.size);omega)
theorem b77 {n:Int} (h0:0 <= n) (h1:n <= 999999999):Tot (a22 ⟨n,1⟩) fun r=>r.size <= 1000000000:=by
 unfold a22
 refine Tot.bind (b8t _) fun b _=>Tot.ite (fun _=>Tot.some (by decide)) fun _=> ?_
 obtain ⟨x,hx,x0,x1,x2⟩:=c1x n
 have:=x2 h0 (by omega)
 subst this
 dsimp only
 rw [hx,Option.bind_some,u4 (by omega) (by omega)]
 refine Tot.bind (d2e h0 (by omega)) fun d hd=> ?_
 rw [if_neg (by simp;omega)]
 refine Tot.join ?_
 unfold a2v
 rw [if_neg (by simp)]
 exact Tot.some (by show d.size <= _;omega)
end Go.PL
namespace Go.PL
open Go Go.SX
def d89 (l:List UInt8):Int:=l.foldl (fun x c=>x*10+(iv c-48)) 0
theorem c2m (l:List UInt8) (c:UInt8):d89 (l++[c])=d89 l*10+(iv c-48):=by simp [d89]
theorem e7y {d:Nat} (h:d<10):iv (UInt8.ofNat (48+d))=48+(d:Int):=by
 have:d=0 \/ d=1 \/ d=2 \/ d=3 \/ d=4 \/ d=5 \/ d=6 \/ d=7 \/ d=8 \/ d=9:=by omega
 rcases this with rfl | rfl | rfl | rfl | rfl | rfl | rfl | rfl | rfl | rfl<;>rfl
structure Dg (n:Nat) (l:List UInt8):Prop where
 dig: ∀c∈l,c82 (iv c)=true
 val:d89 l=(n:Int)
 ne:l≠[]
 hd:1<l.length -> ∀c r,l=c::r -> iv c≠48
theorem e2i: ∀(k u:Nat),u<10^(k+1) -> Dg u (a7i k u):=by
 have one: ∀u,u<10 -> Dg u [UInt8.ofNat (48+u)]:=fun u hu=>by
  have h:=e7y hu
  exact ⟨fun c hc=>by rw [List.mem_singleton] at hc;subst hc;rw [h];unfold c82;simp;omega,by show (0:Int)*10+(iv (UInt8.ofNat (48+u))-48)=_;rw [h];omega,by simp,fun h=>by simp at h⟩
 intro k
 induction k with
 | zero=>intro u h;exact one u (by simpa using h)
 | succ k ih=>
   intro u h
   unfold a7i
   split
   ·exact one u (by assumption)
   ·rename_i hu
    have hq:=ih (u/10) (by rw [Nat.pow_succ] at h;omega)
    have h:=e7y (d:=u%10) (by omega)
    refine ⟨fun c hc=> ?_,?_,by simp,fun hl c r he=> ?_⟩
    ·rcases List.mem_append.1 hc with hc | hc
     ·exact hq.dig c hc
     ·rw [List.mem_singleton] at hc;subst hc;rw [h];unfold c82;simp;omega
    ·rw [c2m,hq.val,h];omega
    ·cases hb:a7i k (u/10) with
     | nil=>exact absurd hb hq.ne
     | cons x y=>
       rw [hb] at he
       have hx:x=c:=by injection he
       subst hx
       cases y with
       | nil=>
         have:=hq.val
         rw [hb] at this
         simp [d89] at this
         omega
       | cons z t=>exact hq.hd (by rw [hb];simp) x (z::t) hb
theorem b8x: ∀(k u m:Nat),u<10^(m+1) -> (a7i k u).length <= m+1
 | 0,u,m,h=>by simp [a7i]
 | k+1,u,m,h=>by
   unfold a7i
   split
   ·simp
   ·rename_i hu
    cases m with
    | zero=>simp at h;omega
    | succ m=>
      have:=b8x k (u/10) m (by rw [Nat.pow_succ] at h;omega)
      simp;omega
theorem e13 {d:Nat} (h:d<10):b3v a3b (d:Int) (i64 ((d:Int)+1))=some ⟨#[UInt8.ofNat (48+d)]⟩:=by
 have:d=0 \/ d=1 \/ d=2 \/ d=3 \/ d=4 \/ d=5 \/ d=6 \/ d=7 \/ d=8 \/ d=9:=by omega
 rcases this with rfl | rfl | rfl | rfl | rfl | rfl | rfl | rfl | rfl | rfl<;>rfl
theorem d10 {a b:List UInt8} (h:a.length+b.length <= 100000):a3j ⟨a.toArray⟩ ⟨b.toArray⟩=some ⟨(a++b).toArray⟩:=by
 unfold a3j
 rw [if_pos (by rw [b9m,b9m];simp;omega)]
 congr 1
theorem d9m: ∀(k u:Nat) (acc:List UInt8) (j:Nat),u<10^(k+1) -> u<1000000 -> acc.length+k <= 1000 -> k<j -> f7 j a0d ((u:Int),⟨acc.toArray⟩)=some ⟨(a7i k u++acc).toArray⟩:=by
 have last: ∀(u:Nat) (acc:List UInt8) (r:(Int×ByteArray) -> Option ByteArray),u<10 -> acc.length <= 1000 -> a0d r ((u:Int),⟨acc.toArray⟩)=some ⟨([UInt8.ofNat (48+u)]++acc).toArray⟩:=by
  intro u acc r hu ha
  unfold a0d
  rw [if_neg (by simp;omega)]
  show (b3v a3b (u:Int) (i64 ((u:Int)+1))).bind _=_
  rw [e13 hu,Option.bind_some]
  have:=d10 (a:=[UInt8.ofNat (48+u)]) (b:=acc) (by simp;omega)
  show (a3j ⟨#[UInt8.ofNat (48+u)]⟩ ⟨acc.toArray⟩).bind _=_
  rw [show (⟨#[UInt8.ofNat (48+u)]⟩:ByteArray)=⟨[UInt8.ofNat (48+u)].toArray⟩ from rfl,this,Option.bind_some]
 intro k
 induction k with
 | zero=>
   intro u acc j h _ ha hj
   obtain ⟨j,rfl⟩: ∃m,j=m+1:=⟨j-1,by omega⟩
   rw [c8]
   exact last u acc _ (by simpa using h) (by omega)
 | succ k ih=>
   intro u acc j h h6 ha hj
   obtain ⟨j,rfl⟩: ∃m,j=m+1:=⟨j-1,by omega⟩
   rw [c8]
   unfold a7i
   split
   ·exact last u acc _ (by assumption) (by omega)
   ·rename_i hu
    have ih:=ih (u/10) (UInt8.ofNat (48+u%10)::acc) j (by rw [Nat.pow_succ] at h;omega) (by omega) (by simp;omega) (by omega)
    generalize f7 j a0d=LP at ih⊢
    unfold a0d
    rw [if_pos (by simp;omega)]
    have hr:b36 (u:Int) 10=some ((u%10:Nat):Int):=by unfold b36;rw [if_neg (by decide),Int.tmod_eq_emod_of_nonneg (by omega)];congr 1
    have hq:b9o (u:Int) 10=some ((u/10:Nat):Int):=by unfold b9o;rw [if_neg (by decide),Int.tdiv_eq_ediv_of_nonneg (by omega),u4 (by omega) (by omega)];congr 1
    simp only [hr,hq,Option.bind_some,e13 (show u%10<10 by omega)]
    have:=d10 (a:=[UInt8.ofNat (48+u%10)]) (b:=acc) (by simp;omega)
    rw [show (⟨#[UInt8.ofNat (48+u%10)]⟩:ByteArray)=⟨[UInt8.ofNat (48+u%10)].toArray⟩ from rfl,this,Option.bind_some,List.append_assoc]
    exact ih
theorem b4g {u:Nat} (h:u<1000000):i6 (u:Int)=some ⟨(a7i 20 u).toArray⟩:=by
 have:=d9m 20 u [] FU (by omega) h (by decide) (by have:=a1o;omega)
 rw [List.append_nil] at this
 exact this
end Go.PL
namespace Go.PL
open Go Go.SX
theorem d0z (l:List UInt8):(⟨l.toArray⟩:ByteArray).size=l.length:=by rw [b9m]
theorem b4r {l:List UInt8} {i:Nat} {c:UInt8} (h:l[i]? =some c):a96 ⟨l.toArray⟩ (i:Int)=some (iv c):=by
 refine c02 (rest:=l.drop (i+1)) ?_
 unfold rmn
 have hlt:=(List.getElem?_eq_some_iff.1 h).1
 show l.drop i=_
 rw [List.drop_eq_getElem_cons hlt,(List.getElem?_eq_some_iff.1 h).2]
theorem d00 {a b:List UInt8}:b3v ⟨(a++b).toArray⟩ 0 (a.length:Int)=some ⟨a.toArray⟩:=by
 have:=b7z (s:=⟨(a++b).toArray⟩) (p:=0) (a:=a) (rest:=b) rfl (Nat.zero_le _)
 simpa using this
theorem b5u {c:UInt8} (h:c82 (iv c)=true):48 <= iv c /\ iv c <= 57:=by unfold c82 at h;simpa using h
section
variable {n:Nat} {l:List UInt8}
theorem c04 (h:Dg n l) (hl:l.length <= 9) (d:Int):g9 a31 (⟨l.toArray⟩,d)=some (⟨l.toArray⟩,a1y,d,true):=by
 have hpos:1 <= l.length:=by cases l with | nil=>exact absurd rfl h.ne | cons _ _=>simp
 have j2: ∀(m i k:Nat),i+m=l.length -> m<k -> f7 k (a30 (d,⟨l.toArray⟩,a1y)) (i:Int)=some (⟨l.toArray⟩,a1y,d,true):=by
  intro m
  induction m with
  | zero=>
    intro i k hi hk
    obtain ⟨k,rfl⟩: ∃m,k=m+1:=⟨k-1,by omega⟩
    rw [c8]
    unfold a30
    have hz:i64 ((l.length:Int)+(a1y.size:Int))=(l.length:Int):=by
     have h0:(l.length:Int)+(a1y.size:Int)=(l.length:Int):=by rw [show a1y.size=0 from rfl];simp
     rw [h0,u4 (by omega) (by omega)]
    simp only [d0z,hz]
    rw [if_neg (by simp;omega)]
    have e1:decide ((l.length:Int)<1)=false:=by simp;omega
    have e2:decide ((l.length:Int)>9)=false:=by simp;omega
    simp only [e1,e2,Bool.false_eq_true,if_false,Option.bind_some]
    by_cases h1:1<l.length
    ·cases hc:l with
     | nil=>exact absurd hc h.ne
     | cons c r=>
       have hc0:=h.hd h1 c r hc
       rw [hc] at h1
       have e3:decide (((c::r).length:Int)>1)=true:=by simp at h1 ⊢; omega
       have h0:a96 ⟨(c::r).toArray⟩ 0=some (iv c):=b4r (i:=0) rfl
       have e4:(iv c==48)=false:=by simpa using hc0
       simp only [e3,if_true,h0,Option.bind_some,e4,Bool.false_eq_true,if_false]
    ·have e3:decide ((l.length:Int)>1)=false:=by simp;omega
     simp only [e3,Bool.false_eq_true,if_false,Option.bind_some]
  | succ m ih=>
    intro i k hi hk
    obtain ⟨k,rfl⟩: ∃m,k=m+1:=⟨k-1,by omega⟩
    have ih:=ih (i+1) k (by omega) (by omega)
    rw [c8]
    generalize f7 k (a30 (d,⟨l.toArray⟩,a1y))=LP at ih⊢
    unfold a30
    have hz:i64 ((l.length:Int)+(a1y.size:Int))=(l.length:Int):=by
     have h0:(l.length:Int)+(a1y.size:Int)=(l.length:Int):=by rw [show a1y.size=0 from rfl];simp
     rw [h0,u4 (by omega) (by omega)]
    have hc:a3j ⟨l.toArray⟩ a1y=some ⟨l.toArray⟩:=by have:=d10 (a:=l) (b:=[]) (by simp;omega);rw [List.append_nil] at this;exact this
    obtain ⟨c,hcc⟩: ∃c,l[i]? =some c:=⟨l[i]'(by omega),List.getElem?_eq_getElem (by omega)⟩
    simp only [d0z,hz]
    rw [if_pos (by simp;omega)]
    simp only [hc,Option.bind_some,b4r hcc,c72,h.dig c (List.mem_of_getElem? hcc),Bool.not_true,Bool.false_eq_true,if_false]
    rw [b6j (by omega) (by omega)]
    exact ih
 have j1: ∀(m k:Nat),m <= l.length -> m<k -> f7 k (a2x (⟨l.toArray⟩,d)) (((⟨l.toArray⟩:ByteArray).size:Int),(m:Int)-1)=some (⟨l.toArray⟩,a1y,d,true):=by
  intro m
  induction m with
  | zero=>
    intro k _ hk
    obtain ⟨k,rfl⟩: ∃m,k=m+1:=⟨k-1,by omega⟩
    rw [c8]
    unfold a2x
    have hs:b3v ⟨l.toArray⟩ 0 (l.length:Int)=some ⟨l.toArray⟩:=by have:=d00 (a:=l) (b:=[]);rw [List.append_nil] at this;exact this
    rw [if_neg (by simp)]
    simp only [d0z,hs,Option.bind_some,decide_eq_false (show¬(l.length:Int)<(l.length:Int) by omega),Bool.false_eq_true,if_false]
    exact j2 l.length 0 FU (by omega) (by have:=a1o;omega)
  | succ m ih=>
    intro k hm hk
    obtain ⟨k,rfl⟩: ∃m,k=m+1:=⟨k-1,by omega⟩
    have ih:=ih k (by omega) (by omega)
    rw [c8]
    generalize f7 k (a2x (⟨l.toArray⟩,d))=LP at ih⊢
    unfold a2x
    obtain ⟨c,hcc⟩: ∃c,l[m]? =some c:=⟨l[m]'(by omega),List.getElem?_eq_getElem (by omega)⟩
    have hr:=b5u (h.dig c (List.mem_of_getElem? hcc))
    have e:((m+1:Nat):Int)-1=(m:Int):=by omega
    simp only [e]
    rw [if_pos (by simp)]
    have e46:(iv c==46)=false:=by simp;omega
    simp only [b4r hcc,Option.bind_some,e46,Bool.false_eq_true,if_false]
    rw [u4 (by omega) (by omega)]
    exact ih
 unfold g9 a31
 have:=j1 l.length FU (Nat.le_refl _) (by have:=a1o;omega)
 rw [d0z] at this⊢
 rw [u4 (by omega) (by omega)]
 exact this
def f5p:List UInt8 -> Int -> Prop:=fun s d=>(s=[] /\ d=2) \/ (s=[100] /\ d=3) \/ (s=[109] /\ d=4)
theorem c3r (h:Dg n l) (hl:l.length <= 9) {s:List UInt8} {d:Int} (hs:f5p s d):a07 ⟨(l++s).toArray⟩=some (⟨l.toArray⟩,a1y,d,true):=by
 obtain ⟨m,c,rfl⟩: ∃m c,l=m++[c]:=by
  rcases List.eq_nil_or_concat l with h0 | ⟨m,c,h0⟩
  ·exact absurd h0 h.ne
  ·exact ⟨m,c,by simpa using h0⟩
 have hr:=b5u (h.dig c (by simp))
 have hlen:(m++[c]).length=m.length+1:=by simp
 unfold a07
 rcases hs with ⟨rfl,rfl⟩ | ⟨rfl,rfl⟩ | ⟨rfl,rfl⟩
 ·simp only [List.append_nil]
  have hz:((⟨(m++[c]).toArray⟩:ByteArray).size:Int)=(m.length:Int)+1:=by rw [d0z,hlen];rfl
  have e0:decide ((m.length:Int)+1>0)=true:=by simp
  have e1:a96 ⟨(m++[c]).toArray⟩ (i64 ((m.length:Int)+1-1))=some (iv c):=by
   rw [u4 (by omega) (by omega),show (m.length:Int)+1-1=(m.length:Int) by omega]
   exact b4r (by simp)
  have e2:(iv c==100)=false:=by simp;omega
  have e3:(iv c==109)=false:=by simp;omega
  simp only [hz,e0,if_true,e1,Option.bind_some,e2,e3,Bool.false_eq_true,if_false]
  exact c04 h hl 2
 ·have hz:((⟨(m++[c]++[100]).toArray⟩:ByteArray).size:Int)=(m.length:Int)+2:=by rw [d0z];simp
  have e0:decide ((m.length:Int)+2>0)=true:=by simp;omega
  have e9:i64 ((m.length:Int)+2-1)=((m++[c]).length:Int):=by rw [u4 (by omega) (by omega),hlen];omega
  have e1:a96 ⟨(m++[c]++[100]).toArray⟩ ((m++[c]).length:Int)=some 100:=b4r (c:=100) (by simp)
  simp only [hz,e0,if_true,e9,e1,Option.bind_some,BEq.rfl,d00]
  exact c04 h hl 3
 ·have hz:((⟨(m++[c]++[109]).toArray⟩:ByteArray).size:Int)=(m.length:Int)+2:=by rw [d0z];simp
  have e0:decide ((m.length:Int)+2>0)=true:=by simp;omega
  have e9:i64 ((m.length:Int)+2-1)=((m++[c]).length:Int):=by rw [u4 (by omega) (by omega),hlen];omega
  have e1:a96 ⟨(m++[c]++[109]).toArray⟩ ((m++[c]).length:Int)=some 109:=b4r (c:=109) (by simp)
  simp only [hz,e0,if_true,e9,e1,Option.bind_some,BEq.rfl,d00,show ((109:Int)==100)=false from rfl,Bool.false_eq_true,if_false]
  exact c04 h hl 4
theorem e9q: ∀(l:List UInt8) (x:Int) (N:Nat),(∀c∈l,c82 (iv c)=true) -> 0 <= x -> x<10^N ->
  0 <= l.foldl (fun x c=>x*10+(iv c-48)) x /\ l.foldl (fun x c=>x*10+(iv c-48)) x<10^(N+l.length):=by
 intro l
 induction l with
 | nil=>intro x N _ h0 h1;exact ⟨h0,h1⟩
 | cons c l ih=>
   intro x N hd h0 h1
   have h2:=b5u (hd c (by simp))
   have:=ih (x*10+(iv c-48)) (N+1) (fun y hy=>hd y (by simp [hy])) (by omega) (by rw [Int.pow_succ];omega)
   rw [List.foldl_cons,List.length_cons,show N+(l.length+1)=N+1+l.length by omega]
   exact this
theorem c0k (l:List UInt8) (h: ∀c∈l,c82 (iv c)=true):0 <= d89 l /\ d89 l<10^l.length:=by
 have:=e9q l 0 0 h (by decide) (by decide)
 rw [Nat.zero_add] at this
 exact this
end
end Go.PL
namespace Go.PL
open Go Go.SX
theorem c5c: ∃m,FU=m+1+1:=⟨FU-2,by have:=a1o;omega⟩
theorem f8l {n:Int} (h:0 <= n):b36 n 1=some 0:=by rw [c0g (by decide),c3c h];simp
theorem quo1 {n:Int} (h:0 <= n) (h1:n <= 9223372036854775807):b9o n 1=some n:=by rw [e06 (by decide),Int.tdiv_one,u4 (by omega) h1]
theorem f8r {n:Int} (h0:0 <= n) (h1:n <= 1000000000000000):a2n ⟨0,n⟩ 1=some (⟨0,n⟩,0):=by
 unfold a2n
 simp only [show b36 0 1=some 0 from rfl,Option.bind_some]
 have hD:b6d 0 n 1=some (n,0):=by
  unfold b6d g9 b9h g9 b9l
  simp only [show ((1:Int)==0)=false from rfl,show decide ((1:Int) <= 0)=false from rfl,Bool.false_eq_true,if_false,BEq.rfl,if_true,show¬((1:Int)=0) by decide,Int.tdiv_one,f8l h0,Option.bind_some,e1w h0 (show n <= 18446744073709551615 by omega)]
 simp only [hD,Option.bind_some,show¬((1:Int)=0) by decide,if_false]
 rfl
theorem f8t {n:Int} (h0:0 <= n):a1n n 1=some 1:=by
 unfold a1n
 obtain ⟨m,hm⟩:=c5c
 rw [hm,c8]
 unfold a8q
 simp only [show ((1:Int) != 0)=true from rfl,if_true,f8l h0,Option.bind_some]
 rw [c8]
 simp only [show ((0:Int) != 0)=false from rfl,Bool.false_eq_true,if_false]
theorem f4r:a1n 1 0=some 1:=by
 unfold a1n
 obtain ⟨m,hm⟩:=c5c
 rw [hm,c8]
 rfl
theorem f9e {n:Int} (h0:0 <= n) (h1:n <= 1000000000000000):a2r n 1=some (⟨n,1⟩,0):=by
 unfold a2r
 obtain ⟨x,hx,_,_,e⟩:=c1x n
 have e:=e h0 (by omega)
 subst e
 unfold a8w
 have hd:decide (x<0)=false:=by simp;omega
 have hd2:decide (x>1000000000000000)=false:=by simp;omega
 simp only [show ((1:Int)==0)=false from rfl,Bool.false_eq_true,if_false,hx,show a1u 1=some 1 from rfl,Option.bind_some,f8r h0 h1,f4r,show¬((1:Int)=0) by decide,hd,hd2,show u64 (Int.tdiv 1 1)=1 from rfl,show ((0:Int) != 0)=false from rfl,show decide ((1:Int)>1000000000)=false from rfl,show decide ((1:Int)<0)=false from rfl,bne_self_eq_false,u4 (show-9223372036854775808 <= x by omega) (show x <= 9223372036854775807 by omega),show i64 1=1 from rfl]
theorem f6n {n:Int} (h0:0 <= n) (h1:n <= 1000000000000000):s5 ⟨n,1⟩=some true:=by
 unfold s5
 obtain ⟨x,hx,_,_,e⟩:=c1x n
 have e:=e h0 (by omega)
 subst e
 have hd:decide (x >= -1000000000000000)=true:=by simp;omega
 have hd2:decide (x <= 1000000000000000)=true:=by simp;omega
 simp only [show decide ((1:Int) >= 1)=true from rfl,show decide ((1:Int) <= 1000000000)=true from rfl,if_true,Option.bind_some,hd,hd2,hx,show u64 1=1 from rfl,f8t h0,BEq.rfl]
section
variable {n:Nat} {l:List UInt8}
theorem d8y (h:Dg n l) (hl:l.length <= 9) {s:List UInt8} {d:Int} (hs:f5p s d):s7 ⟨(l++s).toArray⟩=some (⟨(n:Int),1⟩,d,true):=by
 unfold s7
 rw [c3r h hl hs,Option.bind_some]
 simp only [Bool.not_true,Bool.false_eq_true,if_false]
 have hv:=c0k l h.dig
 have hp:(10:Int)^l.length <= 1000000000:=by
  have:(10:Nat)^l.length <= 10^9:=Nat.pow_le_pow_right (by decide) hl
  have h2:((10^l.length:Nat):Int) <= ((10^9:Nat):Int):=by exact_mod_cast this
  simpa using h2
 have go: ∀(b a:List UInt8) (k:Nat),a++b=l -> b.length<k -> f7 k (a25 (⟨l.toArray⟩,a1y,d,true)) ((⟨0,0⟩:Fraction),d89 a,1,(a.length:Int))=some (⟨(n:Int),1⟩,d,true):=by
  intro b
  induction b with
  | nil=>
    intro a k ha hk
    obtain ⟨k,rfl⟩: ∃m,k=m+1:=⟨k-1,by omega⟩
    rw [List.append_nil] at ha
    subst ha
    rw [c8]
    unfold a25
    have hz:i64 ((a.length:Int)+(a1y.size:Int))=(a.length:Int):=by
     have h0:(a.length:Int)+(a1y.size:Int)=(a.length:Int):=by rw [show a1y.size=0 from rfl];simp
     rw [h0,u4 (by omega) (by omega)]
    simp only [d0z,hz]
    rw [if_neg (by simp),h.val,f9e (by omega) (by rw [<- h.val];omega)]
    rfl
  | cons c b ih=>
    intro a k ha hk
    have hk:b.length+1<k:=hk
    obtain ⟨k,rfl⟩: ∃m,k=m+1:=⟨k-1,by omega⟩
    have ih:=ih (a++[c]) k (by rw [List.append_assoc];exact ha) (by omega)
    have hlen:a.length+1+b.length=l.length:=by rw [<- ha];simp;omega
    have hc:c∈l:=by rw [<- ha];simp
    have hcd:=b5u (h.dig c hc)
    have hva:=c0k (a++[c]) fun x hx=>h.dig x (by rw [<- ha];simp at hx ⊢; rcases hx with hx | hx<;>simp [hx])
    have hpa:(10:Int)^(a++[c]).length <= 1000000000:=by
     have:(10:Nat)^(a++[c]).length <= 10^9:=Nat.pow_le_pow_right (by decide) (by simp;omega)
     have h2:((10^(a++[c]).length:Nat):Int) <= ((10^9:Nat):Int):=by exact_mod_cast this
     simpa using h2
    have hva0:=c0k a fun x hx=>h.dig x (by rw [<- ha];simp [hx])
    rw [c2m] at ih hva
    rw [c8]
    generalize f7 k (a25 (⟨l.toArray⟩,a1y,d,true))=LP at ih⊢
    unfold a25
    have hz:i64 ((l.length:Int)+(a1y.size:Int))=(l.length:Int):=by
     have h0:(l.length:Int)+(a1y.size:Int)=(l.length:Int):=by rw [show a1y.size=0 from rfl];simp
     rw [h0,u4 (by omega) (by omega)]
    have hct:a3j ⟨l.toArray⟩ a1y=some ⟨l.toArray⟩:=by have:=d10 (a:=l) (b:=[]) (by simp;omega);rw [List.append_nil] at this;exact this
    have hget:l[a.length]? =some c:=by rw [<- ha];simp
    simp only [d0z,hz]
    rw [if_pos (by simp;omega)]
    simp only [hct,Option.bind_some,b4r hget]
    rw [if_neg (by simp;omega)]
    have e1:i64 (d89 a*10)=d89 a*10:=u4 (by omega) (by omega)
    have e2:i64 (IntKind.u8.wrap (iv c-48))=iv c-48:=by
     have:IntKind.u8.wrap (iv c-48)=iv c-48:=by
      unfold IntKind.wrap
      simp [IntKind.bits,IntKind.signed]
      omega
     rw [this,u4 (by omega) (by omega)]
    rw [e1,e2,u4 (by omega) (by omega),b6j (by omega) (by omega)]
    have hl2:((a++[c]).length:Int)=(a.length:Int)+1:=by simp
    rw [hl2] at ih
    exact ih
 exact go l [] FU rfl (by have:=a1o;omega)
theorem d62 {n:Int} (h0:0 <= n) (h1:n <= 100000) {d:Int} (h2:2 <= d) (h3:d <= 4): ∃s,p4 ⟨n,1⟩ d=some (s,true):=by
 unfold p4
 obtain ⟨x,hx,hxs⟩:=b77 (n:=n) h0 (by omega)
 have d1:decide (n<0)=false:=by simp;omega
 have d2:decide (d<2)=false:=by simp;omega
 have d3:decide (d>4)=false:=by simp;omega
 have d4:decide (n>999999999)=false:=by simp;omega
 have e1:i64 (n*1)=n:=by rw [Int.mul_one];exact u4 (by omega) (by omega)
 have e2:i64 (i64 (n-n)*10000)=0:=by rw [show n-n=0 by omega];rfl
 simp only [f6n h0 (show n <= 1000000000000000 by omega),Option.bind_some,Bool.not_true,Bool.false_eq_true,if_false,d1,show b36 10000 1=some 0 from rfl,bne_self_eq_false,d2,d3,quo1 h0 (show n <= 9223372036854775807 by omega),d4,hx,show b9o 10000 1=some 10000 from rfl,e1,e2,show decide ((0:Int)>0)=false from rfl]
 unfold g9 a36
 obtain ⟨m,hm⟩:=c5c
 rw [hm,c8]
 unfold a65
 simp only [show decide ((0:Int)>0)=false from rfl,Bool.false_eq_true,if_false]
 rw [show i64 (d-2)=d-2 from u4 (by omega) (by omega)]
 obtain ⟨y,hy,hm⟩:=c25 (l:=[a1y,e43,e3t]) (i:=d-2) (by omega) (by simp;omega)
 have hx1:y.size <= 1:=by
  simp at hm
  rcases hm with rfl | rfl | rfl<;>decide
 obtain ⟨z,hz,_⟩:=g7 (a:=x) (b:=y) (by omega)
 simp only [hy,hz,Option.bind_some]
 exact ⟨_,rfl⟩
end
end Go.PL
namespace Go.PL
open Go Go.SX
theorem d93 {l:List UInt8} (h: ∀c∈l,c≠46):f0a ⟨l.toArray⟩ 46= -1:=by
 unfold f0a
 have:(List.range (⟨l.toArray⟩:ByteArray).size).find? (fun i=>(⟨l.toArray⟩:ByteArray)[i]! ==(46:Int).toNat.toUInt8)=none:=by
  rw [List.find?_eq_none]
  intro i hi
  rw [List.mem_range,d0z] at hi
  have e:(⟨l.toArray⟩:ByteArray)[i]! =l[i]:=by
   rw [getElem!_pos _ i (by rw [d0z];exact hi)]
   rfl
  rw [e]
  have:=h l[i] (List.getElem_mem hi)
  simpa using this
 rw [this]
section
variable {n:Nat} {l:List UInt8}
theorem Dg.no46 (h:Dg n l): ∀c∈l,c≠46:=by
 intro c hc he
 have:=b5u (h.dig c hc)
 subst he
 revert this
 decide
theorem e0a (h:Dg n l) (hl:l.length <= 9):a4w ⟨l.toArray⟩=some ((n:Int),true):=by
 unfold a4w
 have go: ∀(b a:List UInt8) (k:Nat),a++b=l -> b.length<k -> f7 k (a59 ⟨l.toArray⟩) (d89 a,(a.length:Int))=some ((n:Int),true):=by
  intro b
  induction b with
  | nil=>
    intro a k ha hk
    obtain ⟨k,rfl⟩: ∃m,k=m+1:=⟨k-1,by omega⟩
    rw [List.append_nil] at ha
    subst ha
    rw [c8]
    unfold a59
    simp only [d0z]
    rw [if_neg (by simp),h.val]
  | cons c b ih=>
    intro a k ha hk
    have hk:b.length+1<k:=hk
    obtain ⟨k,rfl⟩: ∃m,k=m+1:=⟨k-1,by omega⟩
    have ih:=ih (a++[c]) k (by rw [List.append_assoc];exact ha) (by omega)
    have hlen:a.length+1+b.length=l.length:=by rw [<- ha];simp;omega
    have hc:c∈l:=by rw [<- ha];simp
    have hcd:=b5u (h.dig c hc)
    have hva:=c0k (a++[c]) fun x hx=>h.dig x (by rw [<- ha];simp at hx ⊢; rcases hx with hx | hx<;>simp [hx])
    have hpa:(10:Int)^(a++[c]).length <= 1000000000:=by
     have:(10:Nat)^(a++[c]).length <= 10^9:=Nat.pow_le_pow_right (by decide) (by simp;omega)
     have h2:((10^(a++[c]).length:Nat):Int) <= ((10^9:Nat):Int):=by exact_mod_cast this
     simpa using h2
    have hva0:=c0k a fun x hx=>h.dig x (by rw [<- ha];simp [hx])
    rw [c2m] at ih hva
    rw [c8]
    generalize f7 k (a59 ⟨l.toArray⟩)=LP at ih⊢
    unfold a59 b4n
    have hget:l[a.length]? =some c:=by rw [<- ha];simp
    have d1:decide (iv c >= 48)=true:=by simp;omega
    have d2:decide (iv c <= 57)=true:=by simp;omega
    simp only [d0z]
    rw [if_pos (by simp;omega)]
    simp only [Option.bind_some,b4r hget,d1,d2,if_true,Bool.not_true,Bool.false_eq_true,if_false]
    have e1:i64 (10*d89 a)=d89 a*10:=by rw [Int.mul_comm];exact u4 (by omega) (by omega)
    have e2:i64 (IntKind.u8.wrap (iv c-48))=iv c-48:=by
     have:IntKind.u8.wrap (iv c-48)=iv c-48:=by
      unfold IntKind.wrap
      simp [IntKind.bits,IntKind.signed]
      omega
     rw [this,u4 (by omega) (by omega)]
    rw [e1,e2,u4 (by omega) (by omega),b6j (by omega) (by omega)]
    have hl2:((a++[c]).length:Int)=(a.length:Int)+1:=by simp
    rw [hl2] at ih
    exact ih
 exact go l [] FU rfl (by have:=a1o;omega)
theorem e36 (h:Dg n l) (hl:l.length <= 9):b4h ⟨l.toArray⟩ a8m=some (⟨l.toArray⟩,a1y,false):=by
 have hi:a6s ⟨l.toArray⟩ a8m=some (-1):=by
  unfold a6s a6b a50
  have ne:(a8m.toList==(⟨l.toArray⟩:ByteArray).toList)=false:=by
   cases hb:(a8m.toList==(⟨l.toArray⟩:ByteArray).toList) with
   | false=>rfl
   | true=>
     have e:=eq_of_beq hb
     have e2:(a8m:ByteArray).data.toList=l:=by
      rw [ByteArray.toList_eq,ByteArray.toList_eq] at e
      exact e
     exact absurd rfl (h.no46 46 (by rw [<- e2];decide))
  simp only [show ((a8m.size:Int)==0)=false from rfl,show ((a8m.size:Int)==1)=true from rfl,Bool.false_eq_true,if_false,if_true,Option.bind_some,ne,show a96 a8m 0=some 46 from rfl,d93 h.no46]
 unfold b4h b2b
 rw [hi,Option.bind_some]
 rfl
theorem c6x: ∃m,FU=m+1+1+1:=⟨FU-3,by have:=a1o;omega⟩
theorem c37 (h:Dg n l) (hl:l.length <= 9) (d:Int):g9 a5c (⟨l.toArray⟩,(⟨0,0⟩:Fraction),d)=some (⟨(n:Int),1⟩,d,true):=by
 have hpos:1 <= l.length:=by cases l with | nil=>exact absurd rfl h.ne | cons _ _=>simp
 have hn:(n:Int) <= 1000000000:=by
  have hv:=c0k l h.dig
  have:(10:Nat)^l.length <= 10^9:=Nat.pow_le_pow_right (by decide) hl
  have h2:((10^l.length:Nat):Int) <= ((10^9:Nat):Int):=by exact_mod_cast this
  rw [h.val] at hv
  have h3:(10:Int)^l.length <= 1000000000:=by simpa using h2
  omega
 unfold g9 a5c
 have e1:decide ((l.length:Int)<1)=false:=by simp;omega
 have e2:decide ((l.length:Int)>9)=false:=by simp;omega
 have e3:(if (decide ((l.length:Int)>1)) then (a96 ⟨l.toArray⟩ 0).bind fun v7=>some (v7==48) else some false)=some false:=by
  by_cases h1:1<l.length
  ·cases hc:l with
   | nil=>exact absurd hc h.ne
   | cons c r=>
     have hc0:=h.hd h1 c r hc
     rw [hc] at h1
     have e3:decide (((c::r).length:Int)>1)=true:=by simp at h1 ⊢; omega
     have h0:a96 ⟨(c::r).toArray⟩ 0=some (iv c):=b4r (i:=0) rfl
     have e4:(iv c==48)=false:=by simpa using hc0
     simp only [e3,if_true,h0,Option.bind_some,e4]
  ·have e3:decide ((l.length:Int)>1)=false:=by simp;omega
   simp only [e3,Bool.false_eq_true,if_false]
 have en:a4w a1y=some (0,true):=by
  unfold a4w
  obtain ⟨m,hm⟩:=c5c
  rw [hm,c8]
  rfl
 simp only [e36 h hl,Option.bind_some,d0z,e1,e2,e3,Bool.false_eq_true,if_false,e0a h hl,en,Bool.not_true]
 have l3: ∀(v23:Int) (r22:(Fraction×Int) -> Option (Fraction×Int×Bool)) (v21:Fraction×Int),v23=2 \/ v23=5 -> v21.1=⟨(n:Int),1⟩ -> f7 FU (b0l v23 r22 v21) v21.1=r22 (v21.1,i64 (v21.2+1)):=by
  intro v23 r22 v21 hv he
  obtain ⟨m,hm⟩:=c5c
  rw [hm,c8]
  unfold b0l
  rw [he]
  have hr:b36 1 v23=some 1:=by rcases hv with rfl | rfl<;>rfl
  have hr2: ∃x,b36 (n:Int) v23=some x:=by rcases hv with rfl | rfl<;>exact ⟨_,c0g (by decide)⟩
  obtain ⟨x,hx⟩:=hr2
  simp only [hx,hr,Option.bind_some]
  cases (x==0)<;>rfl
 obtain ⟨m,hm⟩:=c6x
 have l2: ∀v20:Fraction×Int×Int×Int,v20.2.1=d -> f7 FU (a13 v20) ((⟨(n:Int),1⟩:Fraction),0)=some (⟨(n:Int),1⟩,d,true):=by
  intro v20 hd
  rw [show f7 FU (a13 v20)=f7 (m+1+1+1) (a13 v20) by rw [<- hm]]
  rw [c8]
  generalize hA:f7 (m+1+1) (a13 v20)=A
  unfold a13
  simp only [show decide ((0:Int)<2)=true from rfl,if_true,show i7 (⟨[2,5],rfl⟩:Ar 2 Int).l 0=some 2 from rfl,Option.bind_some]
  rw [l3 2 A (_,0) (.inl rfl) rfl,<- hA,c8]
  generalize hB:f7 (m+1) (a13 v20)=B
  unfold a13
  simp only [show i64 (0+1)=1 from rfl,show decide ((1:Int)<2)=true from rfl,if_true,show i7 (⟨[2,5],rfl⟩:Ar 2 Int).l 1=some 5 from rfl,Option.bind_some]
  rw [l3 5 B (_,1) (.inr rfl) rfl,<- hB,c8]
  unfold a13
  simp only [show i64 (1+1)=2 from rfl,show decide ((2:Int)<2)=false from rfl,Bool.false_eq_true,if_false,hd]
 rw [hm,c8]
 unfold b4p
 simp only [show d75 a1y 0=none from rfl,optC]
 unfold g9 b4x
 simp only [Int.add_zero,u4 (show-9223372036854775808 <= (n:Int) by omega) (show (n:Int) <= 9223372036854775807 by omega)]
 exact l2 _ rfl
theorem d77 (h:Dg n l) (hl:l.length <= 9) {s:List UInt8} {d:Int} (hs:f5p s d):b1b ⟨(l++s).toArray⟩=some (⟨(n:Int),1⟩,d,true):=by
 obtain ⟨m,c,rfl⟩: ∃m c,l=m++[c]:=by
  rcases List.eq_nil_or_concat l with h0 | ⟨m,c,h0⟩
  ·exact absurd h0 h.ne
  ·exact ⟨m,c,by simpa using h0⟩
 have hr:=b5u (h.dig c (by simp))
 have hlen:(m++[c]).length=m.length+1:=by simp
 unfold b1b
 rcases hs with ⟨rfl,rfl⟩ | ⟨rfl,rfl⟩ | ⟨rfl,rfl⟩
 ·simp only [List.append_nil]
  have hz:((⟨(m++[c]).toArray⟩:ByteArray).size:Int)=(m.length:Int)+1:=by rw [d0z,hlen];rfl
  have e0:decide ((m.length:Int)+1>0)=true:=by simp
  have e1:a96 ⟨(m++[c]).toArray⟩ (i64 ((m.length:Int)+1-1))=some (iv c):=by
   rw [u4 (by omega) (by omega),show (m.length:Int)+1-1=(m.length:Int) by omega]
   exact b4r (by simp)
  have e2:(iv c==100)=false:=by simp;omega
  have e3:(iv c==109)=false:=by simp;omega
  simp only [hz,e0,if_true,e1,Option.bind_some,e2,e3,Bool.false_eq_true,if_false]
  exact c37 h hl 2
 ·have hz:((⟨(m++[c]++[100]).toArray⟩:ByteArray).size:Int)=(m.length:Int)+2:=by rw [d0z];simp
  have e0:decide ((m.length:Int)+2>0)=true:=by simp;omega
  have e9:i64 ((m.length:Int)+2-1)=((m++[c]).length:Int):=by rw [u4 (by omega) (by omega),hlen];omega
  have e1:a96 ⟨(m++[c]++[100]).toArray⟩ ((m++[c]).length:Int)=some 100:=b4r (c:=100) (by simp)
  simp only [hz,e0,if_true,e9,e1,Option.bind_some,BEq.rfl,d00]
  exact c37 h hl 3
 ·have hz:((⟨(m++[c]++[109]).toArray⟩:ByteArray).size:Int)=(m.length:Int)+2:=by rw [d0z];simp
  have e0:decide ((m.length:Int)+2>0)=true:=by simp;omega
  have e9:i64 ((m.length:Int)+2-1)=((m++[c]).length:Int):=by rw [u4 (by omega) (by omega),hlen];omega
  have e1:a96 ⟨(m++[c]++[109]).toArray⟩ ((m++[c]).length:Int)=some 109:=b4r (c:=109) (by simp)
  simp only [hz,e0,if_true,e9,e1,Option.bind_some,BEq.rfl,d00,show ((109:Int)==100)=false from rfl,Bool.false_eq_true,if_false]
  exact c37 h hl 4
end
theorem d6y {n:Nat} (h1:n <= 100000) {d:Int} (h2:2 <= d) (h3:d <= 4): ∃s,a02 ⟨(n:Int),1⟩ d=some (s,true):=by
 have hd:=e2i 20 n (Nat.lt_of_le_of_lt h1 (by decide))
 have hdl:=b8x 20 n 5 (Nat.lt_of_le_of_lt h1 (by decide))
 unfold a02
 have d1:decide ((n:Int)<0)=false:=by simp
 have d2:decide ((n:Int)>1000000000000000)=false:=by simp;omega
 have hI:strconv_Itoa (n:Int)=some ⟨(a7i 20 n).toArray⟩:=by unfold strconv_Itoa;rw [if_pos (by omega)];simp
 simp only [show decide ((1:Int)<1)=false from rfl,show decide ((1:Int)>10000)=false from rfl,Bool.false_eq_true,if_false,Option.bind_some,d1,d2,quo1 (show 0 <= (n:Int) by omega) (show (n:Int) <= 9223372036854775807 by omega),f8l (show 0 <= (n:Int) by omega),hI]
 obtain ⟨m,hm⟩:=c5c
 rw [hm,c8]
 unfold a9d
 simp only [show decide ((0:Int)>0)=false from rfl,Bool.false_eq_true,if_false]
 have fin: ∀s,f5p s d -> g9 a23 (d,(⟨(n:Int),1⟩:Fraction),⟨(a7i 20 n++s).toArray⟩)=some (⟨(a7i 20 n++s).toArray⟩,true):=by
  intro s hs
  unfold g9 a23
  simp only [d77 hd (by omega) hs,Option.bind_some,Bool.not_true,Bool.false_eq_true,if_false,BEq.rfl,Bool.and_true,bne_self_eq_false]
 have hcat: ∀s:List UInt8,s.length <= 1 -> a3j ⟨(a7i 20 n).toArray⟩ ⟨s.toArray⟩=some ⟨(a7i 20 n++s).toArray⟩:=fun s hs=>d10 (by omega)
 have hc:d=2 \/ d=3 \/ d=4:=by omega
 rcases hc with rfl | rfl | rfl
 ·have:=fin [] (.inl ⟨rfl,rfl⟩)
  rw [List.append_nil] at this
  exact ⟨_,this⟩
 ·have e:=hcat [100] (by simp)
  have f:=fin [100] (.inr (.inl ⟨rfl,rfl⟩))
  refine ⟨⟨(a7i 20 n++[100]).toArray⟩,?_⟩
  show (a3j ⟨(a7i 20 n).toArray⟩ ⟨[100].toArray⟩).bind _=_
  rw [e,Option.bind_some]
  exact f
 ·have e:=hcat [109] (by simp)
  have f:=fin [109] (.inr (.inr ⟨rfl,rfl⟩))
  refine ⟨⟨(a7i 20 n++[109]).toArray⟩,?_⟩
  show (a3j ⟨(a7i 20 n).toArray⟩ ⟨[109].toArray⟩).bind _=_
  rw [e,Option.bind_some]
  exact f
end Go.PL
namespace Go.PL
open Go Go.SX
theorem k9 {σ β:Type} {f:(σ -> Option β) -> σ -> Option β} (st:Nat -> σ) (N:Nat) {x:Option β} (hstep: ∀i,i<N -> ∀r,f r (st i)=r (st (i+1))) (hend: ∀r,f r (st N)=x) {k:Nat} (hk:N<k):f7 k f (st 0)=x:=by
 have go: ∀m i k,i+m=N -> m<k -> f7 k f (st i)=x:=by
  intro m
  induction m with
  | zero=>
    intro i k hi hk
    obtain ⟨k,rfl⟩: ∃m,k=m+1:=⟨k-1,by omega⟩
    obtain rfl:i=N:=by omega
    rw [c8]
    exact hend _
  | succ m ih=>
    intro i k hi hk
    obtain ⟨k,rfl⟩: ∃m,k=m+1:=⟨k-1,by omega⟩
    rw [c8,hstep i (by omega)]
    exact ih (i+1) k (by omega) (by omega)
 exact go N 0 k (by omega) hk
theorem a0c {α:Type} {l:List α} {i:Nat} (h:i<l.length):i7 l (i:Int)=some l[i]:=e27 (by omega) (by simp [h])
theorem a4f {i:Nat} (h:i <= 1000000):i64 ((i:Int)+1)=((i+1:Nat):Int):=by rw [u4 (by omega) (by omega)];omega
theorem b3u {i n:Nat} (h:i<n):decide ((i:Int)<(n:Int))=true:=by simp;omega
theorem a4u (n:Nat):decide ((n:Int)<(n:Int))=false:=by simp
def AE.dep:AE -> Nat
 | .bin _ a b=>max (max 0 a.dep) b.dep+1
 | .ite a b c=>max (max (max 0 a.dep) b.dep) c.dep+1
 | _=>1
def AE.sz:AE -> Nat
 | .bin _ a b=>1+a.sz+b.sz
 | .ite a b c=>1+a.sz+b.sz+c.sz
 | _=>1
theorem b60 (a:AE):1 <= a.dep:=by cases a<;>simp [AE.dep]
def AE.args:AE -> List AE
 | .bin _ a b=>[a,b]
 | .ite a b c=>[a,b,c]
 | _=>[]
theorem AE.ind {P:AE -> Prop} (h: ∀a:AE,(∀b∈a.args,P b) -> P a): ∀a,P a:=by
 intro a
 induction a with
 | lit v d=>exact h _ fun b hb=>by cases hb
 | nm s=>exact h _ fun b hb=>by cases hb
 | best k=>exact h _ fun b hb=>by cases hb
 | bin op a b iha ihb=>exact h _ fun x hx=>by simp [AE.args] at hx;rcases hx with rfl | rfl<;>assumption
 | ite a b c iha ihb ihc=>exact h _ fun x hx=>by simp [AE.args] at hx;rcases hx with rfl | rfl | rfl<;>assumption
theorem c5m (a:AE):a.e.Args=a.args.map AE.e:=by cases a<;>rfl
theorem b6e (a:AE):a.args.length <= 3:=by cases a<;>simp [AE.args]
theorem e7t (a:AE):a.dep=a.args.foldl (fun m b=>max m b.dep) 0+1:=by cases a<;>rfl
theorem e4i (a:AE):a.sz=a.args.foldl (fun m b=>m+b.sz) 1:=by cases a<;>rfl
theorem b0j {a b:AE} (h:b∈a.args):b.dep<a.dep:=by
 cases a with
 | bin op x y=>simp [AE.args] at h;show b.dep<max (max 0 x.dep) y.dep+1;rcases h with rfl | rfl<;>omega
 | ite x y z=>simp [AE.args] at h;show b.dep<max (max (max 0 x.dep) y.dep) z.dep+1;rcases h with rfl | rfl | rfl<;>omega
 | _=>cases h
theorem e6g {a b:AE} (h:b∈a.args):b.sz<a.sz:=by
 cases a with
 | bin op x y=>simp [AE.args] at h;show b.sz<1+x.sz+y.sz;rcases h with rfl | rfl<;>omega
 | ite x y z=>simp [AE.args] at h;show b.sz<1+x.sz+y.sz+z.sz;rcases h with rfl | rfl | rfl<;>omega
 | _=>cases h
theorem d87 (R:Ring_pensionref5_Depth) (L:List AE) (hR: ∀a∈L,R.f_pensionref5_Depth a.e=some (a.dep:Int)) (e:Expr) (he:e.Args=L.map AE.e) (hl:L.length <= 3) (hd: ∀a∈L,a.dep <= 1000):
  a4x R e=some ((L.foldl (fun m a=>max m a.dep) 0+1:Nat):Int):=by
 unfold a4x
 have hb: ∀(L:List AE) (m:Nat),m <= 1000 -> (∀a∈L,a.dep <= 1000) -> L.foldl (fun m a=>max m a.dep) m <= 1000:=by
  intro L
  induction L with
  | nil=>intro m h _;exact h
  | cons a L ih=>intro m h h2;exact ih (max m a.dep) (by have:=h2 a (by simp);omega) fun x hx=>h2 x (by simp [hx])
 refine k9 (fun i=>(e,(((L.take i).foldl (fun m a=>max m a.dep) 0:Nat):Int),(i:Int))) L.length ?_ ?_ (by have:=a1o;omega)
 ·intro i hi r
  unfold a7b
  have hlen:e.Args.length=L.length:=by rw [he];simp
  have hg:i7 e.Args (i:Int)=some (L[i].e):=by rw [a0c (by omega)];simp [he]
  simp only [hlen,b3u hi,if_true,hg,Option.bind_some,hR _ (List.getElem_mem hi),a4f (show i <= 1000000 by omega)]
  rw [List.take_succ_eq_append_getElem hi,List.foldl_append]
  simp only [List.foldl_cons,List.foldl_nil]
  congr 3
  omega
 ·intro r
  unfold a7b
  have hlen:e.Args.length=L.length:=by rw [he];simp
  simp only [hlen,a4u,Bool.false_eq_true,if_false,List.take_length]
  have:=hb L 0 (by omega) hd
  rw [a4f (by omega)]
theorem e4d: ∀(a:AE),a.dep <= 1000 -> ∀m,a.dep <= m -> (y5 m).f_pensionref5_Depth a.e=some (a.dep:Int):=by
 refine AE.ind fun a ih hd m hm=> ?_
 obtain ⟨m,rfl⟩: ∃k,m=k+1:=⟨m-1,by have:=b60 a;omega⟩
 rw [e7t a]
 exact d87 _ a.args (fun b hb=>ih b hb (by have:=b0j hb;omega) m (by have:=b0j hb;omega)) a.e (c5m a) (b6e a) fun b hb=>by have:=b0j hb;omega
theorem c5z: ∀(L:List AE) (m:Nat),m <= L.foldl (fun m b=>m+b.sz) m:=by
 intro L
 induction L with
 | nil=>intro m;exact Nat.le_refl _
 | cons a L ih=>intro m;have:=ih (m+a.sz);simp only [List.foldl_cons];omega
theorem e0d (R:Ring_pensionref5_Size) (L:List AE) (hR: ∀a∈L,R.f_pensionref5_Size a.e=some (a.sz:Int)) (e:Expr) (he:e.Args=L.map AE.e) (hl:L.length <= 3) (hd:L.foldl (fun m b=>m+b.sz) 1 <= 1000):
  a5x R e=some ((L.foldl (fun m a=>m+a.sz) 1:Nat):Int):=by
 unfold a5x
 refine k9 (fun i=>(e,(((L.take i).foldl (fun m a=>m+a.sz) 1:Nat):Int),(i:Int))) L.length ?_ ?_ (by have:=a1o;omega)
 ·intro i hi r
  unfold a8a
  have hlen:e.Args.length=L.length:=by rw [he];simp
  have hg:i7 e.Args (i:Int)=some (L[i].e):=by rw [a0c (by omega)];simp [he]
  simp only [hlen,b3u hi,if_true,hg,Option.bind_some,hR _ (List.getElem_mem hi),a4f (show i <= 1000000 by omega)]
  have e0:(L.take (i+1)).foldl (fun m a=>m+a.sz) 1=(L.take i).foldl (fun m a=>m+a.sz) 1+L[i].sz:=by
   rw [List.take_succ_eq_append_getElem hi,List.foldl_append];rfl
  have hb:(L.take (i+1)).foldl (fun m a=>m+a.sz) 1 <= 1000:=by
   have h1:L.foldl (fun m b=>m+b.sz) 1=(L.drop (i+1)).foldl (fun m b=>m+b.sz) ((L.take (i+1)).foldl (fun m b=>m+b.sz) 1):=by
    rw [<- List.foldl_append,List.take_append_drop]
   have:=c5z (L.drop (i+1)) ((L.take (i+1)).foldl (fun m b=>m+b.sz) 1)
   omega
  rw [e0] at hb⊢
  rw [u4 (by omega) (by omega)]
  congr 3
 ·intro r
  unfold a8a
  have hlen:e.Args.length=L.length:=by rw [he];simp
  simp only [hlen,a4u,Bool.false_eq_true,if_false,List.take_length]
theorem f1b: ∀(a:AE),a.sz <= 1000 -> ∀m,a.dep <= m -> (z6 m).f_pensionref5_Size a.e=some (a.sz:Int):=by
 refine AE.ind fun a ih hd m hm=> ?_
 obtain ⟨m,rfl⟩: ∃k,m=k+1:=⟨m-1,by have:=b60 a;omega⟩
 rw [e4i a] at hd⊢
 exact e0d _ a.args (fun b hb=>ih b hb (by have:=e6g hb;rw [e4i a] at this;omega) m (by have:=b0j hb;omega)) a.e (c5m a) (b6e a) hd
theorem d3j (R:Ring_syntax_Depth) (L:List AE) (hR: ∀a∈L,R.f_syntax_Depth a.e=some (a.dep:Int)) (e:Expr) (he:e.Args=L.map AE.e) (hl:L.length <= 3) (hd: ∀a∈L,a.dep <= 1000):
  a9y R e=some ((L.foldl (fun m a=>max m a.dep) 0+1:Nat):Int):=by
 unfold a9y
 have hb: ∀(L:List AE) (m:Nat),m <= 1000 -> (∀a∈L,a.dep <= 1000) -> L.foldl (fun m a=>max m a.dep) m <= 1000:=by
  intro L
  induction L with
  | nil=>intro m h _;exact h
  | cons a L ih=>intro m h h2;exact ih (max m a.dep) (by have:=h2 a (by simp);omega) fun x hx=>h2 x (by simp [hx])
 refine k9 (fun i=>((((L.take i).foldl (fun m a=>max m a.dep) 0:Nat):Int),(i:Int))) L.length ?_ ?_ (by have:=a1o;omega)
 ·intro i hi r
  unfold b27
  have hlen:e.Args.length=L.length:=by rw [he];simp
  have hg:i7 e.Args (i:Int)=some (L[i].e):=by rw [a0c (by omega)];simp [he]
  simp only [hlen,b3u hi,if_true,hg,Option.bind_some,hR _ (List.getElem_mem hi),a4f (show i <= 1000000 by omega)]
  rw [List.take_succ_eq_append_getElem hi,List.foldl_append]
  simp only [List.foldl_cons,List.foldl_nil]
  congr 2
  omega
 ·intro r
  unfold b27
  have hlen:e.Args.length=L.length:=by rw [he];simp
  simp only [hlen,a4u,Bool.false_eq_true,if_false,List.take_length]
  have:=hb L 0 (by omega) hd
  rw [a4f (by omega)]
theorem d9k: ∀(a:AE),a.dep <= 1000 -> ∀m,a.dep <= m -> (a1a m).f_syntax_Depth a.e=some (a.dep:Int):=by
 refine AE.ind fun a ih hd m hm=> ?_
 obtain ⟨m,rfl⟩: ∃k,m=k+1:=⟨m-1,by have:=b60 a;omega⟩
 rw [e7t a]
 exact d3j _ a.args (fun b hb=>ih b hb (by have:=b0j hb;omega) m (by have:=b0j hb;omega)) a.e (c5m a) (b6e a) fun b hb=>by have:=b0j hb;omega
theorem d6r (R:Ring_syntax_Size) (L:List AE) (hR: ∀a∈L,R.f_syntax_Size a.e=some (a.sz:Int)) (e:Expr) (he:e.Args=L.map AE.e) (hl:L.length <= 3) (hd:L.foldl (fun m b=>m+b.sz) 1 <= 1000):
  b13 R e=some ((L.foldl (fun m a=>m+a.sz) 1:Nat):Int):=by
 unfold b13
 refine k9 (fun i=>((((L.take i).foldl (fun m a=>m+a.sz) 1:Nat):Int),(i:Int))) L.length ?_ ?_ (by have:=a1o;omega)
 ·intro i hi r
  unfold b33
  have hlen:e.Args.length=L.length:=by rw [he];simp
  have hg:i7 e.Args (i:Int)=some (L[i].e):=by rw [a0c (by omega)];simp [he]
  simp only [hlen,b3u hi,if_true,hg,Option.bind_some,hR _ (List.getElem_mem hi),a4f (show i <= 1000000 by omega)]
  have e0:(L.take (i+1)).foldl (fun m a=>m+a.sz) 1=(L.take i).foldl (fun m a=>m+a.sz) 1+L[i].sz:=by
   rw [List.take_succ_eq_append_getElem hi,List.foldl_append];rfl
  have hb:(L.take (i+1)).foldl (fun m a=>m+a.sz) 1 <= 1000:=by
   have h1:L.foldl (fun m b=>m+b.sz) 1=(L.drop (i+1)).foldl (fun m b=>m+b.sz) ((L.take (i+1)).foldl (fun m b=>m+b.sz) 1):=by
    rw [<- List.foldl_append,List.take_append_drop]
   have:=c5z (L.drop (i+1)) ((L.take (i+1)).foldl (fun m b=>m+b.sz) 1)
   omega
  rw [e0] at hb⊢
  rw [u4 (by omega) (by omega)]
  congr 2
 ·intro r
  unfold b33
  have hlen:e.Args.length=L.length:=by rw [he];simp
  simp only [hlen,a4u,Bool.false_eq_true,if_false,List.take_length]
theorem e5g: ∀(a:AE),a.sz <= 1000 -> ∀m,a.dep <= m -> (a1t m).f_syntax_Size a.e=some (a.sz:Int):=by
 refine AE.ind fun a ih hd m hm=> ?_
 obtain ⟨m,rfl⟩: ∃k,m=k+1:=⟨m-1,by have:=b60 a;omega⟩
 rw [e4i a] at hd⊢
 exact d6r _ a.args (fun b hb=>ih b hb (by have:=e6g hb;rw [e4i a] at this;omega) m (by have:=b0j hb;omega)) a.e (c5m a) (b6e a) hd
def AE.leafOK:AE -> Prop
 | .lit v d=>(∃s,p4 v d=some (s,true)) /\ ∃s,a02 v d=some (s,true)
 | .nm s=>p7 s=some true /\ a45 s=some true
 | .best k=>1 <= k /\ k <= 45
 | .bin op _ _=>7 <= op /\ op <= 20
 | .ite _ _ _=>True
inductive AE.ok:AE -> Prop
 | mk {a:AE}:a.leafOK -> (∀b∈a.args,b.ok) -> a.ok
theorem AE.ok.leaf {a:AE} (h:a.ok):a.leafOK:=by cases h;assumption
theorem AE.ok.arg {a b:AE} (h:a.ok) (hb:b∈a.args):b.ok:=by cases h;rename_i h1 h2;exact h2 b hb
theorem d3h (R:Ring_pensionref5_formed) (L:List AE) (hR: ∀a∈L,R.f_pensionref5_formed a.e=some true) (e:Expr) (he:e.Args=L.map AE.e) (hl:L.length <= 3):f7 FU (a43 R true) (e,0)=some true:=by
 refine k9 (fun i=>(e,(i:Int))) L.length ?_ ?_ (by have:=a1o;omega)
 ·intro i hi r
  unfold a43
  have hlen:e.Args.length=L.length:=by rw [he];simp
  have hg:i7 e.Args (i:Int)=some (L[i].e):=by rw [a0c (by omega)];simp [he]
  simp only [hlen,b3u hi,if_true,hg,Option.bind_some,hR _ (List.getElem_mem hi),a4f (show i <= 1000000 by omega),Bool.not_true,Bool.false_eq_true,if_false]
 ·intro r
  unfold a43
  have hlen:e.Args.length=L.length:=by rw [he];simp
  simp only [hlen,a4u,Bool.false_eq_true,if_false]
theorem d9u {op:Int} (h1:7 <= op) (h2:op <= 20):a0j op=some 2:=by
 unfold a0j
 have e1:decide (op >= 1)=true:=by simp;omega
 have e2:decide (op <= 3)=false:=by simp;omega
 have e3:decide (op >= 4)=true:=by simp;omega
 have e4:decide (op <= 6)=false:=by simp;omega
 have e5:decide (op >= 7)=true:=by simp;omega
 have e6:decide (op <= 20)=true:=by simp;omega
 simp only [e1,e2,e3,e4,e5,e6,if_true,Option.bind_some,Bool.false_eq_true,if_false]
theorem e03 {op:Int} (h1:7 <= op) (h2:op <= 20):a4s op=some 2:=by
 unfold a4s
 have e1:(op==1)=false:=by simp;omega
 have e2:(op==2)=false:=by simp;omega
 have e3:(op==3)=false:=by simp;omega
 have e4:(op==4)=false:=by simp;omega
 have e5:(op==5)=false:=by simp;omega
 have e6:(op==6)=false:=by simp;omega
 have e7:decide (op >= 7)=true:=by simp;omega
 have e8:decide (op <= 20)=true:=by simp;omega
 simp only [e1,e2,e3,e4,e5,e6,e7,e8,if_true,Option.bind_some,Bool.false_eq_true,if_false]
theorem f8p {c:Bool} {x:Bool}: ∃b,(if c=true then some x else some false)=some b:=by cases c<;>exact ⟨_,rfl⟩
theorem e32: ∀(a:AE),a.ok -> ∀m,a.dep <= m -> (f9 m).f_pensionref5_formed a.e=some true:=by
 refine AE.ind fun a ih hok m hm=> ?_
 obtain ⟨m,rfl⟩: ∃k,m=k+1:=⟨m-1,by have:=b60 a;omega⟩
 have hR: ∀b∈a.args,(f9 m).f_pensionref5_formed b.e=some true:=fun b hb=>ih b hb (hok.arg hb) m (by have:=b0j hb;omega)
 have hlf:=hok.leaf
 show o5 (f9 m) a.e=some true
 have hfin:=d3h (f9 m) a.args hR a.e (c5m a) (b6e a)
 cases a with
 | lit v d=>
   show o5 (f9 m) ⟨1,v,d,a1y,[]⟩=some true
   unfold o5
   obtain ⟨⟨s,hs⟩,_⟩:=hlf
   obtain ⟨b1,h1⟩:=f8p (c:=(v.Num==0)&&((v.Den==0)&&true)) (x:=d==0)
   simp only [show a0j 1=some 0 from by kernel_rfl,Option.bind_some,List.length_nil,hs,BEq.rfl,if_true,show (((0:Nat):Int) != 0)=false from rfl,Bool.false_eq_true,if_false]
   rw [h1,Option.bind_some]
   cases b1<;>rfl
 | nm s=>
   show o5 (f9 m) ⟨2,⟨0,0⟩,0,s,[]⟩=some true
   unfold o5
   simp only [show a0j 2=some 0 from by kernel_rfl,Option.bind_some,List.length_nil,BEq.rfl,Bool.and_true,if_true,hlf.1,show ((2:Int)==1)=false from rfl,Bool.false_eq_true,if_false]
   rfl
 | best k=>
   show o5 (f9 m) ⟨3,⟨k,1⟩,0,a1y,[]⟩=some true
   unfold o5
   have e1:decide (k >= 1)=true:=by simp;exact hlf.1
   have e2:decide (k <= 45)=true:=by simp;exact hlf.2
   simp only [show (((0:Nat):Int) != 0)=false from rfl,show a0j 3=some 0 from by kernel_rfl,Option.bind_some,List.length_nil,BEq.rfl,Bool.and_true,if_true,show ((3:Int)==1)=false from rfl,show ((3:Int)==2)=false from rfl,show ((1:Int)==0)=false from rfl,Bool.and_false,Bool.false_and,Bool.false_eq_true,if_false,e1,e2]
 | bin op x y=>
   show o5 (f9 m) ⟨op,⟨0,0⟩,0,a1y,[x.e,y.e]⟩=some true
   unfold o5
   have o1:(op==1)=false:=by have:=hlf.1;simp;omega
   have o2:(op==2)=false:=by have:=hlf.1;simp;omega
   have o3:(op==3)=false:=by have:=hlf.1;simp;omega
   simp only [d9u hlf.1 hlf.2,Option.bind_some,List.length_cons,List.length_nil,BEq.rfl,Bool.and_true,if_true,o1,o2,o3,Bool.false_eq_true,if_false]
   exact hfin
 | ite x y z=>
   show o5 (f9 m) ⟨21,⟨0,0⟩,0,a1y,[x.e,y.e,z.e]⟩=some true
   unfold o5
   simp only [show a0j 21=some 3 from by kernel_rfl,Option.bind_some,List.length_cons,List.length_nil,BEq.rfl,Bool.and_true,if_true,show ((21:Int)==1)=false from rfl,show ((21:Int)==2)=false from rfl,show ((21:Int)==3)=false from rfl,Bool.false_eq_true,if_false]
   exact hfin
end Go.PL
namespace Go.PL
open Go Go.SX
theorem d4m (n:Nat) (h:n <= 1000): ∃m,FU=m+n:=⟨FU-n,by
 have:1000 <= FU:=by unfold FU;decide
 omega⟩
section
variable {r:pensionref5_reader} {t:Tk} {ts:List Tk}
theorem a81 (h:RdrA r (t::ts)) (lvl:Int) (k:Nat) {op l:Int} {s:ByteArray} (h0:0 <= op) (h1:op <= 18) (hl:a9m op=some l) (hs:a8v op=some s) (hw:a38 s=true):
  f7 (k+1) (y4 lvl r) op=bif (l==lvl)&&isT t s then some op else f7 k (y4 lvl r) (op+1):=by
 rw [c8]
 unfold y4
 rw [if_pos (by simpa using h1),hl,Option.bind_some]
 cases hb:(l==lvl) with
 | false=>
   simp only [Bool.false_and,cond_false,Bool.false_eq_true,if_false,Option.bind_some]
   rw [b6j h0 (by omega)]
 | true=>
   simp only [if_true,hs,Option.bind_some,e2y h hw,Bool.true_and]
   cases isT t s with
   | true=>rfl
   | false=>
     simp only [Bool.false_eq_true,if_false,cond_false]
     rw [b6j h0 (by omega)]
theorem e1r {α:Type} {b:Bool} {x y:α}:(bif b then some x else some y)=some (bif b then x else y):=by cases b<;>rfl
theorem c3x (h:RdrA r (t::ts)) (lvl:Int):a2m r lvl=some (f6q lvl t f7x):=by
 unfold a2m
 obtain ⟨m,hm⟩:=d4m 13 (by decide)
 rw [hm]
 rw [show m+13=(m+12)+1 from rfl,a81 h lvl (m+12) (op:=7) (l:=5) (s:=c8f) (by decide) (by decide) (by kernel_rfl) (by kernel_rfl) (by kernel_rfl)]
 rw [show m+12=(m+11)+1 from rfl,show (7:Int)+1=8 from rfl,a81 h lvl (m+11) (op:=8) (l:=5) (s:=b5t) (by decide) (by decide) (by kernel_rfl) (by kernel_rfl) (by kernel_rfl)]
 rw [show m+11=(m+10)+1 from rfl,show (8:Int)+1=9 from rfl,a81 h lvl (m+10) (op:=9) (l:=6) (s:=a7h) (by decide) (by decide) (by kernel_rfl) (by kernel_rfl) (by kernel_rfl)]
 rw [show m+10=(m+9)+1 from rfl,show (9:Int)+1=10 from rfl,a81 h lvl (m+9) (op:=10) (l:=6) (s:=b74) (by decide) (by decide) (by kernel_rfl) (by kernel_rfl) (by kernel_rfl)]
 rw [show m+9=(m+8)+1 from rfl,show (10:Int)+1=11 from rfl,a81 h lvl (m+8) (op:=11) (l:=4) (s:=c87) (by decide) (by decide) (by kernel_rfl) (by kernel_rfl) (by kernel_rfl)]
 rw [show m+8=(m+7)+1 from rfl,show (11:Int)+1=12 from rfl,a81 h lvl (m+7) (op:=12) (l:=4) (s:=b3b) (by decide) (by decide) (by kernel_rfl) (by kernel_rfl) (by kernel_rfl)]
 rw [show m+7=(m+6)+1 from rfl,show (12:Int)+1=13 from rfl,a81 h lvl (m+6) (op:=13) (l:=4) (s:=b5g) (by decide) (by decide) (by kernel_rfl) (by kernel_rfl) (by kernel_rfl)]
 rw [show m+6=(m+5)+1 from rfl,show (13:Int)+1=14 from rfl,a81 h lvl (m+5) (op:=14) (l:=4) (s:=b38) (by decide) (by decide) (by kernel_rfl) (by kernel_rfl) (by kernel_rfl)]
 rw [show m+5=(m+4)+1 from rfl,show (14:Int)+1=15 from rfl,a81 h lvl (m+4) (op:=15) (l:=4) (s:=d3m) (by decide) (by decide) (by kernel_rfl) (by kernel_rfl) (by kernel_rfl)]
 rw [show m+4=(m+3)+1 from rfl,show (15:Int)+1=16 from rfl,a81 h lvl (m+3) (op:=16) (l:=4) (s:=a4r) (by decide) (by decide) (by kernel_rfl) (by kernel_rfl) (by kernel_rfl)]
 rw [show m+3=(m+2)+1 from rfl,show (16:Int)+1=17 from rfl,a81 h lvl (m+2) (op:=17) (l:=2) (s:=b5w) (by decide) (by decide) (by kernel_rfl) (by kernel_rfl) (by kernel_rfl)]
 rw [show m+2=(m+1)+1 from rfl,show (17:Int)+1=18 from rfl,a81 h lvl (m+1) (op:=18) (l:=1) (s:=c3o) (by decide) (by decide) (by kernel_rfl) (by kernel_rfl) (by kernel_rfl)]
 have e:f7 (m+1) (y4 lvl r) (18+1)=some 0:=by
  rw [c8]
  unfold y4
  rw [if_neg (by simp)]
 rw [e]
 unfold f7x
 simp only [f6q]
 simp only [e1r]
theorem c3f {s:ByteArray} {us:List Tk} (h:RdrA r ts) (hs:a38 s=true) (he:eat s ts=some us):b6 r s=some (adv r) /\ RdrA (adv r) us:=by
 cases ts with
 | nil=>cases he
 | cons t ts=>
   simp only [eat] at he
   cases ht:isT t s with
   | false=>rw [ht] at he;cases he
   | true=>
     rw [ht] at he
     obtain rfl:=Option.some.inj he
     exact ⟨d2o h hs ht,h.cons.choose_spec.2.2.2.1⟩
end
abbrev rgE (m:Nat):=c7 m
def Snd (k:Nat) (md:Md) (r:pensionref5_reader) (out:AE×List Tk):Prop:= ∃r',RdrA r' out.2 /\ match md with
 | .E lvl=> ∀m,k <= m -> (rgE m).f_pensionref5_reader_expr r lvl=some (out.1.e,r')
 | .F=> ∀m,k <= m -> (rgE m).f_pensionref5_reader_factor r=some (out.1.e,r')
 | .C op=> ∀m,k <= m -> (rgE m).f_pensionref5_reader_call r op=some (out.1.e,r')
 | .L lvl e=> ∀m j jl je,k <= m -> k <= j -> f7 j (u9 (rgE m) lvl) (r,jl,je,e.e)=some (out.1.e,r')
def g00:Md -> Nat | .E l=>l | .L l _=>l | .F=>0 | .C _=>0
theorem d2c {s:ByteArray} (h:e7z s=true):p7 s=some true:=by
 unfold e7z at h
 split at h
 ·assumption
 ·cases h
theorem e4x {k:Nat} (h:k <= 1000):k <= FU:=by obtain ⟨m,hm⟩:=d4m k h;omega
theorem e57: ∀(k:Nat),k <= 1000 -> ∀(md:Md) (ts:List Tk) (out:AE×List Tk) (r:pensionref5_reader),pX k md ts=some out -> g00 md <= 7 -> RdrA r ts -> Snd k md r out:=by
 intro k
 induction k with
 | zero=>intro _ md ts out r h;cases md<;>cases ts<;>simp [pX] at h
 | succ k ih=>
   intro hkk md ts out r h hl hr
   have ih:=ih (by omega)
   cases ts with
   | nil=>cases md<;>simp [pX] at h
   | cons t ts=>
     have hbad:=hr.bad
     have hsucc: ∀{m:Nat},k+1 <= m -> ∃m',m=m'+1 /\ k <= m':=fun {m} h=>⟨m-1,by omega,by omega⟩
     have gen: ∀lvl:Nat,lvl <= 6 -> lvl≠0 -> lvl≠3 -> ((pX k (.E (lvl+1)) (t::ts)).bind fun a=>pX k (.L lvl a.1) a.2)=some out -> Snd (k+1) (.E lvl) r out:=by
      intro lvl h6 h0 h3 h
      obtain ⟨a,ha,h⟩:=Option.bind_eq_some_iff.1 h
      obtain ⟨r1,hr1,e1⟩:=ih _ _ _ r ha (by show lvl+1 <= 7;omega) hr
      obtain ⟨r2,hr2,e2⟩:=ih _ _ _ r1 h (by show lvl <= 7;omega) hr1
      refine ⟨r2,hr2,fun m hm=> ?_⟩
      obtain ⟨m,rfl,hm2⟩:=hsucc hm
      show j8 (rgE m) r lvl=_
      unfold j8
      have n0:((lvl:Int)==0)=false:=by simpa using h0
      have n3:((lvl:Int)==3)=false:=by simp;omega
      have n7:((lvl:Int)==7)=false:=by simp;omega
      have e1:=e1 m hm2
      have hi:i64 ((lvl:Int)+1)=((lvl+1:Nat):Int):=by rw [b6j (by omega) (by omega)];omega
      simp only [hbad,n0,n3,n7,Bool.false_eq_true,if_false,hi,e1,Option.bind_some]
      exact e2 m FU _ _ hm2 (e4x (by omega))
     cases md with
     | E lvl=>
       match lvl,hl with
       | 0,_=>
         simp only [pX] at h
         cases hi:isT t a9b with
         | false=>
           rw [hi,cond_false] at h
           obtain ⟨r1,hr1,e1⟩:=ih _ _ _ r h (by decide) hr
           refine ⟨r1,hr1,fun m hm=> ?_⟩
           obtain ⟨m,rfl,hm2⟩:=hsucc hm
           show j8 (rgE m) r 0=_
           unfold j8
           have e1:(rgE m).f_pensionref5_reader_expr r 1=_:=e1 m hm2
           simp only [hbad,Bool.false_eq_true,if_false,b1n hr (show a38 a9b=true by kernel_rfl),hi,Option.bind_some,Bool.not_false,if_true,e1,BEq.rfl]
         | true=>
           rw [hi,cond_true] at h
           have hr':=hr.cons.choose_spec.2.2.2.1
           obtain ⟨a,ha,h⟩:=Option.bind_eq_some_iff.1 h
           obtain ⟨u1,hu1,h⟩:=Option.bind_eq_some_iff.1 h
           obtain ⟨b,hb,h⟩:=Option.bind_eq_some_iff.1 h
           obtain ⟨u2,hu2,h⟩:=Option.bind_eq_some_iff.1 h
           obtain ⟨c,hc,h⟩:=Option.bind_eq_some_iff.1 h
           obtain rfl:=Option.some.inj h
           obtain ⟨r1,hr1,e1⟩:=ih _ _ _ _ ha (by decide) hr'
           obtain ⟨w1,hw1⟩:=c3f hr1 (show a38 b6a=true by kernel_rfl) hu1
           obtain ⟨r2,hr2,e2⟩:=ih _ _ _ _ hb (by decide) hw1
           obtain ⟨w2,hw2⟩:=c3f hr2 (show a38 b2e=true by kernel_rfl) hu2
           obtain ⟨r3,hr3,e3⟩:=ih _ _ _ _ hc (by decide) hw2
           refine ⟨r3,hr3,fun m hm=> ?_⟩
           obtain ⟨m,rfl,hm2⟩:=hsucc hm
           show j8 (rgE m) r 0=_
           unfold j8
           have e1:(rgE m).f_pensionref5_reader_expr (adv r) 0=_:=e1 m hm2
           have e2:(rgE m).f_pensionref5_reader_expr _ 0=_:=e2 m hm2
           have e3:(rgE m).f_pensionref5_reader_expr _ 0=_:=e3 m hm2
           simp only [hbad,Bool.false_eq_true,if_false,b1n hr (show a38 a9b=true by kernel_rfl),hi,Option.bind_some,Bool.not_true,if_true,e1,w1,e2,w2,e3,BEq.rfl]
           rfl
       | 1,_=>exact gen 1 (by decide) (by decide) (by decide) h
       | 2,_=>exact gen 2 (by decide) (by decide) (by decide) h
       | 3,_=>
         simp only [pX] at h
         cases hi:isT t b5c with
         | true=>rw [hi] at h;cases h
         | false=>
           rw [hi,cond_false] at h
           obtain ⟨r1,hr1,e1⟩:=ih _ _ _ r h (by decide) hr
           refine ⟨r1,hr1,fun m hm=> ?_⟩
           obtain ⟨m,rfl,hm2⟩:=hsucc hm
           show j8 (rgE m) r 3=_
           unfold j8
           have e1:(rgE m).f_pensionref5_reader_expr r 4=_:=e1 m hm2
           simp only [hbad,Bool.false_eq_true,if_false,b1n hr (show a38 b5c=true by kernel_rfl),hi,Option.bind_some,if_true,e1,BEq.rfl,show ((3:Int)==0)=false from rfl]
       | 4,_=>exact gen 4 (by decide) (by decide) (by decide) h
       | 5,_=>exact gen 5 (by decide) (by decide) (by decide) h
       | 6,_=>exact gen 6 (by decide) (by decide) (by decide) h
       | 7,_=>
         simp only [pX] at h
         obtain ⟨r1,hr1,e1⟩:=ih _ _ _ r h (by decide) hr
         refine ⟨r1,hr1,fun m hm=> ?_⟩
         obtain ⟨m,rfl,hm2⟩:=hsucc hm
         show j8 (rgE m) r 7=_
         unfold j8
         have e1:(rgE m).f_pensionref5_reader_factor r=_:=e1 m hm2
         simp only [hbad,Bool.false_eq_true,if_false,Option.bind_some,if_true,e1,BEq.rfl,show ((7:Int)==0)=false from rfl,show ((7:Int)==3)=false from rfl]
     | L lvl e=>
       have hl:lvl <= 7:=hl
       have hi:i64 ((lvl:Int)+1)=((lvl+1:Nat):Int):=by rw [b6j (by omega) (by omega)];omega
       have hadv:=hr.cons.choose_spec.2.2.2
       have hav:(⟨r.l,i64 (r.at_+1),r.end_,r.bad⟩:pensionref5_reader)=adv r:=by rw [hadv.2];rfl
       have havf:(⟨r.l,i64 (r.at_+1),r.end_,false⟩:pensionref5_reader)=adv r:=by rw [hadv.2];unfold adv;rw [hbad]
       simp only [pX] at h
       cases hb:(f6q lvl t f7x==0) with
       | true=>
         have hb:=eq_of_beq hb
         rw [hb] at h
         obtain rfl:=Option.some.inj h
         refine ⟨r,hr,fun m j jl je hm hj=> ?_⟩
         obtain ⟨j,rfl,hj2⟩:=hsucc hj
         rw [c8]
         unfold u9
         simp only [hbad,Bool.not_false,if_true,c3x hr,Option.bind_some,hb,BEq.rfl]
       | false=>
         split at h
         ·rename_i h0;rw [h0] at hb;cases hb
         ·rename_i op h0
          obtain ⟨a,ha,h⟩:=Option.bind_eq_some_iff.1 h
          have h67:lvl <= 6:=by
           refine Classical.byContradiction fun hc=>h0 ?_
           have:lvl=7:=by omega
           subst this
           rfl
          obtain ⟨r1,hr1,e1⟩:=ih _ _ _ (adv r) ha (by show lvl+1 <= 7;omega) hadv.1
          cases h4:Nat.beq lvl 4 with
          | true=>
            rw [h4,cond_true] at h
            obtain rfl:=Option.some.inj h
            refine ⟨r1,hr1,fun m j jl je hm hj=> ?_⟩
            obtain ⟨j,rfl,hj2⟩:=hsucc hj
            have e1:=e1 m (by omega)
            rw [c8]
            generalize hLP:f7 j (u9 (rgE m) (lvl:Int))=LP
            unfold u9
            have h44:((lvl:Int)==4)=true:=by have:=Nat.eq_of_beq_eq_true h4;subst this;rfl
            simp only [hbad,Bool.not_false,if_true,c3x hr,Option.bind_some,hb,Bool.false_eq_true,if_false,havf,hi,e1,h44]
            rfl
          | false=>
            rw [h4,cond_false] at h
            obtain ⟨r2,hr2,e2⟩:=ih _ _ _ _ h hl hr1
            refine ⟨r2,hr2,fun m j jl je hm hj=> ?_⟩
            obtain ⟨j,rfl,hj2⟩:=hsucc hj
            have e1:=e1 m (by omega)
            rw [c8]
            generalize hLP:f7 j (u9 (rgE m) (lvl:Int))=LP
            unfold u9
            have h44:((lvl:Int)==4)=false:=by have:=Nat.ne_of_beq_eq_false h4;simp;omega
            simp only [hbad,Bool.not_false,if_true,c3x hr,Option.bind_some,hb,Bool.false_eq_true,if_false,havf,hi,e1,h44]
            rw [<- hLP]
            exact e2 m j _ _ (by omega) hj2
     | F=>
       have hadv:=hr.cons.choose_spec.2.2.2
       have hav:(⟨r.l,i64 (r.at_+1),r.end_,r.bad⟩:pensionref5_reader)=adv r:=by rw [hadv.2];rfl
       have havf:(⟨r.l,i64 (r.at_+1),r.end_,false⟩:pensionref5_reader)=adv r:=by rw [hadv.2];unfold adv;rw [hbad]
       cases t with
       | s x=>simp [pX] at h
       | d x=>simp [pX] at h
       | n v d=>
         simp only [pX] at h
         obtain rfl:=Option.some.inj h
         refine ⟨adv r,hadv.1,fun m hm=> ?_⟩
         obtain ⟨m,rfl,hm2⟩:=hsucc hm
         show i8 (rgE m) r=_
         unfold i8
         obtain ⟨y,hy,hk,_⟩:=hr.cons
         simp only [b31 hr,kdT,Option.bind_some,BEq.rfl,if_true,hy,hk.2.1,hav]
         rfl
       | w x=>
         simp only [pX] at h
         have hk2:((kdT (.w x):Int)==2)=false:=rfl
         cases hm1:isT (.w x) b5t with
         | true=>rw [hm1] at h;cases h
         | false=>
         rw [hm1,cond_false] at h
         cases hm2:isT (.w x) a85 with
         | true=>rw [hm2] at h;cases h
         | false=>
         rw [hm2,cond_false] at h
         have t1:=b1n hr (show a38 b5t=true by kernel_rfl)
         have t2:=b1n hr (show a38 a85=true by kernel_rfl)
         have t3:=b1n hr (show a38 a9v=true by kernel_rfl)
         rw [hm1] at t1;rw [hm2] at t2
         cases hm3:isT (.w x) a9v with
         | true=>
           rw [hm3,cond_true] at h
           rw [hm3] at t3
           obtain ⟨u1,hu1,h⟩:=Option.bind_eq_some_iff.1 h
           split at h
           ·rename_i v r2
            cases hv:(decide (1 <= v)&&decide (v <= 45)) with
            | false=>rw [hv] at h;cases h
            | true=>
              rw [hv,cond_true] at h
              obtain ⟨u3,hu3,h⟩:=Option.bind_eq_some_iff.1 h
              obtain rfl:=Option.some.inj h
              simp at hv
              obtain ⟨w1,hw1⟩:=c3f hadv.1 (show a38 a85=true by kernel_rfl) hu1
              have w2:=b8z hw1 hv.1 hv.2
              obtain ⟨w3,hw3⟩:=c3f hw1.cons.choose_spec.2.2.2.1 (show a38 a9n=true by kernel_rfl) hu3
              refine ⟨_,hw3,fun m hm=> ?_⟩
              obtain ⟨m,rfl,hm2⟩:=hsucc hm
              show i8 (rgE m) r=_
              unfold i8
              simp only [b31 hr,hk2,Option.bind_some,Bool.false_eq_true,if_false,if_true,t1,t2,t3,w1,w2,w3]
              rfl
           ·cases h
         | false=>
         rw [hm3,cond_false] at h
         rw [hm3] at t3
         have i1:=e2y hr (show a38 b09=true by kernel_rfl)
         have i2:=e2y hr (show a38 b4d=true by kernel_rfl)
         have i3:=e2y hr (show a38 b34=true by kernel_rfl)
         cases hm4:isT (.w x) b09 with
         | true=>rw [hm4] at h;cases h
         | false=>
         rw [hm4,cond_false] at h
         rw [hm4] at i1
         cases hm5:isT (.w x) b4d with
         | true=>
           rw [hm5,cond_true] at h
           rw [hm5] at i2
           obtain ⟨r1,hr1,e1⟩:=ih _ _ _ _ h (by decide) hr
           refine ⟨r1,hr1,fun m hm=> ?_⟩
           obtain ⟨m,rfl,hm2⟩:=hsucc hm
           show i8 (rgE m) r=_
           unfold i8
           have e1:(rgE m).f_pensionref5_reader_call r 19=_:=e1 m hm2
           simp only [b31 hr,hk2,Option.bind_some,Bool.false_eq_true,if_false,if_true,t1,t2,t3,i1,i2,e1]
         | false=>
         rw [hm5,cond_false] at h
         rw [hm5] at i2
         cases hm6:isT (.w x) b34 with
         | true=>
           rw [hm6,cond_true] at h
           rw [hm6] at i3
           obtain ⟨r1,hr1,e1⟩:=ih _ _ _ _ h (by decide) hr
           refine ⟨r1,hr1,fun m hm=> ?_⟩
           obtain ⟨m,rfl,hm2⟩:=hsucc hm
           show i8 (rgE m) r=_
           unfold i8
           have e1:(rgE m).f_pensionref5_reader_call r 20=_:=e1 m hm2
           simp only [b31 hr,hk2,Option.bind_some,Bool.false_eq_true,if_false,if_true,t1,t2,t3,i1,i2,i3,e1]
         | false=>
         rw [hm6,cond_false] at h
         rw [hm6] at i3
         cases hn:e7z x with
         | false=>rw [hn] at h;cases h
         | true=>
           rw [hn,cond_true] at h
           obtain rfl:=Option.some.inj h
           have n1:=d2j hr (d2c hn)
           refine ⟨_,hadv.1,fun m hm=> ?_⟩
           obtain ⟨m,rfl,hm2⟩:=hsucc hm
           show i8 (rgE m) r=_
           unfold i8
           simp only [b31 hr,hk2,Option.bind_some,Bool.false_eq_true,if_false,if_true,t1,t2,t3,i1,i2,i3,n1]
           rfl
     | C op=>
       have hadv:=hr.cons.choose_spec.2.2.2
       have hav:(⟨r.l,i64 (r.at_+1),r.end_,r.bad⟩:pensionref5_reader)=adv r:=by rw [hadv.2];rfl
       simp only [pX] at h
       split at h
       ·rename_i hop
        obtain ⟨u1,h1,h⟩:=Option.bind_eq_some_iff.1 h
        obtain ⟨a,h2,h⟩:=Option.bind_eq_some_iff.1 h
        obtain ⟨r2,h3,h⟩:=Option.bind_eq_some_iff.1 h
        obtain ⟨b,h4,h⟩:=Option.bind_eq_some_iff.1 h
        obtain ⟨u2,h5,h⟩:=Option.bind_eq_some_iff.1 h
        obtain rfl:=Option.some.inj h
        obtain ⟨w1,hw1⟩:=c3f hadv.1 (show a38 a85=true by kernel_rfl) h1
        obtain ⟨q1,hq1,e1⟩:=ih _ _ _ _ h2 (by decide) hw1
        obtain ⟨w2,hw2⟩:=c3f hq1 (show a38 c01=true by kernel_rfl) h3
        obtain ⟨q2,hq2,e2⟩:=ih _ _ _ _ h4 (by decide) hw2
        obtain ⟨w3,hw3⟩:=c3f hq2 (show a38 a9n=true by kernel_rfl) h5
        refine ⟨_,hw3,fun m hm=> ?_⟩
        obtain ⟨m,rfl,hm2⟩:=hsucc hm
        show a2k (rgE m) r op=_
        unfold a2k
        have e1:(rgE m).f_pensionref5_reader_expr _ 0=_:=e1 m hm2
        have e2:(rgE m).f_pensionref5_reader_expr _ 0=_:=e2 m hm2
        simp only [hav,w1,Option.bind_some,e1,hop,BEq.rfl,if_true,w2,e2,w3]
        rfl
       ·cases h
theorem b68 {k:Nat} (hk:k <= 1000) {ts:List Tk} {out:AE×List Tk} {r:pensionref5_reader} (h:pX k (.E 0) ts=some out) (hr:RdrA r ts): ∃r',RdrA r' out.2 /\ a1j r 0=some (out.1.e,r'):=by
 obtain ⟨r',h1,h2⟩:=e57 k hk _ _ _ r h (by decide) hr
 exact ⟨r',h1,h2 FU (e4x hk)⟩
end Go.PL
namespace Go.PL
open Go Go.SX
def ofW (x:ByteArray) (what:Int):Option Int:=(a7z x).bind fun k=>(a4t x).bind fun b=>(a7w x).bind fun m=>i7 [k,b,m] (i64 (what-1))
theorem e0b {r:pensionref5_reader} {ts:List Tk} {x:ByteArray} {what n:Int} (h:RdrA r (.w x::ts)) (hw:ofW x what=some n) (hn:0<n):a0f r what=some (n,adv r):=by
 obtain ⟨y,hy,hk,hlt,_,hi⟩:=h.cons
 have hx:y.Text=x:=hk.2
 unfold ofW at hw
 obtain ⟨k,h1,hw⟩:=Option.bind_eq_some_iff.1 hw
 obtain ⟨b,h2,hw⟩:=Option.bind_eq_some_iff.1 hw
 obtain ⟨m,h3,hw⟩:=Option.bind_eq_some_iff.1 hw
 unfold a0f
 rw [b31 h,Option.bind_some]
 simp only [kdT,hy,Option.bind_some,hx,h1,h2,h3,hw,hi,decide_eq_true hn,gt_iff_lt,BEq.rfl,if_true]
 rfl
inductive Cl where
 | credit (k l:Int)
 | index (y:Int) (f:Fraction)
 | lett (x:ByteArray) (a:AE)
 | grant (b:Int) (i p:AE)
 | reduce (b:Int) (a:AE)
abbrev Acc:=List Credit×List Index×List Let×List Grant×List Reduce
def Cl.app:Cl -> Acc -> Acc
 | .credit k l,A=>(A.1++[⟨k,l⟩],A.2)
 | .index y f,A=>(A.1,A.2.1++[⟨y,f⟩],A.2.2)
 | .lett x a,A=>(A.1,A.2.1,A.2.2.1++[⟨x,a.e⟩],A.2.2.2)
 | .grant b i p,A=>(A.1,A.2.1,A.2.2.1,A.2.2.2.1++[⟨b,i.e,p.e⟩],A.2.2.2.2)
 | .reduce b a,A=>(A.1,A.2.1,A.2.2.1,A.2.2.2.1,A.2.2.2.2++[⟨b,a.e⟩])
def Acc.len (A:Acc):Nat:=A.1.length+A.2.1.length+A.2.2.1.length+A.2.2.2.1.length+A.2.2.2.2.length
inductive ClR:List Tk -> Cl -> List Tk -> Prop
 | credit0 {x:ByteArray} {n:Int} {ts:List Tk}:ofW x 1=some n -> 0<n -> ClR (.w a1q:: .w x:: .s a05::ts) (.credit n 0) ts
 | credit {x:ByteArray} {n v:Int} {ts:List Tk}:ofW x 1=some n -> 0<n -> 1 <= v -> v <= 73049 -> ClR (.w a1q:: .w x:: .w a7k:: .n ⟨v,1⟩ 2:: .s a05::ts) (.credit n v) ts
 | index {y:Int} {f:Fraction} {ts:List Tk}:1900 <= y -> y <= 2099 -> 0<f.Num -> f.Den≠0 -> ClR (.w a3x:: .n ⟨y,1⟩ 2:: .n f 2:: .s a05::ts) (.index y f) ts
 | lett {x:ByteArray} {a:AE} {us ts:List Tk}:e7z x=true -> pX 60 (.E 0) us=some (a,.s a05::ts) -> ClR (.w a9j:: .w x:: .s b5g::us) (.lett x a) ts
 | grant {x:ByteArray} {n:Int} {a b:AE} {us vs ts:List Tk}:ofW x 2=some n -> 0<n -> pX 60 (.E 0) us=some (a,.w b0h::vs) -> pX 60 (.E 0) vs=some (b,.s a05::ts) -> ClR (.w a2z:: .w x:: .w a9b::us) (.grant n a b) ts
 | reduce {x:ByteArray} {n:Int} {a:AE} {us ts:List Tk}:ofW x 2=some n -> 0<n -> pX 60 (.E 0) us=some (a,.s a05::ts) -> ClR (.w a3d:: .w x:: .w b9d::us) (.reduce n a) ts
theorem b3s:a38 a1q=true:=by kernel_rfl
theorem c2a:a38 a3x=true:=by kernel_rfl
theorem e1e:a38 a9j=true:=by kernel_rfl
theorem d5o:a38 a2z=true:=by kernel_rfl
theorem e1c:a38 a3d=true:=by kernel_rfl
theorem d5p:a38 a7k=true:=by kernel_rfl
theorem b7n:a38 a05=true:=by kernel_rfl
theorem g0d:a38 b5g=true:=by kernel_rfl
theorem g07:a38 a9b=true:=by kernel_rfl
theorem f4i:a38 b0h=true:=by kernel_rfl
theorem g0a:a38 b9d=true:=by kernel_rfl
theorem c2c:a38 a2c=true:=by kernel_rfl
theorem d58 (x:ByteArray):isT (.w x) x=true:=by show (x.toList==x.toList)=true;exact BEq.rfl
theorem c4i (x:ByteArray):isT (.s x) x=true:=by show (x.toList==x.toList)=true;exact BEq.rfl
theorem a56 {r:pensionref5_reader} {t:Tk} {ts:List Tk} (h:RdrA r (t::ts)):RdrA (adv r) ts:=h.cons.choose_spec.2.2.2.1
section
variable {r:pensionref5_reader} {t:Tk} {ts us:List Tk} {s:ByteArray}
theorem c34 (h:RdrA r (.w s::ts)) (hs:a38 s=true):d9 r s=some (true,adv r):=by rw [b1n h hs,d58];rfl
theorem b3i (h:RdrA r (t::ts)) (hs:a38 s=true) (hn:isT t s=false):d9 r s=some (false,r):=by rw [b1n h hs,hn];rfl
theorem c2l (h:RdrA r (.w s::ts)) (hs:a38 s=true):b6 r s=some (adv r):=d2o h hs (d58 s)
theorem b6x (h:RdrA r (.s s::ts)) (hs:a38 s=true):b6 r s=some (adv r):=d2o h hs (c4i s)
theorem a8o {α:Type} {k:Nat} {l:List α} {x:α} (h:l.length <= 1000) (hk:k <= 1000):b1f k l [x]=some (l++[x]):=by
 refine d9w ?_
 have:(l.length+[x].length)*k <= 1001*1000:=Nat.mul_le_mul (by simp;omega) hk
 omega
end
theorem e2t {ts ts':List Tk} {c:Cl} (h:ClR ts c ts') {r:pensionref5_reader} (hr:RdrA r ts) (v:Version) (A:Acc) (hA:A.len <= 1000):
  ∃r',RdrA r' ts' /\ a2j r v A.1 A.2.1 A.2.2.1 A.2.2.2.1 A.2.2.2.2=some (r',⟨v.From,v.Rounding,[],[],[],[],[]⟩,c.app A):=by
 obtain ⟨cs,is,ls,gs,rs⟩:=A
 have hA:cs.length+is.length+ls.length+gs.length+rs.length <= 1000:=hA
 unfold a2j
 cases h with
 | credit0 h1 h2=>
   have a1:=a56 hr;have a2:=a56 a1;have a3:=a56 a2
   refine ⟨_,a3,?_⟩
   simp only [c34 hr b3s,Option.bind_some,if_true,e0b a1 h1 h2,b3i a2 d5p (show isT (.s a05) a7k=false by kernel_rfl),Bool.false_eq_true,if_false,g9,a1d,a8o (show cs.length <= 1000 by omega) (show 16 <= 1000 by decide),b6x a2 b7n]
   rfl
 | credit h1 h2 h3 h4=>
   have a1:=a56 hr;have a2:=a56 a1;have a3:=a56 a2;have a4:=a56 a3;have a5:=a56 a4
   refine ⟨_,a5,?_⟩
   simp only [c34 hr b3s,Option.bind_some,if_true,e0b a1 h1 h2,c34 a2 d5p,b8z a3 h3 h4,g9,a1d,a8o (show cs.length <= 1000 by omega) (show 16 <= 1000 by decide),b6x a4 b7n]
   rfl
 | @index y f ts h1 h2 h3 h4=>
   have a1:=a56 hr;have a2:=a56 a1;have a3:=a56 a2;have a4:=a56 a3
   refine ⟨_,a4,?_⟩
   obtain ⟨z,hz,hk,_,_,hi⟩:=a2.cons
   have hi2:(⟨(adv (adv r)).l,i64 ((adv (adv r)).at_+1),(adv (adv r)).end_,(adv (adv r)).bad⟩:pensionref5_reader)=adv (adv (adv r)):=by rw [hi];rfl
   have h4':(f.Den==0)=false:=by simpa using h4
   simp only [b3i hr b3s (show isT (.w a3x) a1q=false by kernel_rfl),c34 hr c2a,Option.bind_some,Bool.false_eq_true,if_true,if_false,b8z a1 h1 h2,b31 a2,kdT,BEq.rfl,hz,hk.2.1,decide_eq_true h3,gt_iff_lt,hi2,g9,a1c,h4',a34,a8o (show is.length <= 1000 by omega) (show 24 <= 1000 by decide),b6x a3 b7n]
   rfl
 | lett h1 h2=>
   have a1:=a56 hr;have a2:=a56 a1;have a3:=a56 a2
   obtain ⟨q,hq,e⟩:=b68 (by decide) h2 a3
   have a4:=a56 hq
   refine ⟨_,a4,?_⟩
   simp only [b3i hr b3s (show isT (.w a9j) a1q=false by kernel_rfl),b3i hr c2a (show isT (.w a9j) a3x=false by kernel_rfl),c34 hr e1e,Option.bind_some,Bool.false_eq_true,if_true,if_false,d2j a1 (d2c h1),b6x a2 g0d,e,a8o (show ls.length <= 1000 by omega) (show 88 <= 1000 by decide),b6x hq b7n]
   rfl
 | grant h1 h2 h3 h4=>
   have a1:=a56 hr;have a2:=a56 a1;have a3:=a56 a2
   obtain ⟨q,hq,e⟩:=b68 (by decide) h3 a3
   have a4:=a56 hq
   obtain ⟨q2,hq2,e2⟩:=b68 (by decide) h4 a4
   have a5:=a56 hq2
   refine ⟨_,a5,?_⟩
   simp only [b3i hr b3s (show isT (.w a2z) a1q=false by kernel_rfl),b3i hr c2a (show isT (.w a2z) a3x=false by kernel_rfl),b3i hr e1e (show isT (.w a2z) a9j=false by kernel_rfl),c34 hr d5o,Option.bind_some,Bool.false_eq_true,if_true,if_false,e0b a1 h1 h2,c2l a2 g07,e,c2l hq f4i,e2,a8o (show gs.length <= 1000 by omega) (show 152 <= 1000 by decide),b6x hq2 b7n]
   rfl
 | reduce h1 h2 h3=>
   have a1:=a56 hr;have a2:=a56 a1;have a3:=a56 a2
   obtain ⟨q,hq,e⟩:=b68 (by decide) h3 a3
   have a4:=a56 hq
   refine ⟨_,a4,?_⟩
   simp only [b3i hr b3s (show isT (.w a3d) a1q=false by kernel_rfl),b3i hr c2a (show isT (.w a3d) a3x=false by kernel_rfl),b3i hr e1e (show isT (.w a3d) a9j=false by kernel_rfl),b3i hr d5o (show isT (.w a3d) a2z=false by kernel_rfl),c34 hr e1c,Option.bind_some,Bool.false_eq_true,if_true,if_false,e0b a1 h1 h2,c2l a2 g0a,e,a8o (show rs.length <= 1000 by omega) (show 80 <= 1000 by decide),b6x hq b7n]
   rfl
end Go.PL
namespace Go.PL
open Go Go.SX
inductive ClsR:List Tk -> List Cl -> List Tk -> Prop
 | nil {ts:List Tk}:ClsR (.s a2c::ts) [] ts
 | cons {ts us vs:List Tk} {c:Cl} {cs:List Cl}:ClR ts c us -> ClsR us cs vs -> ClsR ts (c::cs) vs
theorem ClR.head {ts us:List Tk} {c:Cl} (h:ClR ts c us): ∃t ts1,ts=t::ts1 /\ isT t a2c=false:=by
 cases h<;>exact ⟨_,_,rfl,by kernel_rfl⟩
theorem Cl.app_len (c:Cl) (A:Acc):(c.app A).len=A.len+1:=by
 cases c<;>simp only [Cl.app,Acc.len,List.length_append,List.length_cons,List.length_nil]<;>omega
theorem d6i {ts ts':List Tk} {cs:List Cl} (h:ClsR ts cs ts'): ∀(r:pensionref5_reader),RdrA r ts -> ∀(A:Acc) (v:Version),A.len+cs.length <= 1000 ->
  ∃r',RdrA r' ts' /\ ∀(k:Nat) j1 j2 j3 j4 j5 jv,cs.length<k -> f7 k a04 (r,j1,j2,j3,j4,j5,jv,A.1,A.2.1,A.2.2.1,A.2.2.2.1,A.2.2.2.2,v)=
   some (⟨v.From,v.Rounding,(cs.foldl (fun A c=>c.app A) A).1,(cs.foldl (fun A c=>c.app A) A).2.1,(cs.foldl (fun A c=>c.app A) A).2.2.1,(cs.foldl (fun A c=>c.app A) A).2.2.2.1,(cs.foldl (fun A c=>c.app A) A).2.2.2.2⟩,r'):=by
 induction h with
 | nil=>
   intro r hr A v _
   refine ⟨_,a56 hr,fun k j1 j2 j3 j4 j5 jv hk=> ?_⟩
   obtain ⟨k,rfl⟩: ∃m,k=m+1:=⟨k-1,by omega⟩
   rw [c8]
   unfold a04
   simp only [hr.bad,Bool.not_false,if_true,b1n hr c2c,c4i,Option.bind_some,Bool.not_true,Bool.false_eq_true,if_false]
   rfl
 | cons hc hcs ih=>
   rename_i ts0 us vs c cs
   intro r hr A v hA
   have hA:A.len+(cs.length+1) <= 1000:=hA
   obtain ⟨r1,hr1,e1⟩:=e2t hc hr (⟨v.From,v.Rounding,[],[],[],[],[]⟩:Version) A (by omega)
   obtain ⟨r2,hr2,e2⟩:=ih r1 hr1 (c.app A) ⟨v.From,v.Rounding,[],[],[],[],[]⟩ (by rw [Cl.app_len];omega)
   refine ⟨r2,hr2,fun k j1 j2 j3 j4 j5 jv hk=> ?_⟩
   have hk:cs.length+1<k:=hk
   obtain ⟨k,rfl⟩: ∃m,k=m+1:=⟨k-1,by omega⟩
   obtain ⟨t,ts1,rfl,ht⟩:=hc.head
   rw [c8]
   generalize hLP:f7 k a04=LP
   unfold a04
   simp only [hr.bad,Bool.not_false,if_true,b3i hr c2c ht,Option.bind_some,e1]
   rw [<- hLP]
   exact e2 k _ _ _ _ _ _ (by omega)
def e6q:Acc:=([],[],[],[],[])
def Cls.acc (cs:List Cl):Acc:=cs.foldl (fun A c=>c.app A) e6q
def f3k (day m u:Int) (cs:List Cl):Version:=⟨day,⟨m,u⟩,(Cls.acc cs).1,(Cls.acc cs).2.1,(Cls.acc cs).2.2.1,(Cls.acc cs).2.2.2.1,(Cls.acc cs).2.2.2.2⟩
theorem f1y:a38 b2m=true:=by kernel_rfl
theorem d9r:a38 b1w=true:=by kernel_rfl
theorem e3k:a38 b04=true:=by kernel_rfl
theorem d7t:a38 a2w=true:=by kernel_rfl
theorem d3a:a38 a1w=true:=by kernel_rfl
structure VerR (ts:List Tk) (v:Version) (ts':List Tk):Prop where
 ex: ∃(day m u:Int) (x:ByteArray) (cs:List Cl) (us:List Tk),ts= .w b2m:: .d day:: .s b1w:: .w b04:: .w x:: .n ⟨u,1⟩ 2:: .s a05::us /\ ofW x 3=some m /\ 0<m /\ 1 <= u /\ u <= 100000 /\ ClsR us cs ts' /\ cs.length <= 900 /\ v=f3k day m u cs
theorem d64 {ts ts':List Tk} {v:Version} (h:VerR ts v ts') {r:pensionref5_reader} (hr:RdrA r ts): ∃r',RdrA r' ts' /\ a21 r=some (v,r'):=by
 obtain ⟨day,m,u,x,cs,us,rfl,h1,h2,h3,h4,h5,h6,rfl⟩:=h.ex
 have a1:=a56 hr;have a2:=a56 a1;have a3:=a56 a2;have a4:=a56 a3;have a5:=a56 a4;have a6:=a56 a5;have a7:=a56 a6
 obtain ⟨r',hr',e⟩:=d6i h5 _ a7 e6q ⟨day,⟨m,u⟩,[],[],[],[],[]⟩ (by show 0+0+0+0+0+cs.length <= 1000;omega)
 refine ⟨r',hr',?_⟩
 obtain ⟨z,hz,hk,_,_,hi⟩:=a1.cons
 have hi2:(⟨(adv r).l,i64 ((adv r).at_+1),(adv r).end_,(adv r).bad⟩:pensionref5_reader)=adv (adv r):=by rw [hi];rfl
 unfold a21
 simp only [c2l hr f1y,Option.bind_some,b31 a1,kdT,BEq.rfl,if_true,hz,hk.2.1,hi2,g9,a2u,b6x a2 d9r,c2l a3 e3k,e0b a4 h1 h2,b8z a5 h3 h4,b6x a6 b7n]
 exact e FU _ _ _ _ _ _ (by have:=e4x (k:=1000) (by decide);omega)
inductive VersR:List Tk -> List Version -> Prop
 | nil:VersR [.s a2c] []
 | cons {ts us:List Tk} {v:Version} {vs:List Version}:VerR ts v us -> VersR us vs -> VersR ts (v::vs)
theorem VerR.head {ts us:List Tk} {v:Version} (h:VerR ts v us): ∃t ts1,ts=t::ts1 /\ isT t a2c=false:=by
 obtain ⟨day,m,u,x,cs,vs,rfl,_⟩:=h.ex
 exact ⟨_,_,rfl,by kernel_rfl⟩
theorem d7u {nm:ByteArray} {cur:Int}: ∀(vs:List Version) (ts:List Tk) (ws:List Version) (r:pensionref5_reader),VersR ts vs -> RdrA r ts -> ws.length+vs.length <= 1000 -> a19 ⟨nm,cur,ws++vs⟩=some true ->
  ∀(k:Nat) jv js b st,(b=true -> vs≠[]) -> st.Name=nm -> st.Currency=cur -> vs.length<k -> f7 k a2y (jv,js,r,ws,st,b)=some (⟨nm,cur,ws++vs⟩,0,0):=by
 intro vs
 induction vs with
 | nil=>
   intro ts ws r h hr _ hv k jv js b st hb hn hc hk
   cases h
   obtain ⟨k,rfl⟩: ∃m,k=m+1:=⟨k-1,by omega⟩
   have hb:b=false:=by cases b with | false=>rfl | true=>exact absurd rfl (hb rfl)
   subst hb
   rw [c8]
   unfold a2y
   have a1:=a56 hr
   have hend: ¬(adv r).at_<((adv r).l.length:Int):=by
    have:=a1.all
    intro hlt
    have h2:=a1.nn
    cases hd:(adv r).l.drop (adv r).at_.toNat with
    | nil=>
      have:=congrArg List.length hd
      simp at this;omega
    | cons x y=>rw [hd] at this;exact this
   simp only [List.append_nil] at hv⊢
   simp only [hr.bad,Bool.not_false,if_true,b1n hr c2c,c4i,Option.bind_some,Bool.not_true,Bool.false_eq_true,if_false,g9,a7e,a1.bad,decide_eq_false hend,hn,hc,hv]
 | cons v vs ih=>
   intro ts ws r h hr hl hv k jv js b st hb hn hc hk
   have hl:ws.length+(vs.length+1) <= 1000:=hl
   have hk:vs.length+1<k:=hk
   cases h
   rename_i us hvr hvs
   obtain ⟨k,rfl⟩: ∃m,k=m+1:=⟨k-1,by omega⟩
   obtain ⟨r1,hr1,e1⟩:=d64 hvr hr
   obtain ⟨t,ts1,rfl,ht⟩:=hvr.head
   have ih2:=ih us (ws++[v]) r1 hvs hr1 (by simp;omega) (by rw [List.append_assoc];exact hv) k
   rw [c8]
   generalize hLP:f7 k a2y=LP at ih2⊢
   have ih3: ∀jv js st,st.Name=nm -> st.Currency=cur -> LP (jv,js,r1,ws++[v],st,false)=some (⟨nm,cur,ws++v::vs⟩,0,0):=fun jv js st h1 h2=>by
    have:=ih2 jv js false st (fun h=>by cases h) h1 h2 (by omega)
    rw [List.append_assoc] at this
    exact this
   unfold a2y
   cases b with
   | true=>
     simp only [hr.bad,Bool.not_false,if_true,g9,a4g,e1,Option.bind_some,a8o (show ws.length <= 1000 by omega) (show 144 <= 1000 by decide)]
     exact ih3 _ _ _ hn hc
   | false=>
     simp only [hr.bad,Bool.not_false,if_true,b3i hr c2c ht,Bool.false_eq_true,if_false,g9,a4g,e1,Option.bind_some,a8o (show ws.length <= 1000 by omega) (show 144 <= 1000 by decide)]
     exact ih3 _ _ _ hn hc
theorem e5u {s nm:ByteArray} {cur:Int} {toks:List Token} {us:List Tk} {vs:List Version} (hall:a68 s=some (toks,0,0)) (hl:toks.length <= 8000) (hrel:o8 TkR toks (.w a2w:: .w nm:: .w a1w:: .n ⟨cur,1⟩ 2:: .s b1w::us))
  (hn:e7z nm=true) (h1:1 <= cur) (h2:cur <= 999) (hvs:VersR us vs) (hne:vs≠[]) (hlen:vs.length <= 900) (hv:a19 ⟨nm,cur,vs⟩=some true):a2a s=some (⟨nm,cur,vs⟩,0,0):=by
 unfold a2a a9u
 rw [hall,Option.bind_some]
 have hr:RdrA ⟨toks,0,(s.size:Int),false⟩ (.w a2w:: .w nm:: .w a1w:: .n ⟨cur,1⟩ 2:: .s b1w::us):=⟨rfl,Int.le_refl _,hl,hrel⟩
 have a1:=a56 hr;have a2:=a56 a1;have a3:=a56 a2;have a4:=a56 a3;have a5:=a56 a4
 simp only [show ((0:Int) != 0)=false from rfl,Bool.false_eq_true,if_false,Option.bind_some,optC,c2l hr d7t,d2j a1 (d2c hn),c2l a2 d3a,b8z a3 h1 h2,b6x a4 d9r]
 exact d7u vs us [] _ hvs a5 (by simp;omega) hv FU _ _ true _ (fun _=>hne) rfl rfl (by have:=e4x (k:=1000) (by decide);omega)
end Go.PL
