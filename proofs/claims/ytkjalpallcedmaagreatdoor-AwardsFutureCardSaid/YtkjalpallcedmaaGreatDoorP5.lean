/- Texts of the proof, joined. -/
import Derived.Test.YtkjalpallcedmaaGreatDoorP4
import Derived.Laws.BitsLemmas
import Derived.Laws.Bits64
import Derived.Shelf.Strconv.Itoa3
import Derived.Lib.LaidTab
set_option linter.defProp false
set_option linter.unusedVariables false
set_option linter.unusedSimpArgs false
set_option maxRecDepth 100000
open List
namespace Go.PL
open Go
def e9{n:Int}(a:-9223372036854775808<=n)(b:n<=9223372036854775807):i64 n=n:=by unfold i64;rw[IntKind.wrap_i64];omega
def b83{n:Int}(a:0<=n)(b:n<=18446744073709551615):u64 n=n:=by unfold u64;rw[IntKind.wrap_u64];omega
def g2l(n:Int):u64 n=n%18446744073709551616:=by unfold u64;rw[IntKind.wrap_u64]
def b51(n:Int):0<=u64 n/\u64 n<=18446744073709551615:=by rw[g2l];omega
def d5z(n:Int):-9223372036854775808<=i64 n/\i64 n<=9223372036854775807:=by unfold i64;rw[IntKind.wrap_i64];omega
def b4c{a:Type}(l:O a)(k:Nat):c7 l (k:Int)=l[k]?:=by unfold c7;rw[if_pos (Int.natCast_nonneg k),Int.toNat_natCast]
def j38{a:Type}{l:O a}{i:Int}{x:a}(b:0<=i)(h:l[i.toNat]?=some x):c7 l i=some x:=by unfold c7;rw[if_pos b];exact h
def y3{b e:Bool}:(if b=true then some true else some e)=some (b||e):=by cases b<;>rfl
def o4{b e:Bool}:(if b=true then some e else some false)=some (b&&e):=by cases b<;>rfl
def a1z{p:Prop}[Decidable p]{e:Bool}:(if p then some true else some e)=some (decide p||e):=by by_cases h:p<;>simp[h]
def a7h{p:Prop}[Decidable p]{e:Bool}:(if p then some e else some false)=some (decide p&&e):=by by_cases h:p<;>simp[h]
def c9i{σ ρ:Type}{f:(σ->A3 ρ)->σ->A3 ρ}(I:σ->Prop)(μ:σ->Nat)(Q:ρ->Prop)(a:∀s b,I s->(∃r,f b s=some r/\Q r)\/∃c,f b s=b c/\I c/\μ c<μ s):∀(k:Nat)(s:σ),I s->μ s<k->∃r,d9 k f s=some r/\Q r
 |0,_,_,h=>absurd h (Nat.not_lt_zero _)|k+1,s,g,m=>by
   rcases a s (d9 k f) g with⟨r,e,d⟩|⟨c,e,d,n⟩;.exact⟨r,e,d⟩
   .obtain⟨r,l,j⟩:=c9i I μ Q a k c d (by omega);exact⟨r,by show f (d9 k f) s=_;rw[e,l],j⟩
def b9s{σ ρ:Type}{f:(σ->A3 ρ)->σ->A3 ρ}(I:σ->Prop)(μ:σ->Nat)(Q:ρ->Prop){s:σ}(e:I s)(c:μ s<2^70)(b:∀s a,I s->(∃r,f a s=some r/\Q r)\/∃d,f a s=a d/\I d/\μ d<μ s):∃r,d9 FU f s=some r/\Q r:=c9i I μ Q b FU s e (by unfold FU;exact c)
def d05{σ ρ:Type}{f:(σ->A3 ρ)->σ->A3 ρ}(I:σ->Prop)(μ:σ->Nat)(Q:A3 ρ->Prop)(a:∀s b,I s->Q (f b s)\/∃c,f b s=b c/\I c/\μ c<μ s):∀(k:Nat)(s:σ),I s->μ s<k->Q (d9 k f s)
 |0,_,_,h=>absurd h (Nat.not_lt_zero _)|k+1,s,i,l=>by
   rcases a s (d9 k f) i with d|⟨c,d,e,j⟩;.exact d
   .show Q (f (d9 k f) s);rw[d];exact d05 I μ Q a k c e (by omega)
def c4u{σ ρ:Type}{f:(σ->A3 ρ)->σ->A3 ρ}(I:σ->Prop)(μ:σ->Nat)(Q:A3 ρ->Prop){s:σ}(e:I s)(c:μ s<2^70)(b:∀s a,I s->Q (f a s)\/∃d,f a s=a d/\I d/\μ d<μ s):Q (d9 FU f s):=d05 I μ Q b FU s e (by unfold FU;exact c)
def d04{a b:Int}(h:b≠0):b8t a b=some (a.tmod b):=by unfold b8t;rw[if_neg h]
def e9a{a b:Int}(h:b≠0):c2t a b=some (i64 (a.tdiv b)):=by unfold c2t;rw[if_neg h]
def p6{a:Type}{bytes:Nat}{l x:O a}(h:(l.length+x.length)*bytes<=140737488355328):a4n bytes l x=some (l++x):=by unfold a4n;rw[if_pos h]
def b26{a:Type}{l:O a}{lo hi:Int}(d:0<=lo)(c:lo<=hi)(b:hi<=(l.length:Int)):a1x l lo hi=some ((l.drop lo.toNat).take (hi.toNat-lo.toNat)):=by unfold a1x;rw[if_pos ⟨d,c,b⟩]
def c9f{a b:Int}(h:0<=a):a.tmod b=a%b:=Int.tmod_eq_emod_of_nonneg h
def c7w{a b:Int}(h:0<=a):a.tdiv b=a/b:=Int.tdiv_eq_ediv_of_nonneg h
def g4v:Nat->Nat->O UInt8|0,u=>[UInt8.ofNat (48+u)]|k+1,u=>if u<10then[UInt8.ofNat (48+u)]else g4v k (u/10)++[UInt8.ofNat (48+u%10)]
def e9y:∀(k u:Nat),u<10^(k+1)->g4v k u=Lib.decDigits u
 |0,u,h=>by rw[Lib.decDigits,dif_pos (by simpa using h)];rfl|k+1,u,h=>by
   rw[Lib.decDigits];unfold g4v;by_cases a:u<10;.rw[if_pos a,dif_pos a]
   .rw[if_neg a,dif_neg a,e9y k (u/10) (by rw[Nat.pow_succ]at h;omega)]
def strconv_Itoa(a:Int):A3 A4:=if 0<=a/\a<=9223372036854775807then some ⟨(g4v 20 a.toNat).toArray⟩else none
end Go.PL
namespace Go.SX
open Go Go.PL Go.Proofs Go.Shelf
def f8r{P:Program}{a:String}{k:IntKind}{b:O Int}{g:Nat}(d:P.globalNamed a=some g){w w':World}(h:Lib.TabIs P w a k b)(c:w'.heap[g]?=w.heap[g]?):Lib.TabIs P w' a k b:=by unfold Lib.TabIs World.var? at*;rw[d]at*;simpa[c]using h
def g7m{P:Program}{a:String}{k:IntKind}{c:O Int}{g:Nat}(d:P.globalNamed a=some g){w:World}(h:Lib.TabIs P w a k c):g<w.heap.size:=by unfold Lib.TabIs World.var? at h;rw[d]at h;cases b:w.heap[g]?with|none=>simp[b]at h|some o=>exact(qN.1 b).1
def f3k(G:Nat->Prop)(w:World)(k:Nat)(os:Array Obj):Ext G w (Sort.grow (w.drewN k) os):=⟨rfl,rfl,rfl,by simp[Sort.grow,World.drewN],λb a _=>by simp[Sort.grow,World.drewN,Array.getElem?_append_left a]⟩
section
variable {P:Program} {U:Uni}
def e8o{ρ:Ren}(L:LaysM.n171 P ρ)(t:∀w,U.tab w->Lib.TabIs P w "internal/strconv.uint64pow10" .u64 Lib.pow10Tab){a c:U.C}(d:U.T a->Int)(D:∀x,(inj a x:U.AV)=.int .i64 (d x))(n:A4->U.T c)(z:∀s,(inj c (n s):U.AV)=.str s):Spec P (ρ.f 171) (⟨⟨[.v a],[.v c]⟩,A4,λx=>strconv_Itoa (d x.1),λb=>((n b,()),()),none⟩:Fent U):=by intro f r g Z G w B u p;match B,u with
 |[o],_=>
   have l:AVR _ (inj a f.1) o:=p.slot 0;rw[D]at l;have l:o=.int .i64 (d f.1):=l;have g:strconv_Itoa (d f.1)=some r:=g;unfold strconv_Itoa at g;split at g
   .rename_i q;have g:=(qH g).symm;have e:Lib.itoa (d f.1)=g4v 20 (d f.1).toNat:=by unfold Lib.itoa;rw[if_neg (by omega),e9y 20 _ (by omega)]
    have y:=Any.strconv_Itoa L (d f.1) (by omega) q.2 w (t w p.tab.1);subst l;show Calls P (ρ.f 171) #[Value.int .i64 (d f.1)] w _;refine y.mono ?_;rintro I E⟨C,k,H,A⟩;subst A;refine⟨_,C,⟨Z,[_],[.int .i64 (d f.1)],rfl,λ_ h=>h,λ_ h=>.inl h,f3k _ _ _ _,rfl,λ_ _ _ _=>rfl,⟨?_,trivial⟩,trivial,?_,?_⟩⟩;.show a1p _ (inj c (n r)) _;rw[z,g,<-e];rfl
    .intro v m;cases m
    .intro i j v F b _ m;cases m
   .cases g
end
end Go.SX
namespace Go.PL
open Go Go.SX
structure Rules where
 From:Int
 MinDays:Int
 PostingLimit:Int
 Substantial:Int
 Members:List Int
structure Rounding where
 Mode:Int
 Unit:Int
structure Credit where
 Kind:Int
 Limit:Int
structure fQ where
 Num:Int
 Den:Int
structure Index where
 Year:Int
 Factor:fQ
structure Expr where
 Op:Int
 Value:fQ
 Dim:Int
 Name:ByteArray
 Args:List Expr
structure Let where
 Name:ByteArray
 Body:Expr
structure Grant where
 Benefit:Int
 If:Expr
 Pay:Expr
structure Reduce where
 Benefit:Int
 By:Expr
structure Version where
 From:Int
 Rounding:Rounding
 Credits:List Credit
 Series:List Index
 Lets:List Let
 Grants:List Grant
 Reduces:List Reduce
structure Value where
 Dim:Int
 Yes:Bool
 Num:fQ
structure Step where
 Name:ByteArray
 Value:Value
structure iQ where
 Name:ByteArray
 Dim:Int
structure Span where
 From:Int
 To:Int
structure Token where
 Kind:Int
 Text:ByteArray
 At:Int
structure rQ where
 l:List Token
 at_:Int
 end_:Int
 bad:Bool
structure pensionref1_wide where
 hi:Int
 lo:Int
structure Statute where
 Name:ByteArray
 Currency:Int
 Versions:List Version
structure State where
 State:Int
 Statute:Statute
structure Rate where
 Currency:Int
 Month:Int
 Value:fQ
structure Laws where
 States:List State
 Treaty:List Rules
 Rates:List Rate
structure tN where
 Issuer:Int
 Number:Int
 Version:Int
 Withdrawn:Bool
 Person:Int
 Kind:Int
 State:Int
 Seat:Int
 From:Int
 Length:Int
 Share:Int
 Amount:Int
 Ref:Int
structure aQ where
 Issuer:Int
 Number:Int
 Version:Int
 Withdrawn:Bool
 Person:Int
 Kind:Int
 State:Int
 Span:Span
 Seat:Int
 Share:Int
 Currency:Int
 Amount:Int
 Ref:Int
structure syntax_entry where
 name:ByteArray
 number:Int
structure bQ where
 laws:Laws
 day:Int
 rules:Rules
structure Posting where
 Seat:Int
 State:Int
 Span:Span
structure uQ where
 seat:Int
 state:Int
structure lQ where
 facts:List aQ
 span:Span
 postings:List Posting
 rules:List Rules
structure gQ where
 Span:Span
 State:Int
 Rule:Int
structure Period where
 State:Int
 Rank:Int
 Span:Span
structure Scheme where
 State:Int
 Version:Version
structure Anon195 where
 kind:Int
 rank:Int
structure nQ where
 Span:Span
 State:Int
 Rank:Int
structure Piece where
 Span:Span
 Members:List Int
structure earnings_income where
 fact:aQ
 days:List Span
structure Earning where
 Year:Int
 Amount:Int
structure rational_wide where
 hi:Int
 lo:Int
structure View where
 Age:Int
 Year:Int
 Children:Int
 Insured:Int
 Worked:Int
 Voluntary:Int
 Service:Int
 Equated:Int
 Raising:Int
 Resident:Int
 Base:fQ
 Years:List Int
structure Total where
 Own:Ar 6 Int
 Few:Ar 6 Bool
 Sum:Int
 Base:Int
 Last:Int
structure vQ where
 view:View
 steps:List Step
structure Result where
 Holds:Bool
 Pay:fQ
 Steps:List Step
structure Award where
 State:Int
 Benefit:Int
 Day:Int
 Code:Int
 Few:Bool
 Independent:Int
 Theoretical:Int
 ProRata:Int
 Num:Int
 Den:Int
 Amount:Int
 Steps:List Step
def a3j:A4:=⟨#[]⟩
def a6h:A4:=⟨#[48,49,50,51,52,53,54,55,56,57]⟩
def b1i:A4:=⟨#[46]⟩
def c6e:A4:=⟨#[102,114,111,109,32,64]⟩
def c1g:A4:=⟨#[32,123,32,114,111,117,110,100,32]⟩
def c33:A4:=⟨#[100,111,119,110,32,49,59,32]⟩
def d01:A4:=⟨#[99,114,101,100,105,116,32,118,111,108,117,110,116,97,114,121,59,32,99,114,101,100,105,116,32,117,110,101,109,112,108,111,121,101,100,32,108,105,109,105,116,32]⟩
def b7x:A4:=⟨#[59,32]⟩
def c8s:A4:=⟨#[99,114,101,100,105,116,32,99,104,105,108,100,32,108,105,109,105,116,32]⟩
def c9v:A4:=⟨#[99,114,101,100,105,116,32,114,101,115,105,100,101,110,99,101,59,32]⟩
def c9k:A4:=⟨#[105,110,100,101,120,32,49,57,54,48,32,49,59,32,105,110,100,101,120,32,49,57,56,48,32]⟩
def c9z:A4:=⟨#[59,32,105,110,100,101,120,32,49,57,57,53,32]⟩
def c83:A4:=⟨#[108,101,116,32,115,112,101,110,116,32,61,32,105,110,115,117,114,101,100,32,47,32]⟩
def c8f:A4:=⟨#[100,59,32,108,101,116,32,112,97,114,116,32,61,32,109,105,110,40,115,112,101,110,116,32,42,32]⟩
def d0e:A4:=⟨#[44,32,48,46,56,48,41,59,32]⟩
def c8t:A4:=⟨#[103,114,97,110,116,32,111,108,100,32,105,102,32,97,103,101,32,62,61,32]⟩
def c8p:A4:=⟨#[32,97,110,100,32,105,110,115,117,114,101,100,32,62,61,32]⟩
def d02:A4:=⟨#[100,32,112,97,121,32,109,97,120,40,98,97,115,101,32,42,32,112,97,114,116,44,32]⟩
def c6o:A4:=⟨#[109,41,59,32]⟩
def c8d:A4:=⟨#[103,114,97,110,116,32,100,105,115,97,98,105,108,105,116,121,32,105,102,32,105,110,115,117,114,101,100,32,62,61,32]⟩
def c80:A4:=⟨#[100,32,112,97,121,32,98,97,115,101,32,42,32]⟩
def c9d:A4:=⟨#[103,114,97,110,116,32,115,117,114,118,105,118,111,114,32,105,102,32,119,111,114,107,101,100,32,43,32,101,113,117,97,116,101,100,32,62,61,32,51,48,100,32,112,97,121,32,98,97,115,101,32,42,32,112,97,114,116,32,42,32,48,46,54,48,59,32]⟩
def c86:A4:=⟨#[103,114,97,110,116,32,102,97,109,105,108,121,32,105,102,32,105,110,115,117,114,101,100,32,62,61,32]⟩
def d1p:A4:=⟨#[100,32,112,97,121,32]⟩
def c9u:A4:=⟨#[109,32,42,32,99,104,105,108,100,114,101,110,59,32]⟩
def c9l:A4:=⟨#[103,114,97,110,116,32,115,105,99,107,110,101,115,115,32,105,102,32,105,110,115,117,114,101,100,32,62,61,32]⟩
def c7y:A4:=⟨#[100,32,112,97,121,32,98,101,115,116,40,51,41,32,47,32,49,50,32,42,32,48,46,55,48,59,32]⟩
def b7g:A4:=⟨#[114,101,100,117,99,101,32,111,108,100,32,98,121,32]⟩
def c8b:A4:=⟨#[114,101,100,117,99,101,32,100,105,115,97,98,105,108,105,116,121,32,98,121,32,105,102,32,97,103,101,32,60,32,54,48,32,116,104,101,110,32,48,46,53,48,32,101,108,115,101,32,49,59,32]⟩
def d3i:A4:=⟨#[125,32]⟩
def c32:A4:=⟨#[104,97,108,102,32,53,59,32]⟩
def c6d:A4:=⟨#[117,112,32,49,59,32]⟩
def c19:A4:=⟨#[101,118,101,110,32,49,48,59,32]⟩
def c2c:A4:=⟨#[97,108,98,97]⟩
def c24:A4:=⟨#[98,111,114,97]⟩
def b8j:A4:=⟨#[99,101,100,97,114]⟩
def c70:A4:=⟨#[115,116,97,116,117,116,101,32]⟩
def c2x:A4:=⟨#[32,99,117,114,114,101,110,99,121,32]⟩
def d8i:A4:=⟨#[32,123,32]⟩
def b7u:A4:=⟨#[49,57,48,48,45,48,49,45,48,49]⟩
def b7v:A4:=⟨#[49,57,57,54,45,48,55,45,48,49]⟩
def b80:A4:=⟨#[50,48,48,49,45,48,49,45,48,49]⟩
def d0a:A4:=⟨#[125]⟩
def d28:A4:=⟨#[60,61]⟩
def d30:A4:=⟨#[62,61]⟩
def d1k:A4:=⟨#[60,62]⟩
def c9m:A4:=⟨#[97,110,100]⟩
def c51:A4:=⟨#[98,101,115,116]⟩
def d69:A4:=⟨#[98,121]⟩
def b91:A4:=⟨#[99,114,101,100,105,116]⟩
def b4x:A4:=⟨#[99,117,114,114,101,110,99,121]⟩
def c53:A4:=⟨#[101,108,115,101]⟩
def c1a:A4:=⟨#[102,108,111,111,114]⟩
def c4c:A4:=⟨#[102,114,111,109]⟩
def c10:A4:=⟨#[103,114,97,110,116]⟩
def d0k:A4:=⟨#[105,102]⟩
def c1q:A4:=⟨#[105,110,100,101,120]⟩
def d07:A4:=⟨#[108,101,116]⟩
def c1c:A4:=⟨#[108,105,109,105,116]⟩
def c98:A4:=⟨#[109,97,120]⟩
def c8l:A4:=⟨#[109,105,110]⟩
def c92:A4:=⟨#[110,111,116]⟩
def d8p:A4:=⟨#[111,114]⟩
def c60:A4:=⟨#[112,97,121]⟩
def b94:A4:=⟨#[114,101,100,117,99,101]⟩
def c14:A4:=⟨#[114,111,117,110,100]⟩
def b76:A4:=⟨#[115,116,97,116,117,116,101]⟩
def d3p:A4:=⟨#[116,104,101,110]⟩
def b3u:A4:=⟨#[0,1,2,2,3,3,3,3,4,4,4,4,4,4,4,4,5,5,5,5,5,5,5,5,5,5,5,5,5,5,5,5,6,6,6,6,6,6,6,6,6,6,6,6,6,6,6,6,6,6,6,6,6,6,6,6,6,6,6,6,6,6,6,6,7,7,7,7,7,7,7,7,7,7,7,7,7,7,7,7,7,7,7,7,7,7,7,7,7,7,7,7,7,7,7,7,7,7,7,7,7,7,7,7,7,7,7,7,7,7,7,7,7,7,7,7,7,7,7,7,7,7,7,7,7,7,7,7,8,8,8,8,8,8,8,8,8,8,8,8,8,8,8,8,8,8,8,8,8,8,8,8,8,8,8,8,8,8,8,8,8,8,8,8,8,8,8,8,8,8,8,8,8,8,8,8,8,8,8,8,8,8,8,8,8,8,8,8,8,8,8,8,8,8,8,8,8,8,8,8,8,8,8,8,8,8,8,8,8,8,8,8,8,8,8,8,8,8,8,8,8,8,8,8,8,8,8,8,8,8,8,8,8,8,8,8,8,8,8,8,8,8,8,8,8,8,8,8,8,8,8,8,8,8,8,8]⟩
def b0b:A4:=⟨#[118,111,108,117,110,116,97,114,121]⟩
def b3z:A4:=⟨#[115,101,114,118,105,99,101]⟩
def b87:A4:=⟨#[117,110,101,109,112,108,111,121,101,100]⟩
def d54:A4:=⟨#[115,105,99,107]⟩
def c97:A4:=⟨#[99,104,105,108,100]⟩
def c04:A4:=⟨#[114,101,115,105,100,101,110,99,101]⟩
def d9m:A4:=⟨#[111,108,100]⟩
def b8e:A4:=⟨#[100,105,115,97,98,105,108,105,116,121]⟩
def c0u:A4:=⟨#[115,117,114,118,105,118,111,114]⟩
def c66:A4:=⟨#[102,97,109,105,108,121]⟩
def c0r:A4:=⟨#[115,105,99,107,110,101,115,115]⟩
def d4s:A4:=⟨#[100,111,119,110]⟩
def f1e:A4:=⟨#[117,112]⟩
def d3b:A4:=⟨#[104,97,108,102]⟩
def d3z:A4:=⟨#[101,118,101,110]⟩
def g5d:A4:=⟨#[43]⟩
def e00:A4:=⟨#[45]⟩
def g62:A4:=⟨#[42]⟩
def e8f:A4:=⟨#[47]⟩
def g4g:A4:=⟨#[60]⟩
def e7j:A4:=⟨#[61]⟩
def g5n:A4:=⟨#[62]⟩
def e02:A4:=⟨#[40]⟩
def d38:A4:=⟨#[41]⟩
def g2w:A4:=⟨#[44]⟩
def c3s:A4:=⟨#[59]⟩
def e8b:A4:=⟨#[123]⟩
def e4t:A4:=⟨#[100]⟩
def e6u:A4:=⟨#[109]⟩
def b1y:A4:=⟨#[83,80,84,72,67,65]⟩
def a6w:A4:=⟨#[83,80,72,67,65]⟩
def c0p:A4:=⟨#[83,80,84]⟩
def a9l:A4:=⟨#[83,80]⟩
def b82:A4:=⟨#[83,80,67,65]⟩
def c1r:A4:=⟨#[83,80,82]⟩
def c0e:A4:=⟨#[80]⟩
def c6f:A4:=⟨#[80,82]⟩
def e0r:A4:=⟨#[97,103,101]⟩
def b6u:A4:=⟨#[105,110,115,117,114,101,100]⟩
def e39:A4:=⟨#[98,97,115,101]⟩
def c5w:A4:=⟨#[119,111,114,107,101,100]⟩
def c3c:A4:=⟨#[101,113,117,97,116,101,100]⟩
def c3j:A4:=⟨#[114,97,105,115,105,110,103]⟩
def c6v:A4:=⟨#[114,101,115,105,100,101,110,116]⟩
def d3o:A4:=⟨#[121,101,97,114]⟩
def c6q:A4:=⟨#[99,104,105,108,100,114,101,110]⟩
def g49:A4:=⟨#[83]⟩
def g4j:A4:=⟨#[84]⟩
def g3v:A4:=⟨#[72]⟩
def g50:A4:=⟨#[67]⟩
def g4u:A4:=⟨#[65]⟩
def g5k:A4:=⟨#[82]⟩
def c91:A4:=⟨#[108,97,119]⟩
abbrev lpC{σ ρ:Type}(s:σ)(f:(σ->A3 ρ)->σ->A3 ρ):A3 ρ:=d9 FU f s
noncomputable section
def c23(x y c:Int):A3 (Int×Int):=g7y x y c
def c1u(x y c:Int):A3 (Int×Int):=g8x x y c
def a7v(s:A4)(c:Int):A3 Int:=some (g6v s c)
def a7z(a:O Int):A3 (O Int):=a4n 8 [] a
def a5m(a:O Credit):A3 (O Credit):=a4n 16 [] a
def a6e(a:O Index):A3 (O Index):=a4n 24 [] a
def a86(a:O Let):A3 (O Let):=a4n 88 [] a
def a6f(a:O Grant):A3 (O Grant):=a4n 152 [] a
def a5p(a:O Reduce):A3 (O Reduce):=a4n 80 [] a
instance:Inhabited Span:=⟨⟨0,0⟩⟩
def b3w(l:O Span):A3 (O Span):=f0f (λx y=>decide (x.From<y.From)) l
def b54(d:(Int×A4)->A3 A4)(a:Int×A4):A3 A4:=if(decide (a.1>9))then(b8t a.1 10).bind λg=>(b8t a.1 10).bind λe=>(c3u a6h g (i64 (e+1))).bind λf=>(a7f f a.2).bind λh=>(c2t a.1 10).bind λb=>d (b,h)else(c3u a6h a.1 (i64 (a.1+1))).bind λc=>(a7f c a.2).bind λi=>some i
def i8(a:Int):A3 A4:=d9 FU b54 (a,a3j)
def b7(c b:Int):A3 Int:=(b8t c b).bind λa=>if(decide (a<0))then some (i64 (a+b))else some a
def c5(a:O Int)(c:Int):A3 Int:=if((a.length:Int)==0)then some 0 else(b7 c (a.length:Int)).bind λb=>(c7 a b).bind λd=>some d
def a01(a:Int):A3 A4:=(c2t a 100).bind λk=>(i8 k).bind λe=>(a7f e b1i).bind λh=>(c2t a 10).bind λf=>(b8t f 10).bind λg=>(i8 g).bind λi=>(a7f h i).bind λc=>(b8t a 10).bind λd=>(i8 d).bind λj=>(a7f c j).bind λb=>some b
def a5b(a:(O Int)×Int×A4):A3 A4:=(c5 a.1 (i64 (a.2.1+18))).bind λf=>(b7 f 3).bind λb=>if(b==0)then(a7f a.2.2 c8b).bind λc=>(a7f c d3i).bind λd=>some d else(a7f a.2.2 d3i).bind λe=>some e
def a5c(a:(O Int)×Int×A4):A3 A4:=(c5 a.1 (i64 (a.2.1+14))).bind λp=>(b7 p 800).bind λq=>(i8 q).bind λy=>(a7f c86 y).bind λk=>(a7f k d1p).bind λm=>(c5 a.1 (i64 (a.2.1+15))).bind λw=>(b7 w 300).bind λo=>(i8 (i64 (10+o))).bind λs=>(a7f m s).bind λt=>(a7f t c9u).bind λu=>(a7f a.2.2 u).bind λr=>(c5 a.1 (i64 (a.2.1+16))).bind λx=>(b7 x 400).bind λj=>(i8 j).bind λg=>(a7f c9l g).bind λz=>(a7f z c7y).bind λv=>(a7f r v).bind λe=>(c5 a.1 (i64 (a.2.1+17))).bind λn=>(b7 n 3).bind λl=>if(decide (l>0))then(c5 a.1 (i64 (a.2.1+17))).bind λh=>(b7 h 11).bind λi=>(a01 (i64 (10*i))).bind λc=>(a7f b7g c).bind λf=>(a7f f b7x).bind λb=>(a7f e b).bind λd=>joinC a5b (a.1,a.2.1,d)else joinC a5b (a.1,a.2.1,e)
def a5j(a:(O Int)×Int×A4×A4):A3 A4:=(c5 a.1 (i64 (a.2.1+5))).bind λI=>(b7 I 300).bind λx=>(a01 (i64 (100+x))).bind λF=>(a7f c9k F).bind λo=>(a7f o c9z).bind λk=>(c5 a.1 (i64 (a.2.1+6))).bind λS=>(b7 S 300).bind λv=>(a01 (i64 (400+v))).bind λl=>(a7f k l).bind λH=>(a7f H b7x).bind λq=>(a7f a.2.2.2 q).bind λd=>(a7f c83 a.2.2.1).bind λp=>(a7f p c8f).bind λj=>(c5 a.1 (i64 (a.2.1+7))).bind λy=>(b7 y 4).bind λG=>(a01 (i64 (1+G))).bind λN=>(a7f j N).bind λR=>(a7f R d0e).bind λe=>(a7f d e).bind λz=>(c5 a.1 (i64 (a.2.1+8))).bind λA=>(b7 A 12).bind λX=>(i8 (i64 (50+X))).bind λC=>(a7f c8t C).bind λP=>(a7f P c8p).bind λE=>(c5 a.1 (i64 (a.2.1+9))).bind λw=>(b7 w 6000).bind λs=>(i8 s).bind λT=>(a7f E T).bind λM=>(a7f M d02).bind λr=>(c5 a.1 (i64 (a.2.1+10))).bind λm=>(b7 m 900).bind λu=>(i8 u).bind λU=>(a7f r U).bind λV=>(a7f V c6o).bind λn=>(a7f z n).bind λf=>(c5 a.1 (i64 (a.2.1+11))).bind λK=>(b7 K 2000).bind λY=>(i8 Y).bind λi=>(a7f c8d i).bind λL=>(a7f L c80).bind λg=>(c5 a.1 (i64 (a.2.1+12))).bind λc=>(b7 c 60).bind λt=>(a01 (i64 (20+t))).bind λh=>(a7f g h).bind λW=>(a7f W b7x).bind λB=>(a7f f B).bind λb=>(c5 a.1 (i64 (a.2.1+13))).bind λQ=>(b7 Q 5).bind λJ=>if(decide (J>0))then(a7f b c9d).bind λD=>joinC a5c (a.1,a.2.1,D)else joinC a5c (a.1,a.2.1,b)
def a5k(a:(O Int)×Int×A4×A4):A3 A4:=(c5 a.1 (i64 (a.2.1+4))).bind λc=>(b7 c 4).bind λb=>if(b==0)then(a7f a.2.2.2 c9v).bind λd=>joinC a5j (a.1,a.2.1,a.2.2.1,d)else joinC a5j (a.1,a.2.1,a.2.2.1,a.2.2.2)
def a1a(a:(O Int)×Int×A4×A4):A3 A4:=(c5 a.1 (i64 (a.2.1+2))).bind λl=>(b7 l 900).bind λc=>(i8 (i64 (1+c))).bind λe=>(a7f d01 e).bind λh=>(a7f h b7x).bind λg=>(a7f a.2.2.2 g).bind λb=>(c5 a.1 (i64 (a.2.1+3))).bind λo=>(b7 o 3).bind λf=>if(decide (f>0))then(c5 a.1 (i64 (a.2.1+3))).bind λi=>(b7 i 1000).bind λd=>(i8 (i64 (100+d))).bind λm=>(a7f c8s m).bind λj=>(a7f j b7x).bind λn=>(a7f b n).bind λk=>joinC a5k (a.1,a.2.1,a.2.2.1,k)else joinC a5k (a.1,a.2.1,a.2.2.1,b)
def a38(i:A4)(a:O Int)(b:Int):A3 A4:=(c5 a b).bind λn=>(b7 n 90).bind λk=>(i8 (i64 (300+k))).bind λg=>(a7f c6e i).bind λl=>(a7f l c1g).bind λf=>(c5 a (i64 (b+1))).bind λm=>(b7 m 4).bind λh=>if(h==0)then(a7f f c33).bind λj=>joinC a1a (a,b,g,j)else if(h==1)then(a7f f c32).bind λe=>joinC a1a (a,b,g,e)else if(h==2)then(a7f f c6d).bind λc=>joinC a1a (a,b,g,c)else(a7f f c19).bind λd=>joinC a1a (a,b,g,d)
def a7x(a:Int×(O Int)×A4):A3 A4:=(c5 a.2.1 (i64 (37+a.1))).bind λe=>(b7 e 3).bind λg=>if(g==0)then(a38 b80 a.2.1 (i64 ((i64 (7*a.1))+5))).bind λc=>(a7f a.2.2 c).bind λd=>(a7f d d0a).bind λb=>some b else(a7f a.2.2 d0a).bind λf=>some f
def b10(a:Int)(b:O Int):A3 A4:=(c7 (⟨[c2c,c24,b8j],rfl⟩:Ar 3 A4).l a).bind λo=>(c7 (⟨[c2c,c24,b8j],rfl⟩:Ar 3 A4).l a).bind λj=>(a7f c70 j).bind λm=>(a7f m c2x).bind λk=>(i8 (i64 (1+a))).bind λl=>(a7f k l).bind λn=>(a7f n d8i).bind λh=>(a38 b7u b (i64 (7*a))).bind λi=>(a7f h i).bind λg=>(c5 b (i64 (31+a))).bind λf=>(b7 f 3).bind λc=>if(decide (c>0))then(a38 b7v b (i64 ((i64 (7*a))+3))).bind λd=>(a7f g d).bind λe=>joinC a7x (a,b,e)else joinC a7x (a,b,g)
def b78(d:A4)(c:(Int×Bool)->A3 Int)(a:Int×Bool):A3 Int:=if(decide (a.1<(d.size:Int)))then(b3c d a.1).bind λb=>if(b==10)then c (i64 (a.1+1),false)else if(b==35)then c (i64 (a.1+1),true)else(if(!a.2)then some (b !=9)else some false).bind λe=>(if e then some (b !=13)else some false).bind λf=>(if f then some (b !=32)else some false).bind λg=>if g then some a.1else c (i64 (a.1+1),a.2)else some a.1
def b16(a:A4)(b:Int):A3 Int:=d9 FU (b78 a) (b,false)
def a3q(a:Int):A3 Bool:=(if(decide (a>=97))then some (decide (a<=122))else some false).bind λb=>some b
def a30(a:Int):A3 Bool:=(if(decide (a>=48))then some (decide (a<=57))else some false).bind λb=>some b
def b7b(c:Int)(b:A4)(o:Bool)(j:Int->A3 Int)(a:Int):A3 Int:=(if(decide ((i64 (c+a))<(b.size:Int)))then(b3c b (i64 (c+a))).bind λm=>(a3q m).bind λk=>(if k then some true else(b3c b (i64 (c+a))).bind λl=>(a30 l).bind λn=>some n).bind λh=>(if h then some true else(b3c b (i64 (c+a))).bind λi=>some (i==95)).bind λp=>(if p then some true else(if o then(b3c b (i64 (c+a))).bind λg=>some (g==46)else some false).bind λd=>some d).bind λe=>some e else some false).bind λf=>if f then j (i64 (a+1))else some a
def a9f(a:A4)(c:Int)(b:Bool):A3 Int:=d9 FU (b7b c a b) 0
def b5u(a:Int×A4×A4)(d:Int->A3 (A4×A4×Int×Bool))(b:Int):A3 (A4×A4×Int×Bool):=if(decide (b<(i64 ((a.2.1.size:Int)+(a.2.2.size:Int)))))then(a7f a.2.1 a.2.2).bind λf=>(b3c f b).bind λh=>(a30 h).bind λj=>if(!j)then some (a3j,a3j,0,false)else d (i64 (b+1))else(if(decide ((a.2.1.size:Int)<1))then some true else some (decide ((a.2.1.size:Int)>9))).bind λe=>(if e then some true else(if(decide ((a.2.1.size:Int)>1))then(b3c a.2.1 0).bind λg=>some (g==48)else some false).bind λc=>some c).bind λi=>if i then some (a3j,a3j,0,false)else some (a.2.1,a.2.2,a.1,true)
def a6o(a:Int×A4×A4):A3 (A4×A4×Int×Bool):=d9 FU (b5u a) 0
def b5t(b:A4×Int)(f:(Int×Int)->A3 (A4×A4×Int×Bool))(a:Int×Int):A3 (A4×A4×Int×Bool):=if(decide (a.2>=0))then(b3c b.1 a.2).bind λg=>if(g==46)then f (a.2,i64 (a.2-1))else f (a.1,i64 (a.2-1))else(c3u b.1 0 a.1).bind λe=>if(decide (a.1<(b.1.size:Int)))then(c3u b.1 (i64 (a.1+1)) (b.1.size:Int)).bind λd=>(if(decide ((d.size:Int)<1))then some true else some (decide ((d.size:Int)>4))).bind λc=>if c then some (a3j,a3j,0,false)else joinC a6o (b.2,e,d)else joinC a6o (b.2,e,a3j)
def a45(a:A4×Int):A3 (A4×A4×Int×Bool):=d9 FU (b5t a) ((a.1.size:Int),i64 ((a.1.size:Int)-1))
def a6z(a:A4):A3 (A4×A4×Int×Bool):=(if(decide ((a.size:Int)>0))then(b3c a (i64 ((a.size:Int)-1))).bind λg=>some (g==100)else some false).bind λe=>if e then(c3u a 0 (i64 ((a.size:Int)-1))).bind λf=>joinC a45 (f,3)else(if(decide ((a.size:Int)>0))then(b3c a (i64 ((a.size:Int)-1))).bind λb=>some (b==109)else some false).bind λd=>if d then(c3u a 0 (i64 ((a.size:Int)-1))).bind λc=>joinC a45 (c,4)else joinC a45 (a,2)
def b5p(b:A4)(c:(Int×Int)->A3 (Int×Bool))(a:Int×Int):A3 (Int×Bool):=if(decide (a.2<(b.size:Int)))then(b3c b a.2).bind λf=>(if(decide (f<48))then some true else(b3c b a.2).bind λd=>some (decide (d>57))).bind λe=>if e then some (0,false)else(b3c b a.2).bind λg=>c (i64 ((i64 (a.1*10))+(i64 (IntKind.u8.wrap (g-48)))),i64 (a.2+1))else some (a.1,decide ((b.size:Int)>0))
def a4m(a:A4):A3 (Int×Bool):=d9 FU (b5p a) (0,0)
def b18(a:Int):A3 Bool:=(b8t a 4).bind λf=>(if(f==0)then(b8t a 100).bind λb=>(if(b !=0)then some true else(b8t a 400).bind λe=>some (e==0)).bind λc=>some c else some false).bind λd=>some d
def a6b(c a:Int):A3 Int:=if(a==2)then(b18 c).bind λb=>if b then some 29 else some 28 else if(a==4)then if(a==4)then some 30 else some 31 else if(a==6)then if(a==6)then some 30 else some 31 else if(a==9)then if(a==9)then some 30 else some 31 else if(a==11)then some 30 else some 31
def b5s(b:Int)(c:(Int×Int)->A3 Int)(a:Int×Int):A3 Int:=if(decide (a.2<b))then(c2t a.2 12).bind λf=>(b8t a.2 12).bind λd=>(a6b (i64 (1900+f)) (i64 (d+1))).bind λe=>c (i64 (a.1+e),i64 (a.2+1))else some a.1
def a9y(a:Int):A3 Int:=d9 FU (b5s a) (0,0)
def b22(a b c:Int):A3 (Int×Bool):=(if(decide (a<1900))then some true else some (decide (a>2099))).bind λj=>(if j then some true else some (decide (b<1))).bind λe=>(if e then some true else some (decide (b>12))).bind λh=>(if h then some true else some (decide (c<1))).bind λf=>(if f then some true else(a6b a b).bind λg=>some (decide (c>g))).bind λi=>if i then some (0,false)else(a9y (i64 ((i64 ((i64 ((i64 (a-1900))*12))+b))-1))).bind λd=>some (i64 ((i64 (d+c))-1),true)
def a47(a:A4):A3 (Int×Bool):=(if((a.size:Int)!=10)then some true else(b3c a 4).bind λn=>some (n !=45)).bind λi=>(if i then some true else(b3c a 7).bind λl=>some (l !=45)).bind λj=>if j then some (0,false)else(c3u a 0 4).bind λk=>(a4m k).bind λg=>(c3u a 5 7).bind λh=>(a4m h).bind λf=>(c3u a 8 (a.size:Int)).bind λm=>(a4m m).bind λc=>(if(!g.2)then some true else some (!f.2)).bind λd=>(if d then some true else some (!c.2)).bind λe=>if e then some (0,false)else(b22 g.1 f.1 c.1).bind λb=>some (b.1,b.2)
def a7w(b:A4×Int):A3 Int:=(b3c b.1 b.2).bind λa=>if(a==60)then if(a==60)then some 1 else some 0 else if(a==62)then if(a==62)then some 1 else some 0 else if(a==61)then if(a==61)then some 1 else some 0 else if(a==43)then if(a==43)then some 1 else some 0 else if(a==45)then if(a==45)then some 1 else some 0 else if(a==42)then if(a==42)then some 1 else some 0 else if(a==47)then if(a==47)then some 1 else some 0 else if(a==40)then if(a==40)then some 1 else some 0 else if(a==41)then if(a==41)then some 1 else some 0 else if(a==123)then if(a==123)then some 1 else some 0 else if(a==125)then if(a==125)then some 1 else some 0 else if(a==44)then if(a==44)then some 1 else some 0 else if(a==59)then some 1 else some 0
def b1a(b:A4)(a:Int):A3 Int:=if(decide ((i64 (a+1))<(b.size:Int)))then(c3u b a (i64 (a+2))).bind λc=>(if(c.toList==d28.toList)then some true else some (c.toList==d30.toList)).bind λd=>(if d then some true else some (c.toList==d1k.toList)).bind λe=>if e then some 2 else joinC a7w (b,a)else joinC a7w (b,a)
def a1o(a:A4×Int×Token×Int×Int×Bool):A3 (Token×Int×Int):=if(!a.2.2.2.2.2)then some ((⟨0,a3j,0⟩:Token),a.2.1,4)else(c3u a.1 a.2.1 (i64 (a.2.1+a.2.2.2.2.1))).bind λb=>some ((⟨a.2.2.2.1,b,a.2.1⟩:Token),i64 (a.2.1+a.2.2.2.2.1),0)
def b15(b:A4)(f:Int):A3 (Token×Int×Int):=(if(decide (f<0))then some true else some (decide (f>(b.size:Int)))).bind λp=>if p then some ((⟨0,a3j,0⟩:Token),0,1)else(b16 b f).bind λa=>if(a==(b.size:Int))then some ((⟨0,a3j,a⟩:Token),a,0)else(b3c b a).bind λn=>(a3q n).bind λm=>if m then(a9f b a false).bind λk=>joinC a1o (b,a,(⟨0,a3j,0⟩:Token),1,k,decide (k<=12))else(b3c b a).bind λl=>(a30 l).bind λo=>if o then(a9f b a true).bind λc=>(c3u b a (i64 (a+c))).bind λe=>(a6z e).bind λg=>joinC a1o (b,a,(⟨0,a3j,0⟩:Token),2,c,g.2.2.2)else(b3c b a).bind λi=>if(i==64)then if(decide ((i64 ((b.size:Int)-a))>=11))then(c3u b (i64 (a+1)) (i64 (a+11))).bind λh=>(a47 h).bind λj=>joinC a1o (b,a,(⟨0,a3j,0⟩:Token),3,11,j.2)else joinC a1o (b,a,(⟨0,a3j,0⟩:Token),3,11,decide ((i64 ((b.size:Int)-a))>=11))else(b1a b a).bind λd=>joinC a1o (b,a,(⟨0,a3j,0⟩:Token),4,d,decide (d>0))
def b7c(c:A4)(d:((O Token)×Int)->A3 ((O Token)×Int×Int))(b:(O Token)×Int):A3 ((O Token)×Int×Int):=(b15 c b.2).bind λa=>if(a.2.2!=0)then some ([],a.2.1,a.2.2)else if(a.1.Kind==0)then some (b.1,0,0)else(a4n 32 b.1 [a.1]).bind λe=>d (e,a.2.1)
def b25(a:A4):A3 ((O Token)×Int×Int):=if(decide ((a.size:Int)>8000))then some ([],0,7)else d9 FU (b7c a) ([],0)
def b02(b:A4):A3 ((A3 rQ)×Int×Int):=(b25 b).bind λa=>if(a.2.2!=0)then some (none,a.2.1,a.2.2)else some (some (⟨a.1,0,(b.size:Int),false⟩:rQ),0,0)
def u9(a:rQ)(b:A4):A3 Bool:=(if(!a.bad)then some (decide (a.at_<(a.l.length:Int)))else some false).bind λe=>(if e then(c7 a.l a.at_).bind λc=>some (c.Text.toList==b.toList)else some false).bind λd=>some d
def d7(a:rQ)(c:A4):A3 (Bool×rQ):=(u9 a c).bind λb=>if(!b)then some (false,a)else some (true,(⟨a.l,i64 (a.at_+1),a.end_,a.bad⟩:rQ))
def j8(a:rQ):A3 rQ:=some (⟨a.l,a.at_,a.end_,true⟩:rQ)
def b9(b:rQ)(c:A4):A3 rQ:=(d7 b c).bind λa=>if(!a.1)then(j8 a.2).bind λd=>some d else some a.2
def p8(a:rQ)(b:Int):A3 Bool:=(if(!a.bad)then some (decide (a.at_<(a.l.length:Int)))else some false).bind λe=>(if e then(c7 a.l a.at_).bind λc=>some (c.Kind==b)else some false).bind λd=>some d
def b4m(a:A4)(g:Int->A3 Bool)(b:Int):A3 Bool:=if(decide (b<(a.size:Int)))then(b3c a b).bind λj=>(a3q j).bind λh=>(if(!h)then(if(b==0)then some true else(b3c a b).bind λi=>(a30 i).bind λk=>(if(!k)then(b3c a b).bind λe=>some (e !=95)else some false).bind λf=>some f).bind λl=>some l else some false).bind λd=>if d then some false else g (i64 (b+1))else(if(decide ((a.size:Int)>=1))then some (decide ((a.size:Int)<=12))else some false).bind λc=>some c
def a99(a:A4):A3 Bool:=d9 FU (b4m a) 0
def a7o(a:A4):A3 Bool:=if(a.toList==c9m.toList)then if(a.toList==c9m.toList)then some true else some false else if(a.toList==c51.toList)then if(a.toList==c51.toList)then some true else some false else if(a.toList==d69.toList)then if(a.toList==d69.toList)then some true else some false else if(a.toList==b91.toList)then if(a.toList==b91.toList)then some true else some false else if(a.toList==b4x.toList)then if(a.toList==b4x.toList)then some true else some false else if(a.toList==c53.toList)then if(a.toList==c53.toList)then some true else some false else if(a.toList==c1a.toList)then if(a.toList==c1a.toList)then some true else some false else if(a.toList==c4c.toList)then if(a.toList==c4c.toList)then some true else some false else if(a.toList==c10.toList)then if(a.toList==c10.toList)then some true else some false else if(a.toList==d0k.toList)then if(a.toList==d0k.toList)then some true else some false else if(a.toList==c1q.toList)then if(a.toList==c1q.toList)then some true else some false else if(a.toList==d07.toList)then if(a.toList==d07.toList)then some true else some false else if(a.toList==c1c.toList)then if(a.toList==c1c.toList)then some true else some false else if(a.toList==c98.toList)then if(a.toList==c98.toList)then some true else some false else if(a.toList==c8l.toList)then if(a.toList==c8l.toList)then some true else some false else if(a.toList==c92.toList)then if(a.toList==c92.toList)then some true else some false else if(a.toList==d8p.toList)then if(a.toList==d8p.toList)then some true else some false else if(a.toList==c60.toList)then if(a.toList==c60.toList)then some true else some false else if(a.toList==b94.toList)then if(a.toList==b94.toList)then some true else some false else if(a.toList==c14.toList)then if(a.toList==c14.toList)then some true else some false else if(a.toList==b76.toList)then if(a.toList==b76.toList)then some true else some false else if(a.toList==d3p.toList)then some true else some false
def a2e(a:A4):A3 Bool:=(a99 a).bind λb=>(if b then(a7o a).bind λd=>some (!d)else some false).bind λc=>some c
def a0w(a:rQ):A3 (A4×rQ):=(p8 a 1).bind λg=>(if(!g)then some true else(c7 a.l a.at_).bind λb=>(a2e b.Text).bind λe=>some (!e)).bind λc=>if c then(j8 a).bind λd=>some (a3j,d)else(c7 a.l (i64 ((i64 (a.at_+1))-1))).bind λf=>some (f.Text,(⟨a.l,i64 (a.at_+1),a.end_,a.bad⟩:rQ))
def a43(a:Int):A3 Int:=if(decide (a<0))then some (u64 ((u64 (i64 (-(i64 (a+1)))))+1))else some (u64 (a))
def b62(a:Int×Int):A3 Int:=if(decide (a.1>=256))then(d0l .u64 a.1 8).bind λc=>(b3c b3u (IntKind.u8.wrap (c))).bind λd=>some (i64 ((i64 (a.2+8))+(i64 (d))))else(b3c b3u (IntKind.u8.wrap (a.1))).bind λb=>some (i64 (a.2+(i64 (b))))
def b65(a:Int×Int):A3 Int:=if(decide (a.1>=65536))then(d0l .u64 a.1 16).bind λb=>joinC b62 (b,i64 (a.2+16))else joinC b62 (a.1,a.2)
def b8x(a:Int):A3 Int:=if(decide (a>=4294967296))then(d0l .u64 a 32).bind λb=>joinC b65 (b,32)else joinC b65 (a,0)
def a7n(b:Int):A3 Int:=(b8x b).bind λa=>some (i64 (64-a))
def b5x(a:Int×Int×Int×Int×Int×Int):A3 (Int×Int):=(d0l .u64 (u64 ((u64 ((u64 (a.2.2.2.2.1*4294967296))+a.2.2.1))-(u64 (a.2.2.2.2.2*a.1)))) a.2.1).bind λb=>some (u64 ((u64 (a.2.2.2.1*4294967296))+a.2.2.2.2.2),b)
def c4t(a:Int×Int×Int×Int×Int×Int×Int×Int)(c:(Int×Int)->A3 (Int×Int))(b:Int×Int):A3 (Int×Int):=(if(decide (b.2>=4294967296))then some true else some (decide ((u64 (b.2*a.2.2.2.1))>(u64 ((u64 (4294967296*b.1))+a.2.2.2.2.2.2.1))))).bind λd=>if d then if(decide ((u64 (b.1+a.2.2.1))>=4294967296))then joinC b5x (a.1,a.2.1,a.2.2.2.2.2.2.1,a.2.2.2.2.2.2.2,u64 ((u64 ((u64 (a.2.2.2.2.1*4294967296))+a.2.2.2.2.2.1))-(u64 (a.2.2.2.2.2.2.2*a.1))),u64 (b.2-1))else c (u64 (b.1+a.2.2.1),u64 (b.2-1))else joinC b5x (a.1,a.2.1,a.2.2.2.2.2.2.1,a.2.2.2.2.2.2.2,u64 ((u64 ((u64 (a.2.2.2.2.1*4294967296))+a.2.2.2.2.2.1))-(u64 (a.2.2.2.2.2.2.2*a.1))),b.2)
def b31(a:Int×Int×Int×Int×Int×Int×Int×Int):A3 (Int×Int):=(if a.2.2.1=0then none else some (u64 (Int.tdiv (u64 ((u64 ((u64 (a.2.2.2.2.1*4294967296))+a.2.2.2.2.2.1))-(u64 (a.2.2.2.2.2.2.2*a.1)))) a.2.2.1))).bind λb=>d9 FU (c4t a) (u64 ((u64 ((u64 ((u64 (a.2.2.2.2.1*4294967296))+a.2.2.2.2.2.1))-(u64 (a.2.2.2.2.2.2.2*a.1))))-(u64 (b*a.2.2.1))),b)
def c4k(c b e i h j d:Int)(f:(Int×Int)->A3 (Int×Int))(a:Int×Int):A3 (Int×Int):=(if(decide (a.1>=4294967296))then some true else some (decide ((u64 (a.1*(d5y .u64 c 4294967295)))>(u64 ((u64 (4294967296*a.2))+b))))).bind λg=>if g then if(decide ((u64 (a.2+e))>=4294967296))then joinC b31 (c,u64 (i),e,d5y .u64 c 4294967295,orK .u64 h j,b,d5y .u64 d 4294967295,u64 (a.1-1))else f (u64 (a.1-1),u64 (a.2+e))else joinC b31 (c,u64 (i),e,d5y .u64 c 4294967295,orK .u64 h j,b,d5y .u64 d 4294967295,a.1)
def b9t(a:Int×Int×Int):A3 (Int×Int):=if(a.1==0)then(if a.2.2=0then none else some (u64 (Int.tdiv a.2.1 a.2.2))).bind λk=>(b8t a.2.1 a.2.2).bind λj=>some (k,j)else(a7n a.2.2).bind λc=>(g2a .u64 a.2.2 (u64 (c))).bind λi=>(d0l .u64 i 32).bind λe=>(g2a .u64 a.1 (u64 (c))).bind λg=>(d0l .u64 a.2.1 (u64 (64-(u64 (c))))).bind λh=>(g2a .u64 a.2.1 (u64 (c))).bind λd=>(d0l .u64 d 32).bind λf=>(if e=0then none else some (u64 (Int.tdiv (orK .u64 g h) e))).bind λb=>d9 FU (c4k i f e c g h d) (b,u64 ((orK .u64 g h)-(u64 (b*e))))
def b9j(a:Int×Int×Int):A3 (Int×Int):=if(decide (a.2.2<=a.1))then none else joinC b9t (a.1,a.2.1,a.2.2)
def a8o(b c a:Int):A3 (Int×Int):=if(a==0)then none else joinC b9j (b,c,a)
def a3h(b:pensionref1_wide)(a:Int):A3 (pensionref1_wide×Int):=(b8t b.hi a).bind λe=>(a8o e b.lo a).bind λc=>(if a=0then none else some (u64 (Int.tdiv b.hi a))).bind λd=>some ((⟨d,c.1⟩:pensionref1_wide),c.2)
def b7e(c:(Int×Int)->A3 Int)(a:Int×Int):A3 Int:=if(a.2!=0)then(b8t a.1 a.2).bind λb=>c (a.2,b)else some a.1
def a9s(a b:Int):A3 Int:=d9 FU b7e (a,b)
def b2l(f:Bool)(e:pensionref1_wide)(d:Int):A3 (fQ×Int):=(a3h e d).bind λi=>(a9s d i.2).bind λb=>(a3h e b).bind λa=>(if b=0then none else some (u64 (Int.tdiv d b))).bind λc=>(if(a.1.hi !=0)then some true else some (decide (a.1.lo>1000000000000000))).bind λg=>(if g then some true else some (decide (c>1000000000))).bind λh=>if h then some ((⟨0,0⟩:fQ),2)else if f then some ((⟨i64 (-(i64 (a.1.lo))),i64 (c)⟩:fQ),0)else some ((⟨i64 (a.1.lo),i64 (c)⟩:fQ),0)
def a3r(b a:Int):A3 (fQ×Int):=if(a==0)then some ((⟨0,0⟩:fQ),3)else(a43 b).bind λe=>(a43 a).bind λd=>(b2l ((decide (b<0))!=(decide (a<0))) (⟨0,e⟩:pensionref1_wide) d).bind λc=>some (c.1,c.2)
def b3f(b:A4×A4×Int×Bool)(d:(fQ×Int×Int×Int)->A3 (fQ×Int×Bool))(a:fQ×Int×Int×Int):A3 (fQ×Int×Bool):=if(decide (a.2.2.2<(i64 ((b.1.size:Int)+(b.2.1.size:Int)))))then(a7f b.1 b.2.1).bind λe=>(b3c e a.2.2.2).bind λc=>if(decide (a.2.2.2>=(b.1.size:Int)))then d (a.1,i64 ((i64 (a.2.1*10))+(i64 (IntKind.u8.wrap (c-48)))),i64 (a.2.2.1*10),i64 (a.2.2.2+1))else d (a.1,i64 ((i64 (a.2.1*10))+(i64 (IntKind.u8.wrap (c-48)))),a.2.2.1,i64 (a.2.2.2+1))else(a3r a.2.1 a.2.2.1).bind λf=>some (f.1,b.2.2.1,true)
def a2x(b:A4):A3 (fQ×Int×Bool):=(a6z b).bind λa=>if(!a.2.2.2)then some ((⟨0,0⟩:fQ),0,false)else d9 FU (b3f a) ((⟨0,0⟩:fQ),0,1,0)
def s7(a:rQ)(e j:Int):A3 (Int×rQ):=(p8 a 2).bind λk=>if k then(c7 a.l a.at_).bind λf=>(a2x f.Text).bind λb=>(if(b.2.1==2)then some (b.1.Den==1)else some false).bind λg=>(if g then some (decide (b.1.Num>=e))else some false).bind λh=>(if h then some (decide (b.1.Num<=j))else some false).bind λi=>if i then some (b.1.Num,(⟨a.l,i64 (a.at_+1),a.end_,a.bad⟩:rQ))else(j8 a).bind λc=>some (0,c)else(j8 a).bind λd=>some (0,d)
def b09(a:A4):A3 Int:=(c3u a 1 (a.size:Int)).bind λb=>(a47 b).bind λc=>some c.1
def a8l(a:A4):A3 Int:=if(a.toList==b0b.toList)then some 6 else if(a.toList==b3z.toList)then some 9 else if(a.toList==b87.toList)then some 7 else if(a.toList==d54.toList)then some 8 else if(a.toList==c97.toList)then some 10 else if(a.toList==c04.toList)then some 5 else some 0
def a52(a:A4):A3 Int:=if(a.toList==d9m.toList)then some 1 else if(a.toList==b8e.toList)then some 2 else if(a.toList==c0u.toList)then some 3 else if(a.toList==c66.toList)then some 4 else if(a.toList==c0r.toList)then some 5 else some 0
def a8f(a:A4):A3 Int:=if(a.toList==d4s.toList)then some 1 else if(a.toList==f1e.toList)then some 2 else if(a.toList==d3b.toList)then some 3 else if(a.toList==d3z.toList)then some 4 else some 0
def a0m(a:rQ)(d:Int):A3 (Int×rQ):=(p8 a 1).bind λj=>if j then(c7 a.l a.at_).bind λb=>(a8l b.Text).bind λg=>(a52 b.Text).bind λe=>(a8f b.Text).bind λf=>(c7 [g,e,f] (i64 (d-1))).bind λk=>(c7 [g,e,f] (i64 (d-1))).bind λc=>if(decide (c>0))then some (c,(⟨a.l,i64 (a.at_+1),a.end_,a.bad⟩:rQ))else(j8 a).bind λh=>some (0,h)else(j8 a).bind λi=>some (0,i)
def a8e(a:Int):A3 Int:=(if(decide (a>=1))then some (decide (a<=3))else some false).bind λb=>if b then some 0 else(if(decide (a>=4))then some (decide (a<=6))else some false).bind λd=>if d then some 1 else(if(decide (a>=7))then some (decide (a<=20))else some false).bind λc=>if c then some 2 else if(a==21)then some 3 else some (-1:Int)
def a6m(a:Int×Bool):A3 Int:=if a.2then some 5 else if(a.1==9)then if(a.1==9)then some 6 else some 7 else if(a.1==10)then some 6 else some 7
def a04(a:Int×Bool):A3 Int:=if a.2then some 4 else if(a.1==7)then joinC a6m (a.1,a.1==7)else joinC a6m (a.1,a.1==8)
def b05(a:Int):A3 Int:=if(a==21)then some 0 else if(a==18)then some 1 else if(a==17)then some 2 else if(a==5)then some 3 else if(a==11)then joinC a04 (a,a==11)else if(a==12)then joinC a04 (a,a==12)else if(a==13)then joinC a04 (a,a==13)else if(a==14)then joinC a04 (a,a==14)else if(a==15)then joinC a04 (a,a==15)else joinC a04 (a,a==16)
def a96(a:Int):A3 A4:=if(a==7)then some g5d else if(a==8)then some e00 else if(a==9)then some g62 else if(a==10)then some e8f else if(a==11)then some g4g else if(a==12)then some d28 else if(a==13)then some e7j else if(a==14)then some d1k else if(a==15)then some g5n else if(a==16)then some d30 else if(a==17)then some c9m else some d8p
def a9a(c:Int)(b:rQ)(d:Int->A3 Int)(a:Int):A3 Int:=if(decide (a<=18))then(b05 a).bind λg=>(if(g==c)then(a96 a).bind λe=>(u9 b e).bind λf=>some f else some false).bind λh=>if h then some a else d (i64 (a+1))else some 0
def a3a(a:rQ)(b:Int):A3 Int:=d9 FU (a9a b a) 7
structure eQ where f_pensionref5_reader_expr:rQ->Int->Option (Expr×rQ)f_pensionref5_reader_factor:rQ->Option (Expr×rQ)f_pensionref5_reader_call:rQ->Int->Option (Expr×rQ)
def b0l(R:eQ)(d:Int)(e:(rQ×(O Expr)×Expr×Expr)->A3 (Expr×rQ))(a:rQ×(O Expr)×Expr×Expr):A3 (Expr×rQ):=if(!a.1.bad)then(a3a a.1 d).bind λc=>if(c==0)then some (a.2.2.2,a.1)else(R.f_pensionref5_reader_expr (⟨a.1.l,i64 (a.1.at_+1),a.1.end_,a.1.bad⟩:rQ) (i64 (d+1))).bind λb=>if(d==4)then some ((⟨c,(⟨0,0⟩:fQ),0,a3j,[a.2.2.2,b.1]⟩:Expr),b.2)else e (b.2,a.2.1,(⟨a.2.2.1.Op,a.2.2.1.Value,a.2.2.1.Dim,a.2.2.1.Name,[]⟩:Expr),(⟨c,(⟨0,0⟩:fQ),0,a3j,[a.2.2.2,b.1]⟩:Expr))else some (a.2.2.2,a.1)
def a3b(R:eQ)(a:rQ)(c:Int):A3 (Expr×rQ):=if a.bad then some ((⟨0,(⟨0,0⟩:fQ),0,a3j,[]⟩:Expr),a)else if(c==0)then(d7 a d0k).bind λg=>if(!g.1)then(R.f_pensionref5_reader_expr g.2 1).bind λi=>some (i.1,i.2)else(R.f_pensionref5_reader_expr g.2 0).bind λk=>(b9 k.2 d3p).bind λm=>(R.f_pensionref5_reader_expr m 0).bind λj=>(b9 j.2 c53).bind λn=>(R.f_pensionref5_reader_expr n 0).bind λh=>some ((⟨21,(⟨0,0⟩:fQ),0,a3j,[k.1,j.1,h.1]⟩:Expr),h.2)else if(c==3)then(d7 a c92).bind λf=>if f.1then(R.f_pensionref5_reader_expr f.2 3).bind λl=>some ((⟨5,(⟨0,0⟩:fQ),0,a3j,[l.1]⟩:Expr),l.2)else(R.f_pensionref5_reader_expr f.2 4).bind λe=>some (e.1,e.2)else if(c==7)then(R.f_pensionref5_reader_factor a).bind λb=>some (b.1,b.2)else(R.f_pensionref5_reader_expr a (i64 (c+1))).bind λd=>d9 FU (b0l R c) (d.2,[],(⟨0,(⟨0,0⟩:fQ),0,a3j,[]⟩:Expr),d.1)
def a2a(R:eQ)(b:rQ):A3 (Expr×rQ):=(p8 b 2).bind λr=>if r then(c7 b.l b.at_).bind λt=>(a2x t.Text).bind λq=>some ((⟨1,q.1,q.2.1,a3j,[]⟩:Expr),(⟨b.l,i64 (b.at_+1),b.end_,b.bad⟩:rQ))else(d7 b e00).bind λn=>if n.1then(R.f_pensionref5_reader_expr n.2 7).bind λo=>some ((⟨4,(⟨0,0⟩:fQ),0,a3j,[o.1]⟩:Expr),o.2)else(d7 n.2 e02).bind λk=>if k.1then(R.f_pensionref5_reader_expr k.2 0).bind λp=>(b9 p.2 d38).bind λs=>some (p.1,s)else(d7 k.2 c51).bind λa=>if a.1then(b9 a.2 e02).bind λm=>(s7 m 1 45).bind λg=>(b9 g.2 d38).bind λj=>some ((⟨3,(⟨g.1,1⟩:fQ),0,a3j,[]⟩:Expr),j)else(u9 a.2 c1a).bind λi=>if i then(R.f_pensionref5_reader_call a.2 6).bind λc=>some (c.1,c.2)else(u9 a.2 c8l).bind λl=>if l then(R.f_pensionref5_reader_call a.2 19).bind λf=>some (f.1,f.2)else(u9 a.2 c98).bind λh=>if h then(R.f_pensionref5_reader_call a.2 20).bind λe=>some (e.1,e.2)else(a0w a.2).bind λd=>some ((⟨2,(⟨0,0⟩:fQ),0,d.1,[]⟩:Expr),d.2)
def a3d(R:eQ)(a:rQ)(c:Int):A3 (Expr×rQ):=(b9 (⟨a.l,i64 (a.at_+1),a.end_,a.bad⟩:rQ) e02).bind λj=>(R.f_pensionref5_reader_expr j 0).bind λb=>(a8e c).bind λi=>if(i==2)then(b9 b.2 g2w).bind λg=>(c7 [b.1] 0).bind λh=>(R.f_pensionref5_reader_expr g 0).bind λd=>(b9 d.2 d38).bind λe=>some ((⟨c,(⟨0,0⟩:fQ),0,a3j,[h,d.1]⟩:Expr),e)else(b9 b.2 d38).bind λf=>some ((⟨c,(⟨0,0⟩:fQ),0,a3j,[b.1]⟩:Expr),f)
def c8:Nat->eQ|0=>⟨λ_ _=>none,λ_=>none,λ_ _=>none⟩|n+1=>⟨a3b (c8 n),a2a (c8 n),a3d (c8 n)⟩
def a0u(a:rQ)(b:Int):A3 (Expr×rQ):=(c8 FU).f_pensionref5_reader_expr a b
def a1v(a:rQ×(O Credit)×(O Index)×(O Let)×(O Grant)×(O Reduce)×Version×Credit):A3 (rQ×Version×(O Credit)×(O Index)×(O Let)×(O Grant)×(O Reduce)):=(a4n 16 a.2.1 [a.2.2.2.2.2.2.2]).bind λc=>(b9 a.1 c3s).bind λb=>some (b,(⟨a.2.2.2.2.2.2.1.From,a.2.2.2.2.2.2.1.Rounding,[],[],[],[],[]⟩:Version),c,a.2.2.1,a.2.2.2.1,a.2.2.2.2.1,a.2.2.2.2.2.1)
def a1t(a:rQ×(O Credit)×(O Index)×(O Let)×(O Grant)×(O Reduce)×Version×Index):A3 (rQ×Version×(O Credit)×(O Index)×(O Let)×(O Grant)×(O Reduce)):=(a4n 24 a.2.2.1 [a.2.2.2.2.2.2.2]).bind λb=>(b9 a.1 c3s).bind λc=>some (c,(⟨a.2.2.2.2.2.2.1.From,a.2.2.2.2.2.2.1.Rounding,[],[],[],[],[]⟩:Version),a.2.1,b,a.2.2.2.1,a.2.2.2.2.1,a.2.2.2.2.2.1)
def a0a(a:rQ×(O Credit)×(O Index)×(O Let)×(O Grant)×(O Reduce)×Version×Index):A3 (rQ×Version×(O Credit)×(O Index)×(O Let)×(O Grant)×(O Reduce)):=if(a.2.2.2.2.2.2.2.Factor.Den==0)then(j8 a.1).bind λb=>joinC a1t (b,a.2.1,a.2.2.1,a.2.2.2.1,a.2.2.2.2.1,a.2.2.2.2.2.1,(⟨a.2.2.2.2.2.2.1.From,a.2.2.2.2.2.2.1.Rounding,[],[],[],[],[]⟩:Version),a.2.2.2.2.2.2.2)else joinC a1t (a.1,a.2.1,a.2.2.1,a.2.2.2.1,a.2.2.2.2.1,a.2.2.2.2.2.1,(⟨a.2.2.2.2.2.2.1.From,a.2.2.2.2.2.2.1.Rounding,[],[],[],[],[]⟩:Version),a.2.2.2.2.2.2.2)
def a39(M:rQ)(a:Version)(g:O Credit)(c:O Index)(d:O Let)(f:O Grant)(e:O Reduce):A3 (rQ×Version×(O Credit)×(O Index)×(O Let)×(O Grant)×(O Reduce)):=(d7 M b91).bind λw=>if w.1then(a0m w.2 1).bind λI=>(d7 I.2 c1c).bind λJ=>if J.1then(s7 J.2 1 73049).bind λL=>joinC a1v (L.2,g,c,d,f,e,(⟨a.From,a.Rounding,[],[],[],[],[]⟩:Version),(⟨I.1,L.1⟩:Credit))else joinC a1v (J.2,g,c,d,f,e,(⟨a.From,a.Rounding,[],[],[],[],[]⟩:Version),(⟨I.1,0⟩:Credit))else(d7 w.2 c1q).bind λH=>if H.1then(s7 H.2 1900 2099).bind λb=>(p8 b.2 2).bind λF=>if F then(c7 b.2.l b.2.at_).bind λG=>(a2x G.Text).bind λi=>(if(i.2.1==2)then some (decide (i.1.Num>0))else some false).bind λu=>if u then joinC a0a ((⟨b.2.l,i64 (b.2.at_+1),b.2.end_,b.2.bad⟩:rQ),g,c,d,f,e,(⟨a.From,a.Rounding,[],[],[],[],[]⟩:Version),(⟨b.1,i.1⟩:Index))else joinC a0a (b.2,g,c,d,f,e,(⟨a.From,a.Rounding,[],[],[],[],[]⟩:Version),(⟨b.1,(⟨0,0⟩:fQ)⟩:Index))else joinC a0a (b.2,g,c,d,f,e,(⟨a.From,a.Rounding,[],[],[],[],[]⟩:Version),(⟨b.1,(⟨0,0⟩:fQ)⟩:Index))else(d7 H.2 d07).bind λk=>if k.1then(a0w k.2).bind λp=>(b9 p.2 e7j).bind λA=>(a0u A 0).bind λl=>(a4n 88 d [(⟨p.1,l.1⟩:Let)]).bind λK=>(b9 l.2 c3s).bind λt=>some (t,(⟨a.From,a.Rounding,[],[],[],[],[]⟩:Version),g,c,K,f,e)else(d7 k.2 c10).bind λj=>if j.1then(a0m j.2 2).bind λq=>(b9 q.2 d0k).bind λv=>(a0u v 0).bind λm=>(b9 m.2 c60).bind λE=>(a0u E 0).bind λo=>(a4n 152 f [(⟨q.1,m.1,o.1⟩:Grant)]).bind λC=>(b9 o.2 c3s).bind λx=>some (x,(⟨a.From,a.Rounding,[],[],[],[],[]⟩:Version),g,c,d,C,e)else(d7 j.2 b94).bind λh=>if h.1then(a0m h.2 2).bind λr=>(b9 r.2 d69).bind λB=>(a0u B 0).bind λn=>(a4n 80 e [(⟨r.1,n.1⟩:Reduce)]).bind λD=>(b9 n.2 c3s).bind λz=>some (z,(⟨a.From,a.Rounding,[],[],[],[],[]⟩:Version),g,c,d,f,D)else(j8 h.2).bind λs=>(b9 s c3s).bind λy=>some (y,(⟨a.From,a.Rounding,[],[],[],[],[]⟩:Version),g,c,d,f,e)
def a8i(d:(rQ×(O Credit)×(O Index)×(O Let)×(O Grant)×(O Reduce)×Version×(O Credit)×(O Index)×(O Let)×(O Grant)×(O Reduce)×Version)->A3 (Version×rQ))(a:rQ×(O Credit)×(O Index)×(O Let)×(O Grant)×(O Reduce)×Version×(O Credit)×(O Index)×(O Let)×(O Grant)×(O Reduce)×Version):A3 (Version×rQ):=if(!a.1.bad)then(d7 a.1 d0a).bind λc=>if(!c.1)then(a39 c.2 (⟨a.2.2.2.2.2.2.2.2.2.2.2.2.From,a.2.2.2.2.2.2.2.2.2.2.2.2.Rounding,[],[],[],[],[]⟩:Version) a.2.2.2.2.2.2.2.1 a.2.2.2.2.2.2.2.2.1 a.2.2.2.2.2.2.2.2.2.1 a.2.2.2.2.2.2.2.2.2.2.1 a.2.2.2.2.2.2.2.2.2.2.2.1).bind λb=>d (b.1,a.2.1,a.2.2.1,a.2.2.2.1,a.2.2.2.2.1,a.2.2.2.2.2.1,(⟨a.2.2.2.2.2.2.1.From,a.2.2.2.2.2.2.1.Rounding,[],[],[],[],[]⟩:Version),b.2.2.1,b.2.2.2.1,b.2.2.2.2.1,b.2.2.2.2.2.1,b.2.2.2.2.2.2,(⟨b.2.1.From,b.2.1.Rounding,[],[],[],[],[]⟩:Version))else some ((⟨a.2.2.2.2.2.2.2.2.2.2.2.2.From,a.2.2.2.2.2.2.2.2.2.2.2.2.Rounding,a.2.2.2.2.2.2.2.1,a.2.2.2.2.2.2.2.2.1,a.2.2.2.2.2.2.2.2.2.1,a.2.2.2.2.2.2.2.2.2.2.1,a.2.2.2.2.2.2.2.2.2.2.2.1⟩:Version),c.2)else some ((⟨a.2.2.2.2.2.2.2.2.2.2.2.2.From,a.2.2.2.2.2.2.2.2.2.2.2.2.Rounding,a.2.2.2.2.2.2.2.1,a.2.2.2.2.2.2.2.2.1,a.2.2.2.2.2.2.2.2.2.1,a.2.2.2.2.2.2.2.2.2.2.1,a.2.2.2.2.2.2.2.2.2.2.2.1⟩:Version),a.1)
def a1l(a:rQ×(O Credit)×(O Index)×(O Let)×(O Grant)×(O Reduce)×Version×(O Credit)×(O Index)×(O Let)×(O Grant)×(O Reduce)×Version):A3 (Version×rQ):=(b9 a.1 e8b).bind λf=>(b9 f c14).bind λe=>(a0m e 3).bind λc=>(s7 c.2 1 100000).bind λd=>(b9 d.2 c3s).bind λb=>d9 FU a8i (b,a.2.1,a.2.2.1,a.2.2.2.1,a.2.2.2.2.1,a.2.2.2.2.2.1,(⟨a.2.2.2.2.2.2.1.From,a.2.2.2.2.2.2.1.Rounding,[],[],[],[],[]⟩:Version),a.2.2.2.2.2.2.2.1,a.2.2.2.2.2.2.2.2.1,a.2.2.2.2.2.2.2.2.2.1,a.2.2.2.2.2.2.2.2.2.2.1,a.2.2.2.2.2.2.2.2.2.2.2.1,(⟨a.2.2.2.2.2.2.2.2.2.2.2.2.From,(⟨c.1,d.1⟩:Rounding),[],[],[],[],[]⟩:Version))
def a2o(c:rQ):A3 (Version×rQ):=(b9 c c4c).bind λa=>(p8 a 3).bind λd=>if d then(c7 a.l a.at_).bind λf=>(b09 f.Text).bind λe=>joinC a1l ((⟨a.l,i64 (a.at_+1),a.end_,a.bad⟩:rQ),[],[],[],[],[],(⟨0,(⟨0,0⟩:Rounding),[],[],[],[],[]⟩:Version),[],[],[],[],[],(⟨e,(⟨0,0⟩:Rounding),[],[],[],[],[]⟩:Version))else(j8 a).bind λb=>joinC a1l (b,[],[],[],[],[],(⟨0,(⟨0,0⟩:Rounding),[],[],[],[],[]⟩:Version),[],[],[],[],[],(⟨0,(⟨0,0⟩:Rounding),[],[],[],[],[]⟩:Version))
def a3s(a:rQ):A3 Int:=if(decide (a.at_<(a.l.length:Int)))then(c7 a.l a.at_).bind λb=>some b.At else some a.end_
def a6n(a:Int):A3 Bool:=(if(decide (a>=0))then some (decide (a<=73048))else some false).bind λb=>some b
def a3c(a:Rounding):A3 Bool:=(if(decide (a.Mode>=1))then some (decide (a.Mode<=4))else some false).bind λb=>(if b then some (decide (a.Unit>=1))else some false).bind λd=>(if d then some (decide (a.Unit<=100000))else some false).bind λc=>some c
def b53(b k:Int)(r:((O A4)×Int)->A3 A4)(a:(O A4)×Int):A3 A4:=(if(decide (a.2<(a.1.length:Int)))then some (decide (b>0))else some false).bind λs=>if s then(if(k==1)then(c7 a.1 a.2).bind λu=>(c7 a.1 a.2).bind λn=>(a8l n).bind λo=>some (o==b)else some false).bind λq=>(if q then some true else(if(k==2)then(c7 a.1 a.2).bind λt=>(c7 a.1 a.2).bind λm=>(a52 m).bind λh=>some (h==b)else some false).bind λj=>some j).bind λe=>(if e then some true else(if(k==3)then(c7 a.1 a.2).bind λl=>(c7 a.1 a.2).bind λd=>(a8f d).bind λf=>some (f==b)else some false).bind λi=>some i).bind λc=>if c then(c7 a.1 a.2).bind λp=>(c7 a.1 a.2).bind λg=>some g else r (a.1,i64 (a.2+1))else some a3j
def a3t(a b:Int):A3 A4:=d9 FU (b53 a b) ([b0b,b3z,b87,d54,c97,c04,d9m,b8e,c0u,c66,c0r,d4s,f1e,d3b,d3z],0)
def a1h(a:fQ):A3 Bool:=(if(decide (a.Den>=1))then some (decide (a.Den<=1000000000))else some false).bind λg=>(if g then some (decide (a.Num>=(-1000000000000000:Int)))else some false).bind λb=>(if b then some (decide (a.Num<=1000000000000000))else some false).bind λe=>(if e then(a43 a.Num).bind λc=>(a9s c (u64 (a.Den))).bind λd=>some (d==1)else some false).bind λf=>some f
def b4s(d:Int)(e:(Int×A4)->A3 A4)(a:Int×A4):A3 A4:=(if(decide (a.1>0))then some true else some (decide ((a.2.size:Int)<d))).bind λh=>if h then(b8t a.1 10).bind λf=>(b8t a.1 10).bind λg=>(c3u a6h f (i64 (g+1))).bind λi=>(a7f i a.2).bind λb=>(c2t a.1 10).bind λc=>e (c,b)else some a.2
def a5w(a b:Int):A3 A4:=d9 FU (b4s b) (a,a3j)
def a3x(a:fQ×A4):A3 A4:=if(a.1.Den !=1)then(a7f a.2 e8f).bind λd=>(a5w a.1.Den 1).bind λb=>(a7f d b).bind λc=>some c else some a.2
def a2n(a:fQ):A3 A4:=(a1h a).bind λe=>if(!e)then some a3j else(a43 a.Num).bind λc=>(a5w (i64 (c)) 1).bind λb=>if(decide (a.Num<0))then(a7f e00 b).bind λd=>joinC a3x (a,d)else joinC a3x (a,b)
def a93(b:Int×A4×Int)(d:(A4×Int×Int)->A3 (A4×Bool))(a:A4×Int×Int):A3 (A4×Bool):=if(decide (a.2.1>0))then(c2t a.2.1 a.2.2).bind λf=>(c2t a.2.1 a.2.2).bind λi=>(c3u a6h f (i64 (i+1))).bind λk=>(a7f a.1 k).bind λe=>(b8t a.2.1 a.2.2).bind λg=>(c2t a.2.2 10).bind λc=>d (e,g,c)else(c7 [a3j,e4t,e6u] (i64 (b.1-2))).bind λl=>(c7 [a3j,e4t,e6u] (i64 (b.1-2))).bind λh=>(a7f a.1 h).bind λj=>some (j,true)
def a1u(a:Int×A4×Int):A3 (A4×Bool):=d9 FU (a93 a) (a.2.1,a.2.2,1000)
def a1g(a:fQ)(c:Int):A3 (A4×Bool):=(a1h a).bind λl=>(if(!l)then some true else some (decide (a.Num<0))).bind λg=>(if g then some true else(b8t 10000 a.Den).bind λj=>some (j !=0)).bind λh=>(if h then some true else some (decide (c<2))).bind λi=>(if i then some true else some (decide (c>4))).bind λk=>if k then some (a3j,false)else(c2t a.Num a.Den).bind λb=>if(decide (b>999999999))then some (a3j,false)else(a2n (⟨b,1⟩:fQ)).bind λf=>(c2t 10000 a.Den).bind λe=>if(decide ((i64 ((i64 (a.Num-(i64 (b*a.Den))))*e))>0))then(a7f f b1i).bind λd=>joinC a1u (c,d,i64 ((i64 (a.Num-(i64 (b*a.Den))))*e))else joinC a1u (c,f,i64 ((i64 (a.Num-(i64 (b*a.Den))))*e))
structure Ring_pensionref5_Depth where f_pensionref5_Depth:Expr->Option Int
def b5n(R:Ring_pensionref5_Depth)(d:(Expr×Int×Int)->A3 Int)(a:Expr×Int×Int):A3 Int:=if(decide (a.2.2<(a.1.Args.length:Int)))then(c7 a.1.Args a.2.2).bind λc=>(R.f_pensionref5_Depth c).bind λb=>d (a.1,max a.2.1 b,i64 (a.2.2+1))else some (i64 (a.2.1+1))
def a7r(R:Ring_pensionref5_Depth)(a:Expr):A3 Int:=d9 FU (b5n R) (a,0,0)
def s5:Nat->Ring_pensionref5_Depth|0=>⟨λ_=>none⟩|n+1=>⟨a7r (s5 n)⟩
def c61(a:Expr):A3 Int:=(s5 FU).f_pensionref5_Depth a
structure Ring_pensionref5_Size where f_pensionref5_Size:Expr->Option Int
def b6r(R:Ring_pensionref5_Size)(d:(Expr×Int×Int)->A3 Int)(a:Expr×Int×Int):A3 Int:=if(decide (a.2.2<(a.1.Args.length:Int)))then(c7 a.1.Args a.2.2).bind λc=>(R.f_pensionref5_Size c).bind λb=>d (a.1,i64 (a.2.1+b),i64 (a.2.2+1))else some a.2.1
def a94(R:Ring_pensionref5_Size)(a:Expr):A3 Int:=d9 FU (b6r R) (a,1,0)
def u7:Nat->Ring_pensionref5_Size|0=>⟨λ_=>none⟩|n+1=>⟨a94 (u7 n)⟩
def c76(a:Expr):A3 Int:=(u7 FU).f_pensionref5_Size a
structure Ring_pensionref5_formed where f_pensionref5_formed:Expr->Option Bool
def b4j(R:Ring_pensionref5_formed)(e:Bool)(b:(Expr×Int)->A3 Bool)(a:Expr×Int):A3 Bool:=if(decide (a.2<(a.1.Args.length:Int)))then(c7 a.1.Args a.2).bind λc=>(R.f_pensionref5_formed c).bind λd=>if(!d)then some false else b (a.1,i64 (a.2+1))else some e
def a6s(R:Ring_pensionref5_formed)(a:Expr):A3 Bool:=(a8e a.Op).bind λm=>if((a.Args.length:Int)!=m)then some false else(if((a.Value.Num==0)&&((a.Value.Den==0)&&(true)))then some (a.Dim==0)else some false).bind λg=>(if g then some (a.Name.toList==a3j.toList)else some false).bind λj=>if(a.Op==1)then(a1g a.Value a.Dim).bind λh=>(if h.2then some (a.Name.toList==a3j.toList)else some false).bind λi=>some i else if(a.Op==2)then(if((a.Value.Num==0)&&((a.Value.Den==0)&&(true)))then some (a.Dim==0)else some false).bind λk=>(if k then(a2e a.Name).bind λe=>some e else some false).bind λf=>some f else if(a.Op==3)then(if(a.Dim==0)then some (a.Name.toList==a3j.toList)else some false).bind λl=>(if l then some (a.Value.Den==1)else some false).bind λd=>(if d then some (decide (a.Value.Num>=1))else some false).bind λb=>(if b then some (decide (a.Value.Num<=45))else some false).bind λc=>some c else d9 FU (b4j R j) (a,0)
def p7:Nat->Ring_pensionref5_formed|0=>⟨λ_=>none⟩|n+1=>⟨a6s (p7 n)⟩
def c4h(a:Expr):A3 Bool:=(p7 FU).f_pensionref5_formed a
def a0g(a:Expr):A3 Bool:=(c61 a).bind λf=>(if(decide (f<=10))then(c76 a).bind λb=>some (decide (b<=60))else some false).bind λe=>(if e then(c4h a).bind λc=>some c else some false).bind λd=>some d
def a4x(d:(Version×Int)->A3 Bool)(a:Version×Int):A3 Bool:=if(decide (a.2<(a.1.Reduces.length:Int)))then(c7 a.1.Reduces a.2).bind λc=>(a3t c.Benefit 2).bind λe=>(if(e.toList==a3j.toList)then some true else(c7 a.1.Reduces a.2).bind λb=>(a0g b.By).bind λf=>some (!f)).bind λg=>if g then some false else d (a.1,i64 (a.2+1))else some true
def a4o(i:(Version×Int)->A3 Bool)(a:Version×Int):A3 Bool:=if(decide (a.2<(a.1.Grants.length:Int)))then(c7 a.1.Grants a.2).bind λj=>(a3t j.Benefit 2).bind λf=>(if(f.toList==a3j.toList)then some true else(c7 a.1.Grants a.2).bind λd=>(a0g d.If).bind λb=>some (!b)).bind λc=>(if c then some true else(c7 a.1.Grants a.2).bind λh=>(a0g h.Pay).bind λg=>some (!g)).bind λe=>if e then some false else i (a.1,i64 (a.2+1))else d9 FU a4x (a.1,0)
def a56(c:(Version×Int)->A3 Bool)(a:Version×Int):A3 Bool:=if(decide (a.2<(a.1.Lets.length:Int)))then(c7 a.1.Lets a.2).bind λe=>(a2e e.Name).bind λf=>(if(!f)then some true else(c7 a.1.Lets a.2).bind λd=>(a0g d.Body).bind λb=>some (!b)).bind λg=>if g then some false else c (a.1,i64 (a.2+1))else d9 FU a4o (a.1,0)
def a4z(b:(Version×Int)->A3 Bool)(a:Version×Int):A3 Bool:=if(decide (a.2<(a.1.Series.length:Int)))then(c7 a.1.Series a.2).bind λd=>(a1g d.Factor 2).bind λi=>(c7 a.1.Series a.2).bind λg=>(if(decide (g.Year<1900))then some true else(c7 a.1.Series a.2).bind λj=>some (decide (j.Year>2099))).bind λh=>(if h then some true else some (!i.2)).bind λe=>(if e then some true else(c7 a.1.Series a.2).bind λf=>some (decide (f.Factor.Num<1))).bind λc=>if c then some false else b (a.1,i64 (a.2+1))else d9 FU a56 (a.1,0)
def a4r(d:(Version×Int)->A3 Bool)(a:Version×Int):A3 Bool:=if(decide (a.2<(a.1.Credits.length:Int)))then(c7 a.1.Credits a.2).bind λb=>(a3t b.Kind 1).bind λc=>(if(c.toList==a3j.toList)then some true else(c7 a.1.Credits a.2).bind λf=>some (decide (f.Limit<0))).bind λe=>(if e then some true else(c7 a.1.Credits a.2).bind λg=>some (decide (g.Limit>73049))).bind λh=>if h then some false else d (a.1,i64 (a.2+1))else d9 FU a4z (a.1,0)
def a3n(a:Version):A3 Bool:=(a6n a.From).bind λi=>(if(!i)then some true else(a3c a.Rounding).bind λd=>some (!d)).bind λg=>(if g then some true else some (decide ((a.Credits.length:Int)>6))).bind λe=>(if e then some true else some (decide ((a.Series.length:Int)>20))).bind λf=>(if f then some true else some (decide ((a.Lets.length:Int)>10))).bind λh=>(if h then some true else some (decide ((a.Grants.length:Int)>5))).bind λb=>(if b then some true else some (decide ((a.Reduces.length:Int)>5))).bind λc=>if c then some false else d9 FU a4r (a,0)
def b5o(c:(Statute×Int)->A3 Bool)(a:Statute×Int):A3 Bool:=if(decide (a.2<(a.1.Versions.length:Int)))then(c7 a.1.Versions a.2).bind λd=>(a3n d).bind λb=>if(!b)then some false else c (a.1,i64 (a.2+1))else some true
def b00(a:Statute):A3 Bool:=(a2e a.Name).bind λf=>(if(!f)then some true else some (decide (a.Currency<1))).bind λb=>(if b then some true else some (decide (a.Currency>999))).bind λe=>(if e then some true else some (decide ((a.Versions.length:Int)<1))).bind λc=>(if c then some true else some (decide ((a.Versions.length:Int)>6))).bind λd=>if d then some false else d9 FU b5o (a,0)
def a6u(d:((O Version)×Statute×rQ×(O Version)×Statute×Bool)->A3 (Statute×Int×Int))(a:(O Version)×Statute×rQ×(O Version)×Statute):A3 (Statute×Int×Int):=(a2o a.2.2.1).bind λb=>(a4n 144 a.2.2.2.1 [b.1]).bind λc=>d (a.1,(⟨a.2.1.Name,a.2.1.Currency,[]⟩:Statute),b.2,c,(⟨a.2.2.2.2.Name,a.2.2.2.2.Currency,[]⟩:Statute),false)
def a6p(a:(O Version)×Statute×rQ×(O Version)×Statute):A3 (Statute×Int×Int):=(if a.2.2.1.bad then some true else some (decide (a.2.2.1.at_<(a.2.2.1.l.length:Int)))).bind λc=>if c then(a3s a.2.2.1).bind λd=>some ((⟨a3j,0,[]⟩:Statute),d,4)else(b00 (⟨a.2.2.2.2.Name,a.2.2.2.2.Currency,a.2.2.2.1⟩:Statute)).bind λb=>if(!b)then some ((⟨a3j,0,[]⟩:Statute),0,7)else some ((⟨a.2.2.2.2.Name,a.2.2.2.2.Currency,a.2.2.2.1⟩:Statute),0,0)
def b5m(c:((O Version)×Statute×rQ×(O Version)×Statute×Bool)->A3 (Statute×Int×Int))(a:(O Version)×Statute×rQ×(O Version)×Statute×Bool):A3 (Statute×Int×Int):=if(!a.2.2.1.bad)then if a.2.2.2.2.2then joinC (a6u c) (a.1,(⟨a.2.1.Name,a.2.1.Currency,[]⟩:Statute),a.2.2.1,a.2.2.2.1,(⟨a.2.2.2.2.1.Name,a.2.2.2.2.1.Currency,[]⟩:Statute))else(d7 a.2.2.1 d0a).bind λb=>if(!b.1)then joinC (a6u c) (a.1,(⟨a.2.1.Name,a.2.1.Currency,[]⟩:Statute),b.2,a.2.2.2.1,(⟨a.2.2.2.2.1.Name,a.2.2.2.2.1.Currency,[]⟩:Statute))else joinC a6p (a.1,(⟨a.2.1.Name,a.2.1.Currency,[]⟩:Statute),b.2,a.2.2.2.1,(⟨a.2.2.2.2.1.Name,a.2.2.2.2.1.Currency,[]⟩:Statute))else joinC a6p (a.1,(⟨a.2.1.Name,a.2.1.Currency,[]⟩:Statute),a.2.2.1,a.2.2.2.1,(⟨a.2.2.2.2.1.Name,a.2.2.2.2.1.Currency,[]⟩:Statute))
def a9z(e:A4):A3 (Statute×Int×Int):=(b02 e).bind λa=>optC a.1 (if(a.2.2!=0)then some ((⟨a3j,0,[]⟩:Statute),a.2.1,a.2.2)else none) λf=>if(a.2.2!=0)then some ((⟨a3j,0,[]⟩:Statute),a.2.1,a.2.2)else(b9 f b76).bind λh=>(a0w h).bind λb=>(b9 b.2 b4x).bind λg=>(s7 g 1 999).bind λc=>(b9 c.2 e8b).bind λd=>d9 FU b5m ([],(⟨a3j,0,[]⟩:Statute),d,[],(⟨b.1,c.1,[]⟩:Statute),true)
def b71(e:O Int)(h:((O State)×(O Rules)×(O Rate)×Laws×(O State)×(O Rules)×Laws×Int)->A3 Laws)(a:(O State)×(O Rules)×(O Rate)×Laws×(O State)×(O Rules)×Laws×Int):A3 Laws:=if(decide (a.2.2.2.2.2.2.2<3))then(b10 a.2.2.2.2.2.2.2 e).bind λm=>(a9z m).bind λi=>if(i.2.2==0)then(a4n 56 a.2.2.2.2.1 [(⟨a.2.2.2.2.2.2.2,i.1⟩:State)]).bind λl=>h (a.1,a.2.1,a.2.2.1,(⟨[],[],[]⟩:Laws),l,a.2.2.2.2.2.1,(⟨[],[],a.2.2.2.2.2.2.1.Rates⟩:Laws),i64 (a.2.2.2.2.2.2.2+1))else h (a.1,a.2.1,a.2.2.1,(⟨[],[],[]⟩:Laws),a.2.2.2.2.1,a.2.2.2.2.2.1,(⟨[],[],a.2.2.2.2.2.2.1.Rates⟩:Laws),i64 (a.2.2.2.2.2.2.2+1))else(c5 e 2).bind λn=>(b7 n 6).bind λb=>(c5 e 5).bind λk=>(b7 k 3).bind λj=>if(j==0)then(c7 [(⟨0,i64 (90*b),730,25,[0,1]⟩:Rules)] 0).bind λp=>(c7 [(⟨0,i64 (90*b),730,25,[0,1]⟩:Rules)] 0).bind λc=>some (⟨a.2.2.2.2.1,a8h [(⟨0,i64 (90*b),730,25,[0,1]⟩:Rules)] 0 (⟨c.From,c.MinDays,c.PostingLimit,c.Substantial,[0,1,2]⟩:Rules),a.2.2.2.2.2.2.1.Rates⟩:Laws)else if(j==1)then(a4n 56 [(⟨0,i64 (90*b),730,25,[0,1]⟩:Rules)] [(⟨35000,i64 (90*b),365,30,[0,1,2]⟩:Rules)]).bind λf=>some (⟨a.2.2.2.2.1,f,a.2.2.2.2.2.2.1.Rates⟩:Laws)else(c7 [(⟨0,i64 (90*b),730,25,[0,1]⟩:Rules)] 0).bind λo=>(c7 [(⟨0,i64 (90*b),730,25,[0,1]⟩:Rules)] 0).bind λd=>(a4n 56 (a8h [(⟨0,i64 (90*b),730,25,[0,1]⟩:Rules)] 0 (⟨d.From,d.MinDays,d.PostingLimit,d.Substantial,[0,1,2]⟩:Rules)) [(⟨36000,i64 (90*b),730,25,[0,1]⟩:Rules)]).bind λg=>some (⟨a.2.2.2.2.1,g,a.2.2.2.2.2.2.1.Rates⟩:Laws)
def b11(a:O Int):A3 Laws:=d9 FU (b71 a) ([],[],[],(⟨[],[],[]⟩:Laws),[],[],(⟨[],[],[(⟨1,0,(⟨1,1⟩:fQ)⟩:Rate),(⟨2,0,(⟨3,2⟩:fQ)⟩:Rate),(⟨3,0,(⟨1,7⟩:fQ)⟩:Rate),(⟨3,1150,(⟨1,9⟩:fQ)⟩:Rate)]⟩:Laws),0)
def a40(c a:Int):A3 Int:=if(decide (a<1))then some 0 else(b8t c a).bind λb=>(b8t (i64 (b+a)) a).bind λd=>some d
def b3p(f:O Int)(i:Int):A3 Laws:=(b11 f).bind λa=>(a40 i 24).bind λc=>if(c==0)then(a1x a.States 1 (a.States.length:Int)).bind λl=>some (⟨l,a.Treaty,a.Rates⟩:Laws)else if(c==1)then(c7 a.States 0).bind λq=>none else if(c==2)then some (⟨a.States,[],a.Rates⟩:Laws)else if(c==3)then(a4n 32 [] a.Rates).bind λk=>(c7 a.Rates 0).bind λm=>(a4n 32 k [m]).bind λe=>some (⟨a.States,a.Treaty,e⟩:Laws)else if(c==4)then(a1x a.Rates 0 2).bind λh=>some (⟨a.States,a.Treaty,h⟩:Laws)else if(c==5)then(c7 a.States 0).bind λp=>(a4n 144 [] p.Statute.Versions).bind λd=>(c7 d 0).bind λg=>(c7 d 0).bind λb=>(a1x (a8h d 0 (⟨36000,b.Rounding,b.Credits,b.Series,b.Lets,b.Grants,b.Reduces⟩:Version)) 0 1).bind λn=>(c7 a.States 0).bind λj=>none else if(c==6)then(c7 a.States 1).bind λo=>none else some a
def a97(a:Int):A3 Int:=(b7 a 4).bind λb=>if(b==0)then(c2t a 4).bind λe=>(b7 e 9000).bind λh=>some (i64 (1+h))else if(b==1)then(c2t a 4).bind λf=>(b7 f 1200).bind λg=>some (i64 (1+g))else if(b==2)then(c2t a 4).bind λi=>(b7 i 120).bind λc=>some (i64 (1+c))else(c2t a 4).bind λd=>(b7 d 12).bind λj=>some (i64 (1+j))
def u4(a:Int):A3 A4:=(if(decide (a<1))then some true else some (decide (a>=([a3j,b1y,a6w,a6w,c0p,a9l,b82,a9l,a9l,a9l,c1r,c0e,c0e,c0e,c6f].length:Int)))).bind λb=>if b then some a3j else(c7 [a3j,b1y,a6w,a6w,c0p,a9l,b82,a9l,a9l,a9l,c1r,c0e,c0e,c0e,c6f] a).bind λd=>(c7 [a3j,b1y,a6w,a6w,c0p,a9l,b82,a9l,a9l,a9l,c1r,c0e,c0e,c0e,c6f] a).bind λc=>some c
def b6j(d:A4)(o:tN×aQ×aQ×Int×Int)(b:(tN×aQ×aQ×Int)->A3 aQ)(a:tN×aQ×aQ×Int):A3 aQ:=if(decide (a.2.2.2<(d.size:Int)))then(b3c d a.2.2.2).bind λc=>if(c==83)then(b7 a.1.State 3).bind λi=>b (a.1,a.2.1,(⟨a.2.2.1.Issuer,a.2.2.1.Number,a.2.2.1.Version,a.2.2.1.Withdrawn,a.2.2.1.Person,a.2.2.1.Kind,i,a.2.2.1.Span,a.2.2.1.Seat,a.2.2.1.Share,a.2.2.1.Currency,a.2.2.1.Amount,a.2.2.1.Ref⟩:aQ),i64 (a.2.2.2+1))else if(c==80)then b (a.1,a.2.1,(⟨a.2.2.1.Issuer,a.2.2.1.Number,a.2.2.1.Version,a.2.2.1.Withdrawn,a.2.2.1.Person,a.2.2.1.Kind,a.2.2.1.State,(⟨o.2.2.2.1,o.2.2.2.2⟩:Span),a.2.2.1.Seat,a.2.2.1.Share,a.2.2.1.Currency,a.2.2.1.Amount,a.2.2.1.Ref⟩:aQ),i64 (a.2.2.2+1))else if(c==84)then(b7 a.1.Seat 3).bind λe=>(if(a.2.2.1.Kind==4)then some (e==a.2.2.1.State)else some false).bind λn=>if n then(b7 (i64 (a.2.2.1.State+1)) 3).bind λh=>b (a.1,a.2.1,(⟨a.2.2.1.Issuer,a.2.2.1.Number,a.2.2.1.Version,a.2.2.1.Withdrawn,a.2.2.1.Person,a.2.2.1.Kind,a.2.2.1.State,a.2.2.1.Span,h,a.2.2.1.Share,a.2.2.1.Currency,a.2.2.1.Amount,a.2.2.1.Ref⟩:aQ),i64 (a.2.2.2+1))else b (a.1,a.2.1,(⟨a.2.2.1.Issuer,a.2.2.1.Number,a.2.2.1.Version,a.2.2.1.Withdrawn,a.2.2.1.Person,a.2.2.1.Kind,a.2.2.1.State,a.2.2.1.Span,e,a.2.2.1.Share,a.2.2.1.Currency,a.2.2.1.Amount,a.2.2.1.Ref⟩:aQ),i64 (a.2.2.2+1))else if(c==72)then(b7 a.1.Share 100).bind λj=>b (a.1,a.2.1,(⟨a.2.2.1.Issuer,a.2.2.1.Number,a.2.2.1.Version,a.2.2.1.Withdrawn,a.2.2.1.Person,a.2.2.1.Kind,a.2.2.1.State,a.2.2.1.Span,a.2.2.1.Seat,i64 (1+j),a.2.2.1.Currency,a.2.2.1.Amount,a.2.2.1.Ref⟩:aQ),i64 (a.2.2.2+1))else if(c==67)then(b8t a.1.State 3).bind λg=>(b7 (i64 (a.1.Seat+g)) 3).bind λm=>b (a.1,a.2.1,(⟨a.2.2.1.Issuer,a.2.2.1.Number,a.2.2.1.Version,a.2.2.1.Withdrawn,a.2.2.1.Person,a.2.2.1.Kind,a.2.2.1.State,a.2.2.1.Span,a.2.2.1.Seat,a.2.2.1.Share,i64 (1+m),a.2.2.1.Amount,a.2.2.1.Ref⟩:aQ),i64 (a.2.2.2+1))else if(c==65)then(b7 a.1.Amount 3000000).bind λk=>b (a.1,a.2.1,(⟨a.2.2.1.Issuer,a.2.2.1.Number,a.2.2.1.Version,a.2.2.1.Withdrawn,a.2.2.1.Person,a.2.2.1.Kind,a.2.2.1.State,a.2.2.1.Span,a.2.2.1.Seat,a.2.2.1.Share,a.2.2.1.Currency,k,a.2.2.1.Ref⟩:aQ),i64 (a.2.2.2+1))else(b7 a.1.Ref 4).bind λf=>if((i64 (1+f))==a.2.2.1.Person)then(b7 a.2.2.1.Person 4).bind λl=>b (a.1,a.2.1,(⟨a.2.2.1.Issuer,a.2.2.1.Number,a.2.2.1.Version,a.2.2.1.Withdrawn,a.2.2.1.Person,a.2.2.1.Kind,a.2.2.1.State,a.2.2.1.Span,a.2.2.1.Seat,a.2.2.1.Share,a.2.2.1.Currency,a.2.2.1.Amount,i64 (1+l)⟩:aQ),i64 (a.2.2.2+1))else b (a.1,a.2.1,(⟨a.2.2.1.Issuer,a.2.2.1.Number,a.2.2.1.Version,a.2.2.1.Withdrawn,a.2.2.1.Person,a.2.2.1.Kind,a.2.2.1.State,a.2.2.1.Span,a.2.2.1.Seat,a.2.2.1.Share,a.2.2.1.Currency,a.2.2.1.Amount,i64 (1+f)⟩:aQ),i64 (a.2.2.2+1))else some a.2.2.1
def a31(a:tN×aQ×aQ×Int×Int):A3 aQ:=(u4 a.2.2.1.Kind).bind λb=>d9 FU (b6j b a) (a.1,a.2.1,a.2.2.1,0)
def b1b(a:tN):A3 aQ:=(b7 a.Issuer 3).bind λh=>(b7 a.Number 20).bind λe=>(b7 a.Version 3).bind λg=>(b7 a.Person 4).bind λf=>(b7 a.Kind 14).bind λb=>(b7 a.From 16000).bind λk=>(a97 a.Length).bind λl=>if((i64 (1+b))==11)then(b7 a.From 5000).bind λj=>joinC a31 (a,(⟨0,0,0,false,0,0,0,(⟨0,0⟩:Span),0,0,0,0,0⟩:aQ),(⟨h,i64 (1+e),i64 (1+g),a.Withdrawn,i64 (1+f),i64 (1+b),0,(⟨0,0⟩:Span),0,0,0,0,0⟩:aQ),i64 (12000+j),i64 ((i64 (12000+j))+1))else if((i64 (1+b))==12)then(b7 a.From 6000).bind λc=>joinC a31 (a,(⟨0,0,0,false,0,0,0,(⟨0,0⟩:Span),0,0,0,0,0⟩:aQ),(⟨h,i64 (1+e),i64 (1+g),a.Withdrawn,i64 (1+f),i64 (1+b),0,(⟨0,0⟩:Span),0,0,0,0,0⟩:aQ),i64 (34000+c),i64 ((i64 (34000+c))+1))else if((i64 (1+b))==8)then(b7 a.From 4000).bind λd=>(b7 a.Length 700).bind λi=>joinC a31 (a,(⟨0,0,0,false,0,0,0,(⟨0,0⟩:Span),0,0,0,0,0⟩:aQ),(⟨h,i64 (1+e),i64 (1+g),a.Withdrawn,i64 (1+f),i64 (1+b),0,(⟨0,0⟩:Span),0,0,0,0,0⟩:aQ),i64 (34000+d),i64 ((i64 ((i64 (34000+d))+1))+i))else joinC a31 (a,(⟨0,0,0,false,0,0,0,(⟨0,0⟩:Span),0,0,0,0,0⟩:aQ),(⟨h,i64 (1+e),i64 (1+g),a.Withdrawn,i64 (1+f),i64 (1+b),0,(⟨0,0⟩:Span),0,0,0,0,0⟩:aQ),i64 (21900+k),i64 ((i64 (21900+k))+l))
def b5v(b:O Int)(K:((O aQ)×Int)->A3 (O aQ))(a:(O aQ)×Int):A3 (O aQ):=if(decide (a.2<=2))then(c5 b a.2).bind λL=>(b7 L 3).bind λc=>(c5 b (i64 (a.2+2))).bind λI=>(b7 I 3).bind λe=>(c5 b (i64 (a.2+4))).bind λJ=>(b7 J 6000).bind λG=>(c5 b (i64 (a.2+6))).bind λH=>(b7 H 3000).bind λd=>(a4n 112 a.1 [(⟨c,i64 (900+a.2),1,false,a.2,11,0,(⟨i64 (13000+d),i64 ((i64 (13000+d))+1)⟩:Span),0,0,0,0,0⟩:aQ)]).bind λD=>(a4n 112 D [(⟨c,i64 (910+a.2),1,false,a.2,5,c,(⟨20000,60000⟩:Span),0,0,0,0,0⟩:aQ)]).bind λp=>(c5 b (i64 (a.2+8))).bind λi=>(b7 i 900000).bind λh=>(a4n 112 p [(⟨c,i64 (920+a.2),1,false,a.2,1,c,(⟨22000,i64 (27000+G)⟩:Span),c,100,i64 (1+c),i64 (900000+h),0⟩:aQ)]).bind λt=>(c5 b (i64 (a.2+10))).bind λB=>(b7 B 3000).bind λg=>(c5 b (i64 (a.2+12))).bind λy=>(b7 y 900000).bind λw=>(a4n 112 t [(⟨e,i64 (930+a.2),1,false,a.2,1,e,(⟨i64 (27000+G),i64 (34400+g)⟩:Span),e,50,i64 (1+e),i64 (700000+w),0⟩:aQ)]).bind λv=>(a4n 112 v [(⟨c,i64 (940+a.2),1,false,a.2,10,c,(⟨32000,38500⟩:Span),0,0,0,0,3⟩:aQ)]).bind λr=>(a4n 112 r [(⟨c,i64 (950+a.2),1,false,a.2,14,0,(⟨26000,50000⟩:Span),0,0,0,0,i64 (3-a.2)⟩:aQ)]).bind λk=>K (k,i64 (a.2+1))else(c5 b 15).bind λF=>(b7 F 2000).bind λf=>(c5 b 16).bind λq=>(b7 q 2000).bind λC=>(a4n 112 a.1 [(⟨0,961,1,false,1,13,0,(⟨i64 (34000+f),i64 (36500+C)⟩:Span),0,0,0,0,0⟩:aQ)]).bind λj=>(c5 b 17).bind λm=>(b7 m 900).bind λA=>(c5 b 17).bind λu=>(b7 u 900).bind λx=>(a4n 112 j [(⟨1,962,1,false,2,12,0,(⟨i64 (35600+A),i64 (35601+x)⟩:Span),0,0,0,0,0⟩:aQ)]).bind λo=>(c5 b 18).bind λl=>(b7 l 1200).bind λE=>(c5 b 19).bind λs=>(b7 s 300).bind λn=>(a4n 112 o [(⟨0,963,1,false,1,8,0,(⟨i64 (35000+E),i64 (36250+n)⟩:Span),0,0,0,0,0⟩:aQ)]).bind λz=>some z
def b04(a:O Int):A3 (O aQ):=d9 FU (b5v a) ([],1)
def b29(b:O aQ)(d:Int)(c:((O aQ)×Int)->A3 (O aQ))(a:(O aQ)×Int):A3 (O aQ):=if(decide (a.2<(b.length:Int)))then(c7 b a.2).bind λg=>if(g.Person==d)then(c7 b a.2).bind λe=>(a4n 112 a.1 [e]).bind λf=>c (f,i64 (a.2+1))else c (a.1,i64 (a.2+1))else some a.1
def b2c(a:O aQ)(b:Int):A3 (O aQ):=d9 FU (b29 a b) ([],0)
def c2n(b:A4)(c:Int)(e:Int->A3 Bool)(a:Int):A3 Bool:=if(decide (a<(b.size:Int)))then(b3c b a).bind λd=>if(d==c)then some true else e (i64 (a+1))else some false
def j6(b c:Int):A3 Bool:=(u4 b).bind λa=>d9 FU (c2n a c) 0
def a09(b c a e g:Int):A3 Bool:=(j6 b c).bind λf=>if f then(if(decide (a>=e))then some (decide (a<=g))else some false).bind λd=>some d else some (a==0)
def m8(a:aQ):A3 Bool:=(if(decide (a.Issuer<0))then some true else some (decide (a.Issuer>=6))).bind λw=>(if w then some true else some (decide (a.Number<1))).bind λB=>(if B then some true else some (decide (a.Number>999))).bind λD=>(if D then some true else some (decide (a.Version<1))).bind λC=>(if C then some true else some (decide (a.Version>99))).bind λx=>(if x then some true else some (decide (a.Person<1))).bind λy=>(if y then some true else some (decide (a.Person>99))).bind λz=>(if z then some true else(u4 a.Kind).bind λA=>some (A.toList==a3j.toList)).bind λv=>if v then some false else(if(decide (a.Span.From<0))then some true else some (decide (a.Span.From>=a.Span.To))).bind λq=>(if q then some true else some (decide (a.Span.To>73049))).bind λt=>if t then some false else(if(a.Kind==11)then some true else some (a.Kind==12)).bind λi=>(if i then some ((i64 (a.Span.To-a.Span.From))!=1)else some false).bind λe=>(if e then some true else(if(a.Kind==4)then some (a.Seat==a.State)else some false).bind λd=>some d).bind λl=>(if l then some true else(if(a.Kind==10)then some true else some (a.Kind==14)).bind λr=>(if r then some (a.Ref==a.Person)else some false).bind λc=>some c).bind λo=>if o then some false else(a09 a.Kind 83 a.State 0 5).bind λn=>(if n then(a09 a.Kind 84 a.Seat 0 5).bind λm=>some m else some false).bind λk=>(if k then(a09 a.Kind 72 a.Share 1 100).bind λg=>some g else some false).bind λu=>(if u then(a09 a.Kind 67 a.Currency 1 999).bind λb=>some b else some false).bind λj=>(if j then(a09 a.Kind 65 a.Amount 0 1000000000).bind λs=>some s else some false).bind λf=>(if f then(a09 a.Kind 82 a.Ref 1 99).bind λh=>some h else some false).bind λp=>some p
def a4v(a b:aQ):A3 Int:=if(a.Issuer !=b.Issuer)then some (i64 (a.Issuer-b.Issuer))else some (i64 (a.Number-b.Number))
def b1g(b:Int)(c:((O Int)×Int)->A3 (O Int))(a:(O Int)×Int):A3 (O Int):=if(decide (a.2>=0))then(d0l .i64 b (u64 (i64 (8*a.2)))).bind λe=>(a4n 1 a.1 [IntKind.u8.wrap (e)]).bind λd=>c (d,i64 (a.2-1))else some a.1
def g7(a:O Int)(c b:Int):A3 (O Int):=d9 FU (b1g c) (a,i64 (b-1))
def a6a(l:A4)(b:(aQ×(O Int)×Int)->A3 (O Int))(a:aQ×(O Int)×Int):A3 (O Int):=if(decide (a.2.2<(l.size:Int)))then(b3c l a.2.2).bind λc=>if(c==83)then(g7 a.2.1 a.1.State 1).bind λg=>b (a.1,g,i64 (a.2.2+1))else if(c==80)then(g7 a.2.1 a.1.Span.From 3).bind λf=>(g7 f a.1.Span.To 3).bind λi=>b (a.1,i,i64 (a.2.2+1))else if(c==84)then(g7 a.2.1 a.1.Seat 1).bind λk=>b (a.1,k,i64 (a.2.2+1))else if(c==72)then(g7 a.2.1 a.1.Share 1).bind λe=>b (a.1,e,i64 (a.2.2+1))else if(c==67)then(g7 a.2.1 a.1.Currency 2).bind λh=>b (a.1,h,i64 (a.2.2+1))else if(c==65)then(g7 a.2.1 a.1.Amount 4).bind λd=>b (a.1,d,i64 (a.2.2+1))else if(c==82)then(g7 a.2.1 a.1.Ref 1).bind λj=>b (a.1,j,i64 (a.2.2+1))else b (a.1,a.2.1,i64 (a.2.2+1))else some a.2.1
def a65(a:aQ×Int):A3 (O Int):=(g7 [] a.1.Issuer 1).bind λe=>(g7 e a.1.Number 2).bind λd=>(g7 d a.1.Version 1).bind λf=>(g7 f a.2 1).bind λg=>(g7 g a.1.Person 1).bind λb=>(g7 b a.1.Kind 1).bind λc=>(u4 a.1.Kind).bind λh=>d9 FU (a6a h) (a.1,c,0)
def a5z(a:aQ):A3 (O Int):=(m8 a).bind λb=>if(!b)then some []else if a.Withdrawn then joinC a65 (a,1)else joinC a65 (a,0)
def b0f(a b:aQ):A3 Bool:=(m8 a).bind λh=>(if(!h)then some true else(m8 b).bind λd=>some (!d)).bind λf=>if f then some false else(a4v a b).bind λc=>if(c !=0)then some (decide (c<0))else if(a.Version !=b.Version)then some (decide (a.Version<b.Version))else(a5z a).bind λe=>(a5z b).bind λg=>some (Op.bytesLess (c6i (e.map λx=>x)).toList (c6i (g.map λx=>x)).toList)
def a5t(m:((O aQ)×Int)->A3 (O aQ))(n:(O aQ)×(O aQ)×(O aQ)×Int×aQ)(u:((O aQ)×aQ×Int)->A3 (O aQ))(a:(O aQ)×aQ×Int):A3 (O aQ):=(if(decide (a.2.2>0))then(c7 a.1 (i64 (a.2.2-1))).bind λv=>(c7 a.1 (i64 (a.2.2-1))).bind λp=>(a4v p a.2.1).bind λk=>some (decide (k>0))else some false).bind λl=>if l then u (a.1,a.2.1,i64 (a.2.2-1))else(if(decide (a.2.2>0))then(c7 a.1 (i64 (a.2.2-1))).bind λq=>(c7 a.1 (i64 (a.2.2-1))).bind λe=>(a4v e a.2.1).bind λd=>some (d==0)else some false).bind λi=>if i then(c7 a.1 (i64 (a.2.2-1))).bind λt=>(c7 a.1 (i64 (a.2.2-1))).bind λc=>(b0f c a.2.1).bind λj=>if j then(c7 a.1 (i64 (a.2.2-1))).bind λs=>(c7 a.1 (i64 (a.2.2-1))).bind λr=>m (a8h a.1 (i64 (a.2.2-1)) a.2.1,i64 (n.2.2.2.1+1))else m (a.1,i64 (n.2.2.2.1+1))else(a1x a.1 0 a.2.2).bind λh=>(a4n 112 [] h).bind λf=>(a4n 112 f [a.2.1]).bind λo=>(a1x a.1 a.2.2 (a.1.length:Int)).bind λb=>(a4n 112 o b).bind λg=>m (g,i64 (n.2.2.2.1+1))
def a9j(b:((O aQ)×Int)->A3 (O aQ))(a:(O aQ)×(O aQ)×(O aQ)×Int×aQ):A3 (O aQ):=(m8 a.2.2.2.2).bind λc=>if(!c)then b (a.2.2.1,i64 (a.2.2.2.1+1))else d9 FU (a5t b a) (a.2.2.1,a.2.2.2.2,(a.2.2.1.length:Int))
def a5y(b c:O aQ)(e:((O aQ)×Int)->A3 (O aQ))(a:(O aQ)×Int):A3 (O aQ):=if(decide (a.2<(i64 ((b.length:Int)+(c.length:Int)))))then if(decide (a.2<(b.length:Int)))then(c7 b a.2).bind λf=>joinC (a9j e) (b,c,a.1,a.2,f)else(c7 c (i64 (a.2-(b.length:Int)))).bind λd=>joinC (a9j e) (b,c,a.1,a.2,d)else some a.1
def a6c(a b:O aQ):A3 (O aQ):=d9 FU (a5y a b) ([],0)
def b5j(e:O tN)(m:Bool)(i:O Int)(h:((O aQ)×Int)->A3 (O aQ))(b:(O aQ)×Int):A3 (O aQ):=(if(decide (b.2<(e.length:Int)))then some (decide (b.2<8))else some false).bind λk=>if k then(c7 e b.2).bind λa=>(b1b (⟨a.Issuer,a.Number,a.Version,a.Withdrawn,0,a.Kind,a.State,a.Seat,a.From,a.Length,a.Share,a.Amount,a.Ref⟩:tN)).bind λj=>(a4n 112 b.1 [j]).bind λl=>h (l,i64 (b.2+1))else if m then(b04 i).bind λf=>(b2c f 1).bind λg=>(a4n 112 b.1 g).bind λn=>(a6c n []).bind λd=>some d else(a6c b.1 []).bind λc=>some c
def b0g(a:O tN)(c:O Int)(b:Bool):A3 (O aQ):=d9 FU (b5j a b c) ([],0)
def b6l(a:Int):A3 Bool:=(if(decide (a>=97))then some (decide (a<=122))else some false).bind λb=>some b
def b74(a:Int):A3 Bool:=(if(decide (a>=48))then some (decide (a<=57))else some false).bind λb=>some b
def c1b(a:Int):A3 Bool:=(b6l a).bind λe=>(if e then some true else(b74 a).bind λb=>some b).bind λd=>(if d then some true else some (a==95)).bind λc=>some c
def c1f(b:A4)(e:Int->A3 Bool)(a:Int):A3 Bool:=if(decide (a<(b.size:Int)))then(b3c b a).bind λc=>(c1b c).bind λd=>if(!d)then some false else e (i64 (a+1))else some true
def b7f(a:A4):A3 Bool:=(if(decide ((a.size:Int)<1))then some true else some (decide ((a.size:Int)>12))).bind λe=>(if e then some true else(b3c a 0).bind λb=>(b6l b).bind λd=>some (!d)).bind λc=>if c then some false else d9 FU (c1f a) 0
def b49(a:A4):A3 Bool:=if(a.toList==c9m.toList)then if(a.toList==c9m.toList)then some true else some false else if(a.toList==c51.toList)then if(a.toList==c51.toList)then some true else some false else if(a.toList==d69.toList)then if(a.toList==d69.toList)then some true else some false else if(a.toList==b91.toList)then if(a.toList==b91.toList)then some true else some false else if(a.toList==b4x.toList)then if(a.toList==b4x.toList)then some true else some false else if(a.toList==c53.toList)then if(a.toList==c53.toList)then some true else some false else if(a.toList==c1a.toList)then if(a.toList==c1a.toList)then some true else some false else if(a.toList==c4c.toList)then if(a.toList==c4c.toList)then some true else some false else if(a.toList==c10.toList)then if(a.toList==c10.toList)then some true else some false else if(a.toList==d0k.toList)then if(a.toList==d0k.toList)then some true else some false else if(a.toList==c1q.toList)then if(a.toList==c1q.toList)then some true else some false else if(a.toList==d07.toList)then if(a.toList==d07.toList)then some true else some false else if(a.toList==c1c.toList)then if(a.toList==c1c.toList)then some true else some false else if(a.toList==c98.toList)then if(a.toList==c98.toList)then some true else some false else if(a.toList==c8l.toList)then if(a.toList==c8l.toList)then some true else some false else if(a.toList==c92.toList)then if(a.toList==c92.toList)then some true else some false else if(a.toList==d8p.toList)then if(a.toList==d8p.toList)then some true else some false else if(a.toList==c60.toList)then if(a.toList==c60.toList)then some true else some false else if(a.toList==b94.toList)then if(a.toList==b94.toList)then some true else some false else if(a.toList==c14.toList)then if(a.toList==c14.toList)then some true else some false else if(a.toList==b76.toList)then if(a.toList==b76.toList)then some true else some false else if(a.toList==d3p.toList)then some true else some false
def b0e(a:A4):A3 Bool:=(b7f a).bind λb=>(if b then(b49 a).bind λd=>some (!d)else some false).bind λc=>some c
def m7(a:Int):A3 Bool:=(if(decide (a>=0))then some (decide (a<=73048))else some false).bind λb=>some b
def c0l:A3 (O syntax_entry):=some [(⟨d4s,1⟩:syntax_entry),(⟨f1e,2⟩:syntax_entry),(⟨d3b,3⟩:syntax_entry),(⟨d3z,4⟩:syntax_entry)]
def b3q(a:syntax_entry)(b:Int):A3 Bool:=some (a.number==b)
def a3y(c:O syntax_entry)(a:Int)(d:Int->A3 Int)(b:Int):A3 Int:=if(decide (b<(c.length:Int)))then(c7 c b).bind λf=>(b3q f a).bind λe=>if e then some b else d (i64 (b+1))else some (-1:Int)
def a0b(b:O syntax_entry)(a:Int):A3 Int:=d9 FU (a3y b a) 0
def a4u(b:O syntax_entry)(c:Int):A3 A4:=(a0b b c).bind λa=>if(decide (a<0))then some a3j else(c7 b a).bind λd=>some d.name
def c1i:A3 (O syntax_entry):=some [(⟨b0b,6⟩:syntax_entry),(⟨b3z,9⟩:syntax_entry),(⟨b87,7⟩:syntax_entry),(⟨d54,8⟩:syntax_entry),(⟨c97,10⟩:syntax_entry),(⟨c04,5⟩:syntax_entry)]
def a9d(b:A4)(c:Int):A3 Int:=(a7v b c).bind λa=>some a
def b61(e:Int×Int)(b:(Int×Int×Int)->A3 (Int×Int))(a:Int×Int×Int):A3 (Int×Int):=if(decide (a.2.2>0))then if((d5y .i64 a.2.2 1)!=0)then(d0l .i64 a.2.2 1).bind λd=>b (IntKind.u32.wrap (a.1*a.2.1),IntKind.u32.wrap (a.2.1*a.2.1),d)else(d0l .i64 a.2.2 1).bind λc=>b (a.1,IntKind.u32.wrap (a.2.1*a.2.1),c)else some (e.1,a.1)
def b5w(b:A4)(d:(Int×Int)->A3 (Int×Int))(a:Int×Int):A3 (Int×Int):=if(decide (a.2<(b.size:Int)))then(b3c b a.2).bind λc=>d (IntKind.u32.wrap ((IntKind.u32.wrap (a.1*16777619))+(IntKind.u32.wrap (c))),i64 (a.2+1))else d9 FU (b61 a) (1,16777619,(b.size:Int))
def b0t(a:A4):A3 (Int×Int):=d9 FU (b5w a) (0,0)
def b1o(c d:A4)(g:Int×Int)(i:(Int×Int)->A3 Int)(a:Int×Int):A3 Int:=if(decide (a.2<(c.size:Int)))then(b3c c a.2).bind λh=>(b3c c (i64 (a.2-(d.size:Int)))).bind λb=>(if((IntKind.u32.wrap ((IntKind.u32.wrap ((IntKind.u32.wrap (a.1*16777619))+(IntKind.u32.wrap (h))))-(IntKind.u32.wrap (g.2*(IntKind.u32.wrap (b))))))==g.1)then(c3u c (i64 ((i64 (a.2+1))-(d.size:Int))) (i64 (a.2+1))).bind λe=>some (e.toList==d.toList)else some false).bind λf=>if f then some (i64 ((i64 (a.2+1))-(d.size:Int)))else i (IntKind.u32.wrap ((IntKind.u32.wrap ((IntKind.u32.wrap (a.1*16777619))+(IntKind.u32.wrap (h))))-(IntKind.u32.wrap (g.2*(IntKind.u32.wrap (b))))),i64 (a.2+1))else some (-1:Int)
def b1f(b c:A4)(d:Int×Int)(h:(Int×Int)->A3 Int)(a:Int×Int):A3 Int:=if(decide (a.2<(b.size:Int)))then(b3c c a.2).bind λe=>h (IntKind.u32.wrap ((IntKind.u32.wrap (a.1*16777619))+(IntKind.u32.wrap (e))),i64 (a.2+1))else(if(a.1==d.1)then(c3u c 0 (b.size:Int)).bind λf=>some (f.toList==b.toList)else some false).bind λg=>if g then some 0 else d9 FU (b1o c b d) (a.1,(b.size:Int))
def b36(c a:A4):A3 Int:=(b0t a).bind λb=>d9 FU (b1f a c b) (0,0)
def a6y(b a:A4):A3 Int:=(if((a.size:Int)==0)then some true else some (a.toList==b.toList)).bind λe=>if e then some 0 else if((a.size:Int)==1)then(b3c a 0).bind λc=>(a9d b c).bind λd=>some d else if(decide ((a.size:Int)>=(b.size:Int)))then some (-1:Int)else none
def b72(a c:A4):A3 (A4×A4×Bool):=(a6y a c).bind λb=>if(decide (b>=0))then(c3u a 0 b).bind λd=>(c3u a (i64 (b+(c.size:Int))) (a.size:Int)).bind λe=>some (d,e,true)else some (a,a3j,false)
def b9e(b c:A4):A3 (A4×A4×Bool):=(b72 b c).bind λa=>some (a.1,a.2.1,a.2.2)
def c0d(b:A4)(c:(Int×Int)->A3 (Int×Bool))(a:Int×Int):A3 (Int×Bool):=if(decide (a.2<(b.size:Int)))then(b3c b a.2).bind λf=>(b74 f).bind λd=>if(!d)then some (0,false)else(b3c b a.2).bind λe=>c (i64 ((i64 (10*a.1))+(i64 (IntKind.u8.wrap (e-48)))),i64 (a.2+1))else some (a.1,true)
def b2i(a:A4):A3 (Int×Bool):=d9 FU (c0d a) (0,0)
def b5e(b:Int)(d:(fQ×Int)->A3 (fQ×Int×Bool))(e:fQ×Int)(i:fQ->A3 (fQ×Int×Bool))(a:fQ):A3 (fQ×Int×Bool):=(b8t a.Num b).bind λc=>(if(c==0)then(b8t a.Den b).bind λf=>some (f==0)else some false).bind λj=>if j then(c2t a.Num b).bind λg=>(c2t a.Den b).bind λh=>i (⟨g,h⟩:fQ)else d (a,i64 (e.2+1))
def c09(c:fQ×Int×Int×Int)(d:(fQ×Int)->A3 (fQ×Int×Bool))(a:fQ×Int):A3 (fQ×Int×Bool):=if(decide (a.2<2))then(c7 (⟨[2,5],rfl⟩:Ar 2 Int).l a.2).bind λb=>d9 FU (b5e b d a) a.1else some (a.1,c.2.1,true)
def b5d(a:fQ×Int×Int×Int):A3 (fQ×Int×Bool):=d9 FU (c09 a) ((⟨i64 (a.2.2.1+a.2.2.2),a.1.Den⟩:fQ),0)
def c0b(f:A4×fQ×Int)(c:Int×Bool)(b:(fQ×Int×(A4×Int))->A3 (fQ×Int×Bool))(a:fQ×Int×(A4×Int)):A3 (fQ×Int×Bool):=optC (e6l a.2.2.1 a.2.2.2) (joinC b5d (a.1,f.2.2,a.2.1,c.1)) λd=>(d).bind λe=>b ((⟨a.1.Num,i64 (10*a.1.Den)⟩:fQ),i64 (10*a.2.1),(a.2.2.1,a.2.2.2+1))
def a5s(f:A4×fQ×Int):A3 (fQ×Int×Bool):=(b9e f.1 b1i).bind λa=>(if(decide ((a.1.size:Int)<1))then some true else some (decide ((a.1.size:Int)>9))).bind λk=>(if k then some true else(if(decide ((a.1.size:Int)>1))then(b3c a.1 0).bind λi=>some (i==48)else some false).bind λj=>some j).bind λl=>(if l then some true else(if a.2.2then(if(decide ((a.2.1.size:Int)<1))then some true else some (decide ((a.2.1.size:Int)>4))).bind λg=>some g else some false).bind λd=>some d).bind λe=>if e then some ((⟨0,0⟩:fQ),0,false)else(b2i a.1).bind λc=>(b2i a.2.1).bind λb=>(if(!c.2)then some true else some (!b.2)).bind λh=>if h then some ((⟨0,0⟩:fQ),0,false)else d9 FU (c0b f b) ((⟨f.2.1.Num,1⟩:fQ),c.1,(a.2.1,0))
def b69(a:A4):A3 (fQ×Int×Bool):=(if(decide ((a.size:Int)>0))then(b3c a (i64 ((a.size:Int)-1))).bind λg=>some (g==100)else some false).bind λe=>if e then(c3u a 0 (i64 ((a.size:Int)-1))).bind λf=>joinC a5s (f,(⟨0,0⟩:fQ),3)else(if(decide ((a.size:Int)>0))then(b3c a (i64 ((a.size:Int)-1))).bind λc=>some (c==109)else some false).bind λb=>if b then(c3u a 0 (i64 ((a.size:Int)-1))).bind λd=>joinC a5s (d,(⟨0,0⟩:fQ),4)else joinC a5s (a,(⟨0,0⟩:fQ),2)
def a5e(f:(fQ×A4×Int×Int)->A3 (A4×Bool))(a:Int×fQ×A4×Int×Int):A3 (A4×Bool):=if(a.2.2.2.2==4)then some (a3j,false)else(c2t (i64 (a.2.2.2.1*10)) a.2.1.Den).bind λb=>(strconv_Itoa b).bind λc=>(a7f a.2.2.1 c).bind λe=>(b8t (i64 (a.2.2.2.1*10)) a.2.1.Den).bind λd=>f (a.2.1,e,d,i64 (a.2.2.2.2+1))
def a2u(a:Int×fQ×A4):A3 (A4×Bool):=(b69 a.2.2).bind λb=>(if(!b.2.2)then some true else some (!((b.1.Num==a.2.1.Num)&&((b.1.Den==a.2.1.Den)&&(true))))).bind λd=>(if d then some true else some (b.2.1!=a.1)).bind λc=>if c then some (a3j,false)else some (a.2.2,true)
def b3h(b:Int)(e:(fQ×A4×Int×Int)->A3 (A4×Bool))(a:fQ×A4×Int×Int):A3 (A4×Bool):=if(decide (a.2.2.1>0))then if(a.2.2.2==0)then(a7f a.2.1 b1i).bind λf=>joinC (a5e e) (b,a.1,f,a.2.2.1,a.2.2.2)else joinC (a5e e) (b,a.1,a.2.1,a.2.2.1,a.2.2.2)else if(b==3)then(a7f a.2.1 e4t).bind λc=>joinC a2u (b,a.1,c)else if(b==4)then(a7f a.2.1 e6u).bind λd=>joinC a2u (b,a.1,d)else joinC a2u (b,a.1,a.2.1)
def a4y(a:fQ)(b:Int):A3 (A4×Bool):=(if(decide (a.Den<1))then some true else some (decide (a.Den>10000))).bind λh=>(if h then some true else some (decide (a.Num<0))).bind λc=>(if c then some true else some (decide (a.Num>1000000000000000))).bind λf=>if f then some (a3j,false)else(c2t a.Num a.Den).bind λd=>(strconv_Itoa d).bind λe=>(b8t a.Num a.Den).bind λg=>d9 FU (b3h b) (a,e,g,0)
def b59(a:Int):A3 Bool:=(if(decide (a>=1900))then some (decide (a<=2099))else some false).bind λb=>some b
def b07(a:Index):A3 Bool:=(a4y a.Factor 2).bind λe=>(if e.2then some (decide (a.Factor.Num>0))else some false).bind λb=>(if b then(b59 a.Year).bind λd=>some d else some false).bind λc=>some c
structure Ring_syntax_Depth where f_syntax_Depth:Expr->Option Int
def b6x(R:Ring_syntax_Depth)(b:Expr)(c:(Int×Int)->A3 Int)(a:Int×Int):A3 Int:=if(decide (a.2<(b.Args.length:Int)))then(c7 b.Args a.2).bind λe=>(R.f_syntax_Depth e).bind λd=>c (max a.1 d,i64 (a.2+1))else some (i64 (a.1+1))
def b86(R:Ring_syntax_Depth)(a:Expr):A3 Int:=d9 FU (b6x R a) (0,0)
def a0r:Nat->Ring_syntax_Depth|0=>⟨λ_=>none⟩|n+1=>⟨b86 (a0r n)⟩
def d57(a:Expr):A3 Int:=(a0r FU).f_syntax_Depth a
structure Ring_syntax_Size where f_syntax_Size:Expr->Option Int
def b8b(R:Ring_syntax_Size)(b:Expr)(c:(Int×Int)->A3 Int)(a:Int×Int):A3 Int:=if(decide (a.2<(b.Args.length:Int)))then(c7 b.Args a.2).bind λe=>(R.f_syntax_Size e).bind λd=>c (i64 (a.1+d),i64 (a.2+1))else some a.1
def b9x(R:Ring_syntax_Size)(a:Expr):A3 Int:=d9 FU (b8b R a) (1,0)
def a1j:Nat->Ring_syntax_Size|0=>⟨λ_=>none⟩|n+1=>⟨b9x (a1j n)⟩
def e0h(a:Expr):A3 Int:=(a1j FU).f_syntax_Size a
def b84(a:Int):A3 Int:=(if(a==1)then some true else some (a==2)).bind λf=>(if f then some true else some (a==3)).bind λb=>if b then some 0 else(if(a==4)then some true else some (a==5)).bind λe=>(if e then some true else some (a==6)).bind λc=>if c then some 1 else(if(decide (a>=7))then some (decide (a<=20))else some false).bind λd=>if d then some 2 else if(a==21)then some 3 else some (-1:Int)
def c05(a:Expr):A3 Bool:=(b84 a.Op).bind λm=>if((a.Args.length:Int)!=m)then some false else if(a.Op==1)then(a4y a.Value a.Dim).bind λg=>(if g.2then some (a.Name.toList==a3j.toList)else some false).bind λj=>some j else if(a.Op==2)then(b0e a.Name).bind λh=>(if h then some ((a.Value.Num==0)&&((a.Value.Den==0)&&(true)))else some false).bind λi=>(if i then some (a.Dim==0)else some false).bind λk=>some k else if(a.Op==3)then(if(a.Value.Den==1)then some (decide (a.Value.Num>=1))else some false).bind λe=>(if e then some (decide (a.Value.Num<=45))else some false).bind λf=>(if f then some (a.Dim==0)else some false).bind λl=>(if l then some (a.Name.toList==a3j.toList)else some false).bind λd=>some d else(if((a.Value.Num==0)&&((a.Value.Den==0)&&(true)))then some (a.Dim==0)else some false).bind λb=>(if b then some (a.Name.toList==a3j.toList)else some false).bind λc=>some c
structure Ring_syntax_form where
 f_syntax_form:Expr->Option Bool
 f_syntax_form_1:Expr->Option Bool
 f_slices_ContainsFunc_of_api_Expr:(List Expr)->Option Bool
 f_slices_IndexFunc_of_api_Expr:(List Expr)->Option Int
def b60(R:Ring_syntax_form)(a:Expr):A3 Bool:=(c05 a).bind λb=>(if b then(R.f_slices_ContainsFunc_of_api_Expr a.Args).bind λd=>some (!d)else some false).bind λc=>some c
def c0q(R:Ring_syntax_form)(b:Expr):A3 Bool:=(R.f_syntax_form b).bind λa=>some (!a)
def a0y(R:Ring_syntax_form)(b:O Expr):A3 Bool:=(R.f_slices_IndexFunc_of_api_Expr b).bind λa=>some (decide (a>=0))
def a6i(R:Ring_syntax_form)(b:O Expr)(c:Int->A3 Int)(a:Int):A3 Int:=if(decide (a<(b.length:Int)))then(c7 b a).bind λe=>(R.f_syntax_form_1 e).bind λd=>if d then some a else c (i64 (a+1))else some (-1:Int)
def a1m(R:Ring_syntax_form)(a:O Expr):A3 Int:=d9 FU (a6i R a) 0
def e6:Nat->Ring_syntax_form|0=>⟨λ_=>none,λ_=>none,λ_=>none,λ_=>none⟩|n+1=>⟨b60 (e6 n),c0q (e6 n),a0y (e6 n),a1m (e6 n)⟩
def d9s(a:Expr):A3 Bool:=(e6 FU).f_syntax_form a
def a1k(a:Expr):A3 Bool:=(d57 a).bind λf=>(if(decide (f<=10))then(e0h a).bind λb=>some (decide (b<=60))else some false).bind λe=>(if e then(d9s a).bind λc=>some c else some false).bind λd=>some d
def b2d:A3 (O syntax_entry):=some [(⟨d9m,1⟩:syntax_entry),(⟨b8e,2⟩:syntax_entry),(⟨c0u,3⟩:syntax_entry),(⟨c66,4⟩:syntax_entry),(⟨c0r,5⟩:syntax_entry)]
def a8y(b:Version)(f:Int->A3 Bool)(a:Int):A3 Bool:=if(decide (a<(b.Reduces.length:Int)))then(c7 b.Reduces a).bind λc=>(b2d).bind λg=>(a4u g c.Benefit).bind λe=>(if(e.toList==a3j.toList)then some true else(a1k c.By).bind λh=>some (!h)).bind λd=>if d then some false else f (i64 (a+1))else some true
def b3e(a:Version):A3 Bool:=d9 FU (a8y a) 0
def a8t(c:Version)(f:(Version×Int)->A3 Bool)(a:Version×Int):A3 Bool:=if(decide (a.2<(c.Grants.length:Int)))then(c7 c.Grants a.2).bind λb=>(b2d).bind λe=>(a4u e b.Benefit).bind λi=>(if(i.toList==a3j.toList)then some true else(a1k b.If).bind λd=>some (!d)).bind λh=>(if h then some true else(a1k b.Pay).bind λj=>some (!j)).bind λg=>if g then some false else f (a.1,i64 (a.2+1))else joinC b3e a.1
def b3b(a:Version):A3 Bool:=d9 FU (a8t a) (a,0)
def a8w(c:Version)(g:(Version×Int)->A3 Bool)(a:Version×Int):A3 Bool:=if(decide (a.2<(c.Lets.length:Int)))then(c7 c.Lets a.2).bind λb=>(b0e b.Name).bind λe=>(if(!e)then some true else(a1k b.Body).bind λd=>some (!d)).bind λf=>if f then some false else g (a.1,i64 (a.2+1))else joinC b3b a.1
def b3i(a:Version):A3 Bool:=d9 FU (a8w a) (a,0)
def a8v(b:Version)(c:(Version×Int)->A3 Bool)(a:Version×Int):A3 Bool:=if(decide (a.2<(b.Series.length:Int)))then(c7 b.Series a.2).bind λd=>(b07 d).bind λe=>if(!e)then some false else c (a.1,i64 (a.2+1))else joinC b3i a.1
def b39(a:Version):A3 Bool:=d9 FU (a8v a) (a,0)
def a8u(h:Version)(c:(Version×Int)->A3 Bool)(b:Version×Int):A3 Bool:=if(decide (b.2<(h.Credits.length:Int)))then(c7 h.Credits b.2).bind λa=>(c1i).bind λd=>(a4u d a.Kind).bind λf=>(if(f.toList==a3j.toList)then some true else some (decide (a.Limit<0))).bind λe=>(if e then some true else some (decide (a.Limit>73049))).bind λg=>if g then some false else c (b.1,i64 (b.2+1))else joinC b39 b.1
def a5f(a:Version):A3 Bool:=(if(decide ((a.Credits.length:Int)>6))then some true else some (decide ((a.Series.length:Int)>20))).bind λd=>(if d then some true else some (decide ((a.Lets.length:Int)>10))).bind λe=>(if e then some true else some (decide ((a.Grants.length:Int)>5))).bind λb=>(if b then some true else some (decide ((a.Reduces.length:Int)>5))).bind λc=>if c then some false else d9 FU (a8u a) (a,0)
def a7q(a:Version):A3 Bool:=(m7 a.From).bind λh=>if(!h)then(if true then some true else some (decide (a.Rounding.Unit<1))).bind λf=>(if f then some true else some (decide (a.Rounding.Unit>100000))).bind λg=>if g then some false else joinC a5f a else(c0l).bind λc=>(a4u c a.Rounding.Mode).bind λd=>(if(d.toList==a3j.toList)then some true else some (decide (a.Rounding.Unit<1))).bind λe=>(if e then some true else some (decide (a.Rounding.Unit>100000))).bind λb=>if b then some false else joinC a5f a
def b77(b:Statute)(e:Int->A3 Bool)(a:Int):A3 Bool:=if(decide (a<(b.Versions.length:Int)))then(c7 b.Versions a).bind λc=>(a7q c).bind λd=>if(!d)then some false else e (i64 (a+1))else some true
def b7h(a:Statute):A3 Bool:=(b0e a.Name).bind λf=>(if(!f)then some true else some (decide (a.Currency<1))).bind λb=>(if b then some true else some (decide (a.Currency>999))).bind λe=>(if e then some true else some (decide ((a.Versions.length:Int)<1))).bind λc=>(if c then some true else some (decide ((a.Versions.length:Int)>6))).bind λd=>if d then some false else d9 FU (b77 a) 0
def a21(a:A4×Bool):A3 (Int×Bool):=if a.2then some (3,true)else if(a.1.toList==e39.toList)then some (4,true)else some (0,false)
def a9q(a:A4×Bool):A3 (Int×Bool):=if a.2then some (2,true)else if(a.1.toList==b6u.toList)then joinC a21 (a.1,a.1.toList==b6u.toList)else if(a.1.toList==c5w.toList)then joinC a21 (a.1,a.1.toList==c5w.toList)else if(a.1.toList==b0b.toList)then joinC a21 (a.1,a.1.toList==b0b.toList)else if(a.1.toList==b3z.toList)then joinC a21 (a.1,a.1.toList==b3z.toList)else if(a.1.toList==c3c.toList)then joinC a21 (a.1,a.1.toList==c3c.toList)else if(a.1.toList==c3j.toList)then joinC a21 (a.1,a.1.toList==c3j.toList)else joinC a21 (a.1,a.1.toList==c6v.toList)
def b4n(a:A4):A3 (Int×Bool):=if(a.toList==e0r.toList)then joinC a9q (a,a.toList==e0r.toList)else if(a.toList==d3o.toList)then joinC a9q (a,a.toList==d3o.toList)else joinC a9q (a,a.toList==c6q.toList)
def b9o(b:A4):A3 Bool:=(a1k (⟨2,(⟨0,0⟩:fQ),0,b,[]⟩:Expr)).bind λa=>some a
def b9r(a:iQ)(b:Let):A3 Bool:=some (a.Name.toList==b.Name.toList)
def b42(a:iQ):A3 Bool:=(if(decide (a.Dim<1))then some true else some (decide (a.Dim>4))).bind λb=>some b
def c07(c:O iQ)(d:((A4×Int×Bool)×Int)->A3 (Int×Bool))(a:(A4×Int×Bool)×Int):A3 (Int×Bool):=if decide (a.2<0)then some (0,false)else(c7 c a.2).bind λb=>if(b.Name.toList==a.1.1.toList)then some ((a.1.1,b.Dim,true).2.1,(a.1.1,b.Dim,true).2.2)else d ((a.1.1,a.1.2.1,a.1.2.2),a.2-1)
def b6c(b:A4)(c:O iQ):A3 (Int×Bool):=(b4n b).bind λa=>if a.2then some (a.1,true)else d9 FU (c07 c) ((b,0,false),(c.length:Int)-1)
def b19(a:(O Int)×Int×Bool):A3 (Int×Bool):=if a.2.2then(c7 a.1 0).bind λe=>(if(e==1)then(c7 a.1 1).bind λc=>some (c==1)else some false).bind λh=>some (1,h)else if(a.2.1==21)then(c7 a.1 1).bind λb=>(c7 a.1 0).bind λg=>(if(g==1)then(c7 a.1 1).bind λi=>(c7 a.1 2).bind λf=>some (i==f)else some false).bind λd=>some (b,d)else some (0,false)
def a2l(a:(O Int)×Int×Bool):A3 (Int×Bool):=if a.2.2then(c7 a.1 0).bind λb=>(c7 a.1 1).bind λc=>(if(b==c)then(c7 a.1 0).bind λe=>some (e !=1)else some false).bind λd=>some (1,d)else if(a.2.1==17)then joinC b19 (a.1,a.2.1,a.2.1==17)else joinC b19 (a.1,a.2.1,a.2.1==18)
def a5q(a:(O Int)×Int×Bool):A3 (Int×Bool):=if a.2.2then(c7 a.1 0).bind λr=>(c7 a.1 0).bind λs=>(c7 a.1 1).bind λt=>(if(s==t)then(c7 a.1 0).bind λq=>some (q !=1)else some false).bind λm=>some (r,m)else if(a.2.1==9)then(c7 a.1 0).bind λo=>if(o==2)then(c7 a.1 1).bind λg=>(c7 a.1 1).bind λe=>some (g,e !=1)else(c7 a.1 0).bind λd=>(c7 a.1 1).bind λi=>(if(i==2)then(c7 a.1 0).bind λn=>some (n !=1)else some false).bind λc=>some (d,c)else if(a.2.1==10)then(c7 a.1 1).bind λl=>if(l==2)then(c7 a.1 0).bind λk=>(c7 a.1 0).bind λj=>some (k,j !=1)else(c7 a.1 0).bind λh=>(c7 a.1 1).bind λf=>(if(h==f)then(c7 a.1 0).bind λp=>some (p !=1)else some false).bind λb=>some (2,b)else if(a.2.1==11)then joinC a2l (a.1,a.2.1,a.2.1==11)else if(a.2.1==12)then joinC a2l (a.1,a.2.1,a.2.1==12)else if(a.2.1==13)then joinC a2l (a.1,a.2.1,a.2.1==13)else if(a.2.1==14)then joinC a2l (a.1,a.2.1,a.2.1==14)else if(a.2.1==15)then joinC a2l (a.1,a.2.1,a.2.1==15)else joinC a2l (a.1,a.2.1,a.2.1==16)
def b0y(a:(O Int)×Int×Bool):A3 (Int×Bool):=if a.2.2then(c7 a.1 0).bind λd=>(c7 a.1 0).bind λc=>some (d,c !=1)else if(a.2.1==5)then(c7 a.1 0).bind λb=>some (1,b==1)else if(a.2.1==7)then joinC a5q (a.1,a.2.1,a.2.1==7)else if(a.2.1==8)then joinC a5q (a.1,a.2.1,a.2.1==8)else if(a.2.1==19)then joinC a5q (a.1,a.2.1,a.2.1==19)else joinC a5q (a.1,a.2.1,a.2.1==20)
def b9i(a:Int)(b:O Int):A3 (Int×Bool):=if(a==4)then joinC b0y (b,a,a==4)else joinC b0y (b,a,a==6)
structure Ring_typing_infer where f_typing_infer:Expr->(List iQ)->Option (Int×Int)
def i4w(R:Ring_typing_infer)(d:Expr)(e:O iQ)(h:(Expr×(O Int)×Int)->A3 (Int×Int))(a:Expr×(O Int)×Int):A3 (Int×Int):=if(decide (a.2.2<(d.Args.length:Int)))then(c7 d.Args a.2.2).bind λf=>(R.f_typing_infer f e).bind λb=>if(b.2!=0)then some (0,b.2)else(a4n 8 a.2.1 [b.1]).bind λg=>h (a.1,g,i64 (a.2.2+1))else(b9i a.1.Op a.2.1).bind λc=>if(!c.2)then some (0,6)else some (c.1,0)
def b4g(R:Ring_typing_infer)(a:Expr)(c:O iQ):A3 (Int×Int):=if(a.Op==1)then some (a.Dim,0)else if(a.Op==3)then some (4,0)else if(a.Op==2)then(b6c a.Name c).bind λb=>if(!b.2)then some (0,5)else some (b.1,0)else d9 FU (i4w R a c) (a,[],0)
def a0v:Nat->Ring_typing_infer|0=>⟨λ_ _=>none⟩|n+1=>⟨b4g (a0v n)⟩
def d5q(a:Expr)(b:O iQ):A3 (Int×Int):=(a0v FU).f_typing_infer a b
def a50(b:O iQ)(c:Int->A3 Int)(a:Int):A3 Int:=if(decide (a<(b.length:Int)))then(c7 b a).bind λe=>(b42 e).bind λd=>if d then some a else c (i64 (a+1))else some (-1:Int)
def a19(a:O iQ):A3 Int:=d9 FU (a50 a) 0
def a0i(b:O iQ):A3 Bool:=(a19 b).bind λa=>some (decide (a>=0))
def b4y(a:Expr)(b:O iQ):A3 (Int×Int):=(a1k a).bind λf=>(if(!f)then some true else(a0i b).bind λd=>some d).bind λe=>if e then some (0,1)else(d5q a b).bind λc=>some (c.1,c.2)
def a5l(c:O iQ)(a:Let)(d:Int->A3 Int)(b:Int):A3 Int:=if(decide (b<(c.length:Int)))then(c7 c b).bind λf=>(b9r f a).bind λe=>if e then some b else d (i64 (b+1))else some (-1:Int)
def a1e(b:O iQ)(a:Let):A3 Int:=d9 FU (a5l b a) 0
def a0q(c:O iQ)(a:Let):A3 Bool:=(a1e c a).bind λb=>some (decide (b>=0))
def i4k(d:O Let)(f:((O iQ)×Int)->A3 ((O iQ)×Int))(a:(O iQ)×Int):A3 ((O iQ)×Int):=if(decide (a.2<(d.length:Int)))then(c7 d a.2).bind λb=>(b4n b.Name).bind λg=>(if g.2then some true else(b9o b.Name).bind λh=>some (!h)).bind λi=>if i then some ([],5)else(a0q a.1 b).bind λe=>if e then some ([],10)else(b4y b.Body a.1).bind λc=>if(c.2!=0)then some ([],c.2)else(a4n 24 a.1 [(⟨b.Name,c.1⟩:iQ)]).bind λj=>f (j,i64 (a.2+1))else some (a.1,0)
def b9n(a:O Let):A3 ((O iQ)×Int):=if(decide ((a.length:Int)>10))then some ([],7)else d9 FU (i4k a) ([],0)
def b5a(a b:Credit):A3 Bool:=some (a.Kind==b.Kind)
def b57(a b:Grant):A3 Bool:=some (a.Benefit==b.Benefit)
def b8w(b:Expr)(d:O iQ)(c:Int):A3 Int:=(b4y b d).bind λa=>if(a.2!=0)then some a.2else if(a.1!=c)then some 6 else some 0
def b5b(a b:Reduce):A3 Bool:=some (a.Benefit==b.Benefit)
def a4i(c:O Credit)(a:Credit)(d:Int->A3 Int)(b:Int):A3 Int:=if(decide (b<(c.length:Int)))then(c7 c b).bind λf=>(b5a f a).bind λe=>if e then some b else d (i64 (b+1))else some (-1:Int)
def a13(b:O Credit)(a:Credit):A3 Int:=d9 FU (a4i b a) 0
def a0e(c:O Credit)(a:Credit):A3 Bool:=(a13 c a).bind λb=>some (decide (b>=0))
def a4s(c:O Grant)(a:Grant)(d:Int->A3 Int)(b:Int):A3 Int:=if(decide (b<(c.length:Int)))then(c7 c b).bind λf=>(b57 f a).bind λe=>if e then some b else d (i64 (b+1))else some (-1:Int)
def a15(b:O Grant)(a:Grant):A3 Int:=d9 FU (a4s b a) 0
def a0h(c:O Grant)(a:Grant):A3 Bool:=(a15 c a).bind λb=>some (decide (b>=0))
def a4k(c:O Reduce)(a:Reduce)(d:Int->A3 Int)(b:Int):A3 Int:=if(decide (b<(c.length:Int)))then(c7 c b).bind λf=>(b5b f a).bind λe=>if e then some b else d (i64 (b+1))else some (-1:Int)
def a0x(b:O Reduce)(a:Reduce):A3 Int:=d9 FU (a4k b a) 0
def a0d(c:O Reduce)(a:Reduce):A3 Bool:=(a0x c a).bind λb=>some (decide (b>=0))
def i4s(c:Version×(O iQ)×Int)(e:(Version×(O iQ)×Int)->A3 Int)(a:Version×(O iQ)×Int):A3 Int:=if(decide (a.2.2<(c.1.Reduces.length:Int)))then(c7 c.1.Reduces a.2.2).bind λd=>(a1x a.1.Reduces 0 a.2.2).bind λg=>(a0d g d).bind λf=>if f then some 10 else(b8w d.By a.2.1 2).bind λb=>if(b !=0)then some b else e (a.1,a.2.1,i64 (a.2.2+1))else some 0
def i4o(h:Version×(O iQ)×Int)(e:(Version×(O iQ)×Int)->A3 Int)(a:Version×(O iQ)×Int):A3 Int:=if(decide (a.2.2<(h.1.Grants.length:Int)))then(c7 h.1.Grants a.2.2).bind λb=>(a1x a.1.Grants 0 a.2.2).bind λf=>(a0h f b).bind λg=>if g then some 10 else(b8w b.If a.2.1 1).bind λc=>if(c !=0)then some c else(b8w b.Pay a.2.1 4).bind λd=>if(d !=0)then some d else e (a.1,a.2.1,i64 (a.2.2+1))else d9 FU (i4s a) (a.1,a.2.1,0)
def i4r(d:Version×(O iQ)×Int)(e:(Version×(O iQ)×Int)->A3 Int)(a:Version×(O iQ)×Int):A3 Int:=if(decide (a.2.2<(d.1.Series.length:Int)))then(c7 d.1.Series a.2.2).bind λf=>(if(decide (a.2.2>0))then(c7 a.1.Series (i64 (a.2.2-1))).bind λc=>some (decide (f.Year<=c.Year))else some false).bind λb=>if b then some 1 else e (a.1,a.2.1,i64 (a.2.2+1))else d9 FU (i4o a) (a.1,a.2.1,0)
def i4p(b:Version)(f:(Version×(O iQ)×Int)->A3 Int)(a:Version×(O iQ)×Int):A3 Int:=if(decide (a.2.2<(b.Credits.length:Int)))then(c7 b.Credits a.2.2).bind λc=>(a1x a.1.Credits 0 a.2.2).bind λd=>(a0e d c).bind λe=>if e then some 10 else f (a.1,a.2.1,i64 (a.2.2+1))else d9 FU (i4r a) (a.1,a.2.1,0)
def b0q(b:Version):A3 Int:=(b9n b.Lets).bind λa=>if(a.2!=0)then some a.2else d9 FU (i4p b) (b,a.1,0)
def i50(c:Statute)(g:(Statute×Int)->A3 (Int×Int))(a:Statute×Int):A3 (Int×Int):=if(decide (a.2<(c.Versions.length:Int)))then(c7 c.Versions a.2).bind λd=>(if(decide (a.2>0))then(c7 a.1.Versions (i64 (a.2-1))).bind λe=>some (decide (d.From<=e.From))else some false).bind λf=>if f then some (a.2,1)else(b0q d).bind λb=>if(b !=0)then some (a.2,b)else g (a.1,i64 (a.2+1))else some (0,0)
def b4b(a:Statute):A3 (Int×Int):=(b7h a).bind λb=>if(!b)then some (0,1)else d9 FU (i50 a) (a,0)
def a7u(a c:Int):A3 Bool:=(if(decide (a>=0))then some (decide (a<=c))else some false).bind λb=>some b
def b2n(g:Rules)(h:(Rules×Int)->A3 Bool)(a:Rules×Int):A3 Bool:=if(decide (a.2<(g.Members.length:Int)))then(c7 g.Members a.2).bind λb=>(a7u b 5).bind λc=>(if(!c)then some true else(if(decide (a.2>0))then(c7 a.1.Members (i64 (a.2-1))).bind λd=>some (decide (b<=d))else some false).bind λf=>some f).bind λe=>if e then some false else h (a.1,i64 (a.2+1))else some true
def a5x(a:Rules):A3 Bool:=(m7 a.From).bind λh=>(if(!h)then some true else(a7u a.MinDays 73049).bind λc=>some (!c)).bind λf=>(if f then some true else(a7u a.PostingLimit 73049).bind λd=>some (!d)).bind λe=>(if e then some true else(a7u a.Substantial 100).bind λg=>some (!g)).bind λb=>if b then some false else d9 FU (b2n a) (a,0)
def b27(b:O Rules)(e:Int->A3 Int)(a:Int):A3 Int:=if(decide (a<(b.length:Int)))then(c7 b a).bind λc=>(a5x c).bind λg=>(if(!g)then some true else(if(decide (a>0))then(c7 b (i64 (a-1))).bind λd=>some (decide (c.From<=d.From))else some false).bind λf=>some f).bind λh=>if h then some 1 else e (i64 (a+1))else some 0
def a9n(a:O Rules):A3 Int:=if(decide ((a.length:Int)>8))then some 7 else(if((a.length:Int)==0)then some true else(c7 a 0).bind λb=>some (b.From !=0)).bind λc=>if c then some 1 else d9 FU (b27 a) 0
def a8n(a:Int):A3 Bool:=(if(decide (a>=1))then some (decide (a<=999))else some false).bind λb=>some b
def b1k(a:Int):A3 Bool:=(if(decide (a>=0))then some (decide (a<=2399))else some false).bind λb=>some b
def a7l(a:Int):A3 Bool:=(b8t a 4).bind λf=>(if(f==0)then(b8t a 100).bind λb=>some (b !=0)else some false).bind λe=>(if e then some true else(b8t a 400).bind λc=>some (c==0)).bind λd=>some d
def a05(b a:Int):A3 Int:=(if(a==2)then(a7l b).bind λe=>some e else some false).bind λc=>if c then some 29 else(c7 (⟨[31,28,31,30,31,30,31,31,30,31,30,31],rfl⟩:Ar 12 Int).l (i64 (a-1))).bind λf=>(c7 (⟨[31,28,31,30,31,30,31,31,30,31,30,31],rfl⟩:Ar 12 Int).l (i64 (a-1))).bind λd=>some d
def a90(a:Int):A3 Int:=(b1k a).bind λe=>if(!e)then some 0 else(c2t a 12).bind λb=>(b8t a 12).bind λd=>(a05 (i64 (1900+b)) (i64 (d+1))).bind λc=>some c
def b9g(b:Int):A3 Bool:=(a90 b).bind λa=>some (decide (a>0))
def j5(a:Int):A3 Int:=if(decide (a<0))then some (u64 (-(u64 (a))))else some (u64 (a))
def a7g(c d:Int):A3 Int:=lpC (c,d) λf⟨b,a⟩=>if(a !=0)then(b8t b a).bind λe=>f (a,e)else some b
def o7(a:fQ):A3 Bool:=(if(decide (a.Den>=1))then some (decide (a.Den<=1000000000))else some false).bind λh=>(if h then some (decide (a.Num>=(-1000000000000000:Int)))else some false).bind λc=>(if c then some (decide (a.Num<=1000000000000000))else some false).bind λf=>(if f then(j5 a.Num).bind λd=>(j5 a.Den).bind λe=>(a7g d e).bind λg=>some (g==1)else some false).bind λb=>some b
def b9l(a:Int):A3 Bool:=(if(decide (a>=1))then some (decide (a<=1000000))else some false).bind λb=>some b
def a5r(c:O Rate):A3 Int:=if(decide ((c.length:Int)>40))then some 7 else lpC (0:Int) λr b=>if(decide (b<(c.length:Int)))then(c7 c b).bind λa=>(a8n a.Currency).bind λs=>(if(!s)then some true else(b9g a.Month).bind λn=>some (!n)).bind λo=>(if o then some true else(o7 a.Value).bind λp=>some (!p)).bind λq=>(if q then some true else(b9l a.Value.Num).bind λm=>some (!m)).bind λj=>(if j then some true else(b9l a.Value.Den).bind λl=>some (!l)).bind λg=>if g then some 1 else(if(decide (b>0))then(c7 c (i64 (b-1))).bind λf=>(if(decide (f.Currency>a.Currency))then some true else(c7 c (i64 (b-1))).bind λe=>(if(e.Currency==a.Currency)then(c7 c (i64 (b-1))).bind λh=>some (decide (h.Month>=a.Month))else some false).bind λk=>some k).bind λd=>some d else some false).bind λi=>if i then some 1 else r (i64 (b+1))else some 0
def c02(f:Laws):A3 Int:=lpC (f,(0:Int)) λp⟨e,b⟩=>if(decide (b<(f.States.length:Int)))then(c7 f.States b).bind λg=>(if(decide (g.State<0))then some true else some (decide (g.State>=6))).bind λn=>(if n then some true else(if(decide (b>0))then(c7 e.States (i64 (b-1))).bind λo=>some (decide (g.State<=o.State))else some false).bind λl=>some l).bind λm=>if m then some 1 else p (e,i64 (b+1))else lpC (e,(0:Int)) λj⟨k,a⟩=>if(decide (a<(e.States.length:Int)))then(c7 e.States a).bind λh=>(b4b h.Statute).bind λd=>if(d.2!=0)then some d.2else j (k,i64 (a+1))else(a9n k.Treaty).bind λc=>if(c !=0)then some c else(a5r k.Rates).bind λi=>some i
def b81(d:O Rules)(e:((Int×Rules×Bool)×Int)->A3 (Rules×Bool))(b:(Int×Rules×Bool)×Int):A3 (Rules×Bool):=if decide (b.2<0)then some ((⟨0,0,0,0,[]⟩:Rules),false)else(c7 d b.2).bind λa=>if(decide (a.From<=b.1.1))then(a7z a.Members).bind λc=>some ((b.1.1,(⟨a.From,a.MinDays,a.PostingLimit,a.Substantial,c⟩:Rules),true).2.1,(b.1.1,(⟨a.From,a.MinDays,a.PostingLimit,a.Substantial,c⟩:Rules),true).2.2)else e ((b.1.1,b.1.2.1,b.1.2.2),b.2-1)
def b2q(a:O Rules)(b:Int):A3 (Rules×Bool):=(m7 b).bind λc=>if(!c)then some ((⟨0,0,0,0,[]⟩:Rules),false)else d9 FU (b81 a) ((b,(⟨0,0,0,0,[]⟩:Rules),false),(a.length:Int)-1)
def b8v(a:Laws)(c:Int):A3 (bQ×Int):=(c02 a).bind λb=>if(b !=0)then some ((⟨(⟨[],[],[]⟩:Laws),0,(⟨0,0,0,0,[]⟩:Rules)⟩:bQ),b)else(b2q a.Treaty c).bind λd=>if(!d.2)then some ((⟨(⟨[],[],[]⟩:Laws),0,(⟨0,0,0,0,[]⟩:Rules)⟩:bQ),1)else some ((⟨a,c,d.1⟩:bQ),0)
def a7y(b:bQ)(f:Int):A3 (Statute×Bool):=lpC (([]:O Version),(⟨a3j,0,[]⟩:Statute),(0:Int)) λe⟨g,c,a⟩=>if(decide (a<(b.laws.States.length:Int)))then(c7 b.laws.States a).bind λd=>if(d.State==f)then some (d.Statute,true)else e (g,(⟨c.Name,c.Currency,[]⟩:Statute),i64 (a+1))else some ((⟨a3j,0,[]⟩:Statute),false)
structure Ring_statute_cloneExpr where f_statute_cloneExpr:Expr->Option Expr
def a7s(R:Ring_statute_cloneExpr)(b:Expr):A3 Expr:=lpC (([]:O Expr),(⟨b.Op,b.Value,b.Dim,b.Name,[]⟩:Expr),([]:O Expr),(⟨0,(⟨0,0⟩:fQ),0,a3j,[]⟩:Expr),(0:Int)) λi⟨e,a,h,c,d⟩=>if(decide (d<(b.Args.length:Int)))then(c7 b.Args d).bind λf=>(R.f_statute_cloneExpr f).bind λg=>(a4n 72 e [g]).bind λj=>i (j,(⟨a.Op,a.Value,a.Dim,a.Name,[]⟩:Expr),h,(⟨c.Op,c.Value,c.Dim,c.Name,[]⟩:Expr),i64 (d+1))else some (⟨a.Op,a.Value,a.Dim,a.Name,e⟩:Expr)
def s4:Nat->Ring_statute_cloneExpr|0=>⟨λ_=>none⟩|n+1=>⟨a7s (s4 n)⟩
def a6x(a:Expr):A3 Expr:=(s4 FU).f_statute_cloneExpr a
def a6r(m:Version):A3 Version:=(a5m m.Credits).bind λv1=>(a6e m.Series).bind λv2=>(a86 m.Lets).bind λv3=>(a6f m.Grants).bind λv4=>(a5p m.Reduces).bind λv5=>lpC (v1,v2,v3,v4,v5,(⟨m.From,m.Rounding,[],[],[],[],[]⟩:Version),([]:O Credit),([]:O Index),([]:O Let),([]:O Grant),([]:O Reduce),(⟨0,(⟨0,0⟩:Rounding),[],[],[],[],[]⟩:Version),(0:Int)) λU⟨v6,v7,o,M,C,k,u,q,p,x,E,g,c⟩=>if(decide (c<(v3.length:Int)))then(c7 o c).bind λak=>(c7 o c).bind λR=>(a6x R.Body).bind λL=>(c7 o c).bind λaq=>(c7 o c).bind λK=>U (v6,v7,a8h o c (⟨K.Name,L⟩:Let),M,C,(⟨k.From,k.Rounding,[],[],[],[],[]⟩:Version),u,q,p,x,E,(⟨g.From,g.Rounding,[],[],[],[],[]⟩:Version),i64 (c+1))else lpC (v6,v7,o,M,C,(⟨k.From,k.Rounding,[],[],[],[],[]⟩:Version),u,q,p,x,E,(⟨g.From,g.Rounding,[],[],[],[],[]⟩:Version),(0:Int)) λZ⟨v,F,r,b,n,j,B,t,s,G,w,h,a⟩=>if(decide (a<(M.length:Int)))then(c7 b a).bind λaf=>(c7 b a).bind λP=>(a6x P.If).bind λl=>(c7 b a).bind λal=>(c7 b a).bind λT=>(a6x T.Pay).bind λY=>(c7 b a).bind λan=>(c7 b a).bind λe=>(c7 (a8h b a (⟨e.Benefit,l,e.Pay⟩:Grant)) a).bind λam=>(c7 (a8h b a (⟨e.Benefit,l,e.Pay⟩:Grant)) a).bind λy=>Z (v,F,r,a8h (a8h b a (⟨e.Benefit,l,e.Pay⟩:Grant)) a (⟨y.Benefit,y.If,Y⟩:Grant),n,(⟨j.From,j.Rounding,[],[],[],[],[]⟩:Version),B,t,s,G,w,(⟨h.From,h.Rounding,[],[],[],[],[]⟩:Version),i64 (a+1))else lpC (v,F,r,b,n,(⟨j.From,j.Rounding,[],[],[],[],[]⟩:Version),B,t,s,G,w,(⟨h.From,h.Rounding,[],[],[],[],[]⟩:Version),(0:Int)) λJ⟨I,z,D,A,f,i,aa,X,Q,N,S,H,d⟩=>if(decide (d<(n.length:Int)))then(c7 f d).bind λag=>(c7 f d).bind λV=>(a6x V.By).bind λab=>(c7 f d).bind λah=>(c7 f d).bind λW=>J (I,z,D,A,a8h f d (⟨W.Benefit,ab⟩:Reduce),(⟨i.From,i.Rounding,[],[],[],[],[]⟩:Version),aa,X,Q,N,S,(⟨H.From,H.Rounding,[],[],[],[],[]⟩:Version),i64 (d+1))else some (⟨i.From,i.Rounding,I,z,D,A,f⟩:Version)
def c41(d:Statute)(e:((Int×Version×Bool)×Int)->A3 (Version×Bool))(a:(Int×Version×Bool)×Int):A3 (Version×Bool):=if decide (a.2<0)then some ((⟨0,(⟨0,0⟩:Rounding),[],[],[],[],[]⟩:Version),false)else(c7 d.Versions a.2).bind λb=>if(decide (b.From<=a.1.1))then(a6r b).bind λc=>some ((a.1.1,c,true).2.1,(a.1.1,c,true).2.2)else e ((a.1.1,a.1.2.1,a.1.2.2),a.2-1)
def b1v(a:Statute)(b:Int):A3 (Version×Bool):=(m7 b).bind λc=>if(!c)then some ((⟨0,(⟨0,0⟩:Rounding),[],[],[],[],[]⟩:Version),false)else d9 FU (c41 a) ((b,(⟨0,(⟨0,0⟩:Rounding),[],[],[],[],[]⟩:Version),false),(a.Versions.length:Int)-1)
def a2v(b:bQ)(d:Int):A3 (Statute×Version×Int):=(a7y b d).bind λa=>(b1v a.1 b.day).bind λc=>(if(!a.2)then some true else some (!c.2)).bind λe=>if e then some ((⟨a3j,0,[]⟩:Statute),(⟨0,(⟨0,0⟩:Rounding),[],[],[],[],[]⟩:Version),9)else some (a.1,c.1,0)
def a06(b:O Int)(c:Int)(d:Int->A3 Int)(a:Int):A3 Int:=if(decide (a<(b.length:Int)))then(c7 b a).bind λe=>if(c==e)then some a else d (i64 (a+1))else some (-1:Int)
def a4p(a:O Int)(b:Int):A3 Int:=d9 FU (a06 a b) 0
def q9(b:O Int)(c:Int):A3 Bool:=(a4p b c).bind λa=>some (decide (a>=0))
def a08(b:bQ)(c:Int):A3 Bool:=(q9 b.rules.Members c).bind λa=>some a
def b7q(a:Int×Bool):A3 A4:=if a.2then some c0e else if(a.1==14)then some c6f else some a3j
def b4i(a:Int×Bool):A3 A4:=if a.2then some a9l else if(a.1==6)then some b82 else if(a.1==10)then some c1r else if(a.1==11)then joinC b7q (a.1,a.1==11)else if(a.1==12)then joinC b7q (a.1,a.1==12)else joinC b7q (a.1,a.1==13)
def c0m(a:Int×Bool):A3 A4:=if a.2then some a6w else if(a.1==4)then some c0p else if(a.1==5)then joinC b4i (a.1,a.1==5)else if(a.1==7)then joinC b4i (a.1,a.1==7)else if(a.1==8)then joinC b4i (a.1,a.1==8)else joinC b4i (a.1,a.1==9)
def b2r(a:Int):A3 A4:=if(a==1)then some b1y else if(a==2)then joinC c0m (a,a==2)else joinC c0m (a,a==3)
def c3y(b c:A4):A3 Int:=(a6y b c).bind λa=>some a
def c0c(b c:A4):A3 Bool:=(c3y b c).bind λa=>some (decide (a>=0))
def p9(b c:A4):A3 Bool:=(c0c c b).bind λa=>some a
def a9w(a d c:Int):A3 Bool:=(if(decide (a>=d))then some (decide (a<=c))else some false).bind λb=>some b
def b0d(a:Bool)(b f g:Int):A3 Bool:=(if a then(a9w b f g).bind λh=>some h else some false).bind λc=>(if c then some true else(if(!a)then some (b==0)else some false).bind λe=>some e).bind λd=>some d
def b8g(a:Span):A3 Bool:=(if(decide (a.From>=0))then some (decide (a.From<a.To))else some false).bind λb=>(if b then some (decide (a.To<=73049))else some false).bind λc=>some c
def b9v(a:aQ×Bool):A3 Bool:=if a.2then some (a.1.Ref !=a.1.Person)else some true
def b9u(a:aQ×Int×Bool):A3 Bool:=if a.2.2then some (a.1.Span.To==(i64 (a.1.Span.From+1)))else if(a.2.1==10)then joinC b9v (a.1,a.2.1==10)else joinC b9v (a.1,a.2.1==14)
def b3k(a:aQ):A3 Bool:=(b2r a.Kind).bind λb=>(if(b.toList==a3j.toList)then some true else(a9w a.Issuer 0 5).bind λz=>some (!z)).bind λB=>(if B then some true else(a9w a.Number 1 999).bind λA=>some (!A)).bind λv=>(if v then some true else(a9w a.Version 1 99).bind λw=>some (!w)).bind λx=>(if x then some true else(a9w a.Person 1 99).bind λy=>some (!y)).bind λu=>if u then some false else(p9 g49 b).bind λp=>(b0d p a.State 0 5).bind λs=>(if(!s)then some true else(p9 g4j b).bind λi=>(b0d i a.Seat 0 5).bind λf=>some (!f)).bind λe=>(if e then some true else(b8g a.Span).bind λl=>some (!l)).bind λq=>if q then some false else(p9 g3v b).bind λd=>(b0d d a.Share 1 100).bind λo=>(if(!o)then some true else(p9 g50 b).bind λn=>(b0d n a.Currency 1 999).bind λm=>some (!m)).bind λk=>(if k then some true else(p9 g4u b).bind λh=>(b0d h a.Amount 0 1000000000).bind λt=>some (!t)).bind λc=>(if c then some true else(p9 g5k b).bind λj=>(b0d j a.Ref 1 99).bind λr=>some (!r)).bind λg=>if g then some false else if(a.Kind==4)then some (a.State !=a.Seat)else if(a.Kind==11)then joinC b9u (a,a.Kind,a.Kind==11)else joinC b9u (a,a.Kind,a.Kind==12)
def a4e(a:aQ):A3 Bool:=(b3k a).bind λb=>(if b then some (!a.Withdrawn)else some false).bind λc=>some c
def a2b(b:O aQ)(c:((O aQ)×Int)->A3 (O aQ))(a:(O aQ)×Int):A3 (O aQ):=if(decide (a.2<(b.length:Int)))then(c7 b a.2).bind λd=>(a4e d).bind λe=>if e then(a4n 112 a.1 [d]).bind λf=>c (f,i64 (a.2+1))else c (a.1,i64 (a.2+1))else some a.1
def a3f(a:O aQ):A3 (O aQ):=d9 FU (a2b a) ([],0)
def a4f(b:O aQ):A3 (O aQ):=(a3f b).bind λa=>some a
def b21(c:O aQ)(f:Int)(d:(Int×Bool×Int)->A3 (Int×Bool))(a:Int×Bool×Int):A3 (Int×Bool):=if(decide (a.2.2<(c.length:Int)))then(c7 c a.2.2).bind λb=>(a4e b).bind λg=>(if g then some (b.Kind==f)else some false).bind λh=>(if h then(if(!a.2.1)then some true else some (decide (b.Span.From<a.1))).bind λi=>some i else some false).bind λe=>if e then d (b.Span.From,true,i64 (a.2.2+1))else d (a.1,a.2.1,i64 (a.2.2+1))else some (a.1,a.2.1)
def b4r(a:O aQ)(b:Int):A3 (Int×Bool):=d9 FU (b21 a b) (0,false,0)
def b4t(b:O aQ):A3 (Int×Bool):=(b4r b 11).bind λa=>some (a.1,a.2)
def b7l(b:O aQ):A3 (Int×Bool):=(b4r b 12).bind λa=>some (a.1,a.2)
def b48(a:Span×Int×Int):A3 Span:=if(decide (a.2.2<a.2.1))then some (⟨0,0⟩:Span)else some (⟨a.2.1,i64 (a.2.2+1)⟩:Span)
def a2i(b:O aQ):A3 Span:=(b4t b).bind λa=>(b7l b).bind λc=>if(!c.2)then joinC b48 ((⟨0,0⟩:Span),a.1,73048)else joinC b48 ((⟨0,0⟩:Span),a.1,c.1)
def c3q(a:Span):A3 Span:=some (⟨max a.From 0,min a.To 73049⟩:Span)
def c7q(b:Int):A3 Int:=(b8x b).bind λa=>some a
def b2e(k:O Span)(h:((O Span)×(O Span)×Int)->A3 (O Span))(a:(O Span)×(O Span)×Int):A3 (O Span):=if(decide (a.2.2<(k.length:Int)))then(c7 a.2.1 a.2.2).bind λm=>(c7 a.2.1 a.2.2).bind λb=>(if(decide ((a.1.length:Int)>0))then(c7 a.1 (i64 ((a.1.length:Int)-1))).bind λi=>(c7 a.1 (i64 ((a.1.length:Int)-1))).bind λc=>some (decide (b.From<=c.To))else some false).bind λe=>if e then(c7 a.1 (i64 ((a.1.length:Int)-1))).bind λj=>(c7 a.1 (i64 ((a.1.length:Int)-1))).bind λg=>(c7 a.1 (i64 ((a.1.length:Int)-1))).bind λl=>(c7 a.1 (i64 ((a.1.length:Int)-1))).bind λd=>h (a8h a.1 (i64 ((a.1.length:Int)-1)) (⟨d.From,max g.To b.To⟩:Span),a.2.1,i64 (a.2.2+1))else(a4n 16 a.1 [b]).bind λf=>h (f,a.2.1,i64 (a.2.2+1))else some a.1
def b5z(c:O Span)(d:((O Span)×(O Span)×Int)->A3 (O Span))(a:(O Span)×(O Span)×Int):A3 (O Span):=if(decide (a.2.2<(c.length:Int)))then(c7 c a.2.2).bind λg=>(c3q g).bind λb=>if(decide (b.From<b.To))then(a4n 16 a.1 [b]).bind λf=>d (f,[],i64 (a.2.2+1))else d (a.1,[],i64 (a.2.2+1))else(b3w a.1).bind λe=>d9 FU (b2e e) ([],e,0)
def a2w(a:O Span):A3 (O Span):=d9 FU (b5z a) ([],[],0)
def a92(d:((O Span)×(O Span)×(O Span)×Int×Int)->A3 (O Span))(a:(O Span)×(O Span)×(O Span)×Int×Int):A3 (O Span):=(c7 a.1 a.2.2.2.1).bind λf=>(c7 a.1 a.2.2.2.1).bind λc=>(c7 a.2.1 a.2.2.2.2).bind λe=>(c7 a.2.1 a.2.2.2.2).bind λb=>if(decide (c.To<b.To))then d (a.1,a.2.1,a.2.2.1,i64 (a.2.2.2.1+1),a.2.2.2.2)else d (a.1,a.2.1,a.2.2.1,a.2.2.2.1,i64 (a.2.2.2.2+1))
def b2h(f:((O Span)×(O Span)×(O Span)×Int×Int)->A3 (O Span))(a:(O Span)×(O Span)×(O Span)×Int×Int):A3 (O Span):=(if(decide (a.2.2.2.1<(a.1.length:Int)))then some (decide (a.2.2.2.2<(a.2.1.length:Int)))else some false).bind λi=>if i then(c7 a.1 a.2.2.2.1).bind λl=>(c7 a.1 a.2.2.2.1).bind λe=>(c7 a.2.1 a.2.2.2.2).bind λk=>(c7 a.2.1 a.2.2.2.2).bind λg=>(c7 a.1 a.2.2.2.1).bind λj=>(c7 a.1 a.2.2.2.1).bind λb=>(c7 a.2.1 a.2.2.2.2).bind λh=>(c7 a.2.1 a.2.2.2.2).bind λc=>if(decide ((max e.From g.From)<(min b.To c.To)))then(a4n 16 a.2.2.1 [(⟨max e.From g.From,min b.To c.To⟩:Span)]).bind λd=>joinC (a92 f) (a.1,a.2.1,d,a.2.2.2.1,a.2.2.2.2)else joinC (a92 f) (a.1,a.2.1,a.2.2.1,a.2.2.2.1,a.2.2.2.2)else some a.2.2.1
def b2g(b c:O Span):A3 (O Span):=(a2w b).bind λa=>(a2w c).bind λd=>d9 FU b2h (a,d,[],0,0)
def s6(b:O Span)(c:Span):A3 (O Span):=(b2g b [c]).bind λa=>some a
def b1d(a:Int):A3 Bool:=some (a !=a)
def a2c(a b:Int):A3 Int:=(b1d a).bind λd=>(b1d b).bind λc=>if d then if c then some 0 else some (-1:Int)else if c then some 1 else if(decide (a<b))then some (-1:Int)else if(decide (a>b))then some 1 else some 0
def b58(b:O Int)(d:Int->A3 Int)(a:Int):A3 Int:=if(decide (a<(b.length:Int)))then(c7 b a).bind λc=>if(c !=0)then some c else d (i64 (a+1))else some 0
def b67(a:O Int):A3 Int:=d9 FU (b58 a) 0
def a0j(a b:Posting):A3 Int:=(a2c a.Span.From b.Span.From).bind λf=>(a2c a.Seat b.Seat).bind λc=>(a2c a.State b.State).bind λe=>(b67 [f,c,e]).bind λd=>some d
def a1d(q:Int)(p:((O Posting)×Int)->A3 (O Posting))(h:(O Posting)×Int)(m:((O Posting)×Int)->A3 (O Posting))(a:(O Posting)×Int):A3 (O Posting):=(if(decide (a.2>q))then(c7 a.1 a.2).bind λr=>(c7 a.1 a.2).bind λi=>(c7 a.1 (i64 (a.2-1))).bind λs=>(c7 a.1 (i64 (a.2-1))).bind λo=>(a0j i o).bind λg=>some (decide (g<0))else some false).bind λd=>if d then(c7 a.1 (i64 (a.2-1))).bind λn=>(c7 a.1 (i64 (a.2-1))).bind λb=>(c7 a.1 a.2).bind λf=>(c7 a.1 a.2).bind λc=>(c7 a.1 a.2).bind λj=>(c7 a.1 a.2).bind λl=>(c7 (a8h a.1 a.2 b) (i64 (a.2-1))).bind λe=>(c7 (a8h a.1 a.2 b) (i64 (a.2-1))).bind λk=>m (a8h (a8h a.1 a.2 b) (i64 (a.2-1)) c,i64 (a.2-1))else p (a.1,i64 (h.2+1))
def a1f(c b:Int)(d:((O Posting)×Int)->A3 (O Posting))(a:(O Posting)×Int):A3 (O Posting):=if(decide (a.2<c))then d9 FU (a1d b d a) (a.1,a.2)else some a.1
def m6(b:O Posting)(a c:Int):A3 (O Posting):=d9 FU (a1f c a) (b,i64 (a+1))
structure oQ where f_slices_pdqsortCmpFunc_of_api_Posting:(List Posting)->Int->Int->Int->Option (List Posting)
def a2d(R:oQ)(a:(O Posting)×Int×Int×Int×Unit×Bool×Bool×Int):A3 (O Posting):=none
def i6(R:oQ)(c:((O Posting)×Int×Int×Int×Bool×Bool)->A3 (O Posting))(a:(O Posting)×Int×Int×Int×Bool×Bool):A3 (O Posting):=if(decide ((i64 (a.2.2.1-a.2.1))<=12))then(m6 a.1 a.2.1 a.2.2.1).bind λb=>some b else if(a.2.2.2.1==0)then none else if(!a.2.2.2.2.1)then none else joinC (a2d R) (a.1,a.2.1,a.2.2.1,a.2.2.2.1,(),a.2.2.2.2.1,a.2.2.2.2.2,i64 (a.2.2.1-a.2.1))
def i7(R:oQ)(a:O Posting)(d b c:Int):A3 (O Posting):=d9 FU (i6 R) (a,d,b,c,true,true)
def c3:Nat->oQ|0=>⟨λ_ _ _ _=>none⟩|n+1=>⟨i7 (c3 n)⟩
def y6(a:O Posting)(d b c:Int):A3 (O Posting):=(c3 FU).f_slices_pdqsortCmpFunc_of_api_Posting a d b c
def c9(a:O Posting):A3 (O Posting):=(c7q (u64 ((a.length:Int)))).bind λb=>(y6 a 0 (a.length:Int) b).bind λc=>some c
def b6k(L:O ((Int×Int)×O Span))(f:aQ):O ((Int×Int)×O Span):=if f.Kind=4then f7i L (f.Seat,f.State) f.Span else L
def b4v(l:O aQ):O ((Int×Int)×O Span)->O Posting->A3 (O Posting)|[],a=>some a|q::M,a=>Option.bind (a2i l) λs=>Option.bind (s6 q.2 s) λc=>if a.length+c.length<=100000then b4v l M (a++c.map λx=>⟨q.1.1,q.1.2,x⟩)else none
noncomputable def competence_Postings(a:O aQ):A3 (O Posting):=Option.bind (a4f a) λb=>if b.length<=1000/\(b.all λf=>c4v f.Seat&&c4v f.State)=true then allP (λM=>M.Perm (b.foldl b6k [])) (λM=>Option.bind (b4v a M []) λc=>c9 c)else none
def a9c(a:O aQ)(b:O Rules):A3 (lQ×Bool):=(a4f a).bind λf=>(a2i a).bind λc=>(competence_Postings a).bind λe=>(a9n b).bind λd=>some ((⟨f,c,e,b⟩:lQ),d==0)
def a1r(h:((O Int)×Int×Int×(Int×Nat))->A3 (O Int))(a:(O Int)×Int×Int×(Int×Nat)):A3 (O Int):=if(decide (a.2.2.1<(a.2.2.2.2:Int)))then(c72 a.1 a.2.2.2.1 a.2.2.1).bind λl=>(c7 a.1 (a.2.2.2.1+a.2.2.1)).bind λb=>(c72 a.1 a.2.2.2.1 (i64 (a.2.2.1-1))).bind λi=>(c7 a.1 (a.2.2.2.1+(i64 (a.2.2.1-1)))).bind λd=>if(b !=d)then(c72 a.1 a.2.2.2.1 a.2.2.1).bind λk=>(c7 a.1 (a.2.2.2.1+a.2.2.1)).bind λf=>(c7 a.1 a.2.1).bind λm=>(c7 a.1 a.2.1).bind λj=>h (a8h a.1 a.2.1 f,i64 (a.2.1+1),i64 (a.2.2.1+1),(a.2.2.2.1,a.2.2.2.2))else h (a.1,a.2.1,i64 (a.2.2.1+1),(a.2.2.2.1,a.2.2.2.2))else(a1x a.1 a.2.1 (a.1.length:Int)).bind λe=>(h1h 0 a.1 a.2.1 e.length).bind λc=>(a1x c 0 a.2.1).bind λg=>some g
def a0c(c:((O Int)×Int)->A3 (O Int))(a:(O Int)×Int):A3 (O Int):=if(decide (a.2<(a.1.length:Int)))then(c7 a.1 a.2).bind λg=>(c7 a.1 a.2).bind λd=>(c7 a.1 (i64 (a.2-1))).bind λf=>(c7 a.1 (i64 (a.2-1))).bind λe=>if(d==e)then(a1x a.1 a.2 (a.1.length:Int)).bind λb=>d9 FU a1r (a.1,a.2,1,(a.2,b.length))else c (a.1,i64 (a.2+1))else some a.1
def a0n(a:O Int):A3 (O Int):=if(decide ((a.length:Int)<2))then some a else d9 FU a0c (a,1)
def a81(e:lQ×(O Int)×Int)(f:(lQ×(O Int)×Int)->A3 (O Int))(c:(lQ×(O Int)×Rules×Int)->A3 (O Int))(a:lQ×(O Int)×Rules×Int):A3 (O Int):=if(decide (a.2.2.2<(e.1.postings.length:Int)))then(c7 e.1.postings a.2.2.2).bind λb=>(a4n 8 a.2.1 [min (i64 (b.Span.From+a.2.2.1.PostingLimit)) 73049]).bind λd=>c (a.1,d,a.2.2.1,i64 (a.2.2.2+1))else f (a.1,a.2.1,i64 (e.2.2+1))
def a89(e:lQ×(O Int)×Int)(g:(lQ×(O Int)×Int)->A3 (O Int))(a:lQ×(O Int)×Int):A3 (O Int):=if(decide (a.2.2<(e.1.rules.length:Int)))then(c7 e.1.rules a.2.2).bind λd=>(a4n 8 a.2.1 [d.From]).bind λf=>d9 FU (a81 a g) (a.1,f,d,0)else(b8s a.2.1).bind λc=>(a0n c).bind λb=>some b
def a8a(b:lQ)(d:(lQ×(O Int)×Int)->A3 (O Int))(a:lQ×(O Int)×Int):A3 (O Int):=if(decide (a.2.2<(b.facts.length:Int)))then(c7 b.facts a.2.2).bind λc=>(a4n 8 a.2.1 [c.Span.From,c.Span.To]).bind λe=>d (a.1,e,i64 (a.2.2+1))else d9 FU (a89 a) (a.1,a.2.1,0)
def a6t(a:lQ):A3 (O Int):=d9 FU (a8a a) (a,[0,73049,a.span.From,a.span.To],0)
def a4l(a:Span)(b:Int):A3 Bool:=(if(decide (a.From<=b))then some (decide (b<a.To))else some false).bind λc=>some c
def a2q(c:lQ)(d h:Int)(e:Int->A3 (Int×Bool))(b:Int):A3 (Int×Bool):=if(decide (b<(c.postings.length:Int)))then(c7 c.postings b).bind λa=>(a4l a.Span d).bind λf=>(if f then some (decide (d<(i64 (a.Span.From+h))))else some false).bind λg=>if g then some (a.Seat,true)else e (i64 (b+1))else some (0,false)
def a4c(a:lQ)(c b:Int):A3 (Int×Bool):=d9 FU (a2q a c b) 0
def a9u(c:lQ)(j:O Int)(f:Int)(d:((O aQ)×Int)->A3 (O aQ))(a:(O aQ)×Int):A3 (O aQ):=if(decide (a.2<(c.facts.length:Int)))then(c7 c.facts a.2).bind λb=>(q9 j b.Kind).bind λg=>(if g then(a4l b.Span f).bind λh=>some h else some false).bind λi=>if i then(a4n 112 a.1 [b]).bind λe=>d (e,i64 (a.2+1))else d (a.1,i64 (a.2+1))else some a.1
def a2j(a:lQ)(c:Int)(b:O Int):A3 (O aQ):=d9 FU (a9u a b c) ([],0)
def a3m(g:O aQ)(c:(aQ×Bool×(O aQ)×Int)->A3 (Int×Bool))(a:aQ×Bool×(O aQ)×Int):A3 (Int×Bool):=if(decide (a.2.2.2<(g.length:Int)))then(c7 a.2.2.1 a.2.2.2).bind λh=>(c7 a.2.2.1 a.2.2.2).bind λb=>(if(!a.2.1)then some true else some (decide (b.Share>a.1.Share))).bind λf=>(if f then some true else(if(b.Share==a.1.Share)then some (decide (b.State<a.1.State))else some false).bind λd=>some d).bind λe=>if e then c (b,true,a.2.2.1,i64 (a.2.2.2+1))else c (a.1,a.2.1,a.2.2.1,i64 (a.2.2.2+1))else some (a.1.State,a.2.1)
def a5v(b:lQ)(c:Int):A3 (Int×Bool):=(a2j b c [3]).bind λa=>d9 FU (a3m a) ((⟨0,0,0,false,0,0,0,(⟨0,0⟩:Span),0,0,0,0,0⟩:aQ),false,a,0)
def b5c(a:Span)(b:Int):A3 Bool:=(if(decide (a.From<=b))then some (decide (b<a.To))else some false).bind λc=>some c
def o5(c:O Span)(a:Int)(d:Int->A3 Int)(b:Int):A3 Int:=if(decide (b<(c.length:Int)))then(c7 c b).bind λf=>(b5c f a).bind λe=>if e then some b else d (i64 (b+1))else some (-1:Int)
def y4(b:O Span)(a:Int):A3 Int:=d9 FU (o5 b a) 0
def s8(c:O Span)(a:Int):A3 Bool:=(y4 c a).bind λb=>some (decide (b>=0))
def a8r(c:O Span)(a:Int):A3 Bool:=(if(decide (a<0))then some true else some (decide (a>=73049))).bind λb=>if b then some false else(s8 c a).bind λd=>some d
def a4t(h:O aQ)(i:Int)(f:(aQ×Bool×Int)->A3 (Int×Bool))(a:aQ×Bool×Int):A3 (Int×Bool):=if(decide (a.2.2<(h.length:Int)))then(c7 h a.2.2).bind λb=>(a4e b).bind λj=>(if(!j)then some true else some (b.Kind !=5)).bind λk=>(if k then some true else some (decide (i<b.Span.From))).bind λl=>(if l then some true else some (decide (i>=b.Span.To))).bind λg=>if g then f (a.1,a.2.1,i64 (a.2.2+1))else(if(!a.2.1)then some true else some (decide (b.Span.From>a.1.Span.From))).bind λc=>(if c then some true else(if(b.Span.From==a.1.Span.From)then some (decide (b.State<a.1.State))else some false).bind λd=>some d).bind λe=>if e then f (b,true,i64 (a.2.2+1))else f (a.1,a.2.1,i64 (a.2.2+1))else some (a.1.State,a.2.1)
def a8j(b:O aQ)(a:Int):A3 (Int×Bool):=(m7 a).bind λe=>if(!e)then some (0,false)else(a2i b).bind λc=>(a8r [c] a).bind λd=>if(!d)then some (0,false)else d9 FU (a4t b a) ((⟨0,0,0,false,0,0,0,(⟨0,0⟩:Span),0,0,0,0,0⟩:aQ),false,0)
def a7p(b:O aQ)(c:((O Int)×Int)->A3 (O Int))(a:(O Int)×Int):A3 (O Int):=if(decide (a.2<(b.length:Int)))then(c7 b a.2).bind λf=>(a4n 8 a.1 [f.Seat]).bind λd=>c (d,i64 (a.2+1))else(b8s a.1).bind λe=>(a0n e).bind λg=>some g
def b12(a:O aQ):A3 (O Int):=d9 FU (a7p a) ([],0)
def a0f(d:O Int)(b:((O (Int×Int))×Int×(O Int)×Int)->A3 (Int×Bool))(a:(O (Int×Int))×Int×(O Int)×Int):A3 (Int×Bool):=if(decide (a.2.2.2<((List.map (λx=>x) d).length:Int)))then(c7 a.2.2.1 a.2.2.2).bind λe=>(c7 a.2.2.1 a.2.2.2).bind λc=>if(decide ((b5g a.1 c)>(b5g a.1 a.2.1)))then b (a.1,c,a.2.2.1,i64 (a.2.2.2+1))else b (a.1,a.2.1,a.2.2.1,i64 (a.2.2.2+1))else some (a.2.1,true)
def a2g(r:O aQ)(p y:Int)(t:(lQ×(O (Int×Int))×Int×(O aQ)×Int)->A3 (Int×Bool))(b:lQ×(O (Int×Int))×Int×(O aQ)×Int):A3 (Int×Bool):=if(decide (b.2.2.2.2<(r.length:Int)))then(c7 b.2.2.2.1 b.2.2.2.2).bind λA=>(c7 b.2.2.2.1 b.2.2.2.2).bind λe=>t (b.1,a62 b.2.1 e.State (i64 ((b5g b.2.1 e.State)+e.Share)),i64 (b.2.2.1+e.Share),b.2.2.2.1,i64 (b.2.2.2.2+1))else(c8c b.2.1).bind λd=>if(((List.map (λx=>x) d).length:Int)==0)then some (0,false)else if(((List.map (λx=>x) d).length:Int)==1)then(c7 (List.map (λx=>x) d) 0).bind λz=>(c7 (List.map (λx=>x) d) 0).bind λv=>some (v,true)else(a8j b.1.facts p).bind λc=>(if c.2then some (c7s b.2.1 c.1)else some false).bind λm=>(if m then some (decide ((i64 (100*(b5g b.2.1 c.1)))>=(i64 (y*b.2.2.1))))else some false).bind λo=>if o then some (c.1,true)else(a2j b.1 p [1]).bind λi=>(b12 i).bind λa=>if((a.length:Int)==1)then(c7 a 0).bind λq=>(c7 a 0).bind λj=>some (j,true)else(if c.2then some ((a.length:Int)==2)else some false).bind λn=>(if n then(q9 a c.1).bind λg=>some g else some false).bind λl=>if l then(c7 a 0).bind λu=>(c7 a 0).bind λk=>(c7 a 1).bind λs=>(c7 a 1).bind λh=>some (i64 ((i64 (k+h))-c.1),true)else if c.2then some (c.1,true)else(c7 (List.map (λx=>x) d) 0).bind λw=>(c7 (List.map (λx=>x) d) 0).bind λf=>d9 FU (a0f d) (b.2.1,f,(List.map (λx=>x) d),0)
def a3v(b:lQ)(c d:Int):A3 (Int×Bool):=(a2j b c [1,2]).bind λa=>d9 FU (a2g a c d) (b,[],0,a,0)
def a6j(b c:aQ):A3 Int:=(a2c b.State c.State).bind λa=>some a
def y9(b:(O aQ)×Unit×aQ)(c:(aQ×aQ×Int)->A3 aQ)(a:aQ×aQ×Int):A3 aQ:=if(decide (a.2.2<(b.1.length:Int)))then(c7 b.1 a.2.2).bind λe=>(a6j e a.2.1).bind λf=>if(decide (f<0))then(c7 b.1 a.2.2).bind λd=>c (a.1,d,i64 (a.2.2+1))else c (a.1,a.2.1,i64 (a.2.2+1))else some a.2.1
def a00(a:(O aQ)×Unit×aQ):A3 aQ:=(c7 a.1 0).bind λb=>d9 FU (y9 a) (a.2.2,b,1)
def m5(a:O aQ):A3 aQ:=if(decide ((a.length:Int)<1))then none else joinC a00 (a,(),(⟨0,0,0,false,0,0,0,(⟨0,0⟩:Span),0,0,0,0,0⟩:aQ))
def a4b(b:lQ)(c:Int):A3 (Int×Bool):=(a2j b c [7,8]).bind λa=>if((a.length:Int)==0)then some (0,false)else(m5 a).bind λd=>some (d.State,true)
def a7m(a:lQ)(b:Int):A3 (Int×Int):=(b2q a.rules b).bind λc=>(if(!c.2)then some true else(a4l a.span b).bind λi=>some (!i)).bind λj=>if j then some ((-1:Int),0)else(a4c a b c.1.PostingLimit).bind λf=>if f.2then some (f.1,1)else(a5v a b).bind λg=>if g.2then some (g.1,2)else(a3v a b c.1.Substantial).bind λh=>if h.2then some (h.1,3)else(a4b a b).bind λd=>if d.2then some (d.1,4)else(a8j a.facts b).bind λe=>if e.2then some (e.1,5)else some ((-1:Int),0)
def b8r(m:(lQ×(O gQ)×(O Int)×Int)->A3 (O gQ))(a:lQ×(O gQ)×(O Int)×Int):A3 (O gQ):=if(decide ((i64 (a.2.2.2+1))<(a.2.2.1.length:Int)))then(c7 a.2.2.1 a.2.2.2).bind λx=>(c7 a.2.2.1 a.2.2.2).bind λs=>(a7m a.1 s).bind λc=>if(c.2==0)then m (a.1,a.2.1,a.2.2.1,i64 (a.2.2.2+1))else(if(decide ((a.2.1.length:Int)>0))then(c7 a.2.1 (i64 ((a.2.1.length:Int)-1))).bind λy=>(c7 a.2.1 (i64 ((a.2.1.length:Int)-1))).bind λp=>(c7 a.2.2.1 a.2.2.2).bind λu=>(c7 a.2.2.1 a.2.2.2).bind λn=>some (p.Span.To==n)else some false).bind λh=>(if h then(c7 a.2.1 (i64 ((a.2.1.length:Int)-1))).bind λo=>(c7 a.2.1 (i64 ((a.2.1.length:Int)-1))).bind λf=>some (f.State==c.1)else some false).bind λi=>(if i then(c7 a.2.1 (i64 ((a.2.1.length:Int)-1))).bind λv=>(c7 a.2.1 (i64 ((a.2.1.length:Int)-1))).bind λe=>some (e.Rule==c.2)else some false).bind λk=>if k then(c7 a.2.2.1 (i64 (a.2.2.2+1))).bind λt=>(c7 a.2.2.1 (i64 (a.2.2.2+1))).bind λj=>(c7 a.2.1 (i64 ((a.2.1.length:Int)-1))).bind λr=>(c7 a.2.1 (i64 ((a.2.1.length:Int)-1))).bind λb=>m (a.1,a8h a.2.1 (i64 ((a.2.1.length:Int)-1)) (⟨(⟨b.Span.From,j⟩:Span),b.State,b.Rule⟩:gQ),a.2.2.1,i64 (a.2.2.2+1))else(c7 a.2.2.1 a.2.2.2).bind λw=>(c7 a.2.2.1 a.2.2.2).bind λd=>(c7 a.2.2.1 (i64 (a.2.2.2+1))).bind λq=>(c7 a.2.2.1 (i64 (a.2.2.2+1))).bind λl=>(a4n 32 a.2.1 [(⟨(⟨d,l⟩:Span),c.1,c.2⟩:gQ)]).bind λg=>m (a.1,g,a.2.2.1,i64 (a.2.2.2+1))else some a.2.1
def a4h(b:O aQ)(c:O Rules):A3 (O gQ):=(a9c b c).bind λa=>if(!a.2)then some []else(a6t a.1).bind λd=>d9 FU b8r (a.1,[],d,0)
def a1s(d:Int)(b:O Span)(k:O Period)(h:Scheme)(i:O Period):A3 ((O Period)×(O Period)):=lpC (i,([]:O Period),(0:Int)) λe⟨c,j,a⟩=>if(decide (a<(b.length:Int)))then(c7 b a).bind λf=>(a4n 32 c [(⟨h.State,d,f⟩:Period)]).bind λg=>e (g,[],i64 (a+1))else some ([],c)
def b1h(c:O gQ)(e i:Int)(d:((O Span)×Int)->A3 (O Span))(a:(O Span)×Int):A3 (O Span):=if(decide (a.2<(c.length:Int)))then(c7 c a.2).bind λb=>(if(b.State==e)then some (decide (b.Rule<=i))else some false).bind λf=>if f then(a4n 16 a.1 [b.Span]).bind λg=>d (g,i64 (a.2+1))else d (a.1,i64 (a.2+1))else(a2w a.1).bind λh=>some h
def b1e(a:O gQ)(c b:Int):A3 (O Span):=d9 FU (b1h a c b) ([],0)
def b3o:A3 (O Anon195):=some [(⟨6,2⟩:Anon195),(⟨9,3⟩:Anon195),(⟨7,4⟩:Anon195),(⟨8,5⟩:Anon195),(⟨10,6⟩:Anon195),(⟨5,7⟩:Anon195)]
def b56(a:Credit)(b:Int):A3 Bool:=some (a.Kind==b)
def q0(c:O Credit)(a:Int)(d:Int->A3 Int)(b:Int):A3 Int:=if(decide (b<(c.length:Int)))then(c7 c b).bind λf=>(b56 f a).bind λe=>if e then some b else d (i64 (b+1))else some (-1:Int)
def t7(b:O Credit)(a:Int):A3 Int:=d9 FU (q0 b a) 0
def b43(b:Version)(c:Int):A3 (Int×Bool):=(t7 b.Credits c).bind λa=>if(decide (a<0))then some (0,false)else(c7 b.Credits a).bind λd=>some (d.Limit,true)
def b6o(c:O aQ)(g k:Int)(d:((O Span)×Int)->A3 (O Span))(a:(O Span)×Int):A3 (O Span):=if(decide (a.2<(c.length:Int)))then(c7 c a.2).bind λb=>(a4e b).bind λh=>(if h then some (b.Kind==g)else some false).bind λi=>(if i then some (b.State==k)else some false).bind λj=>if j then(a4n 16 a.1 [b.Span]).bind λe=>d (e,i64 (a.2+1))else d (a.1,i64 (a.2+1))else(a2i c).bind λf=>(s6 a.1 f).bind λl=>some l
def b7p(a:O aQ)(c b:Int):A3 (O Span):=d9 FU (b6o a c b) ([],0)
def b2y(c:(Int×(O Span)×(O Span)×Int)->A3 (O Span))(a:Int×(O Span)×Span×(O Span)×Int×Int):A3 (O Span):=(a4n 16 a.2.1 [a.2.2.1]).bind λb=>c (i64 (a.1-(i64 (a.2.2.1.To-a.2.2.1.From))),b,a.2.2.2.1,i64 (a.2.2.2.2.2+1))
def b4k(h:O Span)(i:Int):A3 (O Span):=(a2w h).bind λf=>lpC (i,([]:O Span),f,(0:Int)) λg⟨b,e,d,c⟩=>if(decide (c<(f.length:Int)))then(c7 d c).bind λj=>(c7 d c).bind λa=>if(decide (b<1))then some e else if(decide ((i64 (a.To-a.From))>b))then joinC (b2y g) (b,e,(⟨a.From,i64 (a.From+b)⟩:Span),d,(f.length:Int),c)else joinC (b2y g) (b,e,a,d,(f.length:Int),c)else some e
def b1c(s:O aQ)(y:Int)(z:Span)(v:Int):A3 (O Span):=lpC (z,([]:O Span),(1:Int)) λt⟨w,u,h⟩=>if(decide (h<=99))then(a4f s).bind λr=>lpC (w,u,([]:O Span),r,(0:Int)) λd⟨c,f,g,e,a⟩=>if(decide (a<(r.length:Int)))then(c7 e a).bind λx=>(c7 e a).bind λb=>(if(b.Kind==10)then some (b.State==y)else some false).bind λj=>(if j then some (b.Ref==h)else some false).bind λm=>if m then(a4n 16 g [b.Span]).bind λq=>d (c,f,q,e,i64 (a+1))else d (c,f,g,e,i64 (a+1))else if(decide ((g.length:Int)>0))then(a2i s).bind λi=>(s6 g i).bind λp=>(s6 p c).bind λo=>(b4k o v).bind λn=>(a4n 16 f n).bind λl=>t (c,l,i64 (h+1))else t (c,f,i64 (h+1))else(a2w u).bind λk=>some k
def a7e(D:O aQ)(P:O gQ)(o:O Scheme)(q:Int):A3 ((O Period)×Int):=(if(decide (q<0))then some true else some (decide (q>73049))).bind λF=>if F then some ([],1)else lpC (0:Int) λJ n=>if(decide (n<(o.length:Int)))then(c7 o n).bind λA=>(if(decide (A.State<0))then some true else some (decide (A.State>=6))).bind λH=>(if H then some true else(if(decide (n>0))then(c7 o (i64 (n-1))).bind λI=>some (decide (A.State<=I.State))else some false).bind λM=>some M).bind λN=>if N then some ([],1)else J (i64 (n+1))else lpC (([]:O Period),([]:O Period),(⟨0,q⟩:Span),(0:Int)) λB⟨C,L,m,j⟩=>if(decide (j<(o.length:Int)))then(c7 o j).bind λi=>(b1e P i.State 3).bind λv=>(s6 v m).bind λy=>(a1s 1 y [] i C).bind λp=>(b3o).bind λl=>lpC (p.2,([]:O Period),m,i,l,(0:Int),()) λh⟨f,K,c,a,e,b,G⟩=>if(decide (b<(l.length:Int)))then(c7 e b).bind λE=>(c7 e b).bind λd=>(b43 a.Version d.kind).bind λg=>if(!g.2)then h (f,[],c,a,e,i64 (b+1),())else(b7p D d.kind a.State).bind λw=>(s6 w c).bind λk=>(if(g.1!=0)then some (d.kind==10)else some false).bind λt=>if t then(b1c D a.State c g.1).bind λr=>(a1s d.rank r [] a f).bind λz=>h (z.2,[],c,a,e,i64 (b+1),())else if(g.1!=0)then(b4k k g.1).bind λu=>(a1s d.rank u [] a f).bind λs=>h (s.2,[],c,a,e,i64 (b+1),())else(a1s d.rank k [] a f).bind λx=>h (x.2,[],c,a,e,i64 (b+1),())else B (f,[],c,i64 (j+1))else some (C,0)
def b9z(d:O Period)(i e:Int):A3 (O Span):=lpC (([]:O Span),(0:Int)) λf⟨c,a⟩=>if(decide (a<(d.length:Int)))then(c7 d a).bind λb=>(if(b.State==i)then(if(e==0)then some true else some (b.Rank==e)).bind λj=>some j else some false).bind λk=>if k then(a4n 16 c [b.Span]).bind λg=>f (g,i64 (a+1))else f (c,i64 (a+1))else(a2w c).bind λh=>some h
def b2x(g:O Period):A3 (A3 (Ar 6 (Ar 7 (O Span)))):=lpC ((arZ 6 (arZ 7 []:Ar 7 (O Span)):Ar 6 (Ar 7 (O Span))),(0:Int)) λi⟨e,a⟩=>if(decide (a<6))then lpC (e,(0:Int)) λh⟨c,b⟩=>if(decide (b<7))then(b9z g a (i64 (b+1))).bind λf=>(c7 c.l a).bind λj=>(d0n 7 b).bind λk=>(c7 c.l a).bind λd=>h (Ar.set c a (Ar.set d b f),i64 (b+1))else i (c,i64 (a+1))else some (some e)
def a4a(g:Ar 6 (Ar 7 (O Span)))(i:Int):A3 (Int×(O Int)):=lpC (([]:O Int),(0:Int)) λj⟨l,c⟩=>if(decide (c<7))then lpC (l,(0:Int)) λe⟨a,b⟩=>if(decide (b<6))then(c7 g.l b).bind λf=>(c7 f.l c).bind λh=>(a8r h i).bind λk=>if k then(a4n 8 a [b]).bind λd=>e (d,i64 (b+1))else e (a,i64 (b+1))else if(decide ((a.length:Int)>0))then some (i64 (c+1),a)else j (a,i64 (c+1))else some (0,[])
def b90(b:O Span):A3 (Int×Bool):=(a2w b).bind λa=>if((a.length:Int)==0)then some (0,false)else(c7 a (i64 ((a.length:Int)-1))).bind λd=>(c7 a (i64 ((a.length:Int)-1))).bind λc=>some (i64 (c.To-1),true)
def a1b(b:Ar 6 (Ar 7 (O Span)))(c f:Int):A3 Int:=(c7 b.l c).bind λg=>(c7 g.l 0).bind λd=>(s6 d (⟨0,f⟩:Span)).bind λe=>(b90 e).bind λa=>if(!a.2)then some (-1:Int)else some a.1
def c4p(g:O Span)(e:Int):A3 (Int×Bool):=if(decide (e<0))then some (0,false)else(a2w g).bind λf=>lpC (e,f,(0:Int)) λh⟨c,d,b⟩=>if(decide (b<(f.length:Int)))then(c7 d b).bind λi=>(c7 d b).bind λa=>if(decide (c<(i64 (a.To-a.From))))then some (i64 (a.From+c),true)else h (i64 (c-(i64 (a.To-a.From))),d,i64 (b+1))else some (0,false)
def a2f(b:Ar 6 (Ar 7 (O Span)))(c f:Int):A3 Int:=(c7 b.l c).bind λg=>(c7 g.l 0).bind λd=>(s6 d (⟨i64 (f+1),73049⟩:Span)).bind λe=>(c4p e 0).bind λa=>if(!a.2)then some 73049 else some a.1
def a69(c:Ar 6 (Ar 7 (O Span)))(d:O Int)(h:Int):A3 Int:=(c7 d 0).bind λr=>(a1x d 1 (d.length:Int)).bind λl=>lpC (r,(0:Int)) λn⟨f,i⟩=>if(decide (i<(l.length:Int)))then(c7 l i).bind λm=>(a1b c m h).bind λo=>(a1b c f h).bind λp=>if(decide (o>p))then n (m,i64 (i+1))else n (f,i64 (i+1))else(a1b c f h).bind λq=>if(decide (q>=0))then some f else lpC (f,(0:Int)) λe⟨b,a⟩=>if(decide (a<(d.length:Int)))then(c7 d a).bind λg=>(a2f c g h).bind λj=>(a2f c b h).bind λk=>if(decide (j<k))then e (g,i64 (a+1))else e (b,i64 (a+1))else some b
def b17(b:Ar 6 (Ar 7 (O Span)))(c:Int):A3 (Int×Int×Bool):=(a4a b c).bind λa=>if(a.1==0)then some ((-1:Int),0,false)else(a69 b a.2 c).bind λd=>some (d,a.1,true)
def a72(c f:Int)(l:Ar 6 (Ar 7 (O Span)))(q a:O nQ):A3 ((O nQ)×(O nQ)):=(b17 l c).bind λb=>(if(!b.2.2)then some true else some (decide (c>=f))).bind λj=>if j then some ([],a)else(if(decide ((a.length:Int)>0))then(c7 a (i64 ((a.length:Int)-1))).bind λo=>(c7 a (i64 ((a.length:Int)-1))).bind λd=>(c7 a (i64 ((a.length:Int)-1))).bind λp=>(c7 a (i64 ((a.length:Int)-1))).bind λk=>some (((d.Span.From==k.Span.From)&&((d.Span.To==c)&&(true)))&&((d.State==b.1)&&((d.Rank==b.2.1)&&(true))))else some false).bind λi=>if i then(c7 a (i64 ((a.length:Int)-1))).bind λn=>(c7 a (i64 ((a.length:Int)-1))).bind λm=>(a1x a 0 (i64 ((a.length:Int)-1))).bind λh=>(a4n 32 h [(⟨(⟨m.Span.From,f⟩:Span),b.1,b.2.1⟩:nQ)]).bind λe=>some ([],e)else(a4n 32 a [(⟨(⟨c,f⟩:Span),b.1,b.2.1⟩:nQ)]).bind λg=>some ([],g)
def a8x(b c:O Int)(d:Int->A3 Bool)(a:Int):A3 Bool:=if(decide (a<(b.length:Int)))then(c7 b a).bind λf=>(c7 c a).bind λe=>if(f !=e)then some false else d (i64 (a+1))else some true
def a88(a b:O Int):A3 Bool:=if((a.length:Int)!=(b.length:Int))then some false else d9 FU (a8x a b) 0
def b7w(u:O (O Span)):A3 (O Piece):=(mkI 24 ([]:O Span) (u.length:Int) (u.length:Int)).bind λN=>lpC (N,([]:O Int),(0:Int)) λT⟨l,L,i⟩=>if(decide (i<(u.length:Int)))then(c7 u i).bind λS=>(a2w S).bind λG=>(c7 l i).bind λY=>(c7 l i).bind λX=>(c7 (a8h l i G) i).bind λW=>(c7 (a8h l i G) i).bind λt=>lpC (a8h l i G,L,(0:Int)) λJ⟨o,m,j⟩=>if(decide (j<(t.length:Int)))then(c7 t j).bind λs=>(a4n 8 m [s.From,s.To]).bind λw=>J (o,w,i64 (j+1))else T (o,m,i64 (i+1))else(b8s L).bind λD=>(a0n D).bind λC=>lpC (l,C,([]:O Piece),(0:Int)) λk⟨p,e,n,b⟩=>if(decide ((i64 (b+1))<(e.length:Int)))then(c7 e b).bind λR=>(c7 e b).bind λH=>(c7 e (i64 (b+1))).bind λM=>(c7 e (i64 (b+1))).bind λz=>lpC (p,e,n,([]:O Int),(⟨(⟨H,z⟩:Span),[]⟩:Piece),(0:Int)) λr⟨c,h,a,g,d,f⟩=>if(decide (f<(p.length:Int)))then(c7 c f).bind λP=>(c7 c f).bind λE=>(a8r E d.Span.From).bind λA=>if A then(a4n 8 g [f]).bind λv=>r (c,h,a,v,(⟨d.Span,[]⟩:Piece),i64 (f+1))else r (c,h,a,g,(⟨d.Span,[]⟩:Piece),i64 (f+1))else if((g.length:Int)==0)then k (c,h,a,i64 (b+1))else(if(decide ((a.length:Int)>0))then(c7 a (i64 ((a.length:Int)-1))).bind λQ=>(c7 a (i64 ((a.length:Int)-1))).bind λy=>some (y.Span.To==d.Span.From)else some false).bind λB=>(if B then(c7 a (i64 ((a.length:Int)-1))).bind λV=>(c7 a (i64 ((a.length:Int)-1))).bind λF=>(a88 F.Members g).bind λI=>some I else some false).bind λx=>if x then(c7 a (i64 ((a.length:Int)-1))).bind λU=>(c7 a (i64 ((a.length:Int)-1))).bind λq=>k (c,h,a8h a (i64 ((a.length:Int)-1)) (⟨(⟨q.Span.From,d.Span.To⟩:Span),q.Members⟩:Piece),i64 (b+1))else(a4n 40 a [(⟨d.Span,g⟩:Piece)]).bind λK=>k (c,h,K,i64 (b+1))else some n
def a71(q:O Period):A3 (O nQ):=(b2x q).bind λn=>optC n (none) λt=>lpC (t,([]:O (O Span)),(0:Int)) λu⟨j,l,f⟩=>if(decide (f<6))then(c7 j.l f).bind λr=>(a4n 24 l r.l).bind λs=>u (j,s,i64 (f+1))else(b7w l).bind λk=>lpC (j,([]:O nQ),([]:O nQ),k,(0:Int),()) λi⟨d,e,o,c,a,p⟩=>if(decide (a<(k.length:Int)))then(c7 c a).bind λm=>(c7 c a).bind λb=>(a72 b.Span.From (i64 (b.Span.From+1)) d [] e).bind λh=>(a72 (i64 (b.Span.From+1)) b.Span.To d [] h.2).bind λg=>i (d,g.2,[],c,i64 (a+1),())else some e
def b1l(a b:Int):A3 Bool:=some (a==b)
def a3g(e:bQ)(j:O aQ)(a:Int):A3 (O nQ):=lpC (e,([]:O Scheme),(0:Int)) λi⟨b,f,c⟩=>if(decide (c<(e.laws.States.length:Int)))then(c7 e.laws.States c).bind λg=>(b1l g.State a).bind λm=>if m then(b1v g.Statute b.day).bind λk=>(a4n 152 f [(⟨g.State,k.1⟩:Scheme)]).bind λl=>i (b,l,i64 (c+1))else i (b,f,i64 (c+1))else(a4h j b.laws.Treaty).bind λn=>(a7e j n f b.day).bind λh=>(a71 h.1).bind λd=>some d
def b3l(b:bQ)(d:O aQ)(c:Int):A3 (O nQ):=(a3g b d c).bind λa=>some a
def a0s(d:bQ)(i:O aQ)(m:bQ):A3 (O nQ):=lpC (d,([]:O Scheme),(0:Int)) λh⟨a,e,b⟩=>if(decide (b<(d.laws.States.length:Int)))then(c7 d.laws.States b).bind λf=>(a08 m f.State).bind λl=>if l then(b1v f.Statute a.day).bind λj=>(a4n 152 e [(⟨f.State,j.1⟩:Scheme)]).bind λk=>h (a,k,i64 (b+1))else h (a,e,i64 (b+1))else(a4h i a.laws.Treaty).bind λn=>(a7e i n e a.day).bind λg=>(a71 g.1).bind λc=>some c
def a2z(a:bQ)(b:O aQ)(c:Int):A3 (O nQ):=(a08 a c).bind λf=>if f then(a0s a b a).bind λd=>some d else(b3l a b c).bind λe=>some e
def b30(c:O aQ)(g:Int)(d:((O Int)×Int)->A3 (O Int))(a:(O Int)×Int):A3 (O Int):=if(decide (a.2<(c.length:Int)))then(c7 c a.2).bind λb=>(a4e b).bind λh=>(if h then some (b.Kind==10)else some false).bind λi=>(if i then some (decide (b.Span.From<g))else some false).bind λj=>if j then(a4n 8 a.1 [b.Ref]).bind λe=>d (e,i64 (a.2+1))else d (a.1,i64 (a.2+1))else(b8s a.1).bind λf=>(a0n f).bind λk=>some k
def b2v(a:O aQ)(b:Int):A3 (O Int):=d9 FU (b30 a b) ([],0)
def a3o(a:Int):A3 Int:=if(decide ((i64 (a-1900))>0))then(c2t (i64 ((i64 (a-1900))-1)) 4).bind λb=>some (i64 ((i64 (365*(i64 (a-1900))))+b))else some (i64 (365*(i64 (a-1900))))
def a7i(b:Int):A3 Int:=(a7l b).bind λa=>if a then some 366 else some 365
def a4d(b:Int):A3 (Int×Int×Int×Bool):=(m7 b).bind λm=>if(!m)then some (0,0,0,false)else(c2t b 366).bind λj=>lpC (i64 (1900+j)) λi a=>(a3o a).bind λk=>(a7i a).bind λl=>if(decide ((i64 (k+l))<=b))then i (i64 (a+1))else(a3o a).bind λh=>lpC ((1:Int),i64 (b-h)) λe⟨c,g⟩=>(a05 a c).bind λd=>if(decide (g>=d))then(a05 a c).bind λf=>e (i64 (c+1),i64 (g-f))else some (a,c,i64 (g+1),true)
def b1r(a b e:Int):A3 (Int×Bool):=(if(decide (a<1900))then some true else some (decide (a>2099))).bind λn=>(if n then some true else some (decide (b<1))).bind λi=>(if i then some true else some (decide (b>12))).bind λl=>(if l then some true else some (decide (e<1))).bind λj=>(if j then some true else(a05 a b).bind λk=>some (decide (e>k))).bind λm=>if m then some (0,false)else(a3o a).bind λh=>lpC (i64 ((i64 (h+e))-1),(1:Int)) λd⟨g,f⟩=>if(decide (f<b))then(a05 a f).bind λc=>d (i64 (g+c),i64 (f+1))else some (g,true)
def a6q(a:Int×Int×Int):A3 (Int×Bool):=(b1r a.1 a.2.1 a.2.2).bind λb=>some (b.1,b.2)
def b03(c b:Int):A3 (Int×Bool):=(a4d c).bind λa=>(if(!a.2.2.2)then some true else some (decide (b<0))).bind λd=>(if d then some true else some (decide (b>(i64 (2099-a.1))))).bind λg=>if g then some (0,false)else(if(a.2.1==2)then some (a.2.2.1==29)else some false).bind λe=>(if e then(a7l (i64 (a.1+b))).bind λf=>some (!f)else some false).bind λh=>if h then joinC a6q (i64 (a.1+b),3,1)else joinC a6q (i64 (a.1+b),a.2.1,a.2.2.1)
def b7r(a b:Int):A3 Int:=(m7 a).bind λi=>(if(!i)then some true else(m7 b).bind λf=>some (!f)).bind λh=>(if h then some true else some (decide (b<a))).bind λg=>if g then some (-1:Int)else(a4d a).bind λc=>(a4d b).bind λd=>(b03 a (i64 (d.1-c.1))).bind λe=>if(decide (e.1>b))then some (i64 ((i64 (d.1-c.1))-1))else some (i64 (d.1-c.1))
def c0z(h:O Span)(e:Int):A3 Int:=(a2w h).bind λg=>lpC ((0:Int),g,(0:Int)) λf⟨d,b,a⟩=>if(decide (a<(g.length:Int)))then(c7 b a).bind λi=>(c7 b a).bind λc=>if(decide (c.From<e))then f (i64 (d+(i64 ((min c.To e)-c.From))),b,i64 (a+1))else f (d,b,i64 (a+1))else some d
def b6h(b:O Span):A3 Int:=(c0z b 73049).bind λa=>some a
def a8q(d:O nQ)(e:Int)(k:O Int):A3 Int:=lpC (([]:O Span),(0:Int)) λf⟨c,a⟩=>if(decide (a<(d.length:Int)))then(c7 d a).bind λb=>(if(decide (e<0))then some true else some (b.State==e)).bind λi=>(if i then(q9 k b.Rank).bind λj=>some j else some false).bind λg=>if g then(a4n 16 c [b.Span]).bind λh=>f (h,i64 (a+1))else f (c,i64 (a+1))else(b6h c).bind λl=>some l
def b63(a:aQ)(b:Int):A3 Int:=(if(a.Kind==1)then some true else some (a.Kind==2)).bind λe=>(if e then some true else some (a.Kind==3)).bind λc=>if c then some 1 else(if(a.Kind==6)then some (a.State==b)else some false).bind λd=>if d then some 2 else some 0
def b6i(d:O nQ)(i e:Int):A3 (O Span):=lpC (([]:O Span),(0:Int)) λf⟨c,a⟩=>if(decide (a<(d.length:Int)))then(c7 d a).bind λb=>(if(b.State==i)then(if(e==0)then some true else some (b.Rank==e)).bind λj=>some j else some false).bind λk=>if k then(a4n 16 c [b.Span]).bind λg=>f (g,i64 (a+1))else f (c,i64 (a+1))else(a2w c).bind λh=>some h
def b13(j:O aQ)(n:O nQ)(l:Int):A3 (O earnings_income):=(a4f j).bind λm=>lpC (([]:O earnings_income),m,(0:Int)) λh⟨d,c,a⟩=>if(decide (a<(m.length:Int)))then(c7 c a).bind λp=>(c7 c a).bind λe=>(b63 e l).bind λk=>if(k==0)then h (d,c,i64 (a+1))else(b6i n l k).bind λo=>(s6 o e.Span).bind λi=>(a2i j).bind λf=>(s6 i f).bind λb=>if(decide ((b.length:Int)>0))then(a4n 136 d [(⟨e,b⟩:earnings_income)]).bind λg=>h (g,c,i64 (a+1))else h (d,c,i64 (a+1))else some d
def b5y(a:Int):A3 Span:=(b1r a 1 1).bind λb=>(b1r a 12 31).bind λc=>some (⟨b.1,i64 (c.1+1)⟩:Span)
def b6a(a:aQ)(b:Int):A3 Int:=(b3k a).bind λf=>(if(!f)then some true else some (decide (b<0))).bind λc=>(if c then some true else some (decide (b>(i64 (a.Span.To-a.Span.From))))).bind λe=>if e then some 0 else(c2t (i64 (a.Amount*b)) (i64 (a.Span.To-a.Span.From))).bind λd=>some d
def c17(a:Int):A3 Bool:=(if(decide (a>=(-1000000000000:Int)))then some (decide (a<=1000000000000))else some false).bind λb=>some b
def a1c(a:Rounding×Bool):A3 Bool:=if a.2then(if(decide (a.1.Unit>=1))then some (decide (a.1.Unit<=100000))else some false).bind λb=>some b else some false
def a2y(a:Rounding):A3 Bool:=if(a.Mode==1)then joinC a1c (a,a.Mode==1)else if(a.Mode==2)then joinC a1c (a,a.Mode==2)else if(a.Mode==3)then joinC a1c (a,a.Mode==3)else joinC a1c (a,a.Mode==4)
def b3x(a:Int):A3 Int:=if(decide (a<0))then some (u64 (i64 (-a)))else some (u64 (a))
def b2f(a:Rounding×Int):A3 (Int×Int):=(c2t 1000000000000 a.1.Unit).bind λc=>(if(decide (a.2>c))then some true else(c2t (-1000000000000:Int) a.1.Unit).bind λd=>some (decide (a.2<d))).bind λb=>if b then some (0,2)else some (i64 (a.2*a.1.Unit),0)
def a7a(a:Rounding×Int×Bool):A3 (Int×Int):=if a.2.2then joinC b2f (a.1,i64 (a.2.1+1))else joinC b2f (a.1,a.2.1)
def a9e(a:Rounding×Int×Int×Int):A3 (Int×Int):=if(a.1.Mode==2)then joinC a7a (a.1,a.2.2.2,decide (a.2.2.1>0))else if(a.1.Mode==3)then joinC a7a (a.1,a.2.2.2,decide (a.2.2.1>=(u64 (a.2.1-a.2.2.1))))else if(a.1.Mode==4)then(if(decide (a.2.2.1>(u64 (a.2.1-a.2.2.1))))then some true else(if(a.2.2.1==(u64 (a.2.1-a.2.2.1)))then(b8t a.2.2.2 2).bind λd=>some (d !=0)else some false).bind λc=>some c).bind λb=>joinC a7a (a.1,a.2.2.2,b)else joinC a7a (a.1,a.2.2.2,false)
def a9o(e:Bool)(d f c:Int)(a:Rounding):A3 (Int×Int):=if(decide (d>=(u64 (c*(u64 (a.Unit))))))then some (0,2)else(a8o d f (u64 (c*(u64 (a.Unit))))).bind λb=>if(decide (b.1>2000000000000))then some (0,2)else if e then if(decide (b.2>0))then joinC a9e (a,u64 (c*(u64 (a.Unit))),u64 ((u64 (c*(u64 (a.Unit))))-b.2),i64 ((i64 (-(i64 (b.1))))-1))else joinC a9e (a,u64 (c*(u64 (a.Unit))),b.2,i64 (-(i64 (b.1))))else joinC a9e (a,u64 (c*(u64 (a.Unit))),b.2,i64 (b.1))
def b6m(c:O Rate)(j l:Int):A3 (fQ×Bool):=lpC ((⟨0,0⟩:fQ),(-1:Int),(0:Int)) λf⟨g,a,b⟩=>if(decide (b<(c.length:Int)))then(c7 c b).bind λd=>(if(d.Currency==j)then some (decide (d.Month<=l))else some false).bind λk=>(if k then(if(decide (a<0))then some true else(c7 c a).bind λh=>some (decide (d.Month>h.Month))).bind λi=>some i else some false).bind λm=>if m then f (g,b,i64 (b+1))else f (g,a,i64 (b+1))else if(decide (a<0))then some ((⟨0,0⟩:fQ),false)else(c7 c a).bind λe=>some (e.Value,true)
def b3s(b a:Int):A3 (Int×Int):=(d0l .u64 b 32).bind λc=>(d0l .u64 a 32).bind λd=>(d0l .u64 (u64 ((d5y .u64 b 4294967295)*(d5y .u64 a 4294967295))) 32).bind λe=>(d0l .u64 (u64 ((u64 (c*(d5y .u64 a 4294967295)))+e)) 32).bind λf=>(d0l .u64 (u64 ((d5y .u64 (u64 ((u64 (c*(d5y .u64 a 4294967295)))+e)) 4294967295)+(u64 ((d5y .u64 b 4294967295)*d)))) 32).bind λg=>some (u64 ((u64 ((u64 (c*d))+f))+g),u64 (b*a))
def b68(d o p h:Int)(i:O Rate)(m:Rounding):A3 (Int×Int):=(c17 d).bind λr=>(if(!r)then some true else(a8n o).bind λw=>some (!w)).bind λy=>(if y then some true else(a8n p).bind λx=>some (!x)).bind λs=>(if s then some true else(b9g h).bind λt=>some (!t)).bind λu=>(if u then some true else(a2y m).bind λv=>some (!v)).bind λq=>(if q then some true else(a5r i).bind λk=>some (k !=0)).bind λn=>if n then some (0,1)else if(o==p)then(b3x d).bind λj=>(a9o (decide (d<0)) 0 j 1 m).bind λc=>some (c.1,c.2)else(b6m i o h).bind λa=>(b6m i p h).bind λb=>(if(!a.2)then some true else some (!b.2)).bind λl=>if l then some (0,9)else(b3x d).bind λg=>(b3s g (u64 ((u64 (a.1.Num))*(u64 (b.1.Den))))).bind λf=>(a9o (decide (d<0)) f.1 f.2 (u64 ((u64 (a.1.Den))*(u64 (b.1.Num)))) m).bind λe=>some (e.1,e.2)
def b4h(U:O aQ)(X:O nQ)(N C:Int)(P:O Rate):A3 ((O Earning)×Int):=(if(decide (N<0))then some true else some (decide (N>=6))).bind λS=>(if S then some true else some (decide (C<1))).bind λY=>(if Y then some true else some (decide (C>999))).bind λv3=>(if v3 then some true else(a5r P).bind λZ=>some (Z !=0)).bind λT=>if T then some ([],1)else(b13 U X N).bind λQ=>lpC (Q,([]:O (Int×Int)),(0:Int)) λH⟨z,M,y⟩=>if(decide (y<(Q.length:Int)))then(c7 z y).bind λW=>(c7 z y).bind λr=>lpC (z,M,(0:Int)) λJ⟨p,o,k⟩=>if(decide (k<(r.days.length:Int)))then(c7 r.days k).bind λn=>(a4d n.From).bind λI=>(a4d (i64 (n.To-1))).bind λG=>lpC (p,o,I.1) λE⟨u,t,f⟩=>if(decide (f<=G.1))then E (u,a62 t f 0,i64 (f+1))else J (u,t,i64 (k+1))else H (p,o,i64 (y+1))else(c8c M).bind λm=>lpC (z,M,([]:O Earning),(List.map (λx=>x) m),(0:Int)) λA⟨s,L,q,g,e⟩=>if(decide (e<((List.map (λx=>x) m).length:Int)))then(c7 g e).bind λV=>(c7 g e).bind λa=>lpC (s,L,q,g,(0:Int)) λw⟨c,b,j,h,d⟩=>if(decide (d<(s.length:Int)))then(c7 c d).bind λR=>(c7 c d).bind λi=>(b5y a).bind λD=>(s6 i.days D).bind λF=>(b6h F).bind λv=>if(v==0)then w (c,b,j,h,i64 (d+1))else(b6a i.fact v).bind λK=>(b68 K i.fact.Currency C (i64 ((i64 (12*(i64 (a-1900))))+11)) P (⟨1,1⟩:Rounding)).bind λl=>if(l.2!=0)then some ([],l.2)else w (c,a62 b a (i64 ((b5g b a)+l.1)),j,h,i64 (d+1))else if(decide ((b5g b a)>1000000000000))then some ([],2)else(a4n 16 j [(⟨a,b5g b a⟩:Earning)]).bind λB=>A (c,b,B,h,i64 (e+1))else some (q,0)
def b0w(d:Version)(k:Int):A3 fQ:=lpC (d,(⟨0,0⟩:fQ),(-1:Int),(0:Int)) λh⟨c,f,b,a⟩=>if(decide (a<(d.Series.length:Int)))then(c7 d.Series a).bind λg=>(if(decide (g.Year<=k))then(if(decide (b<0))then some true else(c7 c.Series b).bind λi=>some (decide (g.Year>i.Year))).bind λj=>some j else some false).bind λl=>if l then h (c,f,a,i64 (a+1))else h (c,f,b,i64 (a+1))else if(decide (b<0))then some (⟨1,1⟩:fQ)else(c7 c.Series b).bind λe=>some e.Factor
def b0x(a:fQ):A3 Bool:=(o7 a).bind λe=>(if e then some (decide (a.Num>0))else some false).bind λb=>(if b then some (decide (a.Num<=10000000000000))else some false).bind λd=>(if d then some (decide (a.Den<=10000))else some false).bind λc=>some c
def b2s(e:Version)(d l m:Int):A3 (Int×Int):=(b0w e m).bind λb=>(b0w e l).bind λa=>(if(decide (d<0))then some true else some (decide (d>1000000000000))).bind λi=>(if i then some true else(b0x b).bind λh=>some (!h)).bind λj=>(if j then some true else(b0x a).bind λk=>some (!k)).bind λg=>if g then some (0,1)else(b3s (u64 (d)) (u64 ((u64 (b.Num))*(u64 (a.Den))))).bind λc=>if(decide (c.1>=(u64 ((u64 (b.Den))*(u64 (a.Num))))))then some (0,2)else(a8o c.1 c.2 (u64 ((u64 (b.Den))*(u64 (a.Num))))).bind λf=>if(decide (f.1>1000000000000))then some (0,2)else some (i64 (f.1),0)
def b14(c:O Earning)(i:Version)(j:Int):A3 ((O Int)×Int):=lpC (i,([]:O Int),(0:Int)) λh⟨f,d,a⟩=>if(decide (a<(c.length:Int)))then(c7 c a).bind λe=>(b2s f e.Amount e.Year j).bind λb=>if(b.2!=0)then some ([],b.2)else(a4n 8 d [b.1]).bind λg=>h (f,g,i64 (a+1))else some (d,0)
def a70(c:Bool)(a b:rational_wide):A3 (fQ×Int):=(if(a.hi !=0)then some true else some (decide (a.lo>1000000000000000))).bind λf=>(if f then some true else some (b.hi !=0)).bind λd=>(if d then some true else some (decide (b.lo>1000000000))).bind λe=>if e then some ((⟨0,0⟩:fQ),2)else if c then some ((⟨i64 (-(i64 (a.lo))),i64 (b.lo)⟩:fQ),0)else some ((⟨i64 (a.lo),i64 (b.lo)⟩:fQ),0)
def b32(b c:Int):A3 (fQ×Int):=if(c==0)then some ((⟨0,0⟩:fQ),3)else(j5 b).bind λf=>(j5 c).bind λe=>(a7g f e).bind λa=>(if((decide (b<0))!=(decide (c<0)))then some (b !=0)else some false).bind λg=>(if a=0then none else some (u64 (Int.tdiv f a))).bind λh=>(if a=0then none else some (u64 (Int.tdiv e a))).bind λi=>(a70 g (⟨0,h⟩:rational_wide) (⟨0,i⟩:rational_wide)).bind λd=>some (d.1,d.2)
def b6e(a:O Int):A3 (fQ×Int):=if(decide ((a.length:Int)>200))then some ((⟨0,0⟩:fQ),1)else lpC ((⟨0,0⟩:fQ),(0:Int),(0:Int)) λf⟨h,e,c⟩=>if(decide (c<(a.length:Int)))then(c7 a c).bind λb=>(if(decide (b<0))then some true else some (decide (b>1000000000000))).bind λg=>if g then some ((⟨0,0⟩:fQ),1)else f (h,i64 (e+b),i64 (c+1))else if((a.length:Int)==0)then some ((⟨0,1⟩:fQ),0)else(b32 e (a.length:Int)).bind λd=>some (d.1,d.2)
def a7j(a:(O aQ)×(O nQ)×Int×bQ×(O Int)×View×Statute×Version×(O Int)×View×Int):A3 (View×Int):=(a8q a.2.1 a.2.2.2.2.2.2.2.2.2.2 [1]).bind λj=>(a8q a.2.1 a.2.2.2.2.2.2.2.2.2.2 [2]).bind λi=>(a8q a.2.1 a.2.2.2.2.2.2.2.2.2.2 [3]).bind λe=>(a8q a.2.1 a.2.2.2.2.2.2.2.2.2.2 [4,5]).bind λf=>(a8q a.2.1 a.2.2.2.2.2.2.2.2.2.2 [6]).bind λh=>(a8q a.2.1 a.2.2.2.2.2.2.2.2.2.2 [7]).bind λg=>(b4h a.1 a.2.1 a.2.2.1 a.2.2.2.2.2.2.1.Currency a.2.2.2.1.laws.Rates).bind λd=>if(d.2!=0)then some ((⟨0,0,0,0,0,0,0,0,0,0,(⟨0,0⟩:fQ),[]⟩:View),d.2)else(b14 d.1 a.2.2.2.2.2.2.2.1 a.2.2.2.2.2.2.2.2.2.1.Year).bind λb=>if(b.2!=0)then some ((⟨0,0,0,0,0,0,0,0,0,0,(⟨0,0⟩:fQ),[]⟩:View),b.2)else(b6e b.1).bind λc=>if(c.2!=0)then some ((⟨0,0,0,0,0,0,0,0,0,0,(⟨0,0⟩:fQ),[]⟩:View),c.2)else some ((⟨a.2.2.2.2.2.2.2.2.2.1.Age,a.2.2.2.2.2.2.2.2.2.1.Year,a.2.2.2.2.2.2.2.2.2.1.Children,i64 ((i64 ((i64 ((i64 ((i64 (j+i))+e))+f))+h))+g),j,i,e,f,h,g,c.1,b.1⟩:View),0)
def a85(a:(O aQ)×(O nQ)×Int×Bool×bQ×(O Int)×View×Statute×Version×(O Int)×View):A3 (View×Int):=(a4d a.2.2.2.2.1.day).bind λb=>if a.2.2.2.1then joinC a7j (a.1,a.2.1,a.2.2.1,a.2.2.2.2.1,a.2.2.2.2.2.1,(⟨a.2.2.2.2.2.2.1.Age,a.2.2.2.2.2.2.1.Year,a.2.2.2.2.2.2.1.Children,a.2.2.2.2.2.2.1.Insured,a.2.2.2.2.2.2.1.Worked,a.2.2.2.2.2.2.1.Voluntary,a.2.2.2.2.2.2.1.Service,a.2.2.2.2.2.2.1.Equated,a.2.2.2.2.2.2.1.Raising,a.2.2.2.2.2.2.1.Resident,a.2.2.2.2.2.2.1.Base,[]⟩:View),a.2.2.2.2.2.2.2.1,a.2.2.2.2.2.2.2.2.1,a.2.2.2.2.2.2.2.2.2.1,(⟨a.2.2.2.2.2.2.2.2.2.2.Age,b.1,a.2.2.2.2.2.2.2.2.2.2.Children,a.2.2.2.2.2.2.2.2.2.2.Insured,a.2.2.2.2.2.2.2.2.2.2.Worked,a.2.2.2.2.2.2.2.2.2.2.Voluntary,a.2.2.2.2.2.2.2.2.2.2.Service,a.2.2.2.2.2.2.2.2.2.2.Equated,a.2.2.2.2.2.2.2.2.2.2.Raising,a.2.2.2.2.2.2.2.2.2.2.Resident,a.2.2.2.2.2.2.2.2.2.2.Base,[]⟩:View),(-1:Int))else joinC a7j (a.1,a.2.1,a.2.2.1,a.2.2.2.2.1,a.2.2.2.2.2.1,(⟨a.2.2.2.2.2.2.1.Age,a.2.2.2.2.2.2.1.Year,a.2.2.2.2.2.2.1.Children,a.2.2.2.2.2.2.1.Insured,a.2.2.2.2.2.2.1.Worked,a.2.2.2.2.2.2.1.Voluntary,a.2.2.2.2.2.2.1.Service,a.2.2.2.2.2.2.1.Equated,a.2.2.2.2.2.2.1.Raising,a.2.2.2.2.2.2.1.Resident,a.2.2.2.2.2.2.1.Base,[]⟩:View),a.2.2.2.2.2.2.2.1,a.2.2.2.2.2.2.2.2.1,a.2.2.2.2.2.2.2.2.2.1,(⟨a.2.2.2.2.2.2.2.2.2.2.Age,b.1,a.2.2.2.2.2.2.2.2.2.2.Children,a.2.2.2.2.2.2.2.2.2.2.Insured,a.2.2.2.2.2.2.2.2.2.2.Worked,a.2.2.2.2.2.2.2.2.2.2.Voluntary,a.2.2.2.2.2.2.2.2.2.2.Service,a.2.2.2.2.2.2.2.2.2.2.Equated,a.2.2.2.2.2.2.2.2.2.2.Raising,a.2.2.2.2.2.2.2.2.2.2.Resident,a.2.2.2.2.2.2.2.2.2.2.Base,[]⟩:View),a.2.2.1)
def a8k(a:bQ)(c:O aQ)(g:O nQ)(e:Int)(h:Bool):A3 (View×Int):=(a2v a e).bind λb=>if(b.2.2!=0)then some ((⟨0,0,0,0,0,0,0,0,0,0,(⟨0,0⟩:fQ),[]⟩:View),b.2.2)else(b2v c a.day).bind λf=>(b4t c).bind λd=>(if d.2then some (decide (d.1<=a.day))else some false).bind λi=>if i then(b7r d.1 a.day).bind λj=>joinC a85 (c,g,e,h,a,[],(⟨0,0,0,0,0,0,0,0,0,0,(⟨0,0⟩:fQ),[]⟩:View),b.1,b.2.1,[],(⟨j,0,(f.length:Int),0,0,0,0,0,0,0,(⟨0,0⟩:fQ),[]⟩:View))else joinC a85 (c,g,e,h,a,[],(⟨0,0,0,0,0,0,0,0,0,0,(⟨0,0⟩:fQ),[]⟩:View),b.1,b.2.1,[],(⟨0,0,(f.length:Int),0,0,0,0,0,0,0,(⟨0,0⟩:fQ),[]⟩:View))
def c0y(a:O nQ)(b d:Int):A3 Int:=(b6i a b d).bind λe=>(b6h e).bind λc=>some c
def b06(e:(Total×Total×Int×Int)->A3 Total)(a:(O nQ)×Int×Total×Total×Int×Int×Int):A3 Total:=(b6i a.1 a.2.2.2.2.2.1 0).bind λd=>(b90 d).bind λb=>(if b.2then some (decide (b.1>a.2.2.2.2.1))else some false).bind λc=>if c then e (a.2.2.1,(⟨a.2.2.2.1.Own,a.2.2.2.1.Few,a.2.2.2.1.Sum,a.2.2.2.1.Base,a.2.2.2.2.2.1⟩:Total),b.1,i64 (a.2.2.2.2.2.2+1))else e (a.2.2.1,a.2.2.2.1,a.2.2.2.2.1,i64 (a.2.2.2.2.2.2+1))
def b41(e:O nQ)(f:Int):A3 Total:=lpC ((⟨(arZ 6 0:Ar 6 Int),(arZ 6 false:Ar 6 Bool),0,0,0⟩:Total),(⟨(arZ 6 0:Ar 6 Int),(arZ 6 false:Ar 6 Bool),0,0,(-1:Int)⟩:Total),(-1:Int),(0:Int)) λh⟨i,b,g,a⟩=>if(decide (a<6))then(c0y e a 0).bind λc=>(d0n 6 a).bind λn=>(d0n 6 a).bind λo=>(if(decide ((Ar.gt 0 (Ar.set b.Own a c) a)>0))then(d0n 6 a).bind λp=>some (decide ((Ar.gt 0 (Ar.set b.Own a c) a)<f))else some false).bind λd=>(d0n 6 a).bind λj=>(d0n 6 a).bind λk=>(d0n 6 a).bind λm=>if(!(Ar.gt false (Ar.set b.Few a d) a))then(d0n 6 a).bind λl=>joinC (b06 h) (e,f,i,(⟨Ar.set b.Own a c,Ar.set b.Few a d,i64 (b.Sum+(Ar.gt 0 (Ar.set b.Own a c) a)),i64 (b.Base+(Ar.gt 0 (Ar.set b.Own a c) a)),b.Last⟩:Total),g,a,a)else joinC (b06 h) (e,f,i,(⟨Ar.set b.Own a c,Ar.set b.Few a d,i64 (b.Sum+(Ar.gt 0 (Ar.set b.Own a c) a)),b.Base,b.Last⟩:Total),g,a,a)else some b
def b2k(b:Total)(a:Int):A3 (Int×Int):=(if(decide (a<0))then some true else some (decide (a>=6))).bind λg=>if g then some (0,1)else(d0n 6 a).bind λh=>(if(!(Ar.gt false b.Few a))then(d0n 6 a).bind λi=>some (decide ((Ar.gt 0 b.Own a)>0))else some false).bind λe=>(if e then some (decide (b.Base>0))else some false).bind λf=>if f then(d0n 6 a).bind λj=>some (Ar.gt 0 b.Own a,b.Base)else(if(b.Base==0)then some (decide (b.Sum>0))else some false).bind λc=>(if c then some (a==b.Last)else some false).bind λd=>if d then some (1,1)else some (0,1)
def b0a(a:Int):A3 Bool:=(if(decide (a<0))then some true else some (decide (a>1000000000000))).bind λb=>some b
def a6k(b:O Int)(c:Int->A3 Int)(a:Int):A3 Int:=if(decide (a<(b.length:Int)))then(c7 b a).bind λe=>(b0a e).bind λd=>if d then some a else c (i64 (a+1))else some (-1:Int)
def a29(a:O Int):A3 Int:=d9 FU (a6k a) 0
def a1n(b:O Int):A3 Bool:=(a29 b).bind λa=>some (decide (a>=0))
def a9p(a:O Int):A3 Bool:=(if(decide ((a.length:Int)<=200))then(a1n a).bind λb=>some (!b)else some false).bind λc=>some c
def b0s(a:View):A3 Bool:=(if(decide (a.Age<0))then some true else some (decide (a.Age>199))).bind λo=>(if o then some true else some (decide (a.Year<1900))).bind λs=>(if s then some true else some (decide (a.Year>2099))).bind λu=>(if u then some true else some (decide (a.Children<0))).bind λt=>(if t then some true else some (decide (a.Children>99))).bind λp=>(if p then some true else(a9p a.Years).bind λq=>some (!q)).bind λr=>if r then some false else lpC (a,(0:Int)) λl⟨b,g⟩=>if(decide (g<7))then(c7 (⟨[a.Insured,a.Worked,a.Voluntary,a.Service,a.Equated,a.Raising,a.Resident],rfl⟩:Ar 7 Int).l g).bind λc=>(if(decide (c<0))then some true else some (decide (c>73049))).bind λh=>if h then some false else l (b,i64 (g+1))else(o7 b.Base).bind λf=>(if f then some (decide (b.Base.Num>=0))else some false).bind λe=>(if e then(c2t b.Base.Num b.Base.Den).bind λi=>some (decide (i<=1000000000000))else some false).bind λn=>(if n then(c2t b.Base.Num b.Base.Den).bind λd=>(if(decide (d<1000000000000))then some true else(b8t b.Base.Num b.Base.Den).bind λm=>some (m==0)).bind λk=>some k else some false).bind λj=>some j
def c5y(b:Version)(c:View):A3 Int:=(b0s c).bind λa=>if(!a)then some 1 else(b0q b).bind λd=>some d
def c1o(a:Grant)(b:Int):A3 Bool:=some (a.Benefit==b)
structure Ring_eval_mentions where
 f_eval_mentions:Expr->ByteArray->Option Bool
 f_eval_mentions_1:Expr->ByteArray->Option Bool
 f_slices_ContainsFunc_of_api_Expr:(List Expr)->ByteArray->Option Bool
 f_slices_IndexFunc_of_api_Expr:(List Expr)->ByteArray->Option Int
def b2a(R:Ring_eval_mentions)(a:Expr)(b:A4):A3 Bool:=(if(a.Op==2)then some (a.Name.toList==b.toList)else some false).bind λe=>(if e then some true else(R.f_slices_ContainsFunc_of_api_Expr a.Args b).bind λc=>some c).bind λd=>some d
def b93(R:Ring_eval_mentions)(b:Expr)(c:A4):A3 Bool:=(R.f_eval_mentions b c).bind λa=>some a
def a0o(R:Ring_eval_mentions)(c:O Expr)(a:A4):A3 Bool:=(R.f_slices_IndexFunc_of_api_Expr c a).bind λb=>some (decide (b>=0))
def a5n(R:Ring_eval_mentions)(c:O Expr)(a:A4)(d:Int->A3 Int)(b:Int):A3 Int:=if(decide (b<(c.length:Int)))then(c7 c b).bind λf=>(R.f_eval_mentions_1 f a).bind λe=>if e then some b else d (i64 (b+1))else some (-1:Int)
def a16(R:Ring_eval_mentions)(b:O Expr)(a:A4):A3 Int:=d9 FU (a5n R b a) 0
def d5:Nat->Ring_eval_mentions|0=>⟨λ_ _=>none,λ_ _=>none,λ_ _=>none,λ_ _=>none⟩|n+1=>⟨b2a (d5 n),b93 (d5 n),a0o (d5 n),a16 (d5 n)⟩
def b95(a:Expr)(b:A4):A3 Bool:=(d5 FU).f_eval_mentions a b
def b1z(c:((O Int)×Int×Int)->A3 (O Int))(a:(O Int)×Int×Int):A3 (O Int):=if(decide (a.2.1<a.2.2))then(c7 a.1 a.2.2).bind λi=>(c7 a.1 a.2.2).bind λb=>(c7 a.1 a.2.1).bind λh=>(c7 a.1 a.2.1).bind λd=>(c7 a.1 a.2.1).bind λf=>(c7 a.1 a.2.1).bind λg=>(c7 (a8h a.1 a.2.1 b) a.2.2).bind λj=>(c7 (a8h a.1 a.2.1 b) a.2.2).bind λe=>c (a8h (a8h a.1 a.2.1 b) a.2.2 d,i64 (a.2.1+1),i64 (a.2.2-1))else some a.1
def a68(a:O Int):A3 (O Int):=d9 FU b1z (a,0,i64 ((a.length:Int)-1))
def c4e(u:Expr)(d:O Let):A3 (O Int):=lpC (u,([]:O Int),i64 ((d.length:Int)-1)) λq⟨p,m,b⟩=>if(decide (b>=0))then(c7 d b).bind λs=>(b95 p s.Name).bind λt=>lpC (p,m,t,(0:Int)) λn⟨l,c,o,a⟩=>if(decide (a<(m.length:Int)))then(c7 c a).bind λr=>(c7 c a).bind λg=>(if o then some true else(c7 d g).bind λf=>(c7 d b).bind λh=>(b95 f.Body h.Name).bind λk=>some k).bind λe=>n (l,c,e,i64 (a+1))else if o then(a4n 8 c [b]).bind λj=>q (l,j,i64 (b-1))else q (l,c,i64 (b-1))else(a68 m).bind λi=>some i
def t6(a:Int)(b:fQ):A3 Value:=some (⟨a,false,b⟩:Value)
def c2b(b:View)(c:A4):A3 (Value×Bool):=(b4n c).bind λa=>(if(!a.2)then some true else(b0s b).bind λl=>some (!l)).bind λo=>if o then some ((⟨0,false,(⟨0,0⟩:fQ)⟩:Value),false)else if(c.toList==e39.toList)then(t6 a.1 b.Base).bind λm=>some (m,true)else if(c.toList==e0r.toList)then(t6 a.1 (⟨b.Age,1⟩:fQ)).bind λn=>some (n,true)else if(c.toList==d3o.toList)then(t6 a.1 (⟨b.Year,1⟩:fQ)).bind λp=>some (p,true)else if(c.toList==c6q.toList)then(t6 a.1 (⟨b.Children,1⟩:fQ)).bind λj=>some (j,true)else if(c.toList==b6u.toList)then(t6 a.1 (⟨b.Insured,1⟩:fQ)).bind λk=>some (k,true)else if(c.toList==c5w.toList)then(t6 a.1 (⟨b.Worked,1⟩:fQ)).bind λq=>some (q,true)else if(c.toList==b0b.toList)then(t6 a.1 (⟨b.Voluntary,1⟩:fQ)).bind λh=>some (h,true)else if(c.toList==b3z.toList)then(t6 a.1 (⟨b.Service,1⟩:fQ)).bind λd=>some (d,true)else if(c.toList==c3c.toList)then(t6 a.1 (⟨b.Equated,1⟩:fQ)).bind λe=>some (e,true)else if(c.toList==c3j.toList)then(t6 a.1 (⟨b.Raising,1⟩:fQ)).bind λg=>some (g,true)else if(c.toList==c6v.toList)then(t6 a.1 (⟨b.Resident,1⟩:fQ)).bind λf=>some (f,true)else(t6 a.1 (⟨0,1⟩:fQ)).bind λi=>some (i,true)
def b38(c:vQ)(d:((A4×Value)×Int)->A3 Value)(a:(A4×Value)×Int):A3 Value:=if decide (a.2<0)then some (⟨0,false,(⟨0,0⟩:fQ)⟩:Value)else(c7 c.steps a.2).bind λb=>if(b.Name.toList==a.1.1.toList)then some ((a.1.1,b.Value).2)else d ((a.1.1,a.1.2),a.2-1)
def a84(a:vQ)(c:A4):A3 Value:=(c2b a.view c).bind λb=>if b.2then some b.1else d9 FU (b38 a) ((c,(⟨0,false,(⟨0,0⟩:fQ)⟩:Value)),(a.steps.length:Int)-1)
def a0l(b:O Int)(c:(((O Int)×(O Int))×Int)->A3 (O Int))(a:((O Int)×(O Int))×Int):A3 (O Int):=if decide (a.2>=(b.length:Int))then some a.1.1else(c7 b a.2).bind λe=>(a4n 8 a.1.1 [e]).bind λd=>c ((d,[]),a.2+1)
def u5(a b:O Int):A3 (O Int):=d9 FU (a0l b) ((a,[]),(0:Int))
def y5(b:O Int):A3 (O Int):=(u5 [] b).bind λa=>some a
def o9(b:O Int):A3 (O Int):=(y5 b).bind λa=>(b8s a).bind λc=>some c
def c4b(g:O Int)(b:Int):A3 (fQ×Int):=(if(decide (b<1))then some true else some (decide (b>45))).bind λm=>(if m then some true else(a9p g).bind λi=>some (!i)).bind λj=>if j then some ((⟨0,0⟩:fQ),1)else(o9 g).bind λd=>(a1x d (max 0 (i64 ((d.length:Int)-b))) (d.length:Int)).bind λh=>lpC ((⟨0,0⟩:fQ),(0:Int),(0:Int)) λl⟨k,f,c⟩=>if(decide (c<(h.length:Int)))then(c7 h c).bind λe=>l (k,i64 (f+e),i64 (c+1))else(b32 f b).bind λa=>some (a.1,a.2)
def b8n(a:Bool):A3 Value:=some (⟨1,a,(⟨0,0⟩:fQ)⟩:Value)
def b4e(a:fQ):A3 (Int×Int):=(o7 a).bind λc=>if(!c)then some (0,1)else(c2t a.Num a.Den).bind λb=>(b8t a.Num a.Den).bind λd=>if(decide (d<0))then some (i64 (b-1),0)else some (b,0)
def b4p(a:fQ):A3 (fQ×Int):=(o7 a).bind λb=>if(!b)then some ((⟨0,0⟩:fQ),1)else some ((⟨i64 (-a.Num),a.Den⟩:fQ),0)
def a4g(b c:Int):A3 rational_wide:=(b3s b c).bind λa=>some (⟨a.1,a.2⟩:rational_wide)
def a3u(a b:rational_wide):A3 Bool:=(if(decide (a.hi<b.hi))then some true else(if(a.hi==b.hi)then some (decide (a.lo<b.lo))else some false).bind λc=>some c).bind λd=>some d
def a83(a:rational_wide×rational_wide):A3 (Int×Int):=(a3u a.1 a.2).bind λb=>if b then some ((-1:Int),0)else(a3u a.2 a.1).bind λc=>if c then some (1,0)else some (0,0)
def a8g(a b:fQ):A3 (Int×Int):=(o7 a).bind λk=>(if(!k)then some true else(o7 b).bind λg=>some (!g)).bind λj=>if j then some (0,1)else if((decide (a.Num<0))!=(decide (b.Num<0)))then if(decide (a.Num<0))then some ((-1:Int),0)else some (1,0)else(j5 a.Num).bind λh=>(j5 b.Den).bind λi=>(a4g h i).bind λc=>(j5 b.Num).bind λe=>(j5 a.Den).bind λf=>(a4g e f).bind λd=>if(decide (a.Num<0))then joinC a83 (d,c)else joinC a83 (c,d)
def b7z(b:Int)(d c:fQ):A3 (Bool×Int):=(a8g d c).bind λa=>if(b==11)then some (decide (a.1<0),a.2)else if(b==12)then some (decide (a.1<=0),a.2)else if(b==13)then some (a.1==0,a.2)else if(b==14)then some (a.1!=0,a.2)else if(b==15)then some (decide (a.1>0),a.2)else some (decide (a.1>=0),a.2)
def a98(b c:rational_wide):A3 rational_wide:=(c23 b.lo c.lo 0).bind λa=>(c23 b.hi c.hi a.2).bind λd=>some (⟨d.1,a.1⟩:rational_wide)
def a4w(b c:rational_wide):A3 rational_wide:=(c1u b.lo c.lo 0).bind λa=>(c1u b.hi c.hi a.2).bind λd=>some (⟨d.1,a.1⟩:rational_wide)
def c25(b c a:Int):A3 Int:=(b8t b a).bind λe=>(a8o e c a).bind λd=>some d.2
def a8z(b:rational_wide)(a:Int):A3 rational_wide:=(if a=0then none else some (u64 (Int.tdiv b.hi a))).bind λe=>(b8t b.hi a).bind λc=>(a8o c b.lo a).bind λd=>some (⟨e,d.1⟩:rational_wide)
def a9g(a:fQ×fQ×fQ×rational_wide×Bool):A3 (fQ×Int):=(j5 a.1.Den).bind λb=>(j5 a.2.1.Den).bind λc=>if((a.2.2.2.1.hi==0)&&((a.2.2.2.1.lo==0)&&(true)))then some ((⟨0,1⟩:fQ),0)else(c25 a.2.2.2.1.hi a.2.2.2.1.lo (u64 (b*c))).bind λg=>(a7g (u64 (b*c)) g).bind λd=>(a8z a.2.2.2.1 d).bind λh=>(if d=0then none else some (u64 (Int.tdiv (u64 (b*c)) d))).bind λf=>(a70 a.2.2.2.2 h (⟨0,f⟩:rational_wide)).bind λe=>some (e.1,e.2)
def b4q(a b:fQ):A3 (fQ×Int):=(o7 a).bind λo=>(if(!o)then some true else(o7 b).bind λk=>some (!k)).bind λn=>if n then some ((⟨0,0⟩:fQ),1)else(j5 a.Num).bind λl=>(j5 b.Den).bind λm=>(a4g l m).bind λc=>(j5 b.Num).bind λi=>(j5 a.Den).bind λj=>(a4g i j).bind λd=>if((decide (a.Num<0))==(decide (b.Num<0)))then(a98 c d).bind λg=>joinC a9g (a,b,(⟨0,0⟩:fQ),g,decide (a.Num<0))else(a3u c d).bind λe=>if e then(a4w d c).bind λh=>joinC a9g (a,b,(⟨0,0⟩:fQ),h,!(decide (a.Num<0)))else(a4w c d).bind λf=>joinC a9g (a,b,(⟨0,0⟩:fQ),f,decide (a.Num<0))
def b7d(c d:fQ):A3 (fQ×Int):=(b4p d).bind λa=>if(a.2!=0)then some ((⟨0,0⟩:fQ),a.2)else(b4q c a.1).bind λb=>some (b.1,b.2)
def a73(i:Bool)(c d e g:Int):A3 (fQ×Int):=(a7g c g).bind λb=>(a7g e d).bind λa=>(if b=0then none else some (u64 (Int.tdiv c b))).bind λl=>(if a=0then none else some (u64 (Int.tdiv e a))).bind λk=>(a4g l k).bind λm=>(if a=0then none else some (u64 (Int.tdiv d a))).bind λn=>(if b=0then none else some (u64 (Int.tdiv g b))).bind λh=>(a4g n h).bind λj=>(a70 i m j).bind λf=>some (f.1,f.2)
def b7j(a c:fQ):A3 (fQ×Int):=(o7 a).bind λm=>(if(!m)then some true else(o7 c).bind λg=>some (!g)).bind λj=>if j then some ((⟨0,0⟩:fQ),1)else(if(decide (a.Num<0))then some (decide (c.Num>0))else some false).bind λh=>(if h then some true else(if(decide (a.Num>0))then some (decide (c.Num<0))else some false).bind λi=>some i).bind λk=>(j5 a.Num).bind λe=>(j5 a.Den).bind λf=>(j5 c.Num).bind λl=>(j5 c.Den).bind λd=>(a73 k e f l d).bind λb=>some (b.1,b.2)
def b7o(b a:fQ):A3 (fQ×Int):=(o7 b).bind λm=>(if(!m)then some true else(o7 a).bind λg=>some (!g)).bind λj=>if j then some ((⟨0,0⟩:fQ),1)else if(a.Num==0)then some ((⟨0,0⟩:fQ),3)else(if(decide (b.Num<0))then some (decide (a.Num>0))else some false).bind λh=>(if h then some true else(if(decide (b.Num>0))then some (decide (a.Num<0))else some false).bind λi=>some i).bind λk=>(j5 b.Num).bind λe=>(j5 b.Den).bind λf=>(j5 a.Den).bind λl=>(j5 a.Num).bind λd=>(a73 k e f l d).bind λc=>some (c.1,c.2)
def b2w(c:Int)(a b:fQ):A3 (fQ×Int):=if(c==7)then(b4q a b).bind λh=>some (h.1,h.2)else if(c==8)then(b7d a b).bind λe=>some (e.1,e.2)else if(c==9)then(b7j a b).bind λg=>some (g.1,g.2)else if(c==10)then(b7o a b).bind λf=>some (f.1,f.2)else(a8g a b).bind λd=>if((c==19)==(decide (d.1<0)))then some (a,d.2)else some (b,d.2)
def b8c(a b c:Int):A3 Int:=(if(a==9)then some (b==2)else some false).bind λe=>if e then some c else(if(a==10)then some (c !=2)else some false).bind λd=>if d then some 2 else some b
structure Ring_eval_evaluator_expr where f_eval_evaluator_expr:vQ->Expr->Option (Value×Int)f_eval_evaluator_unary:vQ->Expr->Option (Value×Int)f_eval_evaluator_logic:vQ->Expr->Option (Value×Int)
def a2t(R:Ring_eval_evaluator_expr)(a:vQ×Expr×Value×Bool):A3 (Value×Int):=if a.2.2.2then(R.f_eval_evaluator_logic a.1 a.2.1).bind λk=>some (k.1,k.2)else(c7 a.2.1.Args 0).bind λl=>(R.f_eval_evaluator_expr a.1 l).bind λc=>if(c.2!=0)then some ((⟨0,false,(⟨0,0⟩:fQ)⟩:Value),c.2)else(c7 a.2.1.Args 1).bind λf=>(R.f_eval_evaluator_expr a.1 f).bind λb=>if(b.2!=0)then some ((⟨0,false,(⟨0,0⟩:fQ)⟩:Value),b.2)else(if(decide (a.2.1.Op>=11))then some (decide (a.2.1.Op<=16))else some false).bind λh=>if h then(b7z a.2.1.Op c.1.Num b.1.Num).bind λe=>(b8n e.1).bind λj=>some (j,e.2)else(b2w a.2.1.Op c.1.Num b.1.Num).bind λd=>if(d.2!=0)then some ((⟨0,false,(⟨0,0⟩:fQ)⟩:Value),d.2)else(b8c a.2.1.Op c.1.Dim b.1.Dim).bind λg=>(t6 g d.1).bind λi=>some (i,0)
def a2s(R:Ring_eval_evaluator_expr)(a:vQ×Expr×Value×Int×Bool):A3 (Value×Int):=if a.2.2.2.2then(R.f_eval_evaluator_unary a.1 a.2.1).bind λb=>some (b.1,b.2)else if(a.2.2.2.1==17)then joinC (a2t R) (a.1,a.2.1,a.2.2.1,a.2.2.2.1==17)else if(a.2.2.2.1==18)then joinC (a2t R) (a.1,a.2.1,a.2.2.1,a.2.2.2.1==18)else joinC (a2t R) (a.1,a.2.1,a.2.2.1,a.2.2.2.1==21)
def a5u(R:Ring_eval_evaluator_expr)(b:vQ)(a:Expr):A3 (Value×Int):=if(a.Op==1)then(t6 a.Dim a.Value).bind λf=>some (f,0)else if(a.Op==2)then(a84 b a.Name).bind λd=>some (d,0)else if(a.Op==3)then(c4b b.view.Years a.Value.Num).bind λc=>(t6 4 c.1).bind λe=>some (e,c.2)else if(a.Op==4)then joinC (a2s R) (b,a,(⟨0,false,(⟨0,0⟩:fQ)⟩:Value),a.Op,a.Op==4)else if(a.Op==5)then joinC (a2s R) (b,a,(⟨0,false,(⟨0,0⟩:fQ)⟩:Value),a.Op,a.Op==5)else joinC (a2s R) (b,a,(⟨0,false,(⟨0,0⟩:fQ)⟩:Value),a.Op,a.Op==6)
def a5i(R:Ring_eval_evaluator_expr)(f:vQ)(b:Expr):A3 (Value×Int):=(c7 b.Args 0).bind λi=>(R.f_eval_evaluator_expr f i).bind λa=>if(a.2!=0)then some ((⟨0,false,(⟨0,0⟩:fQ)⟩:Value),a.2)else if(b.Op==5)then(b8n (!a.1.Yes)).bind λh=>some (h,0)else if(b.Op==6)then(b4e a.1.Num).bind λc=>(t6 a.1.Dim (⟨c.1,1⟩:fQ)).bind λg=>some (g,c.2)else(b4p a.1.Num).bind λd=>(t6 a.1.Dim d.1).bind λe=>some (e,d.2)
def a5d(R:Ring_eval_evaluator_expr)(d:vQ)(a:Expr):A3 (Value×Int):=(c7 a.Args 0).bind λl=>(R.f_eval_evaluator_expr d l).bind λb=>if(b.2!=0)then some ((⟨0,false,(⟨0,0⟩:fQ)⟩:Value),b.2)else(if(a.Op==17)then some (!b.1.Yes)else some false).bind λi=>(if i then some true else(if(a.Op==18)then some b.1.Yes else some false).bind λg=>some g).bind λh=>if h then some (b.1,0)else(if(a.Op==21)then some (!b.1.Yes)else some false).bind λj=>if j then(c7 a.Args 2).bind λf=>(R.f_eval_evaluator_expr d f).bind λe=>some (e.1,e.2)else(c7 a.Args 1).bind λk=>(R.f_eval_evaluator_expr d k).bind λc=>some (c.1,c.2)
def c4:Nat->Ring_eval_evaluator_expr|0=>⟨λ_ _=>none,λ_ _=>none,λ_ _=>none⟩|n+1=>⟨a5u (c4 n),a5i (c4 n),a5d (c4 n)⟩
def b1n(a:vQ)(b:Expr):A3 (Value×Int):=(c4 FU).f_eval_evaluator_expr a b
def a3e(v:vQ)(r:Expr)(o:O Let)(t:O Bool)(u:A4)(x:O Step):A3 (Int×vQ×(O Bool)×(O Step)):=(c4e r o).bind λp=>lpC (x,(⟨v.view,[]⟩:vQ),t,r,p,(0:Int)) λq⟨e,f,b,k,h,g⟩=>if(decide (g<(p.length:Int)))then(c7 h g).bind λz=>(c7 h g).bind λa=>(c7 b a).bind λy=>(c7 b a).bind λj=>if j then q (e,(⟨f.view,[]⟩:vQ),b,k,h,i64 (g+1))else(c7 o a).bind λi=>(b1n (⟨f.view,e⟩:vQ) i.Body).bind λc=>if(c.2!=0)then some (c.2,(⟨f.view,[]⟩:vQ),b,e)else(c7 o a).bind λl=>(a4n 48 e [(⟨l.Name,c.1⟩:Step)]).bind λn=>(c7 b a).bind λs=>(c7 b a).bind λw=>q (n,(⟨f.view,[]⟩:vQ),a8h b a true,k,h,i64 (g+1))else(b1n (⟨f.view,e⟩:vQ) k).bind λd=>if(d.2!=0)then some (d.2,(⟨f.view,[]⟩:vQ),b,e)else(a4n 48 e [(⟨u,d.1⟩:Step)]).bind λm=>some (0,(⟨f.view,[]⟩:vQ),b,m)
def a55(a:vQ):A3 Value:=(c7 a.steps (i64 ((a.steps.length:Int)-1))).bind λb=>some b.Value
def a6d(c:O Grant)(a:Int)(d:Int->A3 Int)(b:Int):A3 Int:=if(decide (b<(c.length:Int)))then(c7 c b).bind λf=>(c1o f a).bind λe=>if e then some b else d (i64 (b+1))else some (-1:Int)
def a1y(b:O Grant)(a:Int):A3 Int:=d9 FU (a6d b a) 0
def c2a(a:Version)(j:Int)(f:View):A3 (Result×Int):=(c5y a f).bind λh=>if(h !=0)then some ((⟨false,(⟨0,0⟩:fQ),[]⟩:Result),h)else(a1y a.Grants j).bind λe=>if(decide (e<0))then some ((⟨false,(⟨0,0⟩:fQ),[]⟩:Result),9)else(mkI 1 (false:Bool) (a.Lets.length:Int) (a.Lets.length:Int)).bind λl=>(c7 a.Grants e).bind λk=>(a3e (⟨f,[]⟩:vQ) k.If a.Lets l d0k []).bind λb=>if(b.1!=0)then some ((⟨false,(⟨0,0⟩:fQ),[]⟩:Result),b.1)else(a55 (⟨b.2.1.view,b.2.2.2⟩:vQ)).bind λd=>if d.Yes then(c7 a.Grants e).bind λi=>(a3e (⟨b.2.1.view,[]⟩:vQ) i.Pay a.Lets b.2.2.1 c60 b.2.2.2).bind λc=>if(c.1!=0)then some ((⟨false,(⟨0,0⟩:fQ),[]⟩:Result),c.1)else(a55 (⟨c.2.1.view,c.2.2.2⟩:vQ)).bind λg=>if(decide (g.Num.Num>0))then some ((⟨d.Yes,g.Num,c.2.2.2⟩:Result),0)else some ((⟨d.Yes,(⟨0,1⟩:fQ),c.2.2.2⟩:Result),0)else some ((⟨d.Yes,(⟨0,1⟩:fQ),b.2.2.2⟩:Result),0)
def b9q(a:fQ)(b:Rounding):A3 (Int×Int):=(o7 a).bind λg=>(if(!g)then some true else(a2y b).bind λd=>some (!d)).bind λf=>if f then some (0,1)else(b3x a.Num).bind λe=>(a9o (decide (a.Num<0)) 0 e (u64 (a.Den)) b).bind λc=>some (c.1,c.2)
def c1k(b:Version)(d:Int)(e:View):A3 (Result×Int×Int):=(c2a b d e).bind λa=>if(a.2!=0)then some ((⟨false,(⟨0,0⟩:fQ),[]⟩:Result),0,a.2)else(b9q a.1.Pay b.Rounding).bind λc=>some (a.1,c.1,c.2)
def b97(b:fQ)(c d:Int)(e:Rounding):A3 (Int×Int):=(o7 b).bind λn=>(if(!n)then some true else(a2y e).bind λi=>some (!i)).bind λk=>(if k then some true else some (decide (c<0))).bind λj=>(if j then some true else some (decide (c>73049))).bind λl=>(if l then some true else some (decide (d<1))).bind λm=>(if m then some true else some (decide (d>73049))).bind λg=>if g then some (0,1)else(b3x b.Num).bind λh=>(b3s h (u64 (c))).bind λf=>(a9o (decide (b.Num<0)) f.1 f.2 (u64 ((u64 (b.Den))*(u64 (d)))) e).bind λa=>some (a.1,a.2)
def b1p(a:Award):A3 (Int×Award):=some (0,(⟨a.State,a.Benefit,a.Day,a.Code,a.Few,a.Independent,a.Theoretical,a.ProRata,a.Num,a.Den,max a.Independent a.ProRata,a.Steps⟩:Award))
def a8c(a:Award×(O aQ)×bQ×Version×(O nQ)):A3 (Int×Award):=if(a.1.Num !=0)then(a8k a.2.2.1 a.2.1 a.2.2.2.2 a.1.State true).bind λd=>if(d.2!=0)then some (d.2,a.1)else(c1k a.2.2.2.1 a.1.Benefit d.1).bind λb=>if(b.2.2!=0)then some (b.2.2,a.1)else(b97 b.1.Pay a.1.Num a.1.Den a.2.2.2.1.Rounding).bind λc=>if(c.2!=0)then some (c.2,(⟨a.1.State,a.1.Benefit,a.1.Day,a.1.Code,a.1.Few,a.1.Independent,b.2.1,c.1,a.1.Num,a.1.Den,a.1.Amount,a.1.Steps⟩:Award))else if(decide (c.1>a.1.Independent))then joinC b1p (⟨a.1.State,a.1.Benefit,a.1.Day,a.1.Code,a.1.Few,a.1.Independent,b.2.1,c.1,a.1.Num,a.1.Den,a.1.Amount,b.1.Steps⟩:Award)else joinC b1p (⟨a.1.State,a.1.Benefit,a.1.Day,a.1.Code,a.1.Few,a.1.Independent,b.2.1,c.1,a.1.Num,a.1.Den,a.1.Amount,a.1.Steps⟩:Award)else joinC b1p a.1
def a7k(a:Award×(O aQ)×bQ×Version×(O nQ)×View):A3 (Int×Award):=if(!a.1.Few)then(c1k a.2.2.2.1 a.1.Benefit a.2.2.2.2.2).bind λb=>if(b.2.2!=0)then some (b.2.2,a.1)else joinC a8c ((⟨a.1.State,a.1.Benefit,a.1.Day,a.1.Code,a.1.Few,b.2.1,a.1.Theoretical,a.1.ProRata,a.1.Num,a.1.Den,a.1.Amount,b.1.Steps⟩:Award),a.2.1,a.2.2.1,a.2.2.2.1,a.2.2.2.2.1)else joinC a8c (a.1,a.2.1,a.2.2.1,a.2.2.2.1,a.2.2.2.2.1)
def a8d(b:bQ)(a:Award)(e:O aQ):A3 (Int×Award):=(a2v b a.State).bind λf=>if(f.2.2!=0)then some (f.2.2,a)else(a2z b e a.State).bind λc=>(a8k b e c a.State false).bind λd=>if(d.2!=0)then some (d.2,a)else(a08 b a.State).bind λi=>if i then(b41 c b.rules.MinDays).bind λh=>(d0n 6 a.State).bind λj=>(b2k h a.State).bind λg=>joinC a7k ((⟨a.State,a.Benefit,a.Day,a.Code,Ar.gt false h.Few a.State,a.Independent,a.Theoretical,a.ProRata,g.1,g.2,a.Amount,a.Steps⟩:Award),e,b,f.2.1,c,d.1)else joinC a7k ((⟨a.State,a.Benefit,a.Day,a.Code,a.Few,a.Independent,a.Theoretical,a.ProRata,a.Num,1,a.Amount,a.Steps⟩:Award),e,b,f.2.1,c,d.1)
def c3h(a:Int×Int×Int×(O Step)×Award×Award×Int):A3 Award:=if(a.2.2.2.2.2.2!=0)then some (⟨a.1,a.2.1,a.2.2.1,a.2.2.2.2.2.2,false,0,0,0,0,0,0,[]⟩:Award)else some a.2.2.2.2.2.1
def b47(f:Laws)(g:O aQ)(b c a:Int):A3 Award:=(b8v f a).bind λd=>if(d.2==0)then(a8d d.1 (⟨b,c,a,0,false,0,0,0,0,0,0,[]⟩:Award) g).bind λe=>joinC c3h (b,c,a,[],(⟨0,0,0,0,false,0,0,0,0,0,0,[]⟩:Award),e.2,e.1)else joinC c3h (b,c,a,[],(⟨0,0,0,0,false,0,0,0,0,0,0,[]⟩:Award),(⟨b,c,a,0,false,0,0,0,0,0,0,[]⟩:Award),d.2)
def c4q(a:Laws)(g:O aQ)(j k:Int):A3 (O Award):=lpC (a,([]:O Award),(0:Int)) λf⟨d,c,b⟩=>if(decide (b<(a.States.length:Int)))then(c7 a.States b).bind λh=>(b47 d g h.State j k).bind λi=>(a4n 112 c [i]).bind λe=>f (d,e,i64 (b+1))else some c
def b2m:A3 Bool:=(b47 (⟨[(⟨0,(⟨c91,1,[(⟨0,(⟨1,1⟩:Rounding),[],[],[],[(⟨1,(⟨16,(⟨0,0⟩:fQ),0,a3j,[(⟨2,(⟨0,0⟩:fQ),0,b6u,[]⟩:Expr),(⟨1,(⟨5,1⟩:fQ),3,a3j,[]⟩:Expr)]⟩:Expr),(⟨1,(⟨77,1⟩:fQ),4,a3j,[]⟩:Expr)⟩:Grant)],[]⟩:Version)]⟩:Statute)⟩:State)],[(⟨0,0,0,0,[0]⟩:Rules)],[]⟩:Laws) [(⟨0,1,1,false,1,1,0,(⟨30000,30010⟩:Span),0,100,1,500,0⟩:aQ)] 0 1 31000).bind λa=>(if(a.Code==0)then some (a.Independent==77)else some false).bind λb=>(if b then some (a.ProRata==77)else some false).bind λe=>(if e then some (a.Num==10)else some false).bind λc=>(if c then some (a.Den==10)else some false).bind λd=>some d
def a3k(d e:O Step)(f:Int->A3 Bool)(c:Int):A3 Bool:=if(decide (c<(d.length:Int)))then(c7 d c).bind λb=>(c7 e c).bind λa=>if(!((b.Name.toList==a.Name.toList)&&(((b.Value.Dim==a.Value.Dim)&&((b.Value.Yes==a.Value.Yes)&&(((b.Value.Num.Num==a.Value.Num.Num)&&((b.Value.Num.Den==a.Value.Num.Den)&&(true)))&&(true))))&&(true))))then some false else f (i64 (c+1))else some true
def a61(a b:O Step):A3 Bool:=if((a.length:Int)!=(b.length:Int))then some false else d9 FU (a3k a b) 0
def a59(a b:Award):A3 Bool:=(if(a.State==b.State)then some (a.Benefit==b.Benefit)else some false).bind λn=>(if n then some (a.Day==b.Day)else some false).bind λh=>(if h then some (a.Code==b.Code)else some false).bind λk=>(if k then some (a.Few==b.Few)else some false).bind λi=>(if i then some (a.Independent==b.Independent)else some false).bind λj=>(if j then some (a.Theoretical==b.Theoretical)else some false).bind λl=>(if l then some (a.ProRata==b.ProRata)else some false).bind λf=>(if f then some (a.Num==b.Num)else some false).bind λg=>(if g then some (a.Den==b.Den)else some false).bind λm=>(if m then some (a.Amount==b.Amount)else some false).bind λe=>(if e then(a61 a.Steps b.Steps).bind λc=>some c else some false).bind λd=>some d
def l1a(d:((O Award)×(O Award)×Int)->A3 Bool)(a:(O Award)×(O Award)×Int):A3 Bool:=if(decide (a.2.2<(a.1.length:Int)))then(c7 a.1 a.2.2).bind λg=>(c7 a.1 a.2.2).bind λc=>(c7 a.2.1 a.2.2).bind λf=>(c7 a.2.1 a.2.2).bind λe=>(a59 c e).bind λb=>if(!b)then some false else d (a.1,a.2.1,i64 (a.2.2+1))else some true
def l19(r:O tN)(j:O Int)(b:tN)(n p:Int):A3 Bool:=if(decide ((j.length:Int)>60))then some true else(b3p j 7).bind λk=>(b0g r j true).bind λl=>(a40 n 9000).bind λd=>(a40 p 5).bind λm=>(b1b (⟨b.Issuer,b.Number,b.Version,b.Withdrawn,0,0,b.State,b.Seat,b.From,b.Length,b.Share,b.Amount,b.Ref⟩:tN)).bind λa=>(a40 b.From 50).bind λq=>(a40 b.From 50).bind λs=>(c4q k l (i64 (1+m)) (i64 (33000+d))).bind λi=>(a4n 112 [] l).bind λo=>(a4n 112 o [(⟨a.Issuer,777,a.Version,a.Withdrawn,a.Person,a.Kind,a.State,(⟨i64 ((i64 (33000+d))+q),i64 ((i64 ((i64 (33000+d))+s))+(i64 (a.Span.To-a.Span.From)))⟩:Span),a.Seat,a.Share,a.Currency,a.Amount,a.Ref⟩:aQ)]).bind λh=>(c4q k h (i64 (1+m)) (i64 (33000+d))).bind λc=>(b2m).bind λg=>(if(!g)then some true else some ((i.length:Int)!=(c.length:Int))).bind λf=>(if f then some true else some ((i.length:Int)==0)).bind λe=>if e then some false else d9 FU l1a (i,c,0)
end
end Go.PL
