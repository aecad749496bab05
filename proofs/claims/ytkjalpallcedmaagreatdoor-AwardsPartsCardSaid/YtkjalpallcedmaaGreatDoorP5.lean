/- Texts of the proof, joined. -/
import Derived.Test.YtkjalpallcedmaaGreatDoorP4
import Derived.Laws.BitsLemmas
import Derived.Laws.Bits64
import Derived.Shelf.Strconv.Itoa3
import Derived.Lib.LaidTab
set_option linter.defProp false
set_option linter.unusedVariables false
set_option linter.unusedSimpArgs false
set_option maxRecDepth 100000
open List
namespace Go.PL
open Go
def e9{n:Int}(h0:-9223372036854775808<=n)(h1:n<=9223372036854775807):i64 n=n:=by unfold i64;rw[IntKind.wrap_i64];omega
def b83{n:Int}(h0:0<=n)(h1:n<=18446744073709551615):u64 n=n:=by unfold u64;rw[IntKind.wrap_u64];omega
def g2l(n:Int):u64 n=n%18446744073709551616:=by unfold u64;rw[IntKind.wrap_u64]
def b51(n:Int):0<=u64 n/\u64 n<=18446744073709551615:=by rw[g2l];omega
def d5z(n:Int):-9223372036854775808<=i64 n/\i64 n<=9223372036854775807:=by unfold i64;rw[IntKind.wrap_i64];omega
def b4c{α:Type}(l:O α)(k:Nat):c7 l (k:Int)=l[k]?:=by unfold c7;rw[if_pos (Int.natCast_nonneg k),Int.toNat_natCast]
def j38{α:Type}{l:O α}{i:Int}{x:α}(h0:0<=i)(h:l[i.toNat]?=some x):c7 l i=some x:=by unfold c7;rw[if_pos h0];exact h
def y3{b e:Bool}:(if b=true then some true else some e)=some (b||e):=by cases b<;>rfl
def o4{b e:Bool}:(if b=true then some e else some false)=some (b&&e):=by cases b<;>rfl
def a1z{p:Prop}[Decidable p]{e:Bool}:(if p then some true else some e)=some (decide p||e):=by by_cases h:p<;>simp[h]
def a7h{p:Prop}[Decidable p]{e:Bool}:(if p then some e else some false)=some (decide p&&e):=by by_cases h:p<;>simp[h]
def c9i{σ ρ:Type}{f:(σ->A3 ρ)->σ->A3 ρ}(I:σ->Prop)(μ:σ->Nat)(Q:ρ->Prop)(step:∀s rec,I s->(∃r,f rec s=some r/\Q r)\/∃s',f rec s=rec s'/\I s'/\μ s'<μ s):∀(k:Nat)(s:σ),I s->μ s<k->∃r,d9 k f s=some r/\Q r
 |0,_,_,h=>absurd h (Nat.not_lt_zero _)|k+1,s,hs,hk=>by
   rcases step s (d9 k f) hs with⟨r,h1,h2⟩|⟨s',h1,h2,h3⟩;.exact⟨r,h1,h2⟩
   .obtain⟨r,h4,h5⟩:=c9i I μ Q step k s' h2 (by omega);exact⟨r,by show f (d9 k f) s=_;rw[h1,h4],h5⟩
def b9s{σ ρ:Type}{f:(σ->A3 ρ)->σ->A3 ρ}(I:σ->Prop)(μ:σ->Nat)(Q:ρ->Prop){s:σ}(h0:I s)(hμ:μ s<2^70)(step:∀s rec,I s->(∃r,f rec s=some r/\Q r)\/∃s',f rec s=rec s'/\I s'/\μ s'<μ s):∃r,d9 FU f s=some r/\Q r:=c9i I μ Q step FU s h0 (by unfold FU;exact hμ)
def d05{σ ρ:Type}{f:(σ->A3 ρ)->σ->A3 ρ}(I:σ->Prop)(μ:σ->Nat)(Q:A3 ρ->Prop)(step:∀s rec,I s->Q (f rec s)\/∃s',f rec s=rec s'/\I s'/\μ s'<μ s):∀(k:Nat)(s:σ),I s->μ s<k->Q (d9 k f s)
 |0,_,_,h=>absurd h (Nat.not_lt_zero _)|k+1,s,hs,hk=>by
   rcases step s (d9 k f) hs with h1|⟨s',h1,h2,h3⟩;.exact h1
   .show Q (f (d9 k f) s);rw[h1];exact d05 I μ Q step k s' h2 (by omega)
def c4u{σ ρ:Type}{f:(σ->A3 ρ)->σ->A3 ρ}(I:σ->Prop)(μ:σ->Nat)(Q:A3 ρ->Prop){s:σ}(h0:I s)(hμ:μ s<2^70)(step:∀s rec,I s->Q (f rec s)\/∃s',f rec s=rec s'/\I s'/\μ s'<μ s):Q (d9 FU f s):=d05 I μ Q step FU s h0 (by unfold FU;exact hμ)
def d04{a b:Int}(h:b≠0):b8t a b=some (a.tmod b):=by unfold b8t;rw[if_neg h]
def e9a{a b:Int}(h:b≠0):c2t a b=some (i64 (a.tdiv b)):=by unfold c2t;rw[if_neg h]
def p6{α:Type}{bytes:Nat}{l x:O α}(h:(l.length+x.length)*bytes<=140737488355328):a4n bytes l x=some (l++x):=by unfold a4n;rw[if_pos h]
def b26{α:Type}{l:O α}{lo hi:Int}(h0:0<=lo)(h1:lo<=hi)(h2:hi<=(l.length:Int)):a1x l lo hi=some ((l.drop lo.toNat).take (hi.toNat-lo.toNat)):=by unfold a1x;rw[if_pos ⟨h0,h1,h2⟩]
def c9f{a b:Int}(h:0<=a):a.tmod b=a%b:=Int.tmod_eq_emod_of_nonneg h
def c7w{a b:Int}(h:0<=a):a.tdiv b=a/b:=Int.tdiv_eq_ediv_of_nonneg h
def g4v:Nat->Nat->O UInt8|0,u=>[UInt8.ofNat (48+u)]|k+1,u=>if u<10then[UInt8.ofNat (48+u)]else g4v k (u/10)++[UInt8.ofNat (48+u%10)]
def e9y:∀(k u:Nat),u<10^(k+1)->g4v k u=Lib.decDigits u
 |0,u,h=>by rw[Lib.decDigits,dif_pos (by simpa using h)];rfl|k+1,u,h=>by
   rw[Lib.decDigits];unfold g4v;by_cases hu:u<10;.rw[if_pos hu,dif_pos hu]
   .rw[if_neg hu,dif_neg hu,e9y k (u/10) (by rw[Nat.pow_succ]at h;omega)]
def strconv_Itoa(a:Int):A3 A4:=if 0<=a/\a<=9223372036854775807then some ⟨(g4v 20 a.toNat).toArray⟩else none
end Go.PL
namespace Go.SX
open Go Go.PL Go.Proofs Go.Shelf
def f8r{P:Program}{nm:String}{k:IntKind}{zs:O Int}{g:Nat}(hg:P.globalNamed nm=some g){w w':World}(h:Lib.TabIs P w nm k zs)(hb:w'.heap[g]?=w.heap[g]?):Lib.TabIs P w' nm k zs:=by unfold Lib.TabIs World.var? at*;rw[hg]at*;simpa[hb]using h
def g7m{P:Program}{nm:String}{k:IntKind}{zs:O Int}{g:Nat}(hg:P.globalNamed nm=some g){w:World}(h:Lib.TabIs P w nm k zs):g<w.heap.size:=by unfold Lib.TabIs World.var? at h;rw[hg]at h;cases hh:w.heap[g]?with|none=>simp[hh]at h|some o=>exact(qN.1 hh).1
def f3k(G:Nat->Prop)(w:World)(k:Nat)(os:Array Obj):Ext G w (Sort.grow (w.drewN k) os):=⟨rfl,rfl,rfl,by simp[Sort.grow,World.drewN],λb hb _=>by simp[Sort.grow,World.drewN,Array.getElem?_append_left hb]⟩
section
variable {P:Program} {U:Uni}
def e8o{ρ:Ren}(L:LaysM.n171 P ρ)(ht:∀w,U.tab w->Lib.TabIs P w "internal/strconv.uint64pow10" .u64 Lib.pow10Tab){a c:U.C}(fa:U.T a->Int)(ha:∀x,(inj a x:U.AV)=.int .i64 (fa x))(fc:A4->U.T c)(hc:∀s,(inj c (fc s):U.AV)=.str s):Spec P (ρ.f 171) (⟨⟨[.v a],[.v c]⟩,A4,λx=>strconv_Itoa (fa x.1),λb=>((fc b,()),()),none⟩:Fent U):=by intro xs r hr Z G w us hl hR;match us,hl with
 |[u1],_=>
   have s0:AVR _ (inj a xs.1) u1:=hR.slot 0;rw[ha]at s0;have s0:u1=.int .i64 (fa xs.1):=s0;have hr:strconv_Itoa (fa xs.1)=some r:=hr;unfold strconv_Itoa at hr;split at hr
   .rename_i hb;have hr:=(qH hr).symm;have e:Lib.itoa (fa xs.1)=g4v 20 (fa xs.1).toNat:=by unfold Lib.itoa;rw[if_neg (by omega),e9y 20 _ (by omega)]
    have hC:=Any.strconv_Itoa L (fa xs.1) (by omega) hb.2 w (ht w hR.tab.1);subst s0;show Calls P (ρ.f 171) #[Value.int .i64 (fa xs.1)] w _;refine hC.mono ?_;rintro e' w'⟨he,k,os,hw⟩;subst hw;refine⟨_,he,⟨Z,[_],[.int .i64 (fa xs.1)],rfl,λ_ h=>h,λ_ h=>.inl h,f3k _ _ _ _,rfl,λ_ _ _ _=>rfl,⟨?_,trivial⟩,trivial,?_,?_⟩⟩;.show a1p _ (inj c (fc r)) _;rw[hc,hr,<-e];rfl
    .intro v hv;cases hv
    .intro i j v v' b _ hv;cases hv
   .cases hr
end
end Go.SX
namespace Go.PL
open Go Go.SX
structure Rules where
 From:Int
 MinDays:Int
 PostingLimit:Int
 Substantial:Int
 Members:List Int
structure Rounding where
 Mode:Int
 Unit:Int
structure Credit where
 Kind:Int
 Limit:Int
structure fQ where
 Num:Int
 Den:Int
structure Index where
 Year:Int
 Factor:fQ
structure Expr where
 Op:Int
 Value:fQ
 Dim:Int
 Name:ByteArray
 Args:List Expr
structure Let where
 Name:ByteArray
 Body:Expr
structure Grant where
 Benefit:Int
 If:Expr
 Pay:Expr
structure Reduce where
 Benefit:Int
 By:Expr
structure Version where
 From:Int
 Rounding:Rounding
 Credits:List Credit
 Series:List Index
 Lets:List Let
 Grants:List Grant
 Reduces:List Reduce
structure Value where
 Dim:Int
 Yes:Bool
 Num:fQ
structure Step where
 Name:ByteArray
 Value:Value
structure iQ where
 Name:ByteArray
 Dim:Int
structure Span where
 From:Int
 To:Int
structure Token where
 Kind:Int
 Text:ByteArray
 At:Int
structure rQ where
 l:List Token
 at_:Int
 end_:Int
 bad:Bool
structure pensionref1_wide where
 hi:Int
 lo:Int
structure Statute where
 Name:ByteArray
 Currency:Int
 Versions:List Version
structure State where
 State:Int
 Statute:Statute
structure Rate where
 Currency:Int
 Month:Int
 Value:fQ
structure Laws where
 States:List State
 Treaty:List Rules
 Rates:List Rate
structure tN where
 Issuer:Int
 Number:Int
 Version:Int
 Withdrawn:Bool
 Person:Int
 Kind:Int
 State:Int
 Seat:Int
 From:Int
 Length:Int
 Share:Int
 Amount:Int
 Ref:Int
structure aQ where
 Issuer:Int
 Number:Int
 Version:Int
 Withdrawn:Bool
 Person:Int
 Kind:Int
 State:Int
 Span:Span
 Seat:Int
 Share:Int
 Currency:Int
 Amount:Int
 Ref:Int
structure syntax_entry where
 name:ByteArray
 number:Int
structure bQ where
 laws:Laws
 day:Int
 rules:Rules
structure Posting where
 Seat:Int
 State:Int
 Span:Span
structure uQ where
 seat:Int
 state:Int
structure lQ where
 facts:List aQ
 span:Span
 postings:List Posting
 rules:List Rules
structure gQ where
 Span:Span
 State:Int
 Rule:Int
structure Period where
 State:Int
 Rank:Int
 Span:Span
structure Scheme where
 State:Int
 Version:Version
structure Anon195 where
 kind:Int
 rank:Int
structure nQ where
 Span:Span
 State:Int
 Rank:Int
structure Piece where
 Span:Span
 Members:List Int
structure earnings_income where
 fact:aQ
 days:List Span
structure Earning where
 Year:Int
 Amount:Int
structure rational_wide where
 hi:Int
 lo:Int
structure View where
 Age:Int
 Year:Int
 Children:Int
 Insured:Int
 Worked:Int
 Voluntary:Int
 Service:Int
 Equated:Int
 Raising:Int
 Resident:Int
 Base:fQ
 Years:List Int
structure Total where
 Own:Ar 6 Int
 Few:Ar 6 Bool
 Sum:Int
 Base:Int
 Last:Int
structure vQ where
 view:View
 steps:List Step
structure Result where
 Holds:Bool
 Pay:fQ
 Steps:List Step
structure Award where
 State:Int
 Benefit:Int
 Day:Int
 Code:Int
 Few:Bool
 Independent:Int
 Theoretical:Int
 ProRata:Int
 Num:Int
 Den:Int
 Amount:Int
 Steps:List Step
def a3j:A4:=⟨#[]⟩
def a6h:A4:=⟨#[48,49,50,51,52,53,54,55,56,57]⟩
def b1i:A4:=⟨#[46]⟩
def c6e:A4:=⟨#[102,114,111,109,32,64]⟩
def c1g:A4:=⟨#[32,123,32,114,111,117,110,100,32]⟩
def c33:A4:=⟨#[100,111,119,110,32,49,59,32]⟩
def d01:A4:=⟨#[99,114,101,100,105,116,32,118,111,108,117,110,116,97,114,121,59,32,99,114,101,100,105,116,32,117,110,101,109,112,108,111,121,101,100,32,108,105,109,105,116,32]⟩
def b7x:A4:=⟨#[59,32]⟩
def c8s:A4:=⟨#[99,114,101,100,105,116,32,99,104,105,108,100,32,108,105,109,105,116,32]⟩
def c9v:A4:=⟨#[99,114,101,100,105,116,32,114,101,115,105,100,101,110,99,101,59,32]⟩
def c9k:A4:=⟨#[105,110,100,101,120,32,49,57,54,48,32,49,59,32,105,110,100,101,120,32,49,57,56,48,32]⟩
def c9z:A4:=⟨#[59,32,105,110,100,101,120,32,49,57,57,53,32]⟩
def c83:A4:=⟨#[108,101,116,32,115,112,101,110,116,32,61,32,105,110,115,117,114,101,100,32,47,32]⟩
def c8f:A4:=⟨#[100,59,32,108,101,116,32,112,97,114,116,32,61,32,109,105,110,40,115,112,101,110,116,32,42,32]⟩
def d0e:A4:=⟨#[44,32,48,46,56,48,41,59,32]⟩
def c8t:A4:=⟨#[103,114,97,110,116,32,111,108,100,32,105,102,32,97,103,101,32,62,61,32]⟩
def c8p:A4:=⟨#[32,97,110,100,32,105,110,115,117,114,101,100,32,62,61,32]⟩
def d02:A4:=⟨#[100,32,112,97,121,32,109,97,120,40,98,97,115,101,32,42,32,112,97,114,116,44,32]⟩
def c6o:A4:=⟨#[109,41,59,32]⟩
def c8d:A4:=⟨#[103,114,97,110,116,32,100,105,115,97,98,105,108,105,116,121,32,105,102,32,105,110,115,117,114,101,100,32,62,61,32]⟩
def c80:A4:=⟨#[100,32,112,97,121,32,98,97,115,101,32,42,32]⟩
def c9d:A4:=⟨#[103,114,97,110,116,32,115,117,114,118,105,118,111,114,32,105,102,32,119,111,114,107,101,100,32,43,32,101,113,117,97,116,101,100,32,62,61,32,51,48,100,32,112,97,121,32,98,97,115,101,32,42,32,112,97,114,116,32,42,32,48,46,54,48,59,32]⟩
def c86:A4:=⟨#[103,114,97,110,116,32,102,97,109,105,108,121,32,105,102,32,105,110,115,117,114,101,100,32,62,61,32]⟩
def d1p:A4:=⟨#[100,32,112,97,121,32]⟩
def c9u:A4:=⟨#[109,32,42,32,99,104,105,108,100,114,101,110,59,32]⟩
def c9l:A4:=⟨#[103,114,97,110,116,32,115,105,99,107,110,101,115,115,32,105,102,32,105,110,115,117,114,101,100,32,62,61,32]⟩
def c7y:A4:=⟨#[100,32,112,97,121,32,98,101,115,116,40,51,41,32,47,32,49,50,32,42,32,48,46,55,48,59,32]⟩
def b7g:A4:=⟨#[114,101,100,117,99,101,32,111,108,100,32,98,121,32]⟩
def c8b:A4:=⟨#[114,101,100,117,99,101,32,100,105,115,97,98,105,108,105,116,121,32,98,121,32,105,102,32,97,103,101,32,60,32,54,48,32,116,104,101,110,32,48,46,53,48,32,101,108,115,101,32,49,59,32]⟩
def d3i:A4:=⟨#[125,32]⟩
def c32:A4:=⟨#[104,97,108,102,32,53,59,32]⟩
def c6d:A4:=⟨#[117,112,32,49,59,32]⟩
def c19:A4:=⟨#[101,118,101,110,32,49,48,59,32]⟩
def c2c:A4:=⟨#[97,108,98,97]⟩
def c24:A4:=⟨#[98,111,114,97]⟩
def b8j:A4:=⟨#[99,101,100,97,114]⟩
def c70:A4:=⟨#[115,116,97,116,117,116,101,32]⟩
def c2x:A4:=⟨#[32,99,117,114,114,101,110,99,121,32]⟩
def d8i:A4:=⟨#[32,123,32]⟩
def b7u:A4:=⟨#[49,57,48,48,45,48,49,45,48,49]⟩
def b7v:A4:=⟨#[49,57,57,54,45,48,55,45,48,49]⟩
def b80:A4:=⟨#[50,48,48,49,45,48,49,45,48,49]⟩
def d0a:A4:=⟨#[125]⟩
def d28:A4:=⟨#[60,61]⟩
def d30:A4:=⟨#[62,61]⟩
def d1k:A4:=⟨#[60,62]⟩
def c9m:A4:=⟨#[97,110,100]⟩
def c51:A4:=⟨#[98,101,115,116]⟩
def d69:A4:=⟨#[98,121]⟩
def b91:A4:=⟨#[99,114,101,100,105,116]⟩
def b4x:A4:=⟨#[99,117,114,114,101,110,99,121]⟩
def c53:A4:=⟨#[101,108,115,101]⟩
def c1a:A4:=⟨#[102,108,111,111,114]⟩
def c4c:A4:=⟨#[102,114,111,109]⟩
def c10:A4:=⟨#[103,114,97,110,116]⟩
def d0k:A4:=⟨#[105,102]⟩
def c1q:A4:=⟨#[105,110,100,101,120]⟩
def d07:A4:=⟨#[108,101,116]⟩
def c1c:A4:=⟨#[108,105,109,105,116]⟩
def c98:A4:=⟨#[109,97,120]⟩
def c8l:A4:=⟨#[109,105,110]⟩
def c92:A4:=⟨#[110,111,116]⟩
def d8p:A4:=⟨#[111,114]⟩
def c60:A4:=⟨#[112,97,121]⟩
def b94:A4:=⟨#[114,101,100,117,99,101]⟩
def c14:A4:=⟨#[114,111,117,110,100]⟩
def b76:A4:=⟨#[115,116,97,116,117,116,101]⟩
def d3p:A4:=⟨#[116,104,101,110]⟩
def b3u:A4:=⟨#[0,1,2,2,3,3,3,3,4,4,4,4,4,4,4,4,5,5,5,5,5,5,5,5,5,5,5,5,5,5,5,5,6,6,6,6,6,6,6,6,6,6,6,6,6,6,6,6,6,6,6,6,6,6,6,6,6,6,6,6,6,6,6,6,7,7,7,7,7,7,7,7,7,7,7,7,7,7,7,7,7,7,7,7,7,7,7,7,7,7,7,7,7,7,7,7,7,7,7,7,7,7,7,7,7,7,7,7,7,7,7,7,7,7,7,7,7,7,7,7,7,7,7,7,7,7,7,7,8,8,8,8,8,8,8,8,8,8,8,8,8,8,8,8,8,8,8,8,8,8,8,8,8,8,8,8,8,8,8,8,8,8,8,8,8,8,8,8,8,8,8,8,8,8,8,8,8,8,8,8,8,8,8,8,8,8,8,8,8,8,8,8,8,8,8,8,8,8,8,8,8,8,8,8,8,8,8,8,8,8,8,8,8,8,8,8,8,8,8,8,8,8,8,8,8,8,8,8,8,8,8,8,8,8,8,8,8,8,8,8,8,8,8,8,8,8,8,8,8,8,8,8,8,8,8,8]⟩
def b0b:A4:=⟨#[118,111,108,117,110,116,97,114,121]⟩
def b3z:A4:=⟨#[115,101,114,118,105,99,101]⟩
def b87:A4:=⟨#[117,110,101,109,112,108,111,121,101,100]⟩
def d54:A4:=⟨#[115,105,99,107]⟩
def c97:A4:=⟨#[99,104,105,108,100]⟩
def c04:A4:=⟨#[114,101,115,105,100,101,110,99,101]⟩
def d9m:A4:=⟨#[111,108,100]⟩
def b8e:A4:=⟨#[100,105,115,97,98,105,108,105,116,121]⟩
def c0u:A4:=⟨#[115,117,114,118,105,118,111,114]⟩
def c66:A4:=⟨#[102,97,109,105,108,121]⟩
def c0r:A4:=⟨#[115,105,99,107,110,101,115,115]⟩
def d4s:A4:=⟨#[100,111,119,110]⟩
def f1e:A4:=⟨#[117,112]⟩
def d3b:A4:=⟨#[104,97,108,102]⟩
def d3z:A4:=⟨#[101,118,101,110]⟩
def g5d:A4:=⟨#[43]⟩
def e00:A4:=⟨#[45]⟩
def g62:A4:=⟨#[42]⟩
def e8f:A4:=⟨#[47]⟩
def g4g:A4:=⟨#[60]⟩
def e7j:A4:=⟨#[61]⟩
def g5n:A4:=⟨#[62]⟩
def e02:A4:=⟨#[40]⟩
def d38:A4:=⟨#[41]⟩
def g2w:A4:=⟨#[44]⟩
def c3s:A4:=⟨#[59]⟩
def e8b:A4:=⟨#[123]⟩
def e4t:A4:=⟨#[100]⟩
def e6u:A4:=⟨#[109]⟩
def b1y:A4:=⟨#[83,80,84,72,67,65]⟩
def a6w:A4:=⟨#[83,80,72,67,65]⟩
def c0p:A4:=⟨#[83,80,84]⟩
def a9l:A4:=⟨#[83,80]⟩
def b82:A4:=⟨#[83,80,67,65]⟩
def c1r:A4:=⟨#[83,80,82]⟩
def c0e:A4:=⟨#[80]⟩
def c6f:A4:=⟨#[80,82]⟩
def e0r:A4:=⟨#[97,103,101]⟩
def b6u:A4:=⟨#[105,110,115,117,114,101,100]⟩
def e39:A4:=⟨#[98,97,115,101]⟩
def c5w:A4:=⟨#[119,111,114,107,101,100]⟩
def c3c:A4:=⟨#[101,113,117,97,116,101,100]⟩
def c3j:A4:=⟨#[114,97,105,115,105,110,103]⟩
def c6v:A4:=⟨#[114,101,115,105,100,101,110,116]⟩
def d3o:A4:=⟨#[121,101,97,114]⟩
def c6q:A4:=⟨#[99,104,105,108,100,114,101,110]⟩
def g49:A4:=⟨#[83]⟩
def g4j:A4:=⟨#[84]⟩
def g3v:A4:=⟨#[72]⟩
def g50:A4:=⟨#[67]⟩
def g4u:A4:=⟨#[65]⟩
def g5k:A4:=⟨#[82]⟩
def c91:A4:=⟨#[108,97,119]⟩
abbrev lpC{σ ρ:Type}(s:σ)(f:(σ->A3 ρ)->σ->A3 ρ):A3 ρ:=d9 FU f s
noncomputable section
def c23(x y c:Int):A3 (Int×Int):=g7y x y c
def c1u(x y c:Int):A3 (Int×Int):=g8x x y c
def a7v(s:A4)(c:Int):A3 Int:=some (g6v s c)
def a7z(a:O Int):A3 (O Int):=a4n 8 [] a
def a5m(a:O Credit):A3 (O Credit):=a4n 16 [] a
def a6e(a:O Index):A3 (O Index):=a4n 24 [] a
def a86(a:O Let):A3 (O Let):=a4n 88 [] a
def a6f(a:O Grant):A3 (O Grant):=a4n 152 [] a
def a5p(a:O Reduce):A3 (O Reduce):=a4n 80 [] a
instance:Inhabited Span:=⟨⟨0,0⟩⟩
def b3w(l:O Span):A3 (O Span):=f0f (λx y=>decide (x.From<y.From)) l
def b54(c:(Int×A4)->A3 A4)(a:Int×A4):A3 A4:=if(decide (a.1>9))then(b8t a.1 10).bind λe=>(b8t a.1 10).bind λf=>(c3u a6h e (i64 (f+1))).bind λi=>(a7f i a.2).bind λd=>(c2t a.1 10).bind λg=>c (g,d)else(c3u a6h a.1 (i64 (a.1+1))).bind λb=>(a7f b a.2).bind λh=>some h
def i8(a:Int):A3 A4:=d9 FU b54 (a,a3j)
def b7(c b:Int):A3 Int:=(b8t c b).bind λa=>if(decide (a<0))then some (i64 (a+b))else some a
def c5(a:O Int)(b:Int):A3 Int:=if((a.length:Int)==0)then some 0 else(b7 b (a.length:Int)).bind λc=>(c7 a c).bind λd=>some d
def a01(a:Int):A3 A4:=(c2t a 100).bind λf=>(i8 f).bind λg=>(a7f g b1i).bind λe=>(c2t a 10).bind λh=>(b8t h 10).bind λk=>(i8 k).bind λd=>(a7f e d).bind λi=>(b8t a 10).bind λc=>(i8 c).bind λj=>(a7f i j).bind λb=>some b
def a5b(a:(O Int)×Int×A4):A3 A4:=(c5 a.1 (i64 (a.2.1+18))).bind λe=>(b7 e 3).bind λd=>if(d==0)then(a7f a.2.2 c8b).bind λf=>(a7f f d3i).bind λc=>some c else(a7f a.2.2 d3i).bind λb=>some b
def a5c(a:(O Int)×Int×A4):A3 A4:=(c5 a.1 (i64 (a.2.1+14))).bind λr=>(b7 r 800).bind λx=>(i8 x).bind λs=>(a7f c86 s).bind λw=>(a7f w d1p).bind λg=>(c5 a.1 (i64 (a.2.1+15))).bind λv=>(b7 v 300).bind λn=>(i8 (i64 (10+n))).bind λo=>(a7f g o).bind λt=>(a7f t c9u).bind λi=>(a7f a.2.2 i).bind λm=>(c5 a.1 (i64 (a.2.1+16))).bind λz=>(b7 z 400).bind λl=>(i8 l).bind λp=>(a7f c9l p).bind λq=>(a7f q c7y).bind λj=>(a7f m j).bind λd=>(c5 a.1 (i64 (a.2.1+17))).bind λk=>(b7 k 3).bind λh=>if(decide (h>0))then(c5 a.1 (i64 (a.2.1+17))).bind λu=>(b7 u 11).bind λy=>(a01 (i64 (10*y))).bind λc=>(a7f b7g c).bind λb=>(a7f b b7x).bind λf=>(a7f d f).bind λe=>joinC a5b (a.1,a.2.1,e)else joinC a5b (a.1,a.2.1,d)
def a5j(a:(O Int)×Int×A4×A4):A3 A4:=(c5 a.1 (i64 (a.2.1+5))).bind λo=>(b7 o 300).bind λE=>(a01 (i64 (100+E))).bind λA=>(a7f c9k A).bind λd=>(a7f d c9z).bind λM=>(c5 a.1 (i64 (a.2.1+6))).bind λB=>(b7 B 300).bind λw=>(a01 (i64 (400+w))).bind λc=>(a7f M c).bind λj=>(a7f j b7x).bind λH=>(a7f a.2.2.2 H).bind λe=>(a7f c83 a.2.2.1).bind λt=>(a7f t c8f).bind λC=>(c5 a.1 (i64 (a.2.1+7))).bind λf=>(b7 f 4).bind λV=>(a01 (i64 (1+V))).bind λX=>(a7f C X).bind λk=>(a7f k d0e).bind λn=>(a7f e n).bind λl=>(c5 a.1 (i64 (a.2.1+8))).bind λg=>(b7 g 12).bind λP=>(i8 (i64 (50+P))).bind λr=>(a7f c8t r).bind λh=>(a7f h c8p).bind λs=>(c5 a.1 (i64 (a.2.1+9))).bind λF=>(b7 F 6000).bind λS=>(i8 S).bind λK=>(a7f s K).bind λD=>(a7f D d02).bind λR=>(c5 a.1 (i64 (a.2.1+10))).bind λy=>(b7 y 900).bind λI=>(i8 I).bind λq=>(a7f R q).bind λx=>(a7f x c6o).bind λJ=>(a7f l J).bind λW=>(c5 a.1 (i64 (a.2.1+11))).bind λL=>(b7 L 2000).bind λG=>(i8 G).bind λY=>(a7f c8d Y).bind λu=>(a7f u c80).bind λT=>(c5 a.1 (i64 (a.2.1+12))).bind λz=>(b7 z 60).bind λm=>(a01 (i64 (20+m))).bind λp=>(a7f T p).bind λv=>(a7f v b7x).bind λN=>(a7f W N).bind λb=>(c5 a.1 (i64 (a.2.1+13))).bind λi=>(b7 i 5).bind λU=>if(decide (U>0))then(a7f b c9d).bind λQ=>joinC a5c (a.1,a.2.1,Q)else joinC a5c (a.1,a.2.1,b)
def a5k(a:(O Int)×Int×A4×A4):A3 A4:=(c5 a.1 (i64 (a.2.1+4))).bind λb=>(b7 b 4).bind λd=>if(d==0)then(a7f a.2.2.2 c9v).bind λc=>joinC a5j (a.1,a.2.1,a.2.2.1,c)else joinC a5j (a.1,a.2.1,a.2.2.1,a.2.2.2)
def a1a(a:(O Int)×Int×A4×A4):A3 A4:=(c5 a.1 (i64 (a.2.1+2))).bind λk=>(b7 k 900).bind λf=>(i8 (i64 (1+f))).bind λc=>(a7f d01 c).bind λe=>(a7f e b7x).bind λi=>(a7f a.2.2.2 i).bind λb=>(c5 a.1 (i64 (a.2.1+3))).bind λo=>(b7 o 3).bind λj=>if(decide (j>0))then(c5 a.1 (i64 (a.2.1+3))).bind λn=>(b7 n 1000).bind λh=>(i8 (i64 (100+h))).bind λd=>(a7f c8s d).bind λm=>(a7f m b7x).bind λl=>(a7f b l).bind λg=>joinC a5k (a.1,a.2.1,a.2.2.1,g)else joinC a5k (a.1,a.2.1,a.2.2.1,b)
def a38(k:A4)(a:O Int)(b:Int):A3 A4:=(c5 a b).bind λl=>(b7 l 90).bind λm=>(i8 (i64 (300+m))).bind λf=>(a7f c6e k).bind λn=>(a7f n c1g).bind λg=>(c5 a (i64 (b+1))).bind λj=>(b7 j 4).bind λh=>if(h==0)then(a7f g c33).bind λi=>joinC a1a (a,b,f,i)else if(h==1)then(a7f g c32).bind λd=>joinC a1a (a,b,f,d)else if(h==2)then(a7f g c6d).bind λc=>joinC a1a (a,b,f,c)else(a7f g c19).bind λe=>joinC a1a (a,b,f,e)
def a7x(a:Int×(O Int)×A4):A3 A4:=(c5 a.2.1 (i64 (37+a.1))).bind λe=>(b7 e 3).bind λg=>if(g==0)then(a38 b80 a.2.1 (i64 ((i64 (7*a.1))+5))).bind λd=>(a7f a.2.2 d).bind λf=>(a7f f d0a).bind λc=>some c else(a7f a.2.2 d0a).bind λb=>some b
def b10(a:Int)(b:O Int):A3 A4:=(c7 (⟨[c2c,c24,b8j],rfl⟩:Ar 3 A4).l a).bind λo=>(c7 (⟨[c2c,c24,b8j],rfl⟩:Ar 3 A4).l a).bind λk=>(a7f c70 k).bind λj=>(a7f j c2x).bind λl=>(i8 (i64 (1+a))).bind λn=>(a7f l n).bind λi=>(a7f i d8i).bind λm=>(a38 b7u b (i64 (7*a))).bind λh=>(a7f m h).bind λg=>(c5 b (i64 (31+a))).bind λf=>(b7 f 3).bind λd=>if(decide (d>0))then(a38 b7v b (i64 ((i64 (7*a))+3))).bind λc=>(a7f g c).bind λe=>joinC a7x (a,b,e)else joinC a7x (a,b,g)
def b78(d:A4)(c:(Int×Bool)->A3 Int)(a:Int×Bool):A3 Int:=if(decide (a.1<(d.size:Int)))then(b3c d a.1).bind λb=>if(b==10)then c (i64 (a.1+1),false)else if(b==35)then c (i64 (a.1+1),true)else(if(!a.2)then some (b !=9)else some false).bind λf=>(if f then some (b !=13)else some false).bind λg=>(if g then some (b !=32)else some false).bind λe=>if e then some a.1else c (i64 (a.1+1),a.2)else some a.1
def b16(b:A4)(a:Int):A3 Int:=d9 FU (b78 b) (a,false)
def a3q(a:Int):A3 Bool:=(if(decide (a>=97))then some (decide (a<=122))else some false).bind λb=>some b
def a30(a:Int):A3 Bool:=(if(decide (a>=48))then some (decide (a<=57))else some false).bind λb=>some b
def b7b(c:Int)(b:A4)(l:Bool)(i:Int->A3 Int)(a:Int):A3 Int:=(if(decide ((i64 (c+a))<(b.size:Int)))then(b3c b (i64 (c+a))).bind λk=>(a3q k).bind λm=>(if m then some true else(b3c b (i64 (c+a))).bind λp=>(a30 p).bind λj=>some j).bind λn=>(if n then some true else(b3c b (i64 (c+a))).bind λh=>some (h==95)).bind λo=>(if o then some true else(if l then(b3c b (i64 (c+a))).bind λg=>some (g==46)else some false).bind λe=>some e).bind λd=>some d else some false).bind λf=>if f then i (i64 (a+1))else some a
def a9f(c:A4)(a:Int)(b:Bool):A3 Int:=d9 FU (b7b a c b) 0
def b5u(a:Int×A4×A4)(c:Int->A3 (A4×A4×Int×Bool))(b:Int):A3 (A4×A4×Int×Bool):=if(decide (b<(i64 ((a.2.1.size:Int)+(a.2.2.size:Int)))))then(a7f a.2.1 a.2.2).bind λf=>(b3c f b).bind λh=>(a30 h).bind λj=>if(!j)then some (a3j,a3j,0,false)else c (i64 (b+1))else(if(decide ((a.2.1.size:Int)<1))then some true else some (decide ((a.2.1.size:Int)>9))).bind λg=>(if g then some true else(if(decide ((a.2.1.size:Int)>1))then(b3c a.2.1 0).bind λi=>some (i==48)else some false).bind λe=>some e).bind λd=>if d then some (a3j,a3j,0,false)else some (a.2.1,a.2.2,a.1,true)
def a6o(a:Int×A4×A4):A3 (A4×A4×Int×Bool):=d9 FU (b5u a) 0
def b5t(b:A4×Int)(f:(Int×Int)->A3 (A4×A4×Int×Bool))(a:Int×Int):A3 (A4×A4×Int×Bool):=if(decide (a.2>=0))then(b3c b.1 a.2).bind λg=>if(g==46)then f (a.2,i64 (a.2-1))else f (a.1,i64 (a.2-1))else(c3u b.1 0 a.1).bind λe=>if(decide (a.1<(b.1.size:Int)))then(c3u b.1 (i64 (a.1+1)) (b.1.size:Int)).bind λd=>(if(decide ((d.size:Int)<1))then some true else some (decide ((d.size:Int)>4))).bind λc=>if c then some (a3j,a3j,0,false)else joinC a6o (b.2,e,d)else joinC a6o (b.2,e,a3j)
def a45(a:A4×Int):A3 (A4×A4×Int×Bool):=d9 FU (b5t a) ((a.1.size:Int),i64 ((a.1.size:Int)-1))
def a6z(a:A4):A3 (A4×A4×Int×Bool):=(if(decide ((a.size:Int)>0))then(b3c a (i64 ((a.size:Int)-1))).bind λf=>some (f==100)else some false).bind λg=>if g then(c3u a 0 (i64 ((a.size:Int)-1))).bind λe=>joinC a45 (e,3)else(if(decide ((a.size:Int)>0))then(b3c a (i64 ((a.size:Int)-1))).bind λd=>some (d==109)else some false).bind λc=>if c then(c3u a 0 (i64 ((a.size:Int)-1))).bind λb=>joinC a45 (b,4)else joinC a45 (a,2)
def b5p(b:A4)(c:(Int×Int)->A3 (Int×Bool))(a:Int×Int):A3 (Int×Bool):=if(decide (a.2<(b.size:Int)))then(b3c b a.2).bind λe=>(if(decide (e<48))then some true else(b3c b a.2).bind λf=>some (decide (f>57))).bind λg=>if g then some (0,false)else(b3c b a.2).bind λd=>c (i64 ((i64 (a.1*10))+(i64 (IntKind.u8.wrap (d-48)))),i64 (a.2+1))else some (a.1,decide ((b.size:Int)>0))
def a4m(a:A4):A3 (Int×Bool):=d9 FU (b5p a) (0,0)
def b18(a:Int):A3 Bool:=(b8t a 4).bind λc=>(if(c==0)then(b8t a 100).bind λd=>(if(d !=0)then some true else(b8t a 400).bind λb=>some (b==0)).bind λe=>some e else some false).bind λf=>some f
def a6b(c a:Int):A3 Int:=if(a==2)then(b18 c).bind λb=>if b then some 29 else some 28 else if(a==4)then if(a==4)then some 30 else some 31 else if(a==6)then if(a==6)then some 30 else some 31 else if(a==9)then if(a==9)then some 30 else some 31 else if(a==11)then some 30 else some 31
def b5s(c:Int)(b:(Int×Int)->A3 Int)(a:Int×Int):A3 Int:=if(decide (a.2<c))then(c2t a.2 12).bind λd=>(b8t a.2 12).bind λe=>(a6b (i64 (1900+d)) (i64 (e+1))).bind λf=>b (i64 (a.1+f),i64 (a.2+1))else some a.1
def a9y(a:Int):A3 Int:=d9 FU (b5s a) (0,0)
def b22(a b c:Int):A3 (Int×Bool):=(if(decide (a<1900))then some true else some (decide (a>2099))).bind λf=>(if f then some true else some (decide (b<1))).bind λg=>(if g then some true else some (decide (b>12))).bind λe=>(if e then some true else some (decide (c<1))).bind λh=>(if h then some true else(a6b a b).bind λj=>some (decide (c>j))).bind λd=>if d then some (0,false)else(a9y (i64 ((i64 ((i64 ((i64 (a-1900))*12))+b))-1))).bind λi=>some (i64 ((i64 (i+c))-1),true)
def a47(a:A4):A3 (Int×Bool):=(if((a.size:Int)!=10)then some true else(b3c a 4).bind λi=>some (i !=45)).bind λj=>(if j then some true else(b3c a 7).bind λh=>some (h !=45)).bind λk=>if k then some (0,false)else(c3u a 0 4).bind λn=>(a4m n).bind λg=>(c3u a 5 7).bind λl=>(a4m l).bind λf=>(c3u a 8 (a.size:Int)).bind λm=>(a4m m).bind λc=>(if(!g.2)then some true else some (!f.2)).bind λe=>(if e then some true else some (!c.2)).bind λd=>if d then some (0,false)else(b22 g.1 f.1 c.1).bind λb=>some (b.1,b.2)
def a7w(b:A4×Int):A3 Int:=(b3c b.1 b.2).bind λa=>if(a==60)then if(a==60)then some 1 else some 0 else if(a==62)then if(a==62)then some 1 else some 0 else if(a==61)then if(a==61)then some 1 else some 0 else if(a==43)then if(a==43)then some 1 else some 0 else if(a==45)then if(a==45)then some 1 else some 0 else if(a==42)then if(a==42)then some 1 else some 0 else if(a==47)then if(a==47)then some 1 else some 0 else if(a==40)then if(a==40)then some 1 else some 0 else if(a==41)then if(a==41)then some 1 else some 0 else if(a==123)then if(a==123)then some 1 else some 0 else if(a==125)then if(a==125)then some 1 else some 0 else if(a==44)then if(a==44)then some 1 else some 0 else if(a==59)then some 1 else some 0
def b1a(b:A4)(a:Int):A3 Int:=if(decide ((i64 (a+1))<(b.size:Int)))then(c3u b a (i64 (a+2))).bind λc=>(if(c.toList==d28.toList)then some true else some (c.toList==d30.toList)).bind λe=>(if e then some true else some (c.toList==d1k.toList)).bind λd=>if d then some 2 else joinC a7w (b,a)else joinC a7w (b,a)
def a1o(a:A4×Int×Token×Int×Int×Bool):A3 (Token×Int×Int):=if(!a.2.2.2.2.2)then some ((⟨0,a3j,0⟩:Token),a.2.1,4)else(c3u a.1 a.2.1 (i64 (a.2.1+a.2.2.2.2.1))).bind λb=>some ((⟨a.2.2.2.1,b,a.2.1⟩:Token),i64 (a.2.1+a.2.2.2.2.1),0)
def b15(b:A4)(j:Int):A3 (Token×Int×Int):=(if(decide (j<0))then some true else some (decide (j>(b.size:Int)))).bind λn=>if n then some ((⟨0,a3j,0⟩:Token),0,1)else(b16 b j).bind λa=>if(a==(b.size:Int))then some ((⟨0,a3j,a⟩:Token),a,0)else(b3c b a).bind λm=>(a3q m).bind λo=>if o then(a9f b a false).bind λk=>joinC a1o (b,a,(⟨0,a3j,0⟩:Token),1,k,decide (k<=12))else(b3c b a).bind λl=>(a30 l).bind λp=>if p then(a9f b a true).bind λc=>(c3u b a (i64 (a+c))).bind λf=>(a6z f).bind λe=>joinC a1o (b,a,(⟨0,a3j,0⟩:Token),2,c,e.2.2.2)else(b3c b a).bind λg=>if(g==64)then if(decide ((i64 ((b.size:Int)-a))>=11))then(c3u b (i64 (a+1)) (i64 (a+11))).bind λh=>(a47 h).bind λi=>joinC a1o (b,a,(⟨0,a3j,0⟩:Token),3,11,i.2)else joinC a1o (b,a,(⟨0,a3j,0⟩:Token),3,11,decide ((i64 ((b.size:Int)-a))>=11))else(b1a b a).bind λd=>joinC a1o (b,a,(⟨0,a3j,0⟩:Token),4,d,decide (d>0))
def b7c(d:A4)(c:((O Token)×Int)->A3 ((O Token)×Int×Int))(b:(O Token)×Int):A3 ((O Token)×Int×Int):=(b15 d b.2).bind λa=>if(a.2.2!=0)then some ([],a.2.1,a.2.2)else if(a.1.Kind==0)then some (b.1,0,0)else(a4n 32 b.1 [a.1]).bind λe=>c (e,a.2.1)
def b25(a:A4):A3 ((O Token)×Int×Int):=if(decide ((a.size:Int)>8000))then some ([],0,7)else d9 FU (b7c a) ([],0)
def b02(b:A4):A3 ((A3 rQ)×Int×Int):=(b25 b).bind λa=>if(a.2.2!=0)then some (none,a.2.1,a.2.2)else some (some (⟨a.1,0,(b.size:Int),false⟩:rQ),0,0)
def u9(a:rQ)(e:A4):A3 Bool:=(if(!a.bad)then some (decide (a.at_<(a.l.length:Int)))else some false).bind λc=>(if c then(c7 a.l a.at_).bind λd=>some (d.Text.toList==e.toList)else some false).bind λb=>some b
def d7(a:rQ)(b:A4):A3 (Bool×rQ):=(u9 a b).bind λc=>if(!c)then some (false,a)else some (true,(⟨a.l,i64 (a.at_+1),a.end_,a.bad⟩:rQ))
def j8(a:rQ):A3 rQ:=some (⟨a.l,a.at_,a.end_,true⟩:rQ)
def b9(d:rQ)(b:A4):A3 rQ:=(d7 d b).bind λa=>if(!a.1)then(j8 a.2).bind λc=>some c else some a.2
def p8(a:rQ)(e:Int):A3 Bool:=(if(!a.bad)then some (decide (a.at_<(a.l.length:Int)))else some false).bind λc=>(if c then(c7 a.l a.at_).bind λd=>some (d.Kind==e)else some false).bind λb=>some b
def b4m(a:A4)(f:Int->A3 Bool)(b:Int):A3 Bool:=if(decide (b<(a.size:Int)))then(b3c a b).bind λh=>(a3q h).bind λi=>(if(!i)then(if(b==0)then some true else(b3c a b).bind λl=>(a30 l).bind λg=>(if(!g)then(b3c a b).bind λj=>some (j !=95)else some false).bind λe=>some e).bind λk=>some k else some false).bind λd=>if d then some false else f (i64 (b+1))else(if(decide ((a.size:Int)>=1))then some (decide ((a.size:Int)<=12))else some false).bind λc=>some c
def a99(a:A4):A3 Bool:=d9 FU (b4m a) 0
def a7o(a:A4):A3 Bool:=if(a.toList==c9m.toList)then if(a.toList==c9m.toList)then some true else some false else if(a.toList==c51.toList)then if(a.toList==c51.toList)then some true else some false else if(a.toList==d69.toList)then if(a.toList==d69.toList)then some true else some false else if(a.toList==b91.toList)then if(a.toList==b91.toList)then some true else some false else if(a.toList==b4x.toList)then if(a.toList==b4x.toList)then some true else some false else if(a.toList==c53.toList)then if(a.toList==c53.toList)then some true else some false else if(a.toList==c1a.toList)then if(a.toList==c1a.toList)then some true else some false else if(a.toList==c4c.toList)then if(a.toList==c4c.toList)then some true else some false else if(a.toList==c10.toList)then if(a.toList==c10.toList)then some true else some false else if(a.toList==d0k.toList)then if(a.toList==d0k.toList)then some true else some false else if(a.toList==c1q.toList)then if(a.toList==c1q.toList)then some true else some false else if(a.toList==d07.toList)then if(a.toList==d07.toList)then some true else some false else if(a.toList==c1c.toList)then if(a.toList==c1c.toList)then some true else some false else if(a.toList==c98.toList)then if(a.toList==c98.toList)then some true else some false else if(a.toList==c8l.toList)then if(a.toList==c8l.toList)then some true else some false else if(a.toList==c92.toList)then if(a.toList==c92.toList)then some true else some false else if(a.toList==d8p.toList)then if(a.toList==d8p.toList)then some true else some false else if(a.toList==c60.toList)then if(a.toList==c60.toList)then some true else some false else if(a.toList==b94.toList)then if(a.toList==b94.toList)then some true else some false else if(a.toList==c14.toList)then if(a.toList==c14.toList)then some true else some false else if(a.toList==b76.toList)then if(a.toList==b76.toList)then some true else some false else if(a.toList==d3p.toList)then some true else some false
def a2e(a:A4):A3 Bool:=(a99 a).bind λc=>(if c then(a7o a).bind λd=>some (!d)else some false).bind λb=>some b
def a0w(a:rQ):A3 (A4×rQ):=(p8 a 1).bind λd=>(if(!d)then some true else(c7 a.l a.at_).bind λe=>(a2e e.Text).bind λc=>some (!c)).bind λf=>if f then(j8 a).bind λg=>some (a3j,g)else(c7 a.l (i64 ((i64 (a.at_+1))-1))).bind λb=>some (b.Text,(⟨a.l,i64 (a.at_+1),a.end_,a.bad⟩:rQ))
def a43(a:Int):A3 Int:=if(decide (a<0))then some (u64 ((u64 (i64 (-(i64 (a+1)))))+1))else some (u64 (a))
def b62(a:Int×Int):A3 Int:=if(decide (a.1>=256))then(d0l .u64 a.1 8).bind λd=>(b3c b3u (IntKind.u8.wrap (d))).bind λc=>some (i64 ((i64 (a.2+8))+(i64 (c))))else(b3c b3u (IntKind.u8.wrap (a.1))).bind λb=>some (i64 (a.2+(i64 (b))))
def b65(a:Int×Int):A3 Int:=if(decide (a.1>=65536))then(d0l .u64 a.1 16).bind λb=>joinC b62 (b,i64 (a.2+16))else joinC b62 (a.1,a.2)
def b8x(a:Int):A3 Int:=if(decide (a>=4294967296))then(d0l .u64 a 32).bind λb=>joinC b65 (b,32)else joinC b65 (a,0)
def a7n(b:Int):A3 Int:=(b8x b).bind λa=>some (i64 (64-a))
def b5x(a:Int×Int×Int×Int×Int×Int):A3 (Int×Int):=(d0l .u64 (u64 ((u64 ((u64 (a.2.2.2.2.1*4294967296))+a.2.2.1))-(u64 (a.2.2.2.2.2*a.1)))) a.2.1).bind λb=>some (u64 ((u64 (a.2.2.2.1*4294967296))+a.2.2.2.2.2),b)
def c4t(a:Int×Int×Int×Int×Int×Int×Int×Int)(d:(Int×Int)->A3 (Int×Int))(b:Int×Int):A3 (Int×Int):=(if(decide (b.2>=4294967296))then some true else some (decide ((u64 (b.2*a.2.2.2.1))>(u64 ((u64 (4294967296*b.1))+a.2.2.2.2.2.2.1))))).bind λc=>if c then if(decide ((u64 (b.1+a.2.2.1))>=4294967296))then joinC b5x (a.1,a.2.1,a.2.2.2.2.2.2.1,a.2.2.2.2.2.2.2,u64 ((u64 ((u64 (a.2.2.2.2.1*4294967296))+a.2.2.2.2.2.1))-(u64 (a.2.2.2.2.2.2.2*a.1))),u64 (b.2-1))else d (u64 (b.1+a.2.2.1),u64 (b.2-1))else joinC b5x (a.1,a.2.1,a.2.2.2.2.2.2.1,a.2.2.2.2.2.2.2,u64 ((u64 ((u64 (a.2.2.2.2.1*4294967296))+a.2.2.2.2.2.1))-(u64 (a.2.2.2.2.2.2.2*a.1))),b.2)
def b31(a:Int×Int×Int×Int×Int×Int×Int×Int):A3 (Int×Int):=(if a.2.2.1=0then none else some (u64 (Int.tdiv (u64 ((u64 ((u64 (a.2.2.2.2.1*4294967296))+a.2.2.2.2.2.1))-(u64 (a.2.2.2.2.2.2.2*a.1)))) a.2.2.1))).bind λb=>d9 FU (c4t a) (u64 ((u64 ((u64 ((u64 (a.2.2.2.2.1*4294967296))+a.2.2.2.2.2.1))-(u64 (a.2.2.2.2.2.2.2*a.1))))-(u64 (b*a.2.2.1))),b)
def c4k(c b e j h i d:Int)(f:(Int×Int)->A3 (Int×Int))(a:Int×Int):A3 (Int×Int):=(if(decide (a.1>=4294967296))then some true else some (decide ((u64 (a.1*(d5y .u64 c 4294967295)))>(u64 ((u64 (4294967296*a.2))+b))))).bind λg=>if g then if(decide ((u64 (a.2+e))>=4294967296))then joinC b31 (c,u64 (j),e,d5y .u64 c 4294967295,orK .u64 h i,b,d5y .u64 d 4294967295,u64 (a.1-1))else f (u64 (a.1-1),u64 (a.2+e))else joinC b31 (c,u64 (j),e,d5y .u64 c 4294967295,orK .u64 h i,b,d5y .u64 d 4294967295,a.1)
def b9t(a:Int×Int×Int):A3 (Int×Int):=if(a.1==0)then(if a.2.2=0then none else some (u64 (Int.tdiv a.2.1 a.2.2))).bind λj=>(b8t a.2.1 a.2.2).bind λk=>some (j,k)else(a7n a.2.2).bind λd=>(g2a .u64 a.2.2 (u64 (d))).bind λi=>(d0l .u64 i 32).bind λe=>(g2a .u64 a.1 (u64 (d))).bind λf=>(d0l .u64 a.2.1 (u64 (64-(u64 (d))))).bind λh=>(g2a .u64 a.2.1 (u64 (d))).bind λc=>(d0l .u64 c 32).bind λg=>(if e=0then none else some (u64 (Int.tdiv (orK .u64 f h) e))).bind λb=>d9 FU (c4k i g e d f h c) (b,u64 ((orK .u64 f h)-(u64 (b*e))))
def b9j(a:Int×Int×Int):A3 (Int×Int):=if(decide (a.2.2<=a.1))then none else joinC b9t (a.1,a.2.1,a.2.2)
def a8o(c b a:Int):A3 (Int×Int):=if(a==0)then none else joinC b9j (c,b,a)
def a3h(b:pensionref1_wide)(a:Int):A3 (pensionref1_wide×Int):=(b8t b.hi a).bind λe=>(a8o e b.lo a).bind λc=>(if a=0then none else some (u64 (Int.tdiv b.hi a))).bind λd=>some ((⟨d,c.1⟩:pensionref1_wide),c.2)
def b7e(c:(Int×Int)->A3 Int)(a:Int×Int):A3 Int:=if(a.2!=0)then(b8t a.1 a.2).bind λb=>c (a.2,b)else some a.1
def a9s(b a:Int):A3 Int:=d9 FU b7e (b,a)
def b2l(g:Bool)(e:pensionref1_wide)(c:Int):A3 (fQ×Int):=(a3h e c).bind λh=>(a9s c h.2).bind λb=>(a3h e b).bind λa=>(if b=0then none else some (u64 (Int.tdiv c b))).bind λd=>(if(a.1.hi !=0)then some true else some (decide (a.1.lo>1000000000000000))).bind λi=>(if i then some true else some (decide (d>1000000000))).bind λf=>if f then some ((⟨0,0⟩:fQ),2)else if g then some ((⟨i64 (-(i64 (a.1.lo))),i64 (d)⟩:fQ),0)else some ((⟨i64 (a.1.lo),i64 (d)⟩:fQ),0)
def a3r(b a:Int):A3 (fQ×Int):=if(a==0)then some ((⟨0,0⟩:fQ),3)else(a43 b).bind λd=>(a43 a).bind λe=>(b2l ((decide (b<0))!=(decide (a<0))) (⟨0,d⟩:pensionref1_wide) e).bind λc=>some (c.1,c.2)
def b3f(b:A4×A4×Int×Bool)(c:(fQ×Int×Int×Int)->A3 (fQ×Int×Bool))(a:fQ×Int×Int×Int):A3 (fQ×Int×Bool):=if(decide (a.2.2.2<(i64 ((b.1.size:Int)+(b.2.1.size:Int)))))then(a7f b.1 b.2.1).bind λf=>(b3c f a.2.2.2).bind λd=>if(decide (a.2.2.2>=(b.1.size:Int)))then c (a.1,i64 ((i64 (a.2.1*10))+(i64 (IntKind.u8.wrap (d-48)))),i64 (a.2.2.1*10),i64 (a.2.2.2+1))else c (a.1,i64 ((i64 (a.2.1*10))+(i64 (IntKind.u8.wrap (d-48)))),a.2.2.1,i64 (a.2.2.2+1))else(a3r a.2.1 a.2.2.1).bind λe=>some (e.1,b.2.2.1,true)
def a2x(b:A4):A3 (fQ×Int×Bool):=(a6z b).bind λa=>if(!a.2.2.2)then some ((⟨0,0⟩:fQ),0,false)else d9 FU (b3f a) ((⟨0,0⟩:fQ),0,1,0)
def s7(a:rQ)(f h:Int):A3 (Int×rQ):=(p8 a 2).bind λe=>if e then(c7 a.l a.at_).bind λg=>(a2x g.Text).bind λb=>(if(b.2.1==2)then some (b.1.Den==1)else some false).bind λi=>(if i then some (decide (b.1.Num>=f))else some false).bind λk=>(if k then some (decide (b.1.Num<=h))else some false).bind λd=>if d then some (b.1.Num,(⟨a.l,i64 (a.at_+1),a.end_,a.bad⟩:rQ))else(j8 a).bind λj=>some (0,j)else(j8 a).bind λc=>some (0,c)
def b09(a:A4):A3 Int:=(c3u a 1 (a.size:Int)).bind λb=>(a47 b).bind λc=>some c.1
def a8l(a:A4):A3 Int:=if(a.toList==b0b.toList)then some 6 else if(a.toList==b3z.toList)then some 9 else if(a.toList==b87.toList)then some 7 else if(a.toList==d54.toList)then some 8 else if(a.toList==c97.toList)then some 10 else if(a.toList==c04.toList)then some 5 else some 0
def a52(a:A4):A3 Int:=if(a.toList==d9m.toList)then some 1 else if(a.toList==b8e.toList)then some 2 else if(a.toList==c0u.toList)then some 3 else if(a.toList==c66.toList)then some 4 else if(a.toList==c0r.toList)then some 5 else some 0
def a8f(a:A4):A3 Int:=if(a.toList==d4s.toList)then some 1 else if(a.toList==f1e.toList)then some 2 else if(a.toList==d3b.toList)then some 3 else if(a.toList==d3z.toList)then some 4 else some 0
def a0m(a:rQ)(d:Int):A3 (Int×rQ):=(p8 a 1).bind λi=>if i then(c7 a.l a.at_).bind λb=>(a8l b.Text).bind λc=>(a52 b.Text).bind λe=>(a8f b.Text).bind λg=>(c7 [c,e,g] (i64 (d-1))).bind λk=>(c7 [c,e,g] (i64 (d-1))).bind λf=>if(decide (f>0))then some (f,(⟨a.l,i64 (a.at_+1),a.end_,a.bad⟩:rQ))else(j8 a).bind λh=>some (0,h)else(j8 a).bind λj=>some (0,j)
def a8e(a:Int):A3 Int:=(if(decide (a>=1))then some (decide (a<=3))else some false).bind λc=>if c then some 0 else(if(decide (a>=4))then some (decide (a<=6))else some false).bind λd=>if d then some 1 else(if(decide (a>=7))then some (decide (a<=20))else some false).bind λb=>if b then some 2 else if(a==21)then some 3 else some (-1:Int)
def a6m(a:Int×Bool):A3 Int:=if a.2then some 5 else if(a.1==9)then if(a.1==9)then some 6 else some 7 else if(a.1==10)then some 6 else some 7
def a04(a:Int×Bool):A3 Int:=if a.2then some 4 else if(a.1==7)then joinC a6m (a.1,a.1==7)else joinC a6m (a.1,a.1==8)
def b05(a:Int):A3 Int:=if(a==21)then some 0 else if(a==18)then some 1 else if(a==17)then some 2 else if(a==5)then some 3 else if(a==11)then joinC a04 (a,a==11)else if(a==12)then joinC a04 (a,a==12)else if(a==13)then joinC a04 (a,a==13)else if(a==14)then joinC a04 (a,a==14)else if(a==15)then joinC a04 (a,a==15)else joinC a04 (a,a==16)
def a96(a:Int):A3 A4:=if(a==7)then some g5d else if(a==8)then some e00 else if(a==9)then some g62 else if(a==10)then some e8f else if(a==11)then some g4g else if(a==12)then some d28 else if(a==13)then some e7j else if(a==14)then some d1k else if(a==15)then some g5n else if(a==16)then some d30 else if(a==17)then some c9m else some d8p
def a9a(g:Int)(d:rQ)(b:Int->A3 Int)(a:Int):A3 Int:=if(decide (a<=18))then(b05 a).bind λe=>(if(e==g)then(a96 a).bind λf=>(u9 d f).bind λh=>some h else some false).bind λc=>if c then some a else b (i64 (a+1))else some 0
def a3a(b:rQ)(a:Int):A3 Int:=d9 FU (a9a a b) 7
structure eQ where f_pensionref5_reader_expr:rQ->Int->Option (Expr×rQ)f_pensionref5_reader_factor:rQ->Option (Expr×rQ)f_pensionref5_reader_call:rQ->Int->Option (Expr×rQ)
def b0l(R:eQ)(e:Int)(d:(rQ×(O Expr)×Expr×Expr)->A3 (Expr×rQ))(a:rQ×(O Expr)×Expr×Expr):A3 (Expr×rQ):=if(!a.1.bad)then(a3a a.1 e).bind λc=>if(c==0)then some (a.2.2.2,a.1)else(R.f_pensionref5_reader_expr (⟨a.1.l,i64 (a.1.at_+1),a.1.end_,a.1.bad⟩:rQ) (i64 (e+1))).bind λb=>if(e==4)then some ((⟨c,(⟨0,0⟩:fQ),0,a3j,[a.2.2.2,b.1]⟩:Expr),b.2)else d (b.2,a.2.1,(⟨a.2.2.1.Op,a.2.2.1.Value,a.2.2.1.Dim,a.2.2.1.Name,[]⟩:Expr),(⟨c,(⟨0,0⟩:fQ),0,a3j,[a.2.2.2,b.1]⟩:Expr))else some (a.2.2.2,a.1)
def a3b(R:eQ)(a:rQ)(d:Int):A3 (Expr×rQ):=if a.bad then some ((⟨0,(⟨0,0⟩:fQ),0,a3j,[]⟩:Expr),a)else if(d==0)then(d7 a d0k).bind λg=>if(!g.1)then(R.f_pensionref5_reader_expr g.2 1).bind λi=>some (i.1,i.2)else(R.f_pensionref5_reader_expr g.2 0).bind λh=>(b9 h.2 d3p).bind λn=>(R.f_pensionref5_reader_expr n 0).bind λl=>(b9 l.2 c53).bind λm=>(R.f_pensionref5_reader_expr m 0).bind λj=>some ((⟨21,(⟨0,0⟩:fQ),0,a3j,[h.1,l.1,j.1]⟩:Expr),j.2)else if(d==3)then(d7 a c92).bind λf=>if f.1then(R.f_pensionref5_reader_expr f.2 3).bind λk=>some ((⟨5,(⟨0,0⟩:fQ),0,a3j,[k.1]⟩:Expr),k.2)else(R.f_pensionref5_reader_expr f.2 4).bind λe=>some (e.1,e.2)else if(d==7)then(R.f_pensionref5_reader_factor a).bind λc=>some (c.1,c.2)else(R.f_pensionref5_reader_expr a (i64 (d+1))).bind λb=>d9 FU (b0l R d) (b.2,[],(⟨0,(⟨0,0⟩:fQ),0,a3j,[]⟩:Expr),b.1)
def a2a(R:eQ)(b:rQ):A3 (Expr×rQ):=(p8 b 2).bind λs=>if s then(c7 b.l b.at_).bind λt=>(a2x t.Text).bind λp=>some ((⟨1,p.1,p.2.1,a3j,[]⟩:Expr),(⟨b.l,i64 (b.at_+1),b.end_,b.bad⟩:rQ))else(d7 b e00).bind λk=>if k.1then(R.f_pensionref5_reader_expr k.2 7).bind λq=>some ((⟨4,(⟨0,0⟩:fQ),0,a3j,[q.1]⟩:Expr),q.2)else(d7 k.2 e02).bind λi=>if i.1then(R.f_pensionref5_reader_expr i.2 0).bind λo=>(b9 o.2 d38).bind λr=>some (o.1,r)else(d7 i.2 c51).bind λa=>if a.1then(b9 a.2 e02).bind λh=>(s7 h 1 45).bind λd=>(b9 d.2 d38).bind λl=>some ((⟨3,(⟨d.1,1⟩:fQ),0,a3j,[]⟩:Expr),l)else(u9 a.2 c1a).bind λj=>if j then(R.f_pensionref5_reader_call a.2 6).bind λe=>some (e.1,e.2)else(u9 a.2 c8l).bind λn=>if n then(R.f_pensionref5_reader_call a.2 19).bind λc=>some (c.1,c.2)else(u9 a.2 c98).bind λm=>if m then(R.f_pensionref5_reader_call a.2 20).bind λf=>some (f.1,f.2)else(a0w a.2).bind λg=>some ((⟨2,(⟨0,0⟩:fQ),0,g.1,[]⟩:Expr),g.2)
def a3d(R:eQ)(a:rQ)(c:Int):A3 (Expr×rQ):=(b9 (⟨a.l,i64 (a.at_+1),a.end_,a.bad⟩:rQ) e02).bind λg=>(R.f_pensionref5_reader_expr g 0).bind λb=>(a8e c).bind λf=>if(f==2)then(b9 b.2 g2w).bind λh=>(c7 [b.1] 0).bind λj=>(R.f_pensionref5_reader_expr h 0).bind λd=>(b9 d.2 d38).bind λi=>some ((⟨c,(⟨0,0⟩:fQ),0,a3j,[j,d.1]⟩:Expr),i)else(b9 b.2 d38).bind λe=>some ((⟨c,(⟨0,0⟩:fQ),0,a3j,[b.1]⟩:Expr),e)
def c8:Nat->eQ|0=>⟨λ_ _=>none,λ_=>none,λ_ _=>none⟩|n+1=>⟨a3b (c8 n),a2a (c8 n),a3d (c8 n)⟩
def a0u(b:rQ)(a:Int):A3 (Expr×rQ):=(c8 FU).f_pensionref5_reader_expr b a
def a1v(a:rQ×(O Credit)×(O Index)×(O Let)×(O Grant)×(O Reduce)×Version×Credit):A3 (rQ×Version×(O Credit)×(O Index)×(O Let)×(O Grant)×(O Reduce)):=(a4n 16 a.2.1 [a.2.2.2.2.2.2.2]).bind λc=>(b9 a.1 c3s).bind λb=>some (b,(⟨a.2.2.2.2.2.2.1.From,a.2.2.2.2.2.2.1.Rounding,[],[],[],[],[]⟩:Version),c,a.2.2.1,a.2.2.2.1,a.2.2.2.2.1,a.2.2.2.2.2.1)
def a1t(a:rQ×(O Credit)×(O Index)×(O Let)×(O Grant)×(O Reduce)×Version×Index):A3 (rQ×Version×(O Credit)×(O Index)×(O Let)×(O Grant)×(O Reduce)):=(a4n 24 a.2.2.1 [a.2.2.2.2.2.2.2]).bind λc=>(b9 a.1 c3s).bind λb=>some (b,(⟨a.2.2.2.2.2.2.1.From,a.2.2.2.2.2.2.1.Rounding,[],[],[],[],[]⟩:Version),a.2.1,c,a.2.2.2.1,a.2.2.2.2.1,a.2.2.2.2.2.1)
def a0a(a:rQ×(O Credit)×(O Index)×(O Let)×(O Grant)×(O Reduce)×Version×Index):A3 (rQ×Version×(O Credit)×(O Index)×(O Let)×(O Grant)×(O Reduce)):=if(a.2.2.2.2.2.2.2.Factor.Den==0)then(j8 a.1).bind λb=>joinC a1t (b,a.2.1,a.2.2.1,a.2.2.2.1,a.2.2.2.2.1,a.2.2.2.2.2.1,(⟨a.2.2.2.2.2.2.1.From,a.2.2.2.2.2.2.1.Rounding,[],[],[],[],[]⟩:Version),a.2.2.2.2.2.2.2)else joinC a1t (a.1,a.2.1,a.2.2.1,a.2.2.2.1,a.2.2.2.2.1,a.2.2.2.2.2.1,(⟨a.2.2.2.2.2.2.1.From,a.2.2.2.2.2.2.1.Rounding,[],[],[],[],[]⟩:Version),a.2.2.2.2.2.2.2)
def a39(M:rQ)(a:Version)(e:O Credit)(d:O Index)(g:O Let)(f:O Grant)(c:O Reduce):A3 (rQ×Version×(O Credit)×(O Index)×(O Let)×(O Grant)×(O Reduce)):=(d7 M b91).bind λE=>if E.1then(a0m E.2 1).bind λK=>(d7 K.2 c1c).bind λD=>if D.1then(s7 D.2 1 73049).bind λL=>joinC a1v (L.2,e,d,g,f,c,(⟨a.From,a.Rounding,[],[],[],[],[]⟩:Version),(⟨K.1,L.1⟩:Credit))else joinC a1v (D.2,e,d,g,f,c,(⟨a.From,a.Rounding,[],[],[],[],[]⟩:Version),(⟨K.1,0⟩:Credit))else(d7 E.2 c1q).bind λC=>if C.1then(s7 C.2 1900 2099).bind λb=>(p8 b.2 2).bind λu=>if u then(c7 b.2.l b.2.at_).bind λx=>(a2x x.Text).bind λk=>(if(k.2.1==2)then some (decide (k.1.Num>0))else some false).bind λy=>if y then joinC a0a ((⟨b.2.l,i64 (b.2.at_+1),b.2.end_,b.2.bad⟩:rQ),e,d,g,f,c,(⟨a.From,a.Rounding,[],[],[],[],[]⟩:Version),(⟨b.1,k.1⟩:Index))else joinC a0a (b.2,e,d,g,f,c,(⟨a.From,a.Rounding,[],[],[],[],[]⟩:Version),(⟨b.1,(⟨0,0⟩:fQ)⟩:Index))else joinC a0a (b.2,e,d,g,f,c,(⟨a.From,a.Rounding,[],[],[],[],[]⟩:Version),(⟨b.1,(⟨0,0⟩:fQ)⟩:Index))else(d7 C.2 d07).bind λh=>if h.1then(a0w h.2).bind λm=>(b9 m.2 e7j).bind λH=>(a0u H 0).bind λq=>(a4n 88 g [(⟨m.1,q.1⟩:Let)]).bind λz=>(b9 q.2 c3s).bind λJ=>some (J,(⟨a.From,a.Rounding,[],[],[],[],[]⟩:Version),e,d,z,f,c)else(d7 h.2 c10).bind λi=>if i.1then(a0m i.2 2).bind λr=>(b9 r.2 d0k).bind λv=>(a0u v 0).bind λn=>(b9 n.2 c60).bind λA=>(a0u A 0).bind λp=>(a4n 152 f [(⟨r.1,n.1,p.1⟩:Grant)]).bind λG=>(b9 p.2 c3s).bind λs=>some (s,(⟨a.From,a.Rounding,[],[],[],[],[]⟩:Version),e,d,g,G,c)else(d7 i.2 b94).bind λj=>if j.1then(a0m j.2 2).bind λo=>(b9 o.2 d69).bind λF=>(a0u F 0).bind λl=>(a4n 80 c [(⟨o.1,l.1⟩:Reduce)]).bind λw=>(b9 l.2 c3s).bind λI=>some (I,(⟨a.From,a.Rounding,[],[],[],[],[]⟩:Version),e,d,g,f,w)else(j8 j.2).bind λt=>(b9 t c3s).bind λB=>some (B,(⟨a.From,a.Rounding,[],[],[],[],[]⟩:Version),e,d,g,f,c)
def a8i(d:(rQ×(O Credit)×(O Index)×(O Let)×(O Grant)×(O Reduce)×Version×(O Credit)×(O Index)×(O Let)×(O Grant)×(O Reduce)×Version)->A3 (Version×rQ))(a:rQ×(O Credit)×(O Index)×(O Let)×(O Grant)×(O Reduce)×Version×(O Credit)×(O Index)×(O Let)×(O Grant)×(O Reduce)×Version):A3 (Version×rQ):=if(!a.1.bad)then(d7 a.1 d0a).bind λc=>if(!c.1)then(a39 c.2 (⟨a.2.2.2.2.2.2.2.2.2.2.2.2.From,a.2.2.2.2.2.2.2.2.2.2.2.2.Rounding,[],[],[],[],[]⟩:Version) a.2.2.2.2.2.2.2.1 a.2.2.2.2.2.2.2.2.1 a.2.2.2.2.2.2.2.2.2.1 a.2.2.2.2.2.2.2.2.2.2.1 a.2.2.2.2.2.2.2.2.2.2.2.1).bind λb=>d (b.1,a.2.1,a.2.2.1,a.2.2.2.1,a.2.2.2.2.1,a.2.2.2.2.2.1,(⟨a.2.2.2.2.2.2.1.From,a.2.2.2.2.2.2.1.Rounding,[],[],[],[],[]⟩:Version),b.2.2.1,b.2.2.2.1,b.2.2.2.2.1,b.2.2.2.2.2.1,b.2.2.2.2.2.2,(⟨b.2.1.From,b.2.1.Rounding,[],[],[],[],[]⟩:Version))else some ((⟨a.2.2.2.2.2.2.2.2.2.2.2.2.From,a.2.2.2.2.2.2.2.2.2.2.2.2.Rounding,a.2.2.2.2.2.2.2.1,a.2.2.2.2.2.2.2.2.1,a.2.2.2.2.2.2.2.2.2.1,a.2.2.2.2.2.2.2.2.2.2.1,a.2.2.2.2.2.2.2.2.2.2.2.1⟩:Version),c.2)else some ((⟨a.2.2.2.2.2.2.2.2.2.2.2.2.From,a.2.2.2.2.2.2.2.2.2.2.2.2.Rounding,a.2.2.2.2.2.2.2.1,a.2.2.2.2.2.2.2.2.1,a.2.2.2.2.2.2.2.2.2.1,a.2.2.2.2.2.2.2.2.2.2.1,a.2.2.2.2.2.2.2.2.2.2.2.1⟩:Version),a.1)
def a1l(a:rQ×(O Credit)×(O Index)×(O Let)×(O Grant)×(O Reduce)×Version×(O Credit)×(O Index)×(O Let)×(O Grant)×(O Reduce)×Version):A3 (Version×rQ):=(b9 a.1 e8b).bind λe=>(b9 e c14).bind λf=>(a0m f 3).bind λc=>(s7 c.2 1 100000).bind λd=>(b9 d.2 c3s).bind λb=>d9 FU a8i (b,a.2.1,a.2.2.1,a.2.2.2.1,a.2.2.2.2.1,a.2.2.2.2.2.1,(⟨a.2.2.2.2.2.2.1.From,a.2.2.2.2.2.2.1.Rounding,[],[],[],[],[]⟩:Version),a.2.2.2.2.2.2.2.1,a.2.2.2.2.2.2.2.2.1,a.2.2.2.2.2.2.2.2.2.1,a.2.2.2.2.2.2.2.2.2.2.1,a.2.2.2.2.2.2.2.2.2.2.2.1,(⟨a.2.2.2.2.2.2.2.2.2.2.2.2.From,(⟨c.1,d.1⟩:Rounding),[],[],[],[],[]⟩:Version))
def a2o(c:rQ):A3 (Version×rQ):=(b9 c c4c).bind λa=>(p8 a 3).bind λe=>if e then(c7 a.l a.at_).bind λd=>(b09 d.Text).bind λf=>joinC a1l ((⟨a.l,i64 (a.at_+1),a.end_,a.bad⟩:rQ),[],[],[],[],[],(⟨0,(⟨0,0⟩:Rounding),[],[],[],[],[]⟩:Version),[],[],[],[],[],(⟨f,(⟨0,0⟩:Rounding),[],[],[],[],[]⟩:Version))else(j8 a).bind λb=>joinC a1l (b,[],[],[],[],[],(⟨0,(⟨0,0⟩:Rounding),[],[],[],[],[]⟩:Version),[],[],[],[],[],(⟨0,(⟨0,0⟩:Rounding),[],[],[],[],[]⟩:Version))
def a3s(a:rQ):A3 Int:=if(decide (a.at_<(a.l.length:Int)))then(c7 a.l a.at_).bind λb=>some b.At else some a.end_
def a6n(a:Int):A3 Bool:=(if(decide (a>=0))then some (decide (a<=73048))else some false).bind λb=>some b
def a3c(a:Rounding):A3 Bool:=(if(decide (a.Mode>=1))then some (decide (a.Mode<=4))else some false).bind λc=>(if c then some (decide (a.Unit>=1))else some false).bind λd=>(if d then some (decide (a.Unit<=100000))else some false).bind λb=>some b
def b53(b g:Int)(m:((O A4)×Int)->A3 A4)(a:(O A4)×Int):A3 A4:=(if(decide (a.2<(a.1.length:Int)))then some (decide (b>0))else some false).bind λq=>if q then(if(g==1)then(c7 a.1 a.2).bind λt=>(c7 a.1 a.2).bind λs=>(a8l s).bind λn=>some (n==b)else some false).bind λl=>(if l then some true else(if(g==2)then(c7 a.1 a.2).bind λu=>(c7 a.1 a.2).bind λr=>(a52 r).bind λc=>some (c==b)else some false).bind λe=>some e).bind λi=>(if i then some true else(if(g==3)then(c7 a.1 a.2).bind λo=>(c7 a.1 a.2).bind λf=>(a8f f).bind λk=>some (k==b)else some false).bind λd=>some d).bind λj=>if j then(c7 a.1 a.2).bind λp=>(c7 a.1 a.2).bind λh=>some h else m (a.1,i64 (a.2+1))else some a3j
def a3t(b a:Int):A3 A4:=d9 FU (b53 b a) ([b0b,b3z,b87,d54,c97,c04,d9m,b8e,c0u,c66,c0r,d4s,f1e,d3b,d3z],0)
def a1h(a:fQ):A3 Bool:=(if(decide (a.Den>=1))then some (decide (a.Den<=1000000000))else some false).bind λd=>(if d then some (decide (a.Num>=(-1000000000000000:Int)))else some false).bind λe=>(if e then some (decide (a.Num<=1000000000000000))else some false).bind λc=>(if c then(a43 a.Num).bind λf=>(a9s f (u64 (a.Den))).bind λg=>some (g==1)else some false).bind λb=>some b
def b4s(f:Int)(c:(Int×A4)->A3 A4)(a:Int×A4):A3 A4:=(if(decide (a.1>0))then some true else some (decide ((a.2.size:Int)<f))).bind λe=>if e then(b8t a.1 10).bind λg=>(b8t a.1 10).bind λi=>(c3u a6h g (i64 (i+1))).bind λd=>(a7f d a.2).bind λh=>(c2t a.1 10).bind λb=>c (b,h)else some a.2
def a5w(b a:Int):A3 A4:=d9 FU (b4s a) (b,a3j)
def a3x(a:fQ×A4):A3 A4:=if(a.1.Den !=1)then(a7f a.2 e8f).bind λd=>(a5w a.1.Den 1).bind λb=>(a7f d b).bind λc=>some c else some a.2
def a2n(a:fQ):A3 A4:=(a1h a).bind λc=>if(!c)then some a3j else(a43 a.Num).bind λd=>(a5w (i64 (d)) 1).bind λb=>if(decide (a.Num<0))then(a7f e00 b).bind λe=>joinC a3x (a,e)else joinC a3x (a,b)
def a93(b:Int×A4×Int)(c:(A4×Int×Int)->A3 (A4×Bool))(a:A4×Int×Int):A3 (A4×Bool):=if(decide (a.2.1>0))then(c2t a.2.1 a.2.2).bind λe=>(c2t a.2.1 a.2.2).bind λi=>(c3u a6h e (i64 (i+1))).bind λk=>(a7f a.1 k).bind λf=>(b8t a.2.1 a.2.2).bind λj=>(c2t a.2.2 10).bind λd=>c (f,j,d)else(c7 [a3j,e4t,e6u] (i64 (b.1-2))).bind λl=>(c7 [a3j,e4t,e6u] (i64 (b.1-2))).bind λh=>(a7f a.1 h).bind λg=>some (g,true)
def a1u(a:Int×A4×Int):A3 (A4×Bool):=d9 FU (a93 a) (a.2.1,a.2.2,1000)
def a1g(a:fQ)(c:Int):A3 (A4×Bool):=(a1h a).bind λi=>(if(!i)then some true else some (decide (a.Num<0))).bind λj=>(if j then some true else(b8t 10000 a.Den).bind λh=>some (h !=0)).bind λk=>(if k then some true else some (decide (c<2))).bind λl=>(if l then some true else some (decide (c>4))).bind λg=>if g then some (a3j,false)else(c2t a.Num a.Den).bind λb=>if(decide (b>999999999))then some (a3j,false)else(a2n (⟨b,1⟩:fQ)).bind λf=>(c2t 10000 a.Den).bind λe=>if(decide ((i64 ((i64 (a.Num-(i64 (b*a.Den))))*e))>0))then(a7f f b1i).bind λd=>joinC a1u (c,d,i64 ((i64 (a.Num-(i64 (b*a.Den))))*e))else joinC a1u (c,f,i64 ((i64 (a.Num-(i64 (b*a.Den))))*e))
structure Ring_pensionref5_Depth where f_pensionref5_Depth:Expr->Option Int
def b5n(R:Ring_pensionref5_Depth)(c:(Expr×Int×Int)->A3 Int)(a:Expr×Int×Int):A3 Int:=if(decide (a.2.2<(a.1.Args.length:Int)))then(c7 a.1.Args a.2.2).bind λb=>(R.f_pensionref5_Depth b).bind λd=>c (a.1,max a.2.1 d,i64 (a.2.2+1))else some (i64 (a.2.1+1))
def a7r(R:Ring_pensionref5_Depth)(a:Expr):A3 Int:=d9 FU (b5n R) (a,0,0)
def s5:Nat->Ring_pensionref5_Depth|0=>⟨λ_=>none⟩|n+1=>⟨a7r (s5 n)⟩
def c61(a:Expr):A3 Int:=(s5 FU).f_pensionref5_Depth a
structure Ring_pensionref5_Size where f_pensionref5_Size:Expr->Option Int
def b6r(R:Ring_pensionref5_Size)(c:(Expr×Int×Int)->A3 Int)(a:Expr×Int×Int):A3 Int:=if(decide (a.2.2<(a.1.Args.length:Int)))then(c7 a.1.Args a.2.2).bind λb=>(R.f_pensionref5_Size b).bind λd=>c (a.1,i64 (a.2.1+d),i64 (a.2.2+1))else some a.2.1
def a94(R:Ring_pensionref5_Size)(a:Expr):A3 Int:=d9 FU (b6r R) (a,1,0)
def u7:Nat->Ring_pensionref5_Size|0=>⟨λ_=>none⟩|n+1=>⟨a94 (u7 n)⟩
def c76(a:Expr):A3 Int:=(u7 FU).f_pensionref5_Size a
structure Ring_pensionref5_formed where f_pensionref5_formed:Expr->Option Bool
def b4j(R:Ring_pensionref5_formed)(e:Bool)(b:(Expr×Int)->A3 Bool)(a:Expr×Int):A3 Bool:=if(decide (a.2<(a.1.Args.length:Int)))then(c7 a.1.Args a.2).bind λc=>(R.f_pensionref5_formed c).bind λd=>if(!d)then some false else b (a.1,i64 (a.2+1))else some e
def a6s(R:Ring_pensionref5_formed)(a:Expr):A3 Bool:=(a8e a.Op).bind λh=>if((a.Args.length:Int)!=h)then some false else(if((a.Value.Num==0)&&((a.Value.Den==0)&&(true)))then some (a.Dim==0)else some false).bind λi=>(if i then some (a.Name.toList==a3j.toList)else some false).bind λg=>if(a.Op==1)then(a1g a.Value a.Dim).bind λj=>(if j.2then some (a.Name.toList==a3j.toList)else some false).bind λm=>some m else if(a.Op==2)then(if((a.Value.Num==0)&&((a.Value.Den==0)&&(true)))then some (a.Dim==0)else some false).bind λf=>(if f then(a2e a.Name).bind λk=>some k else some false).bind λe=>some e else if(a.Op==3)then(if(a.Dim==0)then some (a.Name.toList==a3j.toList)else some false).bind λl=>(if l then some (a.Value.Den==1)else some false).bind λd=>(if d then some (decide (a.Value.Num>=1))else some false).bind λc=>(if c then some (decide (a.Value.Num<=45))else some false).bind λb=>some b else d9 FU (b4j R g) (a,0)
def p7:Nat->Ring_pensionref5_formed|0=>⟨λ_=>none⟩|n+1=>⟨a6s (p7 n)⟩
def c4h(a:Expr):A3 Bool:=(p7 FU).f_pensionref5_formed a
def a0g(a:Expr):A3 Bool:=(c61 a).bind λc=>(if(decide (c<=10))then(c76 a).bind λd=>some (decide (d<=60))else some false).bind λb=>(if b then(c4h a).bind λe=>some e else some false).bind λf=>some f
def a4x(c:(Version×Int)->A3 Bool)(a:Version×Int):A3 Bool:=if(decide (a.2<(a.1.Reduces.length:Int)))then(c7 a.1.Reduces a.2).bind λf=>(a3t f.Benefit 2).bind λd=>(if(d.toList==a3j.toList)then some true else(c7 a.1.Reduces a.2).bind λe=>(a0g e.By).bind λb=>some (!b)).bind λg=>if g then some false else c (a.1,i64 (a.2+1))else some true
def a4o(i:(Version×Int)->A3 Bool)(a:Version×Int):A3 Bool:=if(decide (a.2<(a.1.Grants.length:Int)))then(c7 a.1.Grants a.2).bind λc=>(a3t c.Benefit 2).bind λb=>(if(b.toList==a3j.toList)then some true else(c7 a.1.Grants a.2).bind λh=>(a0g h.If).bind λd=>some (!d)).bind λj=>(if j then some true else(c7 a.1.Grants a.2).bind λe=>(a0g e.Pay).bind λf=>some (!f)).bind λg=>if g then some false else i (a.1,i64 (a.2+1))else d9 FU a4x (a.1,0)
def a56(c:(Version×Int)->A3 Bool)(a:Version×Int):A3 Bool:=if(decide (a.2<(a.1.Lets.length:Int)))then(c7 a.1.Lets a.2).bind λe=>(a2e e.Name).bind λf=>(if(!f)then some true else(c7 a.1.Lets a.2).bind λd=>(a0g d.Body).bind λb=>some (!b)).bind λg=>if g then some false else c (a.1,i64 (a.2+1))else d9 FU a4o (a.1,0)
def a4z(b:(Version×Int)->A3 Bool)(a:Version×Int):A3 Bool:=if(decide (a.2<(a.1.Series.length:Int)))then(c7 a.1.Series a.2).bind λe=>(a1g e.Factor 2).bind λc=>(c7 a.1.Series a.2).bind λh=>(if(decide (h.Year<1900))then some true else(c7 a.1.Series a.2).bind λg=>some (decide (g.Year>2099))).bind λd=>(if d then some true else some (!c.2)).bind λj=>(if j then some true else(c7 a.1.Series a.2).bind λi=>some (decide (i.Factor.Num<1))).bind λf=>if f then some false else b (a.1,i64 (a.2+1))else d9 FU a56 (a.1,0)
def a4r(e:(Version×Int)->A3 Bool)(a:Version×Int):A3 Bool:=if(decide (a.2<(a.1.Credits.length:Int)))then(c7 a.1.Credits a.2).bind λc=>(a3t c.Kind 1).bind λb=>(if(b.toList==a3j.toList)then some true else(c7 a.1.Credits a.2).bind λd=>some (decide (d.Limit<0))).bind λf=>(if f then some true else(c7 a.1.Credits a.2).bind λg=>some (decide (g.Limit>73049))).bind λh=>if h then some false else e (a.1,i64 (a.2+1))else d9 FU a4z (a.1,0)
def a3n(a:Version):A3 Bool:=(a6n a.From).bind λe=>(if(!e)then some true else(a3c a.Rounding).bind λf=>some (!f)).bind λd=>(if d then some true else some (decide ((a.Credits.length:Int)>6))).bind λg=>(if g then some true else some (decide ((a.Series.length:Int)>20))).bind λi=>(if i then some true else some (decide ((a.Lets.length:Int)>10))).bind λc=>(if c then some true else some (decide ((a.Grants.length:Int)>5))).bind λh=>(if h then some true else some (decide ((a.Reduces.length:Int)>5))).bind λb=>if b then some false else d9 FU a4r (a,0)
def b5o(d:(Statute×Int)->A3 Bool)(a:Statute×Int):A3 Bool:=if(decide (a.2<(a.1.Versions.length:Int)))then(c7 a.1.Versions a.2).bind λb=>(a3n b).bind λc=>if(!c)then some false else d (a.1,i64 (a.2+1))else some true
def b00(a:Statute):A3 Bool:=(a2e a.Name).bind λc=>(if(!c)then some true else some (decide (a.Currency<1))).bind λd=>(if d then some true else some (decide (a.Currency>999))).bind λb=>(if b then some true else some (decide ((a.Versions.length:Int)<1))).bind λe=>(if e then some true else some (decide ((a.Versions.length:Int)>6))).bind λf=>if f then some false else d9 FU b5o (a,0)
def a6u(d:((O Version)×Statute×rQ×(O Version)×Statute×Bool)->A3 (Statute×Int×Int))(a:(O Version)×Statute×rQ×(O Version)×Statute):A3 (Statute×Int×Int):=(a2o a.2.2.1).bind λb=>(a4n 144 a.2.2.2.1 [b.1]).bind λc=>d (a.1,(⟨a.2.1.Name,a.2.1.Currency,[]⟩:Statute),b.2,c,(⟨a.2.2.2.2.Name,a.2.2.2.2.Currency,[]⟩:Statute),false)
def a6p(a:(O Version)×Statute×rQ×(O Version)×Statute):A3 (Statute×Int×Int):=(if a.2.2.1.bad then some true else some (decide (a.2.2.1.at_<(a.2.2.1.l.length:Int)))).bind λd=>if d then(a3s a.2.2.1).bind λc=>some ((⟨a3j,0,[]⟩:Statute),c,4)else(b00 (⟨a.2.2.2.2.Name,a.2.2.2.2.Currency,a.2.2.2.1⟩:Statute)).bind λb=>if(!b)then some ((⟨a3j,0,[]⟩:Statute),0,7)else some ((⟨a.2.2.2.2.Name,a.2.2.2.2.Currency,a.2.2.2.1⟩:Statute),0,0)
def b5m(c:((O Version)×Statute×rQ×(O Version)×Statute×Bool)->A3 (Statute×Int×Int))(a:(O Version)×Statute×rQ×(O Version)×Statute×Bool):A3 (Statute×Int×Int):=if(!a.2.2.1.bad)then if a.2.2.2.2.2then joinC (a6u c) (a.1,(⟨a.2.1.Name,a.2.1.Currency,[]⟩:Statute),a.2.2.1,a.2.2.2.1,(⟨a.2.2.2.2.1.Name,a.2.2.2.2.1.Currency,[]⟩:Statute))else(d7 a.2.2.1 d0a).bind λb=>if(!b.1)then joinC (a6u c) (a.1,(⟨a.2.1.Name,a.2.1.Currency,[]⟩:Statute),b.2,a.2.2.2.1,(⟨a.2.2.2.2.1.Name,a.2.2.2.2.1.Currency,[]⟩:Statute))else joinC a6p (a.1,(⟨a.2.1.Name,a.2.1.Currency,[]⟩:Statute),b.2,a.2.2.2.1,(⟨a.2.2.2.2.1.Name,a.2.2.2.2.1.Currency,[]⟩:Statute))else joinC a6p (a.1,(⟨a.2.1.Name,a.2.1.Currency,[]⟩:Statute),a.2.2.1,a.2.2.2.1,(⟨a.2.2.2.2.1.Name,a.2.2.2.2.1.Currency,[]⟩:Statute))
def a9z(d:A4):A3 (Statute×Int×Int):=(b02 d).bind λa=>optC a.1 (if(a.2.2!=0)then some ((⟨a3j,0,[]⟩:Statute),a.2.1,a.2.2)else none) λf=>if(a.2.2!=0)then some ((⟨a3j,0,[]⟩:Statute),a.2.1,a.2.2)else(b9 f b76).bind λe=>(a0w e).bind λc=>(b9 c.2 b4x).bind λh=>(s7 h 1 999).bind λb=>(b9 b.2 e8b).bind λg=>d9 FU b5m ([],(⟨a3j,0,[]⟩:Statute),g,[],(⟨c.1,b.1,[]⟩:Statute),true)
def b71(f:O Int)(h:((O State)×(O Rules)×(O Rate)×Laws×(O State)×(O Rules)×Laws×Int)->A3 Laws)(a:(O State)×(O Rules)×(O Rate)×Laws×(O State)×(O Rules)×Laws×Int):A3 Laws:=if(decide (a.2.2.2.2.2.2.2<3))then(b10 a.2.2.2.2.2.2.2 f).bind λm=>(a9z m).bind λi=>if(i.2.2==0)then(a4n 56 a.2.2.2.2.1 [(⟨a.2.2.2.2.2.2.2,i.1⟩:State)]).bind λp=>h (a.1,a.2.1,a.2.2.1,(⟨[],[],[]⟩:Laws),p,a.2.2.2.2.2.1,(⟨[],[],a.2.2.2.2.2.2.1.Rates⟩:Laws),i64 (a.2.2.2.2.2.2.2+1))else h (a.1,a.2.1,a.2.2.1,(⟨[],[],[]⟩:Laws),a.2.2.2.2.1,a.2.2.2.2.2.1,(⟨[],[],a.2.2.2.2.2.2.1.Rates⟩:Laws),i64 (a.2.2.2.2.2.2.2+1))else(c5 f 2).bind λl=>(b7 l 6).bind λd=>(c5 f 5).bind λk=>(b7 k 3).bind λj=>if(j==0)then(c7 [(⟨0,i64 (90*d),730,25,[0,1]⟩:Rules)] 0).bind λo=>(c7 [(⟨0,i64 (90*d),730,25,[0,1]⟩:Rules)] 0).bind λb=>some (⟨a.2.2.2.2.1,a8h [(⟨0,i64 (90*d),730,25,[0,1]⟩:Rules)] 0 (⟨b.From,b.MinDays,b.PostingLimit,b.Substantial,[0,1,2]⟩:Rules),a.2.2.2.2.2.2.1.Rates⟩:Laws)else if(j==1)then(a4n 56 [(⟨0,i64 (90*d),730,25,[0,1]⟩:Rules)] [(⟨35000,i64 (90*d),365,30,[0,1,2]⟩:Rules)]).bind λe=>some (⟨a.2.2.2.2.1,e,a.2.2.2.2.2.2.1.Rates⟩:Laws)else(c7 [(⟨0,i64 (90*d),730,25,[0,1]⟩:Rules)] 0).bind λn=>(c7 [(⟨0,i64 (90*d),730,25,[0,1]⟩:Rules)] 0).bind λc=>(a4n 56 (a8h [(⟨0,i64 (90*d),730,25,[0,1]⟩:Rules)] 0 (⟨c.From,c.MinDays,c.PostingLimit,c.Substantial,[0,1,2]⟩:Rules)) [(⟨36000,i64 (90*d),730,25,[0,1]⟩:Rules)]).bind λg=>some (⟨a.2.2.2.2.1,g,a.2.2.2.2.2.2.1.Rates⟩:Laws)
def b11(a:O Int):A3 Laws:=d9 FU (b71 a) ([],[],[],(⟨[],[],[]⟩:Laws),[],[],(⟨[],[],[(⟨1,0,(⟨1,1⟩:fQ)⟩:Rate),(⟨2,0,(⟨3,2⟩:fQ)⟩:Rate),(⟨3,0,(⟨1,7⟩:fQ)⟩:Rate),(⟨3,1150,(⟨1,9⟩:fQ)⟩:Rate)]⟩:Laws),0)
def a40(d a:Int):A3 Int:=if(decide (a<1))then some 0 else(b8t d a).bind λb=>(b8t (i64 (b+a)) a).bind λc=>some c
def b3p(g:O Int)(l:Int):A3 Laws:=(b11 g).bind λa=>(a40 l 24).bind λd=>if(d==0)then(a1x a.States 1 (a.States.length:Int)).bind λh=>some (⟨h,a.Treaty,a.Rates⟩:Laws)else if(d==1)then(c7 a.States 0).bind λq=>none else if(d==2)then some (⟨a.States,[],a.Rates⟩:Laws)else if(d==3)then(a4n 32 [] a.Rates).bind λp=>(c7 a.Rates 0).bind λf=>(a4n 32 p [f]).bind λn=>some (⟨a.States,a.Treaty,n⟩:Laws)else if(d==4)then(a1x a.Rates 0 2).bind λe=>some (⟨a.States,a.Treaty,e⟩:Laws)else if(d==5)then(c7 a.States 0).bind λo=>(a4n 144 [] o.Statute.Versions).bind λc=>(c7 c 0).bind λi=>(c7 c 0).bind λb=>(a1x (a8h c 0 (⟨36000,b.Rounding,b.Credits,b.Series,b.Lets,b.Grants,b.Reduces⟩:Version)) 0 1).bind λj=>(c7 a.States 0).bind λk=>none else if(d==6)then(c7 a.States 1).bind λm=>none else some a
def a97(a:Int):A3 Int:=(b7 a 4).bind λb=>if(b==0)then(c2t a 4).bind λf=>(b7 f 9000).bind λe=>some (i64 (1+e))else if(b==1)then(c2t a 4).bind λg=>(b7 g 1200).bind λj=>some (i64 (1+j))else if(b==2)then(c2t a 4).bind λd=>(b7 d 120).bind λh=>some (i64 (1+h))else(c2t a 4).bind λc=>(b7 c 12).bind λi=>some (i64 (1+i))
def u4(a:Int):A3 A4:=(if(decide (a<1))then some true else some (decide (a>=([a3j,b1y,a6w,a6w,c0p,a9l,b82,a9l,a9l,a9l,c1r,c0e,c0e,c0e,c6f].length:Int)))).bind λc=>if c then some a3j else(c7 [a3j,b1y,a6w,a6w,c0p,a9l,b82,a9l,a9l,a9l,c1r,c0e,c0e,c0e,c6f] a).bind λd=>(c7 [a3j,b1y,a6w,a6w,c0p,a9l,b82,a9l,a9l,a9l,c1r,c0e,c0e,c0e,c6f] a).bind λb=>some b
def b6j(d:A4)(o:tN×aQ×aQ×Int×Int)(b:(tN×aQ×aQ×Int)->A3 aQ)(a:tN×aQ×aQ×Int):A3 aQ:=if(decide (a.2.2.2<(d.size:Int)))then(b3c d a.2.2.2).bind λc=>if(c==83)then(b7 a.1.State 3).bind λj=>b (a.1,a.2.1,(⟨a.2.2.1.Issuer,a.2.2.1.Number,a.2.2.1.Version,a.2.2.1.Withdrawn,a.2.2.1.Person,a.2.2.1.Kind,j,a.2.2.1.Span,a.2.2.1.Seat,a.2.2.1.Share,a.2.2.1.Currency,a.2.2.1.Amount,a.2.2.1.Ref⟩:aQ),i64 (a.2.2.2+1))else if(c==80)then b (a.1,a.2.1,(⟨a.2.2.1.Issuer,a.2.2.1.Number,a.2.2.1.Version,a.2.2.1.Withdrawn,a.2.2.1.Person,a.2.2.1.Kind,a.2.2.1.State,(⟨o.2.2.2.1,o.2.2.2.2⟩:Span),a.2.2.1.Seat,a.2.2.1.Share,a.2.2.1.Currency,a.2.2.1.Amount,a.2.2.1.Ref⟩:aQ),i64 (a.2.2.2+1))else if(c==84)then(b7 a.1.Seat 3).bind λf=>(if(a.2.2.1.Kind==4)then some (f==a.2.2.1.State)else some false).bind λn=>if n then(b7 (i64 (a.2.2.1.State+1)) 3).bind λk=>b (a.1,a.2.1,(⟨a.2.2.1.Issuer,a.2.2.1.Number,a.2.2.1.Version,a.2.2.1.Withdrawn,a.2.2.1.Person,a.2.2.1.Kind,a.2.2.1.State,a.2.2.1.Span,k,a.2.2.1.Share,a.2.2.1.Currency,a.2.2.1.Amount,a.2.2.1.Ref⟩:aQ),i64 (a.2.2.2+1))else b (a.1,a.2.1,(⟨a.2.2.1.Issuer,a.2.2.1.Number,a.2.2.1.Version,a.2.2.1.Withdrawn,a.2.2.1.Person,a.2.2.1.Kind,a.2.2.1.State,a.2.2.1.Span,f,a.2.2.1.Share,a.2.2.1.Currency,a.2.2.1.Amount,a.2.2.1.Ref⟩:aQ),i64 (a.2.2.2+1))else if(c==72)then(b7 a.1.Share 100).bind λm=>b (a.1,a.2.1,(⟨a.2.2.1.Issuer,a.2.2.1.Number,a.2.2.1.Version,a.2.2.1.Withdrawn,a.2.2.1.Person,a.2.2.1.Kind,a.2.2.1.State,a.2.2.1.Span,a.2.2.1.Seat,i64 (1+m),a.2.2.1.Currency,a.2.2.1.Amount,a.2.2.1.Ref⟩:aQ),i64 (a.2.2.2+1))else if(c==67)then(b8t a.1.State 3).bind λi=>(b7 (i64 (a.1.Seat+i)) 3).bind λg=>b (a.1,a.2.1,(⟨a.2.2.1.Issuer,a.2.2.1.Number,a.2.2.1.Version,a.2.2.1.Withdrawn,a.2.2.1.Person,a.2.2.1.Kind,a.2.2.1.State,a.2.2.1.Span,a.2.2.1.Seat,a.2.2.1.Share,i64 (1+g),a.2.2.1.Amount,a.2.2.1.Ref⟩:aQ),i64 (a.2.2.2+1))else if(c==65)then(b7 a.1.Amount 3000000).bind λl=>b (a.1,a.2.1,(⟨a.2.2.1.Issuer,a.2.2.1.Number,a.2.2.1.Version,a.2.2.1.Withdrawn,a.2.2.1.Person,a.2.2.1.Kind,a.2.2.1.State,a.2.2.1.Span,a.2.2.1.Seat,a.2.2.1.Share,a.2.2.1.Currency,l,a.2.2.1.Ref⟩:aQ),i64 (a.2.2.2+1))else(b7 a.1.Ref 4).bind λe=>if((i64 (1+e))==a.2.2.1.Person)then(b7 a.2.2.1.Person 4).bind λh=>b (a.1,a.2.1,(⟨a.2.2.1.Issuer,a.2.2.1.Number,a.2.2.1.Version,a.2.2.1.Withdrawn,a.2.2.1.Person,a.2.2.1.Kind,a.2.2.1.State,a.2.2.1.Span,a.2.2.1.Seat,a.2.2.1.Share,a.2.2.1.Currency,a.2.2.1.Amount,i64 (1+h)⟩:aQ),i64 (a.2.2.2+1))else b (a.1,a.2.1,(⟨a.2.2.1.Issuer,a.2.2.1.Number,a.2.2.1.Version,a.2.2.1.Withdrawn,a.2.2.1.Person,a.2.2.1.Kind,a.2.2.1.State,a.2.2.1.Span,a.2.2.1.Seat,a.2.2.1.Share,a.2.2.1.Currency,a.2.2.1.Amount,i64 (1+e)⟩:aQ),i64 (a.2.2.2+1))else some a.2.2.1
def a31(a:tN×aQ×aQ×Int×Int):A3 aQ:=(u4 a.2.2.1.Kind).bind λb=>d9 FU (b6j b a) (a.1,a.2.1,a.2.2.1,0)
def b1b(a:tN):A3 aQ:=(b7 a.Issuer 3).bind λf=>(b7 a.Number 20).bind λg=>(b7 a.Version 3).bind λe=>(b7 a.Person 4).bind λh=>(b7 a.Kind 14).bind λb=>(b7 a.From 16000).bind λk=>(a97 a.Length).bind λl=>if((i64 (1+b))==11)then(b7 a.From 5000).bind λj=>joinC a31 (a,(⟨0,0,0,false,0,0,0,(⟨0,0⟩:Span),0,0,0,0,0⟩:aQ),(⟨f,i64 (1+g),i64 (1+e),a.Withdrawn,i64 (1+h),i64 (1+b),0,(⟨0,0⟩:Span),0,0,0,0,0⟩:aQ),i64 (12000+j),i64 ((i64 (12000+j))+1))else if((i64 (1+b))==12)then(b7 a.From 6000).bind λd=>joinC a31 (a,(⟨0,0,0,false,0,0,0,(⟨0,0⟩:Span),0,0,0,0,0⟩:aQ),(⟨f,i64 (1+g),i64 (1+e),a.Withdrawn,i64 (1+h),i64 (1+b),0,(⟨0,0⟩:Span),0,0,0,0,0⟩:aQ),i64 (34000+d),i64 ((i64 (34000+d))+1))else if((i64 (1+b))==8)then(b7 a.From 4000).bind λc=>(b7 a.Length 700).bind λi=>joinC a31 (a,(⟨0,0,0,false,0,0,0,(⟨0,0⟩:Span),0,0,0,0,0⟩:aQ),(⟨f,i64 (1+g),i64 (1+e),a.Withdrawn,i64 (1+h),i64 (1+b),0,(⟨0,0⟩:Span),0,0,0,0,0⟩:aQ),i64 (34000+c),i64 ((i64 ((i64 (34000+c))+1))+i))else joinC a31 (a,(⟨0,0,0,false,0,0,0,(⟨0,0⟩:Span),0,0,0,0,0⟩:aQ),(⟨f,i64 (1+g),i64 (1+e),a.Withdrawn,i64 (1+h),i64 (1+b),0,(⟨0,0⟩:Span),0,0,0,0,0⟩:aQ),i64 (21900+k),i64 ((i64 (21900+k))+l))
def b5v(b:O Int)(I:((O aQ)×Int)->A3 (O aQ))(a:(O aQ)×Int):A3 (O aQ):=if(decide (a.2<=2))then(c5 b a.2).bind λJ=>(b7 J 3).bind λc=>(c5 b (i64 (a.2+2))).bind λL=>(b7 L 3).bind λe=>(c5 b (i64 (a.2+4))).bind λH=>(b7 H 6000).bind λG=>(c5 b (i64 (a.2+6))).bind λK=>(b7 K 3000).bind λd=>(a4n 112 a.1 [(⟨c,i64 (900+a.2),1,false,a.2,11,0,(⟨i64 (13000+d),i64 ((i64 (13000+d))+1)⟩:Span),0,0,0,0,0⟩:aQ)]).bind λl=>(a4n 112 l [(⟨c,i64 (910+a.2),1,false,a.2,5,c,(⟨20000,60000⟩:Span),0,0,0,0,0⟩:aQ)]).bind λC=>(c5 b (i64 (a.2+8))).bind λm=>(b7 m 900000).bind λo=>(a4n 112 C [(⟨c,i64 (920+a.2),1,false,a.2,1,c,(⟨22000,i64 (27000+G)⟩:Span),c,100,i64 (1+c),i64 (900000+o),0⟩:aQ)]).bind λF=>(c5 b (i64 (a.2+10))).bind λj=>(b7 j 3000).bind λD=>(c5 b (i64 (a.2+12))).bind λq=>(b7 q 900000).bind λs=>(a4n 112 F [(⟨e,i64 (930+a.2),1,false,a.2,1,e,(⟨i64 (27000+G),i64 (34400+D)⟩:Span),e,50,i64 (1+e),i64 (700000+s),0⟩:aQ)]).bind λh=>(a4n 112 h [(⟨c,i64 (940+a.2),1,false,a.2,10,c,(⟨32000,38500⟩:Span),0,0,0,0,3⟩:aQ)]).bind λy=>(a4n 112 y [(⟨c,i64 (950+a.2),1,false,a.2,14,0,(⟨26000,50000⟩:Span),0,0,0,0,i64 (3-a.2)⟩:aQ)]).bind λx=>I (x,i64 (a.2+1))else(c5 b 15).bind λn=>(b7 n 2000).bind λB=>(c5 b 16).bind λz=>(b7 z 2000).bind λE=>(a4n 112 a.1 [(⟨0,961,1,false,1,13,0,(⟨i64 (34000+B),i64 (36500+E)⟩:Span),0,0,0,0,0⟩:aQ)]).bind λi=>(c5 b 17).bind λu=>(b7 u 900).bind λp=>(c5 b 17).bind λw=>(b7 w 900).bind λt=>(a4n 112 i [(⟨1,962,1,false,2,12,0,(⟨i64 (35600+p),i64 (35601+t)⟩:Span),0,0,0,0,0⟩:aQ)]).bind λg=>(c5 b 18).bind λA=>(b7 A 1200).bind λv=>(c5 b 19).bind λr=>(b7 r 300).bind λf=>(a4n 112 g [(⟨0,963,1,false,1,8,0,(⟨i64 (35000+v),i64 (36250+f)⟩:Span),0,0,0,0,0⟩:aQ)]).bind λk=>some k
def b04(a:O Int):A3 (O aQ):=d9 FU (b5v a) ([],1)
def b29(b:O aQ)(f:Int)(c:((O aQ)×Int)->A3 (O aQ))(a:(O aQ)×Int):A3 (O aQ):=if(decide (a.2<(b.length:Int)))then(c7 b a.2).bind λd=>if(d.Person==f)then(c7 b a.2).bind λe=>(a4n 112 a.1 [e]).bind λg=>c (g,i64 (a.2+1))else c (a.1,i64 (a.2+1))else some a.1
def b2c(b:O aQ)(a:Int):A3 (O aQ):=d9 FU (b29 b a) ([],0)
def c2n(b:A4)(e:Int)(c:Int->A3 Bool)(a:Int):A3 Bool:=if(decide (a<(b.size:Int)))then(b3c b a).bind λd=>if(d==e)then some true else c (i64 (a+1))else some false
def j6(c a:Int):A3 Bool:=(u4 c).bind λb=>d9 FU (c2n b a) 0
def a09(c f a b g:Int):A3 Bool:=(j6 c f).bind λd=>if d then(if(decide (a>=b))then some (decide (a<=g))else some false).bind λe=>some e else some (a==0)
def m8(a:aQ):A3 Bool:=(if(decide (a.Issuer<0))then some true else some (decide (a.Issuer>=6))).bind λA=>(if A then some true else some (decide (a.Number<1))).bind λD=>(if D then some true else some (decide (a.Number>999))).bind λz=>(if z then some true else some (decide (a.Version<1))).bind λx=>(if x then some true else some (decide (a.Version>99))).bind λC=>(if C then some true else some (decide (a.Person<1))).bind λw=>(if w then some true else some (decide (a.Person>99))).bind λv=>(if v then some true else(u4 a.Kind).bind λy=>some (y.toList==a3j.toList)).bind λB=>if B then some false else(if(decide (a.Span.From<0))then some true else some (decide (a.Span.From>=a.Span.To))).bind λc=>(if c then some true else some (decide (a.Span.To>73049))).bind λf=>if f then some false else(if(a.Kind==11)then some true else some (a.Kind==12)).bind λr=>(if r then some ((i64 (a.Span.To-a.Span.From))!=1)else some false).bind λg=>(if g then some true else(if(a.Kind==4)then some (a.Seat==a.State)else some false).bind λi=>some i).bind λu=>(if u then some true else(if(a.Kind==10)then some true else some (a.Kind==14)).bind λe=>(if e then some (a.Ref==a.Person)else some false).bind λs=>some s).bind λk=>if k then some false else(a09 a.Kind 83 a.State 0 5).bind λl=>(if l then(a09 a.Kind 84 a.Seat 0 5).bind λb=>some b else some false).bind λo=>(if o then(a09 a.Kind 72 a.Share 1 100).bind λn=>some n else some false).bind λh=>(if h then(a09 a.Kind 67 a.Currency 1 999).bind λq=>some q else some false).bind λp=>(if p then(a09 a.Kind 65 a.Amount 0 1000000000).bind λt=>some t else some false).bind λd=>(if d then(a09 a.Kind 82 a.Ref 1 99).bind λm=>some m else some false).bind λj=>some j
def a4v(b a:aQ):A3 Int:=if(b.Issuer !=a.Issuer)then some (i64 (b.Issuer-a.Issuer))else some (i64 (b.Number-a.Number))
def b1g(e:Int)(b:((O Int)×Int)->A3 (O Int))(a:(O Int)×Int):A3 (O Int):=if(decide (a.2>=0))then(d0l .i64 e (u64 (i64 (8*a.2)))).bind λc=>(a4n 1 a.1 [IntKind.u8.wrap (c)]).bind λd=>b (d,i64 (a.2-1))else some a.1
def g7(c:O Int)(a b:Int):A3 (O Int):=d9 FU (b1g a) (c,i64 (b-1))
def a6a(l:A4)(b:(aQ×(O Int)×Int)->A3 (O Int))(a:aQ×(O Int)×Int):A3 (O Int):=if(decide (a.2.2<(l.size:Int)))then(b3c l a.2.2).bind λc=>if(c==83)then(g7 a.2.1 a.1.State 1).bind λe=>b (a.1,e,i64 (a.2.2+1))else if(c==80)then(g7 a.2.1 a.1.Span.From 3).bind λg=>(g7 g a.1.Span.To 3).bind λi=>b (a.1,i,i64 (a.2.2+1))else if(c==84)then(g7 a.2.1 a.1.Seat 1).bind λk=>b (a.1,k,i64 (a.2.2+1))else if(c==72)then(g7 a.2.1 a.1.Share 1).bind λh=>b (a.1,h,i64 (a.2.2+1))else if(c==67)then(g7 a.2.1 a.1.Currency 2).bind λj=>b (a.1,j,i64 (a.2.2+1))else if(c==65)then(g7 a.2.1 a.1.Amount 4).bind λf=>b (a.1,f,i64 (a.2.2+1))else if(c==82)then(g7 a.2.1 a.1.Ref 1).bind λd=>b (a.1,d,i64 (a.2.2+1))else b (a.1,a.2.1,i64 (a.2.2+1))else some a.2.1
def a65(a:aQ×Int):A3 (O Int):=(g7 [] a.1.Issuer 1).bind λd=>(g7 d a.1.Number 2).bind λe=>(g7 e a.1.Version 1).bind λh=>(g7 h a.2 1).bind λc=>(g7 c a.1.Person 1).bind λf=>(g7 f a.1.Kind 1).bind λb=>(u4 a.1.Kind).bind λg=>d9 FU (a6a g) (a.1,b,0)
def a5z(a:aQ):A3 (O Int):=(m8 a).bind λb=>if(!b)then some []else if a.Withdrawn then joinC a65 (a,1)else joinC a65 (a,0)
def b0f(a b:aQ):A3 Bool:=(m8 a).bind λf=>(if(!f)then some true else(m8 b).bind λg=>some (!g)).bind λe=>if e then some false else(a4v a b).bind λc=>if(c !=0)then some (decide (c<0))else if(a.Version !=b.Version)then some (decide (a.Version<b.Version))else(a5z a).bind λh=>(a5z b).bind λd=>some (Op.bytesLess (c6i (h.map λx=>x)).toList (c6i (d.map λx=>x)).toList)
def a5t(c:((O aQ)×Int)->A3 (O aQ))(h:(O aQ)×(O aQ)×(O aQ)×Int×aQ)(r:((O aQ)×aQ×Int)->A3 (O aQ))(a:(O aQ)×aQ×Int):A3 (O aQ):=(if(decide (a.2.2>0))then(c7 a.1 (i64 (a.2.2-1))).bind λv=>(c7 a.1 (i64 (a.2.2-1))).bind λt=>(a4v t a.2.1).bind λb=>some (decide (b>0))else some false).bind λd=>if d then r (a.1,a.2.1,i64 (a.2.2-1))else(if(decide (a.2.2>0))then(c7 a.1 (i64 (a.2.2-1))).bind λu=>(c7 a.1 (i64 (a.2.2-1))).bind λe=>(a4v e a.2.1).bind λg=>some (g==0)else some false).bind λo=>if o then(c7 a.1 (i64 (a.2.2-1))).bind λq=>(c7 a.1 (i64 (a.2.2-1))).bind λn=>(b0f n a.2.1).bind λi=>if i then(c7 a.1 (i64 (a.2.2-1))).bind λs=>(c7 a.1 (i64 (a.2.2-1))).bind λp=>c (a8h a.1 (i64 (a.2.2-1)) a.2.1,i64 (h.2.2.2.1+1))else c (a.1,i64 (h.2.2.2.1+1))else(a1x a.1 0 a.2.2).bind λk=>(a4n 112 [] k).bind λj=>(a4n 112 j [a.2.1]).bind λf=>(a1x a.1 a.2.2 (a.1.length:Int)).bind λm=>(a4n 112 f m).bind λl=>c (l,i64 (h.2.2.2.1+1))
def a9j(b:((O aQ)×Int)->A3 (O aQ))(a:(O aQ)×(O aQ)×(O aQ)×Int×aQ):A3 (O aQ):=(m8 a.2.2.2.2).bind λc=>if(!c)then b (a.2.2.1,i64 (a.2.2.2.1+1))else d9 FU (a5t b a) (a.2.2.1,a.2.2.2.2,(a.2.2.1.length:Int))
def a5y(b c:O aQ)(e:((O aQ)×Int)->A3 (O aQ))(a:(O aQ)×Int):A3 (O aQ):=if(decide (a.2<(i64 ((b.length:Int)+(c.length:Int)))))then if(decide (a.2<(b.length:Int)))then(c7 b a.2).bind λf=>joinC (a9j e) (b,c,a.1,a.2,f)else(c7 c (i64 (a.2-(b.length:Int)))).bind λd=>joinC (a9j e) (b,c,a.1,a.2,d)else some a.1
def a6c(b a:O aQ):A3 (O aQ):=d9 FU (a5y b a) ([],0)
def b5j(e:O tN)(k:Bool)(j:O Int)(g:((O aQ)×Int)->A3 (O aQ))(b:(O aQ)×Int):A3 (O aQ):=(if(decide (b.2<(e.length:Int)))then some (decide (b.2<8))else some false).bind λi=>if i then(c7 e b.2).bind λa=>(b1b (⟨a.Issuer,a.Number,a.Version,a.Withdrawn,0,a.Kind,a.State,a.Seat,a.From,a.Length,a.Share,a.Amount,a.Ref⟩:tN)).bind λn=>(a4n 112 b.1 [n]).bind λh=>g (h,i64 (b.2+1))else if k then(b04 j).bind λl=>(b2c l 1).bind λf=>(a4n 112 b.1 f).bind λm=>(a6c m []).bind λd=>some d else(a6c b.1 []).bind λc=>some c
def b0g(c:O tN)(a:O Int)(b:Bool):A3 (O aQ):=d9 FU (b5j c b a) ([],0)
def b6l(a:Int):A3 Bool:=(if(decide (a>=97))then some (decide (a<=122))else some false).bind λb=>some b
def b74(a:Int):A3 Bool:=(if(decide (a>=48))then some (decide (a<=57))else some false).bind λb=>some b
def c1b(a:Int):A3 Bool:=(b6l a).bind λc=>(if c then some true else(b74 a).bind λd=>some d).bind λb=>(if b then some true else some (a==95)).bind λe=>some e
def c1f(b:A4)(d:Int->A3 Bool)(a:Int):A3 Bool:=if(decide (a<(b.size:Int)))then(b3c b a).bind λe=>(c1b e).bind λc=>if(!c)then some false else d (i64 (a+1))else some true
def b7f(a:A4):A3 Bool:=(if(decide ((a.size:Int)<1))then some true else some (decide ((a.size:Int)>12))).bind λc=>(if c then some true else(b3c a 0).bind λd=>(b6l d).bind λb=>some (!b)).bind λe=>if e then some false else d9 FU (c1f a) 0
def b49(a:A4):A3 Bool:=if(a.toList==c9m.toList)then if(a.toList==c9m.toList)then some true else some false else if(a.toList==c51.toList)then if(a.toList==c51.toList)then some true else some false else if(a.toList==d69.toList)then if(a.toList==d69.toList)then some true else some false else if(a.toList==b91.toList)then if(a.toList==b91.toList)then some true else some false else if(a.toList==b4x.toList)then if(a.toList==b4x.toList)then some true else some false else if(a.toList==c53.toList)then if(a.toList==c53.toList)then some true else some false else if(a.toList==c1a.toList)then if(a.toList==c1a.toList)then some true else some false else if(a.toList==c4c.toList)then if(a.toList==c4c.toList)then some true else some false else if(a.toList==c10.toList)then if(a.toList==c10.toList)then some true else some false else if(a.toList==d0k.toList)then if(a.toList==d0k.toList)then some true else some false else if(a.toList==c1q.toList)then if(a.toList==c1q.toList)then some true else some false else if(a.toList==d07.toList)then if(a.toList==d07.toList)then some true else some false else if(a.toList==c1c.toList)then if(a.toList==c1c.toList)then some true else some false else if(a.toList==c98.toList)then if(a.toList==c98.toList)then some true else some false else if(a.toList==c8l.toList)then if(a.toList==c8l.toList)then some true else some false else if(a.toList==c92.toList)then if(a.toList==c92.toList)then some true else some false else if(a.toList==d8p.toList)then if(a.toList==d8p.toList)then some true else some false else if(a.toList==c60.toList)then if(a.toList==c60.toList)then some true else some false else if(a.toList==b94.toList)then if(a.toList==b94.toList)then some true else some false else if(a.toList==c14.toList)then if(a.toList==c14.toList)then some true else some false else if(a.toList==b76.toList)then if(a.toList==b76.toList)then some true else some false else if(a.toList==d3p.toList)then some true else some false
def b0e(a:A4):A3 Bool:=(b7f a).bind λc=>(if c then(b49 a).bind λd=>some (!d)else some false).bind λb=>some b
def m7(a:Int):A3 Bool:=(if(decide (a>=0))then some (decide (a<=73048))else some false).bind λb=>some b
def c0l:A3 (O syntax_entry):=some [(⟨d4s,1⟩:syntax_entry),(⟨f1e,2⟩:syntax_entry),(⟨d3b,3⟩:syntax_entry),(⟨d3z,4⟩:syntax_entry)]
def b3q(b:syntax_entry)(a:Int):A3 Bool:=some (b.number==a)
def a3y(c:O syntax_entry)(a:Int)(d:Int->A3 Int)(b:Int):A3 Int:=if(decide (b<(c.length:Int)))then(c7 c b).bind λe=>(b3q e a).bind λf=>if f then some b else d (i64 (b+1))else some (-1:Int)
def a0b(b:O syntax_entry)(a:Int):A3 Int:=d9 FU (a3y b a) 0
def a4u(b:O syntax_entry)(c:Int):A3 A4:=(a0b b c).bind λa=>if(decide (a<0))then some a3j else(c7 b a).bind λd=>some d.name
def c1i:A3 (O syntax_entry):=some [(⟨b0b,6⟩:syntax_entry),(⟨b3z,9⟩:syntax_entry),(⟨b87,7⟩:syntax_entry),(⟨d54,8⟩:syntax_entry),(⟨c97,10⟩:syntax_entry),(⟨c04,5⟩:syntax_entry)]
def a9d(c:A4)(a:Int):A3 Int:=(a7v c a).bind λb=>some b
def b61(d:Int×Int)(b:(Int×Int×Int)->A3 (Int×Int))(a:Int×Int×Int):A3 (Int×Int):=if(decide (a.2.2>0))then if((d5y .i64 a.2.2 1)!=0)then(d0l .i64 a.2.2 1).bind λc=>b (IntKind.u32.wrap (a.1*a.2.1),IntKind.u32.wrap (a.2.1*a.2.1),c)else(d0l .i64 a.2.2 1).bind λe=>b (a.1,IntKind.u32.wrap (a.2.1*a.2.1),e)else some (d.1,a.1)
def b5w(b:A4)(d:(Int×Int)->A3 (Int×Int))(a:Int×Int):A3 (Int×Int):=if(decide (a.2<(b.size:Int)))then(b3c b a.2).bind λc=>d (IntKind.u32.wrap ((IntKind.u32.wrap (a.1*16777619))+(IntKind.u32.wrap (c))),i64 (a.2+1))else d9 FU (b61 a) (1,16777619,(b.size:Int))
def b0t(a:A4):A3 (Int×Int):=d9 FU (b5w a) (0,0)
def b1o(c d:A4)(g:Int×Int)(i:(Int×Int)->A3 Int)(a:Int×Int):A3 Int:=if(decide (a.2<(c.size:Int)))then(b3c c a.2).bind λh=>(b3c c (i64 (a.2-(d.size:Int)))).bind λb=>(if((IntKind.u32.wrap ((IntKind.u32.wrap ((IntKind.u32.wrap (a.1*16777619))+(IntKind.u32.wrap (h))))-(IntKind.u32.wrap (g.2*(IntKind.u32.wrap (b))))))==g.1)then(c3u c (i64 ((i64 (a.2+1))-(d.size:Int))) (i64 (a.2+1))).bind λf=>some (f.toList==d.toList)else some false).bind λe=>if e then some (i64 ((i64 (a.2+1))-(d.size:Int)))else i (IntKind.u32.wrap ((IntKind.u32.wrap ((IntKind.u32.wrap (a.1*16777619))+(IntKind.u32.wrap (h))))-(IntKind.u32.wrap (g.2*(IntKind.u32.wrap (b))))),i64 (a.2+1))else some (-1:Int)
def b1f(b c:A4)(d:Int×Int)(e:(Int×Int)->A3 Int)(a:Int×Int):A3 Int:=if(decide (a.2<(b.size:Int)))then(b3c c a.2).bind λg=>e (IntKind.u32.wrap ((IntKind.u32.wrap (a.1*16777619))+(IntKind.u32.wrap (g))),i64 (a.2+1))else(if(a.1==d.1)then(c3u c 0 (b.size:Int)).bind λh=>some (h.toList==b.toList)else some false).bind λf=>if f then some 0 else d9 FU (b1o c b d) (a.1,(b.size:Int))
def b36(c a:A4):A3 Int:=(b0t a).bind λb=>d9 FU (b1f a c b) (0,0)
def a6y(b a:A4):A3 Int:=(if((a.size:Int)==0)then some true else some (a.toList==b.toList)).bind λd=>if d then some 0 else if((a.size:Int)==1)then(b3c a 0).bind λe=>(a9d b e).bind λc=>some c else if(decide ((a.size:Int)>=(b.size:Int)))then some (-1:Int)else none
def b72(a c:A4):A3 (A4×A4×Bool):=(a6y a c).bind λb=>if(decide (b>=0))then(c3u a 0 b).bind λe=>(c3u a (i64 (b+(c.size:Int))) (a.size:Int)).bind λd=>some (e,d,true)else some (a,a3j,false)
def b9e(c b:A4):A3 (A4×A4×Bool):=(b72 c b).bind λa=>some (a.1,a.2.1,a.2.2)
def c0d(b:A4)(c:(Int×Int)->A3 (Int×Bool))(a:Int×Int):A3 (Int×Bool):=if(decide (a.2<(b.size:Int)))then(b3c b a.2).bind λd=>(b74 d).bind λe=>if(!e)then some (0,false)else(b3c b a.2).bind λf=>c (i64 ((i64 (10*a.1))+(i64 (IntKind.u8.wrap (f-48)))),i64 (a.2+1))else some (a.1,true)
def b2i(a:A4):A3 (Int×Bool):=d9 FU (c0d a) (0,0)
def b5e(b:Int)(j:(fQ×Int)->A3 (fQ×Int×Bool))(h:fQ×Int)(g:fQ->A3 (fQ×Int×Bool))(a:fQ):A3 (fQ×Int×Bool):=(b8t a.Num b).bind λd=>(if(d==0)then(b8t a.Den b).bind λi=>some (i==0)else some false).bind λc=>if c then(c2t a.Num b).bind λe=>(c2t a.Den b).bind λf=>g (⟨e,f⟩:fQ)else j (a,i64 (h.2+1))
def c09(c:fQ×Int×Int×Int)(d:(fQ×Int)->A3 (fQ×Int×Bool))(a:fQ×Int):A3 (fQ×Int×Bool):=if(decide (a.2<2))then(c7 (⟨[2,5],rfl⟩:Ar 2 Int).l a.2).bind λb=>d9 FU (b5e b d a) a.1else some (a.1,c.2.1,true)
def b5d(a:fQ×Int×Int×Int):A3 (fQ×Int×Bool):=d9 FU (c09 a) ((⟨i64 (a.2.2.1+a.2.2.2),a.1.Den⟩:fQ),0)
def c0b(f:A4×fQ×Int)(c:Int×Bool)(b:(fQ×Int×(A4×Int))->A3 (fQ×Int×Bool))(a:fQ×Int×(A4×Int)):A3 (fQ×Int×Bool):=optC (e6l a.2.2.1 a.2.2.2) (joinC b5d (a.1,f.2.2,a.2.1,c.1)) λd=>(d).bind λe=>b ((⟨a.1.Num,i64 (10*a.1.Den)⟩:fQ),i64 (10*a.2.1),(a.2.2.1,a.2.2.2+1))
def a5s(g:A4×fQ×Int):A3 (fQ×Int×Bool):=(b9e g.1 b1i).bind λa=>(if(decide ((a.1.size:Int)<1))then some true else some (decide ((a.1.size:Int)>9))).bind λj=>(if j then some true else(if(decide ((a.1.size:Int)>1))then(b3c a.1 0).bind λk=>some (k==48)else some false).bind λi=>some i).bind λl=>(if l then some true else(if a.2.2then(if(decide ((a.2.1.size:Int)<1))then some true else some (decide ((a.2.1.size:Int)>4))).bind λf=>some f else some false).bind λe=>some e).bind λd=>if d then some ((⟨0,0⟩:fQ),0,false)else(b2i a.1).bind λb=>(b2i a.2.1).bind λc=>(if(!b.2)then some true else some (!c.2)).bind λh=>if h then some ((⟨0,0⟩:fQ),0,false)else d9 FU (c0b g c) ((⟨g.2.1.Num,1⟩:fQ),b.1,(a.2.1,0))
def b69(a:A4):A3 (fQ×Int×Bool):=(if(decide ((a.size:Int)>0))then(b3c a (i64 ((a.size:Int)-1))).bind λf=>some (f==100)else some false).bind λg=>if g then(c3u a 0 (i64 ((a.size:Int)-1))).bind λe=>joinC a5s (e,(⟨0,0⟩:fQ),3)else(if(decide ((a.size:Int)>0))then(b3c a (i64 ((a.size:Int)-1))).bind λc=>some (c==109)else some false).bind λb=>if b then(c3u a 0 (i64 ((a.size:Int)-1))).bind λd=>joinC a5s (d,(⟨0,0⟩:fQ),4)else joinC a5s (a,(⟨0,0⟩:fQ),2)
def a5e(f:(fQ×A4×Int×Int)->A3 (A4×Bool))(a:Int×fQ×A4×Int×Int):A3 (A4×Bool):=if(a.2.2.2.2==4)then some (a3j,false)else(c2t (i64 (a.2.2.2.1*10)) a.2.1.Den).bind λc=>(strconv_Itoa c).bind λb=>(a7f a.2.2.1 b).bind λd=>(b8t (i64 (a.2.2.2.1*10)) a.2.1.Den).bind λe=>f (a.2.1,d,e,i64 (a.2.2.2.2+1))
def a2u(a:Int×fQ×A4):A3 (A4×Bool):=(b69 a.2.2).bind λb=>(if(!b.2.2)then some true else some (!((b.1.Num==a.2.1.Num)&&((b.1.Den==a.2.1.Den)&&(true))))).bind λd=>(if d then some true else some (b.2.1!=a.1)).bind λc=>if c then some (a3j,false)else some (a.2.2,true)
def b3h(b:Int)(e:(fQ×A4×Int×Int)->A3 (A4×Bool))(a:fQ×A4×Int×Int):A3 (A4×Bool):=if(decide (a.2.2.1>0))then if(a.2.2.2==0)then(a7f a.2.1 b1i).bind λf=>joinC (a5e e) (b,a.1,f,a.2.2.1,a.2.2.2)else joinC (a5e e) (b,a.1,a.2.1,a.2.2.1,a.2.2.2)else if(b==3)then(a7f a.2.1 e4t).bind λd=>joinC a2u (b,a.1,d)else if(b==4)then(a7f a.2.1 e6u).bind λc=>joinC a2u (b,a.1,c)else joinC a2u (b,a.1,a.2.1)
def a4y(a:fQ)(g:Int):A3 (A4×Bool):=(if(decide (a.Den<1))then some true else some (decide (a.Den>10000))).bind λd=>(if d then some true else some (decide (a.Num<0))).bind λe=>(if e then some true else some (decide (a.Num>1000000000000000))).bind λc=>if c then some (a3j,false)else(c2t a.Num a.Den).bind λf=>(strconv_Itoa f).bind λh=>(b8t a.Num a.Den).bind λb=>d9 FU (b3h g) (a,h,b,0)
def b59(a:Int):A3 Bool:=(if(decide (a>=1900))then some (decide (a<=2099))else some false).bind λb=>some b
def b07(a:Index):A3 Bool:=(a4y a.Factor 2).bind λc=>(if c.2then some (decide (a.Factor.Num>0))else some false).bind λd=>(if d then(b59 a.Year).bind λb=>some b else some false).bind λe=>some e
structure Ring_syntax_Depth where f_syntax_Depth:Expr->Option Int
def b6x(R:Ring_syntax_Depth)(b:Expr)(c:(Int×Int)->A3 Int)(a:Int×Int):A3 Int:=if(decide (a.2<(b.Args.length:Int)))then(c7 b.Args a.2).bind λd=>(R.f_syntax_Depth d).bind λe=>c (max a.1 e,i64 (a.2+1))else some (i64 (a.1+1))
def b86(R:Ring_syntax_Depth)(a:Expr):A3 Int:=d9 FU (b6x R a) (0,0)
def a0r:Nat->Ring_syntax_Depth|0=>⟨λ_=>none⟩|n+1=>⟨b86 (a0r n)⟩
def d57(a:Expr):A3 Int:=(a0r FU).f_syntax_Depth a
structure Ring_syntax_Size where f_syntax_Size:Expr->Option Int
def b8b(R:Ring_syntax_Size)(b:Expr)(c:(Int×Int)->A3 Int)(a:Int×Int):A3 Int:=if(decide (a.2<(b.Args.length:Int)))then(c7 b.Args a.2).bind λd=>(R.f_syntax_Size d).bind λe=>c (i64 (a.1+e),i64 (a.2+1))else some a.1
def b9x(R:Ring_syntax_Size)(a:Expr):A3 Int:=d9 FU (b8b R a) (1,0)
def a1j:Nat->Ring_syntax_Size|0=>⟨λ_=>none⟩|n+1=>⟨b9x (a1j n)⟩
def e0h(a:Expr):A3 Int:=(a1j FU).f_syntax_Size a
def b84(a:Int):A3 Int:=(if(a==1)then some true else some (a==2)).bind λc=>(if c then some true else some (a==3)).bind λd=>if d then some 0 else(if(a==4)then some true else some (a==5)).bind λb=>(if b then some true else some (a==6)).bind λe=>if e then some 1 else(if(decide (a>=7))then some (decide (a<=20))else some false).bind λf=>if f then some 2 else if(a==21)then some 3 else some (-1:Int)
def c05(a:Expr):A3 Bool:=(b84 a.Op).bind λh=>if((a.Args.length:Int)!=h)then some false else if(a.Op==1)then(a4y a.Value a.Dim).bind λi=>(if i.2then some (a.Name.toList==a3j.toList)else some false).bind λg=>some g else if(a.Op==2)then(b0e a.Name).bind λj=>(if j then some ((a.Value.Num==0)&&((a.Value.Den==0)&&(true)))else some false).bind λm=>(if m then some (a.Dim==0)else some false).bind λf=>some f else if(a.Op==3)then(if(a.Value.Den==1)then some (decide (a.Value.Num>=1))else some false).bind λk=>(if k then some (decide (a.Value.Num<=45))else some false).bind λe=>(if e then some (a.Dim==0)else some false).bind λl=>(if l then some (a.Name.toList==a3j.toList)else some false).bind λd=>some d else(if((a.Value.Num==0)&&((a.Value.Den==0)&&(true)))then some (a.Dim==0)else some false).bind λc=>(if c then some (a.Name.toList==a3j.toList)else some false).bind λb=>some b
structure Ring_syntax_form where
 f_syntax_form:Expr->Option Bool
 f_syntax_form_1:Expr->Option Bool
 f_slices_ContainsFunc_of_api_Expr:(List Expr)->Option Bool
 f_slices_IndexFunc_of_api_Expr:(List Expr)->Option Int
def b60(R:Ring_syntax_form)(a:Expr):A3 Bool:=(c05 a).bind λd=>(if d then(R.f_slices_ContainsFunc_of_api_Expr a.Args).bind λc=>some (!c)else some false).bind λb=>some b
def c0q(R:Ring_syntax_form)(b:Expr):A3 Bool:=(R.f_syntax_form b).bind λa=>some (!a)
def a0y(R:Ring_syntax_form)(b:O Expr):A3 Bool:=(R.f_slices_IndexFunc_of_api_Expr b).bind λa=>some (decide (a>=0))
def a6i(R:Ring_syntax_form)(b:O Expr)(c:Int->A3 Int)(a:Int):A3 Int:=if(decide (a<(b.length:Int)))then(c7 b a).bind λd=>(R.f_syntax_form_1 d).bind λe=>if e then some a else c (i64 (a+1))else some (-1:Int)
def a1m(R:Ring_syntax_form)(a:O Expr):A3 Int:=d9 FU (a6i R a) 0
def e6:Nat->Ring_syntax_form|0=>⟨λ_=>none,λ_=>none,λ_=>none,λ_=>none⟩|n+1=>⟨b60 (e6 n),c0q (e6 n),a0y (e6 n),a1m (e6 n)⟩
def d9s(a:Expr):A3 Bool:=(e6 FU).f_syntax_form a
def a1k(a:Expr):A3 Bool:=(d57 a).bind λc=>(if(decide (c<=10))then(e0h a).bind λd=>some (decide (d<=60))else some false).bind λb=>(if b then(d9s a).bind λe=>some e else some false).bind λf=>some f
def b2d:A3 (O syntax_entry):=some [(⟨d9m,1⟩:syntax_entry),(⟨b8e,2⟩:syntax_entry),(⟨c0u,3⟩:syntax_entry),(⟨c66,4⟩:syntax_entry),(⟨c0r,5⟩:syntax_entry)]
def a8y(c:Version)(e:Int->A3 Bool)(a:Int):A3 Bool:=if(decide (a<(c.Reduces.length:Int)))then(c7 c.Reduces a).bind λb=>(b2d).bind λf=>(a4u f b.Benefit).bind λg=>(if(g.toList==a3j.toList)then some true else(a1k b.By).bind λh=>some (!h)).bind λd=>if d then some false else e (i64 (a+1))else some true
def b3e(a:Version):A3 Bool:=d9 FU (a8y a) 0
def a8t(c:Version)(i:(Version×Int)->A3 Bool)(a:Version×Int):A3 Bool:=if(decide (a.2<(c.Grants.length:Int)))then(c7 c.Grants a.2).bind λb=>(b2d).bind λf=>(a4u f b.Benefit).bind λj=>(if(j.toList==a3j.toList)then some true else(a1k b.If).bind λh=>some (!h)).bind λg=>(if g then some true else(a1k b.Pay).bind λe=>some (!e)).bind λd=>if d then some false else i (a.1,i64 (a.2+1))else joinC b3e a.1
def b3b(a:Version):A3 Bool:=d9 FU (a8t a) (a,0)
def a8w(b:Version)(e:(Version×Int)->A3 Bool)(a:Version×Int):A3 Bool:=if(decide (a.2<(b.Lets.length:Int)))then(c7 b.Lets a.2).bind λc=>(b0e c.Name).bind λf=>(if(!f)then some true else(a1k c.Body).bind λd=>some (!d)).bind λg=>if g then some false else e (a.1,i64 (a.2+1))else joinC b3b a.1
def b3i(a:Version):A3 Bool:=d9 FU (a8w a) (a,0)
def a8v(b:Version)(d:(Version×Int)->A3 Bool)(a:Version×Int):A3 Bool:=if(decide (a.2<(b.Series.length:Int)))then(c7 b.Series a.2).bind λe=>(b07 e).bind λc=>if(!c)then some false else d (a.1,i64 (a.2+1))else joinC b3i a.1
def b39(a:Version):A3 Bool:=d9 FU (a8v a) (a,0)
def a8u(h:Version)(e:(Version×Int)->A3 Bool)(b:Version×Int):A3 Bool:=if(decide (b.2<(h.Credits.length:Int)))then(c7 h.Credits b.2).bind λa=>(c1i).bind λc=>(a4u c a.Kind).bind λd=>(if(d.toList==a3j.toList)then some true else some (decide (a.Limit<0))).bind λf=>(if f then some true else some (decide (a.Limit>73049))).bind λg=>if g then some false else e (b.1,i64 (b.2+1))else joinC b39 b.1
def a5f(a:Version):A3 Bool:=(if(decide ((a.Credits.length:Int)>6))then some true else some (decide ((a.Series.length:Int)>20))).bind λe=>(if e then some true else some (decide ((a.Lets.length:Int)>10))).bind λc=>(if c then some true else some (decide ((a.Grants.length:Int)>5))).bind λd=>(if d then some true else some (decide ((a.Reduces.length:Int)>5))).bind λb=>if b then some false else d9 FU (a8u a) (a,0)
def a7q(a:Version):A3 Bool:=(m7 a.From).bind λg=>if(!g)then(if true then some true else some (decide (a.Rounding.Unit<1))).bind λh=>(if h then some true else some (decide (a.Rounding.Unit>100000))).bind λf=>if f then some false else joinC a5f a else(c0l).bind λe=>(a4u e a.Rounding.Mode).bind λc=>(if(c.toList==a3j.toList)then some true else some (decide (a.Rounding.Unit<1))).bind λd=>(if d then some true else some (decide (a.Rounding.Unit>100000))).bind λb=>if b then some false else joinC a5f a
def b77(b:Statute)(e:Int->A3 Bool)(a:Int):A3 Bool:=if(decide (a<(b.Versions.length:Int)))then(c7 b.Versions a).bind λc=>(a7q c).bind λd=>if(!d)then some false else e (i64 (a+1))else some true
def b7h(a:Statute):A3 Bool:=(b0e a.Name).bind λc=>(if(!c)then some true else some (decide (a.Currency<1))).bind λd=>(if d then some true else some (decide (a.Currency>999))).bind λb=>(if b then some true else some (decide ((a.Versions.length:Int)<1))).bind λe=>(if e then some true else some (decide ((a.Versions.length:Int)>6))).bind λf=>if f then some false else d9 FU (b77 a) 0
def a21(a:A4×Bool):A3 (Int×Bool):=if a.2then some (3,true)else if(a.1.toList==e39.toList)then some (4,true)else some (0,false)
def a9q(a:A4×Bool):A3 (Int×Bool):=if a.2then some (2,true)else if(a.1.toList==b6u.toList)then joinC a21 (a.1,a.1.toList==b6u.toList)else if(a.1.toList==c5w.toList)then joinC a21 (a.1,a.1.toList==c5w.toList)else if(a.1.toList==b0b.toList)then joinC a21 (a.1,a.1.toList==b0b.toList)else if(a.1.toList==b3z.toList)then joinC a21 (a.1,a.1.toList==b3z.toList)else if(a.1.toList==c3c.toList)then joinC a21 (a.1,a.1.toList==c3c.toList)else if(a.1.toList==c3j.toList)then joinC a21 (a.1,a.1.toList==c3j.toList)else joinC a21 (a.1,a.1.toList==c6v.toList)
def b4n(a:A4):A3 (Int×Bool):=if(a.toList==e0r.toList)then joinC a9q (a,a.toList==e0r.toList)else if(a.toList==d3o.toList)then joinC a9q (a,a.toList==d3o.toList)else joinC a9q (a,a.toList==c6q.toList)
def b9o(b:A4):A3 Bool:=(a1k (⟨2,(⟨0,0⟩:fQ),0,b,[]⟩:Expr)).bind λa=>some a
def b9r(b:iQ)(a:Let):A3 Bool:=some (b.Name.toList==a.Name.toList)
def b42(a:iQ):A3 Bool:=(if(decide (a.Dim<1))then some true else some (decide (a.Dim>4))).bind λb=>some b
def c07(c:O iQ)(d:((A4×Int×Bool)×Int)->A3 (Int×Bool))(a:(A4×Int×Bool)×Int):A3 (Int×Bool):=if decide (a.2<0)then some (0,false)else(c7 c a.2).bind λb=>if(b.Name.toList==a.1.1.toList)then some ((a.1.1,b.Dim,true).2.1,(a.1.1,b.Dim,true).2.2)else d ((a.1.1,a.1.2.1,a.1.2.2),a.2-1)
def b6c(c:A4)(a:O iQ):A3 (Int×Bool):=(b4n c).bind λb=>if b.2then some (b.1,true)else d9 FU (c07 a) ((c,0,false),(a.length:Int)-1)
def b19(a:(O Int)×Int×Bool):A3 (Int×Bool):=if a.2.2then(c7 a.1 0).bind λf=>(if(f==1)then(c7 a.1 1).bind λd=>some (d==1)else some false).bind λi=>some (1,i)else if(a.2.1==21)then(c7 a.1 1).bind λg=>(c7 a.1 0).bind λe=>(if(e==1)then(c7 a.1 1).bind λc=>(c7 a.1 2).bind λb=>some (c==b)else some false).bind λh=>some (g,h)else some (0,false)
def a2l(a:(O Int)×Int×Bool):A3 (Int×Bool):=if a.2.2then(c7 a.1 0).bind λc=>(c7 a.1 1).bind λe=>(if(c==e)then(c7 a.1 0).bind λb=>some (b !=1)else some false).bind λd=>some (1,d)else if(a.2.1==17)then joinC b19 (a.1,a.2.1,a.2.1==17)else joinC b19 (a.1,a.2.1,a.2.1==18)
def a5q(a:(O Int)×Int×Bool):A3 (Int×Bool):=if a.2.2then(c7 a.1 0).bind λr=>(c7 a.1 0).bind λq=>(c7 a.1 1).bind λs=>(if(q==s)then(c7 a.1 0).bind λt=>some (t !=1)else some false).bind λc=>some (r,c)else if(a.2.1==9)then(c7 a.1 0).bind λe=>if(e==2)then(c7 a.1 1).bind λn=>(c7 a.1 1).bind λf=>some (n,f !=1)else(c7 a.1 0).bind λh=>(c7 a.1 1).bind λp=>(if(p==2)then(c7 a.1 0).bind λd=>some (d !=1)else some false).bind λo=>some (h,o)else if(a.2.1==10)then(c7 a.1 1).bind λi=>if(i==2)then(c7 a.1 0).bind λj=>(c7 a.1 0).bind λb=>some (j,b !=1)else(c7 a.1 0).bind λl=>(c7 a.1 1).bind λk=>(if(l==k)then(c7 a.1 0).bind λg=>some (g !=1)else some false).bind λm=>some (2,m)else if(a.2.1==11)then joinC a2l (a.1,a.2.1,a.2.1==11)else if(a.2.1==12)then joinC a2l (a.1,a.2.1,a.2.1==12)else if(a.2.1==13)then joinC a2l (a.1,a.2.1,a.2.1==13)else if(a.2.1==14)then joinC a2l (a.1,a.2.1,a.2.1==14)else if(a.2.1==15)then joinC a2l (a.1,a.2.1,a.2.1==15)else joinC a2l (a.1,a.2.1,a.2.1==16)
def b0y(a:(O Int)×Int×Bool):A3 (Int×Bool):=if a.2.2then(c7 a.1 0).bind λc=>(c7 a.1 0).bind λb=>some (c,b !=1)else if(a.2.1==5)then(c7 a.1 0).bind λd=>some (1,d==1)else if(a.2.1==7)then joinC a5q (a.1,a.2.1,a.2.1==7)else if(a.2.1==8)then joinC a5q (a.1,a.2.1,a.2.1==8)else if(a.2.1==19)then joinC a5q (a.1,a.2.1,a.2.1==19)else joinC a5q (a.1,a.2.1,a.2.1==20)
def b9i(a:Int)(b:O Int):A3 (Int×Bool):=if(a==4)then joinC b0y (b,a,a==4)else joinC b0y (b,a,a==6)
structure Ring_typing_infer where f_typing_infer:Expr->(List iQ)->Option (Int×Int)
def i4w(R:Ring_typing_infer)(c:Expr)(g:O iQ)(e:(Expr×(O Int)×Int)->A3 (Int×Int))(a:Expr×(O Int)×Int):A3 (Int×Int):=if(decide (a.2.2<(c.Args.length:Int)))then(c7 c.Args a.2.2).bind λh=>(R.f_typing_infer h g).bind λb=>if(b.2!=0)then some (0,b.2)else(a4n 8 a.2.1 [b.1]).bind λf=>e (a.1,f,i64 (a.2.2+1))else(b9i a.1.Op a.2.1).bind λd=>if(!d.2)then some (0,6)else some (d.1,0)
def b4g(R:Ring_typing_infer)(a:Expr)(b:O iQ):A3 (Int×Int):=if(a.Op==1)then some (a.Dim,0)else if(a.Op==3)then some (4,0)else if(a.Op==2)then(b6c a.Name b).bind λc=>if(!c.2)then some (0,5)else some (c.1,0)else d9 FU (i4w R a b) (a,[],0)
def a0v:Nat->Ring_typing_infer|0=>⟨λ_ _=>none⟩|n+1=>⟨b4g (a0v n)⟩
def d5q(b:Expr)(a:O iQ):A3 (Int×Int):=(a0v FU).f_typing_infer b a
def a50(b:O iQ)(c:Int->A3 Int)(a:Int):A3 Int:=if(decide (a<(b.length:Int)))then(c7 b a).bind λd=>(b42 d).bind λe=>if e then some a else c (i64 (a+1))else some (-1:Int)
def a19(a:O iQ):A3 Int:=d9 FU (a50 a) 0
def a0i(b:O iQ):A3 Bool:=(a19 b).bind λa=>some (decide (a>=0))
def b4y(a:Expr)(c:O iQ):A3 (Int×Int):=(a1k a).bind λe=>(if(!e)then some true else(a0i c).bind λf=>some f).bind λd=>if d then some (0,1)else(d5q a c).bind λb=>some (b.1,b.2)
def a5l(c:O iQ)(a:Let)(d:Int->A3 Int)(b:Int):A3 Int:=if(decide (b<(c.length:Int)))then(c7 c b).bind λe=>(b9r e a).bind λf=>if f then some b else d (i64 (b+1))else some (-1:Int)
def a1e(b:O iQ)(a:Let):A3 Int:=d9 FU (a5l b a) 0
def a0q(c:O iQ)(a:Let):A3 Bool:=(a1e c a).bind λb=>some (decide (b>=0))
def i4k(d:O Let)(e:((O iQ)×Int)->A3 ((O iQ)×Int))(a:(O iQ)×Int):A3 ((O iQ)×Int):=if(decide (a.2<(d.length:Int)))then(c7 d a.2).bind λb=>(b4n b.Name).bind λg=>(if g.2then some true else(b9o b.Name).bind λj=>some (!j)).bind λf=>if f then some ([],5)else(a0q a.1 b).bind λh=>if h then some ([],10)else(b4y b.Body a.1).bind λc=>if(c.2!=0)then some ([],c.2)else(a4n 24 a.1 [(⟨b.Name,c.1⟩:iQ)]).bind λi=>e (i,i64 (a.2+1))else some (a.1,0)
def b9n(a:O Let):A3 ((O iQ)×Int):=if(decide ((a.length:Int)>10))then some ([],7)else d9 FU (i4k a) ([],0)
def b5a(b a:Credit):A3 Bool:=some (b.Kind==a.Kind)
def b57(b a:Grant):A3 Bool:=some (b.Benefit==a.Benefit)
def b8w(d:Expr)(b:O iQ)(c:Int):A3 Int:=(b4y d b).bind λa=>if(a.2!=0)then some a.2else if(a.1!=c)then some 6 else some 0
def b5b(b a:Reduce):A3 Bool:=some (b.Benefit==a.Benefit)
def a4i(c:O Credit)(a:Credit)(d:Int->A3 Int)(b:Int):A3 Int:=if(decide (b<(c.length:Int)))then(c7 c b).bind λe=>(b5a e a).bind λf=>if f then some b else d (i64 (b+1))else some (-1:Int)
def a13(b:O Credit)(a:Credit):A3 Int:=d9 FU (a4i b a) 0
def a0e(c:O Credit)(a:Credit):A3 Bool:=(a13 c a).bind λb=>some (decide (b>=0))
def a4s(c:O Grant)(a:Grant)(d:Int->A3 Int)(b:Int):A3 Int:=if(decide (b<(c.length:Int)))then(c7 c b).bind λe=>(b57 e a).bind λf=>if f then some b else d (i64 (b+1))else some (-1:Int)
def a15(b:O Grant)(a:Grant):A3 Int:=d9 FU (a4s b a) 0
def a0h(c:O Grant)(a:Grant):A3 Bool:=(a15 c a).bind λb=>some (decide (b>=0))
def a4k(c:O Reduce)(a:Reduce)(d:Int->A3 Int)(b:Int):A3 Int:=if(decide (b<(c.length:Int)))then(c7 c b).bind λe=>(b5b e a).bind λf=>if f then some b else d (i64 (b+1))else some (-1:Int)
def a0x(b:O Reduce)(a:Reduce):A3 Int:=d9 FU (a4k b a) 0
def a0d(c:O Reduce)(a:Reduce):A3 Bool:=(a0x c a).bind λb=>some (decide (b>=0))
def i4s(b:Version×(O iQ)×Int)(g:(Version×(O iQ)×Int)->A3 Int)(a:Version×(O iQ)×Int):A3 Int:=if(decide (a.2.2<(b.1.Reduces.length:Int)))then(c7 b.1.Reduces a.2.2).bind λc=>(a1x a.1.Reduces 0 a.2.2).bind λf=>(a0d f c).bind λe=>if e then some 10 else(b8w c.By a.2.1 2).bind λd=>if(d !=0)then some d else g (a.1,a.2.1,i64 (a.2.2+1))else some 0
def i4o(h:Version×(O iQ)×Int)(e:(Version×(O iQ)×Int)->A3 Int)(a:Version×(O iQ)×Int):A3 Int:=if(decide (a.2.2<(h.1.Grants.length:Int)))then(c7 h.1.Grants a.2.2).bind λb=>(a1x a.1.Grants 0 a.2.2).bind λf=>(a0h f b).bind λg=>if g then some 10 else(b8w b.If a.2.1 1).bind λc=>if(c !=0)then some c else(b8w b.Pay a.2.1 4).bind λd=>if(d !=0)then some d else e (a.1,a.2.1,i64 (a.2.2+1))else d9 FU (i4s a) (a.1,a.2.1,0)
def i4r(d:Version×(O iQ)×Int)(e:(Version×(O iQ)×Int)->A3 Int)(a:Version×(O iQ)×Int):A3 Int:=if(decide (a.2.2<(d.1.Series.length:Int)))then(c7 d.1.Series a.2.2).bind λf=>(if(decide (a.2.2>0))then(c7 a.1.Series (i64 (a.2.2-1))).bind λc=>some (decide (f.Year<=c.Year))else some false).bind λb=>if b then some 1 else e (a.1,a.2.1,i64 (a.2.2+1))else d9 FU (i4o a) (a.1,a.2.1,0)
def i4p(b:Version)(c:(Version×(O iQ)×Int)->A3 Int)(a:Version×(O iQ)×Int):A3 Int:=if(decide (a.2.2<(b.Credits.length:Int)))then(c7 b.Credits a.2.2).bind λe=>(a1x a.1.Credits 0 a.2.2).bind λf=>(a0e f e).bind λd=>if d then some 10 else c (a.1,a.2.1,i64 (a.2.2+1))else d9 FU (i4r a) (a.1,a.2.1,0)
def b0q(b:Version):A3 Int:=(b9n b.Lets).bind λa=>if(a.2!=0)then some a.2else d9 FU (i4p b) (b,a.1,0)
def i50(b:Statute)(e:(Statute×Int)->A3 (Int×Int))(a:Statute×Int):A3 (Int×Int):=if(decide (a.2<(b.Versions.length:Int)))then(c7 b.Versions a.2).bind λc=>(if(decide (a.2>0))then(c7 a.1.Versions (i64 (a.2-1))).bind λg=>some (decide (c.From<=g.From))else some false).bind λf=>if f then some (a.2,1)else(b0q c).bind λd=>if(d !=0)then some (a.2,d)else e (a.1,i64 (a.2+1))else some (0,0)
def b4b(a:Statute):A3 (Int×Int):=(b7h a).bind λb=>if(!b)then some (0,1)else d9 FU (i50 a) (a,0)
def a7u(a b:Int):A3 Bool:=(if(decide (a>=0))then some (decide (a<=b))else some false).bind λc=>some c
def b2n(g:Rules)(h:(Rules×Int)->A3 Bool)(a:Rules×Int):A3 Bool:=if(decide (a.2<(g.Members.length:Int)))then(c7 g.Members a.2).bind λb=>(a7u b 5).bind λd=>(if(!d)then some true else(if(decide (a.2>0))then(c7 a.1.Members (i64 (a.2-1))).bind λc=>some (decide (b<=c))else some false).bind λe=>some e).bind λf=>if f then some false else h (a.1,i64 (a.2+1))else some true
def a5x(a:Rules):A3 Bool:=(m7 a.From).bind λd=>(if(!d)then some true else(a7u a.MinDays 73049).bind λe=>some (!e)).bind λc=>(if c then some true else(a7u a.PostingLimit 73049).bind λf=>some (!f)).bind λh=>(if h then some true else(a7u a.Substantial 100).bind λb=>some (!b)).bind λg=>if g then some false else d9 FU (b2n a) (a,0)
def b27(b:O Rules)(f:Int->A3 Int)(a:Int):A3 Int:=if(decide (a<(b.length:Int)))then(c7 b a).bind λc=>(a5x c).bind λe=>(if(!e)then some true else(if(decide (a>0))then(c7 b (i64 (a-1))).bind λg=>some (decide (c.From<=g.From))else some false).bind λd=>some d).bind λh=>if h then some 1 else f (i64 (a+1))else some 0
def a9n(a:O Rules):A3 Int:=if(decide ((a.length:Int)>8))then some 7 else(if((a.length:Int)==0)then some true else(c7 a 0).bind λb=>some (b.From !=0)).bind λc=>if c then some 1 else d9 FU (b27 a) 0
def a8n(a:Int):A3 Bool:=(if(decide (a>=1))then some (decide (a<=999))else some false).bind λb=>some b
def b1k(a:Int):A3 Bool:=(if(decide (a>=0))then some (decide (a<=2399))else some false).bind λb=>some b
def a7l(a:Int):A3 Bool:=(b8t a 4).bind λc=>(if(c==0)then(b8t a 100).bind λd=>some (d !=0)else some false).bind λb=>(if b then some true else(b8t a 400).bind λe=>some (e==0)).bind λf=>some f
def a05(b a:Int):A3 Int:=(if(a==2)then(a7l b).bind λc=>some c else some false).bind λd=>if d then some 29 else(c7 (⟨[31,28,31,30,31,30,31,31,30,31,30,31],rfl⟩:Ar 12 Int).l (i64 (a-1))).bind λf=>(c7 (⟨[31,28,31,30,31,30,31,31,30,31,30,31],rfl⟩:Ar 12 Int).l (i64 (a-1))).bind λe=>some e
def a90(a:Int):A3 Int:=(b1k a).bind λc=>if(!c)then some 0 else(c2t a 12).bind λd=>(b8t a 12).bind λb=>(a05 (i64 (1900+d)) (i64 (b+1))).bind λe=>some e
def b9g(b:Int):A3 Bool:=(a90 b).bind λa=>some (decide (a>0))
def j5(a:Int):A3 Int:=if(decide (a<0))then some (u64 (-(u64 (a))))else some (u64 (a))
def a7g(d f:Int):A3 Int:=lpC (d,f) λc⟨b,a⟩=>if(a !=0)then(b8t b a).bind λe=>c (a,e)else some b
def o7(a:fQ):A3 Bool:=(if(decide (a.Den>=1))then some (decide (a.Den<=1000000000))else some false).bind λd=>(if d then some (decide (a.Num>=(-1000000000000000:Int)))else some false).bind λe=>(if e then some (decide (a.Num<=1000000000000000))else some false).bind λc=>(if c then(j5 a.Num).bind λf=>(j5 a.Den).bind λh=>(a7g f h).bind λb=>some (b==1)else some false).bind λg=>some g
def b9l(a:Int):A3 Bool:=(if(decide (a>=1))then some (decide (a<=1000000))else some false).bind λb=>some b
def a5r(c:O Rate):A3 Int:=if(decide ((c.length:Int)>40))then some 7 else lpC (0:Int) λn b=>if(decide (b<(c.length:Int)))then(c7 c b).bind λa=>(a8n a.Currency).bind λp=>(if(!p)then some true else(b9g a.Month).bind λs=>some (!s)).bind λo=>(if o then some true else(o7 a.Value).bind λm=>some (!m)).bind λq=>(if q then some true else(b9l a.Value.Num).bind λr=>some (!r)).bind λd=>(if d then some true else(b9l a.Value.Den).bind λf=>some (!f)).bind λj=>if j then some 1 else(if(decide (b>0))then(c7 c (i64 (b-1))).bind λg=>(if(decide (g.Currency>a.Currency))then some true else(c7 c (i64 (b-1))).bind λh=>(if(h.Currency==a.Currency)then(c7 c (i64 (b-1))).bind λl=>some (decide (l.Month>=a.Month))else some false).bind λe=>some e).bind λk=>some k else some false).bind λi=>if i then some 1 else n (i64 (b+1))else some 0
def c02(g:Laws):A3 Int:=lpC (g,(0:Int)) λm⟨c,e⟩=>if(decide (e<(g.States.length:Int)))then(c7 g.States e).bind λi=>(if(decide (i.State<0))then some true else some (decide (i.State>=6))).bind λp=>(if p then some true else(if(decide (e>0))then(c7 c.States (i64 (e-1))).bind λn=>some (decide (i.State<=n.State))else some false).bind λo=>some o).bind λl=>if l then some 1 else m (c,i64 (e+1))else lpC (c,(0:Int)) λh⟨k,a⟩=>if(decide (a<(c.States.length:Int)))then(c7 c.States a).bind λf=>(b4b f.Statute).bind λb=>if(b.2!=0)then some b.2else h (k,i64 (a+1))else(a9n k.Treaty).bind λd=>if(d !=0)then some d else(a5r k.Rates).bind λj=>some j
def b81(e:O Rules)(d:((Int×Rules×Bool)×Int)->A3 (Rules×Bool))(b:(Int×Rules×Bool)×Int):A3 (Rules×Bool):=if decide (b.2<0)then some ((⟨0,0,0,0,[]⟩:Rules),false)else(c7 e b.2).bind λa=>if(decide (a.From<=b.1.1))then(a7z a.Members).bind λc=>some ((b.1.1,(⟨a.From,a.MinDays,a.PostingLimit,a.Substantial,c⟩:Rules),true).2.1,(b.1.1,(⟨a.From,a.MinDays,a.PostingLimit,a.Substantial,c⟩:Rules),true).2.2)else d ((b.1.1,b.1.2.1,b.1.2.2),b.2-1)
def b2q(b:O Rules)(a:Int):A3 (Rules×Bool):=(m7 a).bind λc=>if(!c)then some ((⟨0,0,0,0,[]⟩:Rules),false)else d9 FU (b81 b) ((a,(⟨0,0,0,0,[]⟩:Rules),false),(b.length:Int)-1)
def b8v(a:Laws)(b:Int):A3 (bQ×Int):=(c02 a).bind λc=>if(c !=0)then some ((⟨(⟨[],[],[]⟩:Laws),0,(⟨0,0,0,0,[]⟩:Rules)⟩:bQ),c)else(b2q a.Treaty b).bind λd=>if(!d.2)then some ((⟨(⟨[],[],[]⟩:Laws),0,(⟨0,0,0,0,[]⟩:Rules)⟩:bQ),1)else some ((⟨a,b,d.1⟩:bQ),0)
def a06(b:O Int)(e:Int)(c:Int->A3 Int)(a:Int):A3 Int:=if(decide (a<(b.length:Int)))then(c7 b a).bind λd=>if(e==d)then some a else c (i64 (a+1))else some (-1:Int)
def a4p(b:O Int)(a:Int):A3 Int:=d9 FU (a06 b a) 0
def q9(c:O Int)(a:Int):A3 Bool:=(a4p c a).bind λb=>some (decide (b>=0))
def a08(c:bQ)(a:Int):A3 Bool:=(q9 c.rules.Members a).bind λb=>some b
structure Ring_statute_cloneExpr where f_statute_cloneExpr:Expr->Option Expr
def a7s(R:Ring_statute_cloneExpr)(b:Expr):A3 Expr:=lpC (([]:O Expr),(⟨b.Op,b.Value,b.Dim,b.Name,[]⟩:Expr),([]:O Expr),(⟨0,(⟨0,0⟩:fQ),0,a3j,[]⟩:Expr),(0:Int)) λh⟨e,a,g,c,d⟩=>if(decide (d<(b.Args.length:Int)))then(c7 b.Args d).bind λi=>(R.f_statute_cloneExpr i).bind λf=>(a4n 72 e [f]).bind λj=>h (j,(⟨a.Op,a.Value,a.Dim,a.Name,[]⟩:Expr),g,(⟨c.Op,c.Value,c.Dim,c.Name,[]⟩:Expr),i64 (d+1))else some (⟨a.Op,a.Value,a.Dim,a.Name,e⟩:Expr)
def s4:Nat->Ring_statute_cloneExpr|0=>⟨λ_=>none⟩|n+1=>⟨a7s (s4 n)⟩
def a6x(a:Expr):A3 Expr:=(s4 FU).f_statute_cloneExpr a
def a6r(n:Version):A3 Version:=(a5m n.Credits).bind λv1=>(a6e n.Series).bind λv2=>(a86 n.Lets).bind λv3=>(a6f n.Grants).bind λv4=>(a5p n.Reduces).bind λv5=>lpC (v1,v2,v3,v4,v5,(⟨n.From,n.Rounding,[],[],[],[],[]⟩:Version),([]:O Credit),([]:O Index),([]:O Let),([]:O Grant),([]:O Reduce),(⟨0,(⟨0,0⟩:Rounding),[],[],[],[],[]⟩:Version),(0:Int)) λL⟨v6,v7,o,T,r,h,F,v,w,I,u,k,c⟩=>if(decide (c<(v3.length:Int)))then(c7 o c).bind λaf=>(c7 o c).bind λR=>(a6x R.Body).bind λQ=>(c7 o c).bind λak=>(c7 o c).bind λW=>L (v6,v7,a8h o c (⟨W.Name,Q⟩:Let),T,r,(⟨h.From,h.Rounding,[],[],[],[],[]⟩:Version),F,v,w,I,u,(⟨k.From,k.Rounding,[],[],[],[],[]⟩:Version),i64 (c+1))else lpC (v6,v7,o,T,r,(⟨h.From,h.Rounding,[],[],[],[],[]⟩:Version),F,v,w,I,u,(⟨k.From,k.Rounding,[],[],[],[],[]⟩:Version),(0:Int)) λN⟨D,H,t,b,l,i,B,p,E,C,A,g,a⟩=>if(decide (a<(T.length:Int)))then(c7 b a).bind λag=>(c7 b a).bind λJ=>(a6x J.If).bind λm=>(c7 b a).bind λah=>(c7 b a).bind λZ=>(a6x Z.Pay).bind λab=>(c7 b a).bind λai=>(c7 b a).bind λe=>(c7 (a8h b a (⟨e.Benefit,m,e.Pay⟩:Grant)) a).bind λaj=>(c7 (a8h b a (⟨e.Benefit,m,e.Pay⟩:Grant)) a).bind λq=>N (D,H,t,a8h (a8h b a (⟨e.Benefit,m,e.Pay⟩:Grant)) a (⟨q.Benefit,q.If,ab⟩:Grant),l,(⟨i.From,i.Rounding,[],[],[],[],[]⟩:Version),B,p,E,C,A,(⟨g.From,g.Rounding,[],[],[],[],[]⟩:Version),i64 (a+1))else lpC (D,H,t,b,l,(⟨i.From,i.Rounding,[],[],[],[],[]⟩:Version),B,p,E,C,A,(⟨g.From,g.Rounding,[],[],[],[],[]⟩:Version),(0:Int)) λaa⟨G,y,s,z,f,j,U,P,Y,M,V,x,d⟩=>if(decide (d<(l.length:Int)))then(c7 f d).bind λap=>(c7 f d).bind λX=>(a6x X.By).bind λS=>(c7 f d).bind λaq=>(c7 f d).bind λK=>aa (G,y,s,z,a8h f d (⟨K.Benefit,S⟩:Reduce),(⟨j.From,j.Rounding,[],[],[],[],[]⟩:Version),U,P,Y,M,V,(⟨x.From,x.Rounding,[],[],[],[],[]⟩:Version),i64 (d+1))else some (⟨j.From,j.Rounding,G,y,s,z,f⟩:Version)
def c41(e:Statute)(d:((Int×Version×Bool)×Int)->A3 (Version×Bool))(a:(Int×Version×Bool)×Int):A3 (Version×Bool):=if decide (a.2<0)then some ((⟨0,(⟨0,0⟩:Rounding),[],[],[],[],[]⟩:Version),false)else(c7 e.Versions a.2).bind λb=>if(decide (b.From<=a.1.1))then(a6r b).bind λc=>some ((a.1.1,c,true).2.1,(a.1.1,c,true).2.2)else d ((a.1.1,a.1.2.1,a.1.2.2),a.2-1)
def b1v(b:Statute)(a:Int):A3 (Version×Bool):=(m7 a).bind λc=>if(!c)then some ((⟨0,(⟨0,0⟩:Rounding),[],[],[],[],[]⟩:Version),false)else d9 FU (c41 b) ((a,(⟨0,(⟨0,0⟩:Rounding),[],[],[],[],[]⟩:Version),false),(b.Versions.length:Int)-1)
def b7q(a:Int×Bool):A3 A4:=if a.2then some c0e else if(a.1==14)then some c6f else some a3j
def b4i(a:Int×Bool):A3 A4:=if a.2then some a9l else if(a.1==6)then some b82 else if(a.1==10)then some c1r else if(a.1==11)then joinC b7q (a.1,a.1==11)else if(a.1==12)then joinC b7q (a.1,a.1==12)else joinC b7q (a.1,a.1==13)
def c0m(a:Int×Bool):A3 A4:=if a.2then some a6w else if(a.1==4)then some c0p else if(a.1==5)then joinC b4i (a.1,a.1==5)else if(a.1==7)then joinC b4i (a.1,a.1==7)else if(a.1==8)then joinC b4i (a.1,a.1==8)else joinC b4i (a.1,a.1==9)
def b2r(a:Int):A3 A4:=if(a==1)then some b1y else if(a==2)then joinC c0m (a,a==2)else joinC c0m (a,a==3)
def c3y(c a:A4):A3 Int:=(a6y c a).bind λb=>some b
def c0c(c a:A4):A3 Bool:=(c3y c a).bind λb=>some (decide (b>=0))
def p9(c a:A4):A3 Bool:=(c0c a c).bind λb=>some b
def a9w(a b d:Int):A3 Bool:=(if(decide (a>=b))then some (decide (a<=d))else some false).bind λc=>some c
def b0d(a:Bool)(b g c:Int):A3 Bool:=(if a then(a9w b g c).bind λe=>some e else some false).bind λf=>(if f then some true else(if(!a)then some (b==0)else some false).bind λd=>some d).bind λh=>some h
def b8g(a:Span):A3 Bool:=(if(decide (a.From>=0))then some (decide (a.From<a.To))else some false).bind λb=>(if b then some (decide (a.To<=73049))else some false).bind λc=>some c
def b9v(a:aQ×Bool):A3 Bool:=if a.2then some (a.1.Ref !=a.1.Person)else some true
def b9u(a:aQ×Int×Bool):A3 Bool:=if a.2.2then some (a.1.Span.To==(i64 (a.1.Span.From+1)))else if(a.2.1==10)then joinC b9v (a.1,a.2.1==10)else joinC b9v (a.1,a.2.1==14)
def b3k(a:aQ):A3 Bool:=(b2r a.Kind).bind λb=>(if(b.toList==a3j.toList)then some true else(a9w a.Issuer 0 5).bind λB=>some (!B)).bind λy=>(if y then some true else(a9w a.Number 1 999).bind λw=>some (!w)).bind λA=>(if A then some true else(a9w a.Version 1 99).bind λv=>some (!v)).bind λu=>(if u then some true else(a9w a.Person 1 99).bind λx=>some (!x)).bind λz=>if z then some false else(p9 g49 b).bind λd=>(b0d d a.State 0 5).bind λg=>(if(!g)then some true else(p9 g4j b).bind λq=>(b0d q a.Seat 0 5).bind λh=>some (!h)).bind λj=>(if j then some true else(b8g a.Span).bind λt=>some (!t)).bind λf=>if f then some false else(p9 g3v b).bind λr=>(b0d r a.Share 1 100).bind λk=>(if(!k)then some true else(p9 g50 b).bind λl=>(b0d l a.Currency 1 999).bind λc=>some (!c)).bind λn=>(if n then some true else(p9 g4u b).bind λm=>(b0d m a.Amount 0 1000000000).bind λi=>some (!i)).bind λp=>(if p then some true else(p9 g5k b).bind λo=>(b0d o a.Ref 1 99).bind λs=>some (!s)).bind λe=>if e then some false else if(a.Kind==4)then some (a.State !=a.Seat)else if(a.Kind==11)then joinC b9u (a,a.Kind,a.Kind==11)else joinC b9u (a,a.Kind,a.Kind==12)
def a4e(a:aQ):A3 Bool:=(b3k a).bind λb=>(if b then some (!a.Withdrawn)else some false).bind λc=>some c
def a2b(c:O aQ)(b:((O aQ)×Int)->A3 (O aQ))(a:(O aQ)×Int):A3 (O aQ):=if(decide (a.2<(c.length:Int)))then(c7 c a.2).bind λd=>(a4e d).bind λe=>if e then(a4n 112 a.1 [d]).bind λf=>b (f,i64 (a.2+1))else b (a.1,i64 (a.2+1))else some a.1
def a3f(a:O aQ):A3 (O aQ):=d9 FU (a2b a) ([],0)
def a4f(b:O aQ):A3 (O aQ):=(a3f b).bind λa=>some a
def b21(d:O aQ)(f:Int)(c:(Int×Bool×Int)->A3 (Int×Bool))(a:Int×Bool×Int):A3 (Int×Bool):=if(decide (a.2.2<(d.length:Int)))then(c7 d a.2.2).bind λb=>(a4e b).bind λg=>(if g then some (b.Kind==f)else some false).bind λi=>(if i then(if(!a.2.1)then some true else some (decide (b.Span.From<a.1))).bind λe=>some e else some false).bind λh=>if h then c (b.Span.From,true,i64 (a.2.2+1))else c (a.1,a.2.1,i64 (a.2.2+1))else some (a.1,a.2.1)
def b4r(b:O aQ)(a:Int):A3 (Int×Bool):=d9 FU (b21 b a) (0,false,0)
def b4t(b:O aQ):A3 (Int×Bool):=(b4r b 11).bind λa=>some (a.1,a.2)
def b7l(b:O aQ):A3 (Int×Bool):=(b4r b 12).bind λa=>some (a.1,a.2)
def b48(a:Span×Int×Int):A3 Span:=if(decide (a.2.2<a.2.1))then some (⟨0,0⟩:Span)else some (⟨a.2.1,i64 (a.2.2+1)⟩:Span)
def a2i(c:O aQ):A3 Span:=(b4t c).bind λa=>(b7l c).bind λb=>if(!b.2)then joinC b48 ((⟨0,0⟩:Span),a.1,73048)else joinC b48 ((⟨0,0⟩:Span),a.1,b.1)
def c3q(a:Span):A3 Span:=some (⟨max a.From 0,min a.To 73049⟩:Span)
def c7q(b:Int):A3 Int:=(b8x b).bind λa=>some a
def b2e(i:O Span)(h:((O Span)×(O Span)×Int)->A3 (O Span))(a:(O Span)×(O Span)×Int):A3 (O Span):=if(decide (a.2.2<(i.length:Int)))then(c7 a.2.1 a.2.2).bind λm=>(c7 a.2.1 a.2.2).bind λb=>(if(decide ((a.1.length:Int)>0))then(c7 a.1 (i64 ((a.1.length:Int)-1))).bind λj=>(c7 a.1 (i64 ((a.1.length:Int)-1))).bind λc=>some (decide (b.From<=c.To))else some false).bind λd=>if d then(c7 a.1 (i64 ((a.1.length:Int)-1))).bind λk=>(c7 a.1 (i64 ((a.1.length:Int)-1))).bind λf=>(c7 a.1 (i64 ((a.1.length:Int)-1))).bind λl=>(c7 a.1 (i64 ((a.1.length:Int)-1))).bind λe=>h (a8h a.1 (i64 ((a.1.length:Int)-1)) (⟨e.From,max f.To b.To⟩:Span),a.2.1,i64 (a.2.2+1))else(a4n 16 a.1 [b]).bind λg=>h (g,a.2.1,i64 (a.2.2+1))else some a.1
def b5z(e:O Span)(c:((O Span)×(O Span)×Int)->A3 (O Span))(a:(O Span)×(O Span)×Int):A3 (O Span):=if(decide (a.2.2<(e.length:Int)))then(c7 e a.2.2).bind λf=>(c3q f).bind λb=>if(decide (b.From<b.To))then(a4n 16 a.1 [b]).bind λg=>c (g,[],i64 (a.2.2+1))else c (a.1,[],i64 (a.2.2+1))else(b3w a.1).bind λd=>d9 FU (b2e d) ([],d,0)
def a2w(a:O Span):A3 (O Span):=d9 FU (b5z a) ([],[],0)
def a92(d:((O Span)×(O Span)×(O Span)×Int×Int)->A3 (O Span))(a:(O Span)×(O Span)×(O Span)×Int×Int):A3 (O Span):=(c7 a.1 a.2.2.2.1).bind λf=>(c7 a.1 a.2.2.2.1).bind λc=>(c7 a.2.1 a.2.2.2.2).bind λe=>(c7 a.2.1 a.2.2.2.2).bind λb=>if(decide (c.To<b.To))then d (a.1,a.2.1,a.2.2.1,i64 (a.2.2.2.1+1),a.2.2.2.2)else d (a.1,a.2.1,a.2.2.1,a.2.2.2.1,i64 (a.2.2.2.2+1))
def b2h(e:((O Span)×(O Span)×(O Span)×Int×Int)->A3 (O Span))(a:(O Span)×(O Span)×(O Span)×Int×Int):A3 (O Span):=(if(decide (a.2.2.2.1<(a.1.length:Int)))then some (decide (a.2.2.2.2<(a.2.1.length:Int)))else some false).bind λj=>if j then(c7 a.1 a.2.2.2.1).bind λl=>(c7 a.1 a.2.2.2.1).bind λf=>(c7 a.2.1 a.2.2.2.2).bind λk=>(c7 a.2.1 a.2.2.2.2).bind λg=>(c7 a.1 a.2.2.2.1).bind λi=>(c7 a.1 a.2.2.2.1).bind λb=>(c7 a.2.1 a.2.2.2.2).bind λh=>(c7 a.2.1 a.2.2.2.2).bind λc=>if(decide ((max f.From g.From)<(min b.To c.To)))then(a4n 16 a.2.2.1 [(⟨max f.From g.From,min b.To c.To⟩:Span)]).bind λd=>joinC (a92 e) (a.1,a.2.1,d,a.2.2.2.1,a.2.2.2.2)else joinC (a92 e) (a.1,a.2.1,a.2.2.1,a.2.2.2.1,a.2.2.2.2)else some a.2.2.1
def b2g(d a:O Span):A3 (O Span):=(a2w d).bind λb=>(a2w a).bind λc=>d9 FU b2h (b,c,[],0,0)
def s6(c:O Span)(a:Span):A3 (O Span):=(b2g c [a]).bind λb=>some b
def b1d(a:Int):A3 Bool:=some (a !=a)
def a2c(b a:Int):A3 Int:=(b1d b).bind λd=>(b1d a).bind λc=>if d then if c then some 0 else some (-1:Int)else if c then some 1 else if(decide (b<a))then some (-1:Int)else if(decide (b>a))then some 1 else some 0
def b58(c:O Int)(d:Int->A3 Int)(a:Int):A3 Int:=if(decide (a<(c.length:Int)))then(c7 c a).bind λb=>if(b !=0)then some b else d (i64 (a+1))else some 0
def b67(a:O Int):A3 Int:=d9 FU (b58 a) 0
def a0j(a b:Posting):A3 Int:=(a2c a.Span.From b.Span.From).bind λd=>(a2c a.Seat b.Seat).bind λe=>(a2c a.State b.State).bind λc=>(b67 [d,e,c]).bind λf=>some f
def a1d(j:Int)(f:((O Posting)×Int)->A3 (O Posting))(m:(O Posting)×Int)(o:((O Posting)×Int)->A3 (O Posting))(a:(O Posting)×Int):A3 (O Posting):=(if(decide (a.2>j))then(c7 a.1 a.2).bind λs=>(c7 a.1 a.2).bind λg=>(c7 a.1 (i64 (a.2-1))).bind λr=>(c7 a.1 (i64 (a.2-1))).bind λl=>(a0j g l).bind λn=>some (decide (n<0))else some false).bind λc=>if c then(c7 a.1 (i64 (a.2-1))).bind λh=>(c7 a.1 (i64 (a.2-1))).bind λb=>(c7 a.1 a.2).bind λi=>(c7 a.1 a.2).bind λd=>(c7 a.1 a.2).bind λq=>(c7 a.1 a.2).bind λe=>(c7 (a8h a.1 a.2 b) (i64 (a.2-1))).bind λp=>(c7 (a8h a.1 a.2 b) (i64 (a.2-1))).bind λk=>o (a8h (a8h a.1 a.2 b) (i64 (a.2-1)) d,i64 (a.2-1))else f (a.1,i64 (m.2+1))
def a1f(d b:Int)(c:((O Posting)×Int)->A3 (O Posting))(a:(O Posting)×Int):A3 (O Posting):=if(decide (a.2<d))then d9 FU (a1d b c a) (a.1,a.2)else some a.1
def m6(c:O Posting)(a b:Int):A3 (O Posting):=d9 FU (a1f b a) (c,i64 (a+1))
structure oQ where f_slices_pdqsortCmpFunc_of_api_Posting:(List Posting)->Int->Int->Int->Option (List Posting)
def a2d(R:oQ)(a:(O Posting)×Int×Int×Int×Unit×Bool×Bool×Int):A3 (O Posting):=none
def i6(R:oQ)(c:((O Posting)×Int×Int×Int×Bool×Bool)->A3 (O Posting))(a:(O Posting)×Int×Int×Int×Bool×Bool):A3 (O Posting):=if(decide ((i64 (a.2.2.1-a.2.1))<=12))then(m6 a.1 a.2.1 a.2.2.1).bind λb=>some b else if(a.2.2.2.1==0)then none else if(!a.2.2.2.2.1)then none else joinC (a2d R) (a.1,a.2.1,a.2.2.1,a.2.2.2.1,(),a.2.2.2.2.1,a.2.2.2.2.2,i64 (a.2.2.1-a.2.1))
def i7(R:oQ)(d:O Posting)(a b c:Int):A3 (O Posting):=d9 FU (i6 R) (d,a,b,c,true,true)
def c3:Nat->oQ|0=>⟨λ_ _ _ _=>none⟩|n+1=>⟨i7 (c3 n)⟩
def y6(d:O Posting)(a b c:Int):A3 (O Posting):=(c3 FU).f_slices_pdqsortCmpFunc_of_api_Posting d a b c
def c9(a:O Posting):A3 (O Posting):=(c7q (u64 ((a.length:Int)))).bind λb=>(y6 a 0 (a.length:Int) b).bind λc=>some c
def b6k(L:O ((Int×Int)×O Span))(f:aQ):O ((Int×Int)×O Span):=if f.Kind=4then f7i L (f.Seat,f.State) f.Span else L
def b4v(l:O aQ):O ((Int×Int)×O Span)->O Posting->A3 (O Posting)|[],out=>some out|q::M,out=>Option.bind (a2i l) λs=>Option.bind (s6 q.2 s) λc=>if out.length+c.length<=100000then b4v l M (out++c.map λx=>⟨q.1.1,q.1.2,x⟩)else none
noncomputable def competence_Postings(a:O aQ):A3 (O Posting):=Option.bind (a4f a) λcur=>if cur.length<=1000/\(cur.all λf=>c4v f.Seat&&c4v f.State)=true then allP (λM=>M.Perm (cur.foldl b6k [])) (λM=>Option.bind (b4v a M []) λout=>c9 out)else none
def a9c(a:O aQ)(b:O Rules):A3 (lQ×Bool):=(a4f a).bind λd=>(a2i a).bind λe=>(competence_Postings a).bind λc=>(a9n b).bind λf=>some ((⟨d,e,c,b⟩:lQ),f==0)
def a1r(h:((O Int)×Int×Int×(Int×Nat))->A3 (O Int))(a:(O Int)×Int×Int×(Int×Nat)):A3 (O Int):=if(decide (a.2.2.1<(a.2.2.2.2:Int)))then(c72 a.1 a.2.2.2.1 a.2.2.1).bind λl=>(c7 a.1 (a.2.2.2.1+a.2.2.1)).bind λd=>(c72 a.1 a.2.2.2.1 (i64 (a.2.2.1-1))).bind λi=>(c7 a.1 (a.2.2.2.1+(i64 (a.2.2.1-1)))).bind λc=>if(d !=c)then(c72 a.1 a.2.2.2.1 a.2.2.1).bind λj=>(c7 a.1 (a.2.2.2.1+a.2.2.1)).bind λf=>(c7 a.1 a.2.1).bind λm=>(c7 a.1 a.2.1).bind λk=>h (a8h a.1 a.2.1 f,i64 (a.2.1+1),i64 (a.2.2.1+1),(a.2.2.2.1,a.2.2.2.2))else h (a.1,a.2.1,i64 (a.2.2.1+1),(a.2.2.2.1,a.2.2.2.2))else(a1x a.1 a.2.1 (a.1.length:Int)).bind λg=>(h1h 0 a.1 a.2.1 g.length).bind λe=>(a1x e 0 a.2.1).bind λb=>some b
def a0c(b:((O Int)×Int)->A3 (O Int))(a:(O Int)×Int):A3 (O Int):=if(decide (a.2<(a.1.length:Int)))then(c7 a.1 a.2).bind λf=>(c7 a.1 a.2).bind λd=>(c7 a.1 (i64 (a.2-1))).bind λg=>(c7 a.1 (i64 (a.2-1))).bind λc=>if(d==c)then(a1x a.1 a.2 (a.1.length:Int)).bind λe=>d9 FU a1r (a.1,a.2,1,(a.2,e.length))else b (a.1,i64 (a.2+1))else some a.1
def a0n(a:O Int):A3 (O Int):=if(decide ((a.length:Int)<2))then some a else d9 FU a0c (a,1)
def a81(e:lQ×(O Int)×Int)(f:(lQ×(O Int)×Int)->A3 (O Int))(d:(lQ×(O Int)×Rules×Int)->A3 (O Int))(a:lQ×(O Int)×Rules×Int):A3 (O Int):=if(decide (a.2.2.2<(e.1.postings.length:Int)))then(c7 e.1.postings a.2.2.2).bind λc=>(a4n 8 a.2.1 [min (i64 (c.Span.From+a.2.2.1.PostingLimit)) 73049]).bind λb=>d (a.1,b,a.2.2.1,i64 (a.2.2.2+1))else f (a.1,a.2.1,i64 (e.2.2+1))
def a89(d:lQ×(O Int)×Int)(g:(lQ×(O Int)×Int)->A3 (O Int))(a:lQ×(O Int)×Int):A3 (O Int):=if(decide (a.2.2<(d.1.rules.length:Int)))then(c7 d.1.rules a.2.2).bind λe=>(a4n 8 a.2.1 [e.From]).bind λf=>d9 FU (a81 a g) (a.1,f,e,0)else(b8s a.2.1).bind λb=>(a0n b).bind λc=>some c
def a8a(b:lQ)(d:(lQ×(O Int)×Int)->A3 (O Int))(a:lQ×(O Int)×Int):A3 (O Int):=if(decide (a.2.2<(b.facts.length:Int)))then(c7 b.facts a.2.2).bind λc=>(a4n 8 a.2.1 [c.Span.From,c.Span.To]).bind λe=>d (a.1,e,i64 (a.2.2+1))else d9 FU (a89 a) (a.1,a.2.1,0)
def a6t(a:lQ):A3 (O Int):=d9 FU (a8a a) (a,[0,73049,a.span.From,a.span.To],0)
def a4l(b:Span)(a:Int):A3 Bool:=(if(decide (b.From<=a))then some (decide (a<b.To))else some false).bind λc=>some c
def a2q(c:lQ)(d f:Int)(e:Int->A3 (Int×Bool))(b:Int):A3 (Int×Bool):=if(decide (b<(c.postings.length:Int)))then(c7 c.postings b).bind λa=>(a4l a.Span d).bind λg=>(if g then some (decide (d<(i64 (a.Span.From+f))))else some false).bind λh=>if h then some (a.Seat,true)else e (i64 (b+1))else some (0,false)
def a4c(c:lQ)(a b:Int):A3 (Int×Bool):=d9 FU (a2q c a b) 0
def a9u(d:lQ)(g:O Int)(f:Int)(c:((O aQ)×Int)->A3 (O aQ))(a:(O aQ)×Int):A3 (O aQ):=if(decide (a.2<(d.facts.length:Int)))then(c7 d.facts a.2).bind λb=>(q9 g b.Kind).bind λh=>(if h then(a4l b.Span f).bind λj=>some j else some false).bind λe=>if e then(a4n 112 a.1 [b]).bind λi=>c (i,i64 (a.2+1))else c (a.1,i64 (a.2+1))else some a.1
def a2j(c:lQ)(a:Int)(b:O Int):A3 (O aQ):=d9 FU (a9u c b a) ([],0)
def a3m(f:O aQ)(c:(aQ×Bool×(O aQ)×Int)->A3 (Int×Bool))(a:aQ×Bool×(O aQ)×Int):A3 (Int×Bool):=if(decide (a.2.2.2<(f.length:Int)))then(c7 a.2.2.1 a.2.2.2).bind λh=>(c7 a.2.2.1 a.2.2.2).bind λb=>(if(!a.2.1)then some true else some (decide (b.Share>a.1.Share))).bind λe=>(if e then some true else(if(b.Share==a.1.Share)then some (decide (b.State<a.1.State))else some false).bind λg=>some g).bind λd=>if d then c (b,true,a.2.2.1,i64 (a.2.2.2+1))else c (a.1,a.2.1,a.2.2.1,i64 (a.2.2.2+1))else some (a.1.State,a.2.1)
def a5v(c:lQ)(b:Int):A3 (Int×Bool):=(a2j c b [3]).bind λa=>d9 FU (a3m a) ((⟨0,0,0,false,0,0,0,(⟨0,0⟩:Span),0,0,0,0,0⟩:aQ),false,a,0)
def b5c(b:Span)(a:Int):A3 Bool:=(if(decide (b.From<=a))then some (decide (a<b.To))else some false).bind λc=>some c
def o5(c:O Span)(a:Int)(d:Int->A3 Int)(b:Int):A3 Int:=if(decide (b<(c.length:Int)))then(c7 c b).bind λe=>(b5c e a).bind λf=>if f then some b else d (i64 (b+1))else some (-1:Int)
def y4(b:O Span)(a:Int):A3 Int:=d9 FU (o5 b a) 0
def s8(c:O Span)(a:Int):A3 Bool:=(y4 c a).bind λb=>some (decide (b>=0))
def a8r(d:O Span)(a:Int):A3 Bool:=(if(decide (a<0))then some true else some (decide (a>=73049))).bind λb=>if b then some false else(s8 d a).bind λc=>some c
def a4t(h:O aQ)(i:Int)(g:(aQ×Bool×Int)->A3 (Int×Bool))(a:aQ×Bool×Int):A3 (Int×Bool):=if(decide (a.2.2<(h.length:Int)))then(c7 h a.2.2).bind λb=>(a4e b).bind λk=>(if(!k)then some true else some (b.Kind !=5)).bind λj=>(if j then some true else some (decide (i<b.Span.From))).bind λl=>(if l then some true else some (decide (i>=b.Span.To))).bind λf=>if f then g (a.1,a.2.1,i64 (a.2.2+1))else(if(!a.2.1)then some true else some (decide (b.Span.From>a.1.Span.From))).bind λd=>(if d then some true else(if(b.Span.From==a.1.Span.From)then some (decide (b.State<a.1.State))else some false).bind λc=>some c).bind λe=>if e then g (b,true,i64 (a.2.2+1))else g (a.1,a.2.1,i64 (a.2.2+1))else some (a.1.State,a.2.1)
def a8j(b:O aQ)(a:Int):A3 (Int×Bool):=(m7 a).bind λd=>if(!d)then some (0,false)else(a2i b).bind λe=>(a8r [e] a).bind λc=>if(!c)then some (0,false)else d9 FU (a4t b a) ((⟨0,0,0,false,0,0,0,(⟨0,0⟩:Span),0,0,0,0,0⟩:aQ),false,0)
def a7p(b:O aQ)(c:((O Int)×Int)->A3 (O Int))(a:(O Int)×Int):A3 (O Int):=if(decide (a.2<(b.length:Int)))then(c7 b a.2).bind λe=>(a4n 8 a.1 [e.Seat]).bind λf=>c (f,i64 (a.2+1))else(b8s a.1).bind λg=>(a0n g).bind λd=>some d
def b12(a:O aQ):A3 (O Int):=d9 FU (a7p a) ([],0)
def a0f(d:O Int)(b:((O (Int×Int))×Int×(O Int)×Int)->A3 (Int×Bool))(a:(O (Int×Int))×Int×(O Int)×Int):A3 (Int×Bool):=if(decide (a.2.2.2<((List.map (λx=>x) d).length:Int)))then(c7 a.2.2.1 a.2.2.2).bind λe=>(c7 a.2.2.1 a.2.2.2).bind λc=>if(decide ((b5g a.1 c)>(b5g a.1 a.2.1)))then b (a.1,c,a.2.2.1,i64 (a.2.2.2+1))else b (a.1,a.2.1,a.2.2.1,i64 (a.2.2.2+1))else some (a.2.1,true)
def a2g(v:O aQ)(p t:Int)(q:(lQ×(O (Int×Int))×Int×(O aQ)×Int)->A3 (Int×Bool))(b:lQ×(O (Int×Int))×Int×(O aQ)×Int):A3 (Int×Bool):=if(decide (b.2.2.2.2<(v.length:Int)))then(c7 b.2.2.2.1 b.2.2.2.2).bind λA=>(c7 b.2.2.2.1 b.2.2.2.2).bind λe=>q (b.1,a62 b.2.1 e.State (i64 ((b5g b.2.1 e.State)+e.Share)),i64 (b.2.2.1+e.Share),b.2.2.2.1,i64 (b.2.2.2.2+1))else(c8c b.2.1).bind λd=>if(((List.map (λx=>x) d).length:Int)==0)then some (0,false)else if(((List.map (λx=>x) d).length:Int)==1)then(c7 (List.map (λx=>x) d) 0).bind λz=>(c7 (List.map (λx=>x) d) 0).bind λu=>some (u,true)else(a8j b.1.facts p).bind λc=>(if c.2then some (c7s b.2.1 c.1)else some false).bind λg=>(if g then some (decide ((i64 (100*(b5g b.2.1 c.1)))>=(i64 (t*b.2.2.1))))else some false).bind λi=>if i then some (c.1,true)else(a2j b.1 p [1]).bind λm=>(b12 m).bind λa=>if((a.length:Int)==1)then(c7 a 0).bind λs=>(c7 a 0).bind λo=>some (o,true)else(if c.2then some ((a.length:Int)==2)else some false).bind λh=>(if h then(q9 a c.1).bind λn=>some n else some false).bind λj=>if j then(c7 a 0).bind λw=>(c7 a 0).bind λf=>(c7 a 1).bind λy=>(c7 a 1).bind λk=>some (i64 ((i64 (f+k))-c.1),true)else if c.2then some (c.1,true)else(c7 (List.map (λx=>x) d) 0).bind λr=>(c7 (List.map (λx=>x) d) 0).bind λl=>d9 FU (a0f d) (b.2.1,l,(List.map (λx=>x) d),0)
def a3v(c:lQ)(a d:Int):A3 (Int×Bool):=(a2j c a [1,2]).bind λb=>d9 FU (a2g b a d) (c,[],0,b,0)
def a6j(c a:aQ):A3 Int:=(a2c c.State a.State).bind λb=>some b
def y9(b:(O aQ)×Unit×aQ)(c:(aQ×aQ×Int)->A3 aQ)(a:aQ×aQ×Int):A3 aQ:=if(decide (a.2.2<(b.1.length:Int)))then(c7 b.1 a.2.2).bind λf=>(a6j f a.2.1).bind λd=>if(decide (d<0))then(c7 b.1 a.2.2).bind λe=>c (a.1,e,i64 (a.2.2+1))else c (a.1,a.2.1,i64 (a.2.2+1))else some a.2.1
def a00(a:(O aQ)×Unit×aQ):A3 aQ:=(c7 a.1 0).bind λb=>d9 FU (y9 a) (a.2.2,b,1)
def m5(a:O aQ):A3 aQ:=if(decide ((a.length:Int)<1))then none else joinC a00 (a,(),(⟨0,0,0,false,0,0,0,(⟨0,0⟩:Span),0,0,0,0,0⟩:aQ))
def a4b(d:lQ)(b:Int):A3 (Int×Bool):=(a2j d b [7,8]).bind λa=>if((a.length:Int)==0)then some (0,false)else(m5 a).bind λc=>some (c.State,true)
def a7m(a:lQ)(b:Int):A3 (Int×Int):=(b2q a.rules b).bind λc=>(if(!c.2)then some true else(a4l a.span b).bind λj=>some (!j)).bind λi=>if i then some ((-1:Int),0)else(a4c a b c.1.PostingLimit).bind λf=>if f.2then some (f.1,1)else(a5v a b).bind λh=>if h.2then some (h.1,2)else(a3v a b c.1.Substantial).bind λe=>if e.2then some (e.1,3)else(a4b a b).bind λg=>if g.2then some (g.1,4)else(a8j a.facts b).bind λd=>if d.2then some (d.1,5)else some ((-1:Int),0)
def b8r(k:(lQ×(O gQ)×(O Int)×Int)->A3 (O gQ))(a:lQ×(O gQ)×(O Int)×Int):A3 (O gQ):=if(decide ((i64 (a.2.2.2+1))<(a.2.2.1.length:Int)))then(c7 a.2.2.1 a.2.2.2).bind λy=>(c7 a.2.2.1 a.2.2.2).bind λq=>(a7m a.1 q).bind λc=>if(c.2==0)then k (a.1,a.2.1,a.2.2.1,i64 (a.2.2.2+1))else(if(decide ((a.2.1.length:Int)>0))then(c7 a.2.1 (i64 ((a.2.1.length:Int)-1))).bind λx=>(c7 a.2.1 (i64 ((a.2.1.length:Int)-1))).bind λw=>(c7 a.2.2.1 a.2.2.2).bind λo=>(c7 a.2.2.1 a.2.2.2).bind λf=>some (w.Span.To==f)else some false).bind λj=>(if j then(c7 a.2.1 (i64 ((a.2.1.length:Int)-1))).bind λr=>(c7 a.2.1 (i64 ((a.2.1.length:Int)-1))).bind λg=>some (g.State==c.1)else some false).bind λn=>(if n then(c7 a.2.1 (i64 ((a.2.1.length:Int)-1))).bind λp=>(c7 a.2.1 (i64 ((a.2.1.length:Int)-1))).bind λl=>some (l.Rule==c.2)else some false).bind λh=>if h then(c7 a.2.2.1 (i64 (a.2.2.2+1))).bind λt=>(c7 a.2.2.1 (i64 (a.2.2.2+1))).bind λd=>(c7 a.2.1 (i64 ((a.2.1.length:Int)-1))).bind λu=>(c7 a.2.1 (i64 ((a.2.1.length:Int)-1))).bind λb=>k (a.1,a8h a.2.1 (i64 ((a.2.1.length:Int)-1)) (⟨(⟨b.Span.From,d⟩:Span),b.State,b.Rule⟩:gQ),a.2.2.1,i64 (a.2.2.2+1))else(c7 a.2.2.1 a.2.2.2).bind λs=>(c7 a.2.2.1 a.2.2.2).bind λi=>(c7 a.2.2.1 (i64 (a.2.2.2+1))).bind λv=>(c7 a.2.2.1 (i64 (a.2.2.2+1))).bind λm=>(a4n 32 a.2.1 [(⟨(⟨i,m⟩:Span),c.1,c.2⟩:gQ)]).bind λe=>k (a.1,e,a.2.2.1,i64 (a.2.2.2+1))else some a.2.1
def a4h(d:O aQ)(b:O Rules):A3 (O gQ):=(a9c d b).bind λa=>if(!a.2)then some []else(a6t a.1).bind λc=>d9 FU b8r (a.1,[],c,0)
def a1s(f:Int)(c:O Span)(k:O Period)(e:Scheme)(h:O Period):A3 ((O Period)×(O Period)):=lpC (h,([]:O Period),(0:Int)) λg⟨b,j,a⟩=>if(decide (a<(c.length:Int)))then(c7 c a).bind λi=>(a4n 32 b [(⟨e.State,f,i⟩:Period)]).bind λd=>g (d,[],i64 (a+1))else some ([],b)
def b1h(d:O gQ)(h f:Int)(c:((O Span)×Int)->A3 (O Span))(a:(O Span)×Int):A3 (O Span):=if(decide (a.2<(d.length:Int)))then(c7 d a.2).bind λb=>(if(b.State==h)then some (decide (b.Rule<=f))else some false).bind λg=>if g then(a4n 16 a.1 [b.Span]).bind λi=>c (i,i64 (a.2+1))else c (a.1,i64 (a.2+1))else(a2w a.1).bind λe=>some e
def b1e(c:O gQ)(a b:Int):A3 (O Span):=d9 FU (b1h c a b) ([],0)
def b3o:A3 (O Anon195):=some [(⟨6,2⟩:Anon195),(⟨9,3⟩:Anon195),(⟨7,4⟩:Anon195),(⟨8,5⟩:Anon195),(⟨10,6⟩:Anon195),(⟨5,7⟩:Anon195)]
def b56(b:Credit)(a:Int):A3 Bool:=some (b.Kind==a)
def q0(c:O Credit)(a:Int)(d:Int->A3 Int)(b:Int):A3 Int:=if(decide (b<(c.length:Int)))then(c7 c b).bind λe=>(b56 e a).bind λf=>if f then some b else d (i64 (b+1))else some (-1:Int)
def t7(b:O Credit)(a:Int):A3 Int:=d9 FU (q0 b a) 0
def b43(b:Version)(c:Int):A3 (Int×Bool):=(t7 b.Credits c).bind λa=>if(decide (a<0))then some (0,false)else(c7 b.Credits a).bind λd=>some (d.Limit,true)
def b6o(c:O aQ)(g h:Int)(d:((O Span)×Int)->A3 (O Span))(a:(O Span)×Int):A3 (O Span):=if(decide (a.2<(c.length:Int)))then(c7 c a.2).bind λb=>(a4e b).bind λi=>(if i then some (b.Kind==g)else some false).bind λl=>(if l then some (b.State==h)else some false).bind λf=>if f then(a4n 16 a.1 [b.Span]).bind λj=>d (j,i64 (a.2+1))else d (a.1,i64 (a.2+1))else(a2i c).bind λe=>(s6 a.1 e).bind λk=>some k
def b7p(c:O aQ)(a b:Int):A3 (O Span):=d9 FU (b6o c a b) ([],0)
def b2y(c:(Int×(O Span)×(O Span)×Int)->A3 (O Span))(a:Int×(O Span)×Span×(O Span)×Int×Int):A3 (O Span):=(a4n 16 a.2.1 [a.2.2.1]).bind λb=>c (i64 (a.1-(i64 (a.2.2.1.To-a.2.2.1.From))),b,a.2.2.2.1,i64 (a.2.2.2.2.2+1))
def b4k(h:O Span)(i:Int):A3 (O Span):=(a2w h).bind λe=>lpC (i,([]:O Span),e,(0:Int)) λg⟨b,d,f,c⟩=>if(decide (c<(e.length:Int)))then(c7 f c).bind λj=>(c7 f c).bind λa=>if(decide (b<1))then some d else if(decide ((i64 (a.To-a.From))>b))then joinC (b2y g) (b,d,(⟨a.From,i64 (a.From+b)⟩:Span),f,(e.length:Int),c)else joinC (b2y g) (b,d,a,f,(e.length:Int),c)else some d
def b1c(s:O aQ)(x:Int)(w:Span)(v:Int):A3 (O Span):=lpC (w,([]:O Span),(1:Int)) λt⟨y,u,g⟩=>if(decide (g<=99))then(a4f s).bind λr=>lpC (y,u,([]:O Span),r,(0:Int)) λc⟨d,e,f,h,a⟩=>if(decide (a<(r.length:Int)))then(c7 h a).bind λz=>(c7 h a).bind λb=>(if(b.Kind==10)then some (b.State==x)else some false).bind λk=>(if k then some (b.Ref==g)else some false).bind λq=>if q then(a4n 16 f [b.Span]).bind λj=>c (d,e,j,h,i64 (a+1))else c (d,e,f,h,i64 (a+1))else if(decide ((f.length:Int)>0))then(a2i s).bind λp=>(s6 f p).bind λl=>(s6 l d).bind λm=>(b4k m v).bind λi=>(a4n 16 e i).bind λo=>t (d,o,i64 (g+1))else t (d,e,i64 (g+1))else(a2w u).bind λn=>some n
def a7e(D:O aQ)(K:O gQ)(l:O Scheme)(u:Int):A3 ((O Period)×Int):=(if(decide (u<0))then some true else some (decide (u>73049))).bind λM=>if M then some ([],1)else lpC (0:Int) λI o=>if(decide (o<(l.length:Int)))then(c7 l o).bind λv=>(if(decide (v.State<0))then some true else some (decide (v.State>=6))).bind λP=>(if P then some true else(if(decide (o>0))then(c7 l (i64 (o-1))).bind λJ=>some (decide (v.State<=J.State))else some false).bind λG=>some G).bind λL=>if L then some ([],1)else I (i64 (o+1))else lpC (([]:O Period),([]:O Period),(⟨0,u⟩:Span),(0:Int)) λq⟨C,F,k,j⟩=>if(decide (j<(l.length:Int)))then(c7 l j).bind λi=>(b1e K i.State 3).bind λB=>(s6 B k).bind λs=>(a1s 1 s [] i C).bind λA=>(b3o).bind λm=>lpC (A.2,([]:O Period),k,i,m,(0:Int),()) λh⟨g,E,b,a,d,c,N⟩=>if(decide (c<(m.length:Int)))then(c7 d c).bind λH=>(c7 d c).bind λe=>(b43 a.Version e.kind).bind λf=>if(!f.2)then h (g,[],b,a,d,i64 (c+1),())else(b7p D e.kind a.State).bind λy=>(s6 y b).bind λn=>(if(f.1!=0)then some (e.kind==10)else some false).bind λr=>if r then(b1c D a.State b f.1).bind λz=>(a1s e.rank z [] a g).bind λx=>h (x.2,[],b,a,d,i64 (c+1),())else if(f.1!=0)then(b4k n f.1).bind λw=>(a1s e.rank w [] a g).bind λp=>h (p.2,[],b,a,d,i64 (c+1),())else(a1s e.rank n [] a g).bind λt=>h (t.2,[],b,a,d,i64 (c+1),())else q (g,[],b,i64 (j+1))else some (C,0)
def b9z(e:O Period)(i f:Int):A3 (O Span):=lpC (([]:O Span),(0:Int)) λd⟨b,a⟩=>if(decide (a<(e.length:Int)))then(c7 e a).bind λc=>(if(c.State==i)then(if(f==0)then some true else some (c.Rank==f)).bind λk=>some k else some false).bind λh=>if h then(a4n 16 b [c.Span]).bind λj=>d (j,i64 (a+1))else d (b,i64 (a+1))else(a2w b).bind λg=>some g
def b2x(g:O Period):A3 (A3 (Ar 6 (Ar 7 (O Span)))):=lpC ((arZ 6 (arZ 7 []:Ar 7 (O Span)):Ar 6 (Ar 7 (O Span))),(0:Int)) λf⟨e,a⟩=>if(decide (a<6))then lpC (e,(0:Int)) λh⟨c,b⟩=>if(decide (b<7))then(b9z g a (i64 (b+1))).bind λi=>(c7 c.l a).bind λj=>(d0n 7 b).bind λk=>(c7 c.l a).bind λd=>h (Ar.set c a (Ar.set d b i),i64 (b+1))else f (c,i64 (a+1))else some (some e)
def a4a(h:Ar 6 (Ar 7 (O Span)))(j:Int):A3 (Int×(O Int)):=lpC (([]:O Int),(0:Int)) λg⟨i,c⟩=>if(decide (c<7))then lpC (i,(0:Int)) λe⟨a,b⟩=>if(decide (b<6))then(c7 h.l b).bind λk=>(c7 k.l c).bind λf=>(a8r f j).bind λl=>if l then(a4n 8 a [b]).bind λd=>e (d,i64 (b+1))else e (a,i64 (b+1))else if(decide ((a.length:Int)>0))then some (i64 (c+1),a)else g (a,i64 (c+1))else some (0,[])
def b90(c:O Span):A3 (Int×Bool):=(a2w c).bind λa=>if((a.length:Int)==0)then some (0,false)else(c7 a (i64 ((a.length:Int)-1))).bind λd=>(c7 a (i64 ((a.length:Int)-1))).bind λb=>some (i64 (b.To-1),true)
def a1b(b:Ar 6 (Ar 7 (O Span)))(g f:Int):A3 Int:=(c7 b.l g).bind λd=>(c7 d.l 0).bind λe=>(s6 e (⟨0,f⟩:Span)).bind λc=>(b90 c).bind λa=>if(!a.2)then some (-1:Int)else some a.1
def c4p(g:O Span)(f:Int):A3 (Int×Bool):=if(decide (f<0))then some (0,false)else(a2w g).bind λe=>lpC (f,e,(0:Int)) λh⟨d,c,b⟩=>if(decide (b<(e.length:Int)))then(c7 c b).bind λi=>(c7 c b).bind λa=>if(decide (d<(i64 (a.To-a.From))))then some (i64 (a.From+d),true)else h (i64 (d-(i64 (a.To-a.From))),c,i64 (b+1))else some (0,false)
def a2f(b:Ar 6 (Ar 7 (O Span)))(g f:Int):A3 Int:=(c7 b.l g).bind λd=>(c7 d.l 0).bind λe=>(s6 e (⟨i64 (f+1),73049⟩:Span)).bind λc=>(c4p c 0).bind λa=>if(!a.2)then some 73049 else some a.1
def a69(c:Ar 6 (Ar 7 (O Span)))(g:O Int)(h:Int):A3 Int:=(c7 g 0).bind λp=>(a1x g 1 (g.length:Int)).bind λm=>lpC (p,(0:Int)) λn⟨d,i⟩=>if(decide (i<(m.length:Int)))then(c7 m i).bind λl=>(a1b c l h).bind λq=>(a1b c d h).bind λo=>if(decide (q>o))then n (l,i64 (i+1))else n (d,i64 (i+1))else(a1b c d h).bind λr=>if(decide (r>=0))then some d else lpC (d,(0:Int)) λf⟨b,a⟩=>if(decide (a<(g.length:Int)))then(c7 g a).bind λe=>(a2f c e h).bind λj=>(a2f c b h).bind λk=>if(decide (j<k))then f (e,i64 (a+1))else f (b,i64 (a+1))else some b
def b17(c:Ar 6 (Ar 7 (O Span)))(b:Int):A3 (Int×Int×Bool):=(a4a c b).bind λa=>if(a.1==0)then some ((-1:Int),0,false)else(a69 c a.2 b).bind λd=>some (d,a.1,true)
def a72(c g:Int)(k:Ar 6 (Ar 7 (O Span)))(o a:O nQ):A3 ((O nQ)×(O nQ)):=(b17 k c).bind λb=>(if(!b.2.2)then some true else some (decide (c>=g))).bind λj=>if j then some ([],a)else(if(decide ((a.length:Int)>0))then(c7 a (i64 ((a.length:Int)-1))).bind λp=>(c7 a (i64 ((a.length:Int)-1))).bind λd=>(c7 a (i64 ((a.length:Int)-1))).bind λq=>(c7 a (i64 ((a.length:Int)-1))).bind λi=>some (((d.Span.From==i.Span.From)&&((d.Span.To==c)&&(true)))&&((d.State==b.1)&&((d.Rank==b.2.1)&&(true))))else some false).bind λl=>if l then(c7 a (i64 ((a.length:Int)-1))).bind λn=>(c7 a (i64 ((a.length:Int)-1))).bind λm=>(a1x a 0 (i64 ((a.length:Int)-1))).bind λh=>(a4n 32 h [(⟨(⟨m.Span.From,g⟩:Span),b.1,b.2.1⟩:nQ)]).bind λf=>some ([],f)else(a4n 32 a [(⟨(⟨c,g⟩:Span),b.1,b.2.1⟩:nQ)]).bind λe=>some ([],e)
def a8x(b f:O Int)(c:Int->A3 Bool)(a:Int):A3 Bool:=if(decide (a<(b.length:Int)))then(c7 b a).bind λd=>(c7 f a).bind λe=>if(d !=e)then some false else c (i64 (a+1))else some true
def a88(b a:O Int):A3 Bool:=if((b.length:Int)!=(a.length:Int))then some false else d9 FU (a8x b a) 0
def b7w(u:O (O Span)):A3 (O Piece):=(mkI 24 ([]:O Span) (u.length:Int) (u.length:Int)).bind λU=>lpC (U,([]:O Int),(0:Int)) λT⟨l,L,i⟩=>if(decide (i<(u.length:Int)))then(c7 u i).bind λQ=>(a2w Q).bind λy=>(c7 l i).bind λX=>(c7 l i).bind λY=>(c7 (a8h l i y) i).bind λN=>(c7 (a8h l i y) i).bind λp=>lpC (a8h l i y,L,(0:Int)) λv⟨t,q,k⟩=>if(decide (k<(p.length:Int)))then(c7 p k).bind λo=>(a4n 8 q [o.From,o.To]).bind λI=>v (t,I,i64 (k+1))else T (t,q,i64 (i+1))else(b8s L).bind λC=>(a0n C).bind λD=>lpC (l,D,([]:O Piece),(0:Int)) λj⟨m,e,s,b⟩=>if(decide ((i64 (b+1))<(e.length:Int)))then(c7 e b).bind λV=>(c7 e b).bind λJ=>(c7 e (i64 (b+1))).bind λP=>(c7 e (i64 (b+1))).bind λE=>lpC (m,e,s,([]:O Int),(⟨(⟨J,E⟩:Span),[]⟩:Piece),(0:Int)) λr⟨c,h,a,g,f,d⟩=>if(decide (d<(m.length:Int)))then(c7 c d).bind λM=>(c7 c d).bind λz=>(a8r z f.Span.From).bind λG=>if G then(a4n 8 g [d]).bind λw=>r (c,h,a,w,(⟨f.Span,[]⟩:Piece),i64 (d+1))else r (c,h,a,g,(⟨f.Span,[]⟩:Piece),i64 (d+1))else if((g.length:Int)==0)then j (c,h,a,i64 (b+1))else(if(decide ((a.length:Int)>0))then(c7 a (i64 ((a.length:Int)-1))).bind λS=>(c7 a (i64 ((a.length:Int)-1))).bind λF=>some (F.Span.To==f.Span.From)else some false).bind λx=>(if x then(c7 a (i64 ((a.length:Int)-1))).bind λW=>(c7 a (i64 ((a.length:Int)-1))).bind λK=>(a88 K.Members g).bind λA=>some A else some false).bind λB=>if B then(c7 a (i64 ((a.length:Int)-1))).bind λR=>(c7 a (i64 ((a.length:Int)-1))).bind λn=>j (c,h,a8h a (i64 ((a.length:Int)-1)) (⟨(⟨n.Span.From,f.Span.To⟩:Span),n.Members⟩:Piece),i64 (b+1))else(a4n 40 a [(⟨f.Span,g⟩:Piece)]).bind λH=>j (c,h,H,i64 (b+1))else some s
def a71(r:O Period):A3 (O nQ):=(b2x r).bind λp=>optC p (none) λt=>lpC (t,([]:O (O Span)),(0:Int)) λm⟨h,k,j⟩=>if(decide (j<6))then(c7 h.l j).bind λn=>(a4n 24 k n.l).bind λo=>m (h,o,i64 (j+1))else(b7w k).bind λl=>lpC (h,([]:O nQ),([]:O nQ),l,(0:Int),()) λg⟨c,e,q,d,a,u⟩=>if(decide (a<(l.length:Int)))then(c7 d a).bind λs=>(c7 d a).bind λb=>(a72 b.Span.From (i64 (b.Span.From+1)) c [] e).bind λi=>(a72 (i64 (b.Span.From+1)) b.Span.To c [] i.2).bind λf=>g (c,f.2,[],d,i64 (a+1),())else some e
def a0s(c:bQ)(i:O aQ)(l:bQ):A3 (O nQ):=lpC (c,([]:O Scheme),(0:Int)) λh⟨a,f,b⟩=>if(decide (b<(c.laws.States.length:Int)))then(c7 c.laws.States b).bind λg=>(a08 l g.State).bind λk=>if k then(b1v g.Statute a.day).bind λm=>(a4n 152 f [(⟨g.State,m.1⟩:Scheme)]).bind λj=>h (a,j,i64 (b+1))else h (a,f,i64 (b+1))else(a4h i a.laws.Treaty).bind λn=>(a7e i n f a.day).bind λe=>(a71 e.1).bind λd=>some d
def k2k(b:Laws)(e:O aQ)(d:Int):A3 ((O nQ)×Int):=(b8v b d).bind λa=>if(a.2!=0)then some ([],a.2)else(a0s a.1 e a.1).bind λc=>some (c,0)
def a7y(b:bQ)(g:Int):A3 (Statute×Bool):=lpC (([]:O Version),(⟨a3j,0,[]⟩:Statute),(0:Int)) λf⟨e,c,a⟩=>if(decide (a<(b.laws.States.length:Int)))then(c7 b.laws.States a).bind λd=>if(d.State==g)then some (d.Statute,true)else f (e,(⟨c.Name,c.Currency,[]⟩:Statute),i64 (a+1))else some ((⟨a3j,0,[]⟩:Statute),false)
def a2v(b:bQ)(e:Int):A3 (Statute×Version×Int):=(a7y b e).bind λa=>(b1v a.1 b.day).bind λc=>(if(!a.2)then some true else some (!c.2)).bind λd=>if d then some ((⟨a3j,0,[]⟩:Statute),(⟨0,(⟨0,0⟩:Rounding),[],[],[],[],[]⟩:Version),9)else some (a.1,c.1,0)
def b1l(b a:Int):A3 Bool:=some (b==a)
def a3g(d:bQ)(j:O aQ)(a:Int):A3 (O nQ):=lpC (d,([]:O Scheme),(0:Int)) λi⟨b,g,c⟩=>if(decide (c<(d.laws.States.length:Int)))then(c7 d.laws.States c).bind λh=>(b1l h.State a).bind λl=>if l then(b1v h.Statute b.day).bind λm=>(a4n 152 g [(⟨h.State,m.1⟩:Scheme)]).bind λk=>i (b,k,i64 (c+1))else i (b,g,i64 (c+1))else(a4h j b.laws.Treaty).bind λn=>(a7e j n g b.day).bind λf=>(a71 f.1).bind λe=>some e
def b3l(d:bQ)(a:O aQ)(c:Int):A3 (O nQ):=(a3g d a c).bind λb=>some b
def a2z(a:bQ)(c:O aQ)(b:Int):A3 (O nQ):=(a08 a b).bind λe=>if e then(a0s a c a).bind λf=>some f else(b3l a c b).bind λd=>some d
def b30(d:O aQ)(g:Int)(c:((O Int)×Int)->A3 (O Int))(a:(O Int)×Int):A3 (O Int):=if(decide (a.2<(d.length:Int)))then(c7 d a.2).bind λb=>(a4e b).bind λh=>(if h then some (b.Kind==10)else some false).bind λk=>(if k then some (decide (b.Span.From<g))else some false).bind λf=>if f then(a4n 8 a.1 [b.Ref]).bind λi=>c (i,i64 (a.2+1))else c (a.1,i64 (a.2+1))else(b8s a.1).bind λe=>(a0n e).bind λj=>some j
def b2v(b:O aQ)(a:Int):A3 (O Int):=d9 FU (b30 b a) ([],0)
def a3o(a:Int):A3 Int:=if(decide ((i64 (a-1900))>0))then(c2t (i64 ((i64 (a-1900))-1)) 4).bind λb=>some (i64 ((i64 (365*(i64 (a-1900))))+b))else some (i64 (365*(i64 (a-1900))))
def a7i(b:Int):A3 Int:=(a7l b).bind λa=>if a then some 366 else some 365
def a4d(c:Int):A3 (Int×Int×Int×Bool):=(m7 c).bind λi=>if(!i)then some (0,0,0,false)else(c2t c 366).bind λk=>lpC (i64 (1900+k)) λj a=>(a3o a).bind λm=>(a7i a).bind λh=>if(decide ((i64 (m+h))<=c))then j (i64 (a+1))else(a3o a).bind λl=>lpC ((1:Int),i64 (c-l)) λe⟨b,g⟩=>(a05 a b).bind λf=>if(decide (g>=f))then(a05 a b).bind λd=>e (i64 (b+1),i64 (g-d))else some (a,b,i64 (g+1),true)
def b1r(a b e:Int):A3 (Int×Bool):=(if(decide (a<1900))then some true else some (decide (a>2099))).bind λj=>(if j then some true else some (decide (b<1))).bind λk=>(if k then some true else some (decide (b>12))).bind λi=>(if i then some true else some (decide (e<1))).bind λl=>(if l then some true else(a05 a b).bind λn=>some (decide (e>n))).bind λh=>if h then some (0,false)else(a3o a).bind λm=>lpC (i64 ((i64 (m+e))-1),(1:Int)) λc⟨g,f⟩=>if(decide (f<b))then(a05 a f).bind λd=>c (i64 (g+d),i64 (f+1))else some (g,true)
def a6q(a:Int×Int×Int):A3 (Int×Bool):=(b1r a.1 a.2.1 a.2.2).bind λb=>some (b.1,b.2)
def b03(d b:Int):A3 (Int×Bool):=(a4d d).bind λa=>(if(!a.2.2.2)then some true else some (decide (b<0))).bind λf=>(if f then some true else some (decide (b>(i64 (2099-a.1))))).bind λe=>if e then some (0,false)else(if(a.2.1==2)then some (a.2.2.1==29)else some false).bind λg=>(if g then(a7l (i64 (a.1+b))).bind λh=>some (!h)else some false).bind λc=>if c then joinC a6q (i64 (a.1+b),3,1)else joinC a6q (i64 (a.1+b),a.2.1,a.2.2.1)
def b7r(a b:Int):A3 Int:=(m7 a).bind λf=>(if(!f)then some true else(m7 b).bind λg=>some (!g)).bind λe=>(if e then some true else some (decide (b<a))).bind λh=>if h then some (-1:Int)else(a4d a).bind λd=>(a4d b).bind λc=>(b03 a (i64 (c.1-d.1))).bind λi=>if(decide (i.1>b))then some (i64 ((i64 (c.1-d.1))-1))else some (i64 (c.1-d.1))
def c0z(h:O Span)(f:Int):A3 Int:=(a2w h).bind λe=>lpC ((0:Int),e,(0:Int)) λg⟨c,b,a⟩=>if(decide (a<(e.length:Int)))then(c7 b a).bind λi=>(c7 b a).bind λd=>if(decide (d.From<f))then g (i64 (c+(i64 ((min d.To f)-d.From))),b,i64 (a+1))else g (c,b,i64 (a+1))else some c
def b6h(b:O Span):A3 Int:=(c0z b 73049).bind λa=>some a
def a8q(e:O nQ)(f:Int)(i:O Int):A3 Int:=lpC (([]:O Span),(0:Int)) λd⟨b,a⟩=>if(decide (a<(e.length:Int)))then(c7 e a).bind λc=>(if(decide (f<0))then some true else some (c.State==f)).bind λl=>(if l then(q9 i c.Rank).bind λh=>some h else some false).bind λj=>if j then(a4n 16 b [c.Span]).bind λg=>d (g,i64 (a+1))else d (b,i64 (a+1))else(b6h b).bind λk=>some k
def b63(a:aQ)(e:Int):A3 Int:=(if(a.Kind==1)then some true else some (a.Kind==2)).bind λc=>(if c then some true else some (a.Kind==3)).bind λd=>if d then some 1 else(if(a.Kind==6)then some (a.State==e)else some false).bind λb=>if b then some 2 else some 0
def b6i(e:O nQ)(i f:Int):A3 (O Span):=lpC (([]:O Span),(0:Int)) λd⟨b,a⟩=>if(decide (a<(e.length:Int)))then(c7 e a).bind λc=>(if(c.State==i)then(if(f==0)then some true else some (c.Rank==f)).bind λk=>some k else some false).bind λh=>if h then(a4n 16 b [c.Span]).bind λj=>d (j,i64 (a+1))else d (b,i64 (a+1))else(a2w b).bind λg=>some g
def b13(k:O aQ)(n:O nQ)(m:Int):A3 (O earnings_income):=(a4f k).bind λl=>lpC (([]:O earnings_income),l,(0:Int)) λi⟨d,c,a⟩=>if(decide (a<(l.length:Int)))then(c7 c a).bind λp=>(c7 c a).bind λh=>(b63 h m).bind λj=>if(j==0)then i (d,c,i64 (a+1))else(b6i n m j).bind λo=>(s6 o h.Span).bind λg=>(a2i k).bind λe=>(s6 g e).bind λb=>if(decide ((b.length:Int)>0))then(a4n 136 d [(⟨h,b⟩:earnings_income)]).bind λf=>i (f,c,i64 (a+1))else i (d,c,i64 (a+1))else some d
def b5y(a:Int):A3 Span:=(b1r a 1 1).bind λb=>(b1r a 12 31).bind λc=>some (⟨b.1,i64 (c.1+1)⟩:Span)
def b6a(a:aQ)(b:Int):A3 Int:=(b3k a).bind λd=>(if(!d)then some true else some (decide (b<0))).bind λe=>(if e then some true else some (decide (b>(i64 (a.Span.To-a.Span.From))))).bind λc=>if c then some 0 else(c2t (i64 (a.Amount*b)) (i64 (a.Span.To-a.Span.From))).bind λf=>some f
def c17(a:Int):A3 Bool:=(if(decide (a>=(-1000000000000:Int)))then some (decide (a<=1000000000000))else some false).bind λb=>some b
def a1c(a:Rounding×Bool):A3 Bool:=if a.2then(if(decide (a.1.Unit>=1))then some (decide (a.1.Unit<=100000))else some false).bind λb=>some b else some false
def a2y(a:Rounding):A3 Bool:=if(a.Mode==1)then joinC a1c (a,a.Mode==1)else if(a.Mode==2)then joinC a1c (a,a.Mode==2)else if(a.Mode==3)then joinC a1c (a,a.Mode==3)else joinC a1c (a,a.Mode==4)
def b3x(a:Int):A3 Int:=if(decide (a<0))then some (u64 (i64 (-a)))else some (u64 (a))
def b2f(a:Rounding×Int):A3 (Int×Int):=(c2t 1000000000000 a.1.Unit).bind λd=>(if(decide (a.2>d))then some true else(c2t (-1000000000000:Int) a.1.Unit).bind λc=>some (decide (a.2<c))).bind λb=>if b then some (0,2)else some (i64 (a.2*a.1.Unit),0)
def a7a(a:Rounding×Int×Bool):A3 (Int×Int):=if a.2.2then joinC b2f (a.1,i64 (a.2.1+1))else joinC b2f (a.1,a.2.1)
def a9e(a:Rounding×Int×Int×Int):A3 (Int×Int):=if(a.1.Mode==2)then joinC a7a (a.1,a.2.2.2,decide (a.2.2.1>0))else if(a.1.Mode==3)then joinC a7a (a.1,a.2.2.2,decide (a.2.2.1>=(u64 (a.2.1-a.2.2.1))))else if(a.1.Mode==4)then(if(decide (a.2.2.1>(u64 (a.2.1-a.2.2.1))))then some true else(if(a.2.2.1==(u64 (a.2.1-a.2.2.1)))then(b8t a.2.2.2 2).bind λc=>some (c !=0)else some false).bind λd=>some d).bind λb=>joinC a7a (a.1,a.2.2.2,b)else joinC a7a (a.1,a.2.2.2,false)
def a9o(e:Bool)(d f c:Int)(a:Rounding):A3 (Int×Int):=if(decide (d>=(u64 (c*(u64 (a.Unit))))))then some (0,2)else(a8o d f (u64 (c*(u64 (a.Unit))))).bind λb=>if(decide (b.1>2000000000000))then some (0,2)else if e then if(decide (b.2>0))then joinC a9e (a,u64 (c*(u64 (a.Unit))),u64 ((u64 (c*(u64 (a.Unit))))-b.2),i64 ((i64 (-(i64 (b.1))))-1))else joinC a9e (a,u64 (c*(u64 (a.Unit))),b.2,i64 (-(i64 (b.1))))else joinC a9e (a,u64 (c*(u64 (a.Unit))),b.2,i64 (b.1))
def b6m(c:O Rate)(j k:Int):A3 (fQ×Bool):=lpC ((⟨0,0⟩:fQ),(-1:Int),(0:Int)) λg⟨f,b,a⟩=>if(decide (a<(c.length:Int)))then(c7 c a).bind λe=>(if(e.Currency==j)then some (decide (e.Month<=k))else some false).bind λi=>(if i then(if(decide (b<0))then some true else(c7 c b).bind λl=>some (decide (e.Month>l.Month))).bind λh=>some h else some false).bind λm=>if m then g (f,a,i64 (a+1))else g (f,b,i64 (a+1))else if(decide (b<0))then some ((⟨0,0⟩:fQ),false)else(c7 c b).bind λd=>some (d.Value,true)
def b3s(b a:Int):A3 (Int×Int):=(d0l .u64 b 32).bind λc=>(d0l .u64 a 32).bind λe=>(d0l .u64 (u64 ((d5y .u64 b 4294967295)*(d5y .u64 a 4294967295))) 32).bind λd=>(d0l .u64 (u64 ((u64 (c*(d5y .u64 a 4294967295)))+d)) 32).bind λf=>(d0l .u64 (u64 ((d5y .u64 (u64 ((u64 (c*(d5y .u64 a 4294967295)))+d)) 4294967295)+(u64 ((d5y .u64 b 4294967295)*e)))) 32).bind λg=>some (u64 ((u64 ((u64 (c*e))+f))+g),u64 (b*a))
def b68(f l k i:Int)(n:O Rate)(m:Rounding):A3 (Int×Int):=(c17 f).bind λv=>(if(!v)then some true else(a8n l).bind λy=>some (!y)).bind λu=>(if u then some true else(a8n k).bind λs=>some (!s)).bind λx=>(if x then some true else(b9g i).bind λr=>some (!r)).bind λq=>(if q then some true else(a2y m).bind λt=>some (!t)).bind λw=>(if w then some true else(a5r n).bind λg=>some (g !=0)).bind λj=>if j then some (0,1)else if(l==k)then(b3x f).bind λo=>(a9o (decide (f<0)) 0 o 1 m).bind λc=>some (c.1,c.2)else(b6m n l i).bind λa=>(b6m n k i).bind λb=>(if(!a.2)then some true else some (!b.2)).bind λh=>if h then some (0,9)else(b3x f).bind λp=>(b3s p (u64 ((u64 (a.1.Num))*(u64 (b.1.Den))))).bind λd=>(a9o (decide (f<0)) d.1 d.2 (u64 ((u64 (a.1.Den))*(u64 (b.1.Num)))) m).bind λe=>some (e.1,e.2)
def b4h(Z:O aQ)(U:O nQ)(F C:Int)(Q:O Rate):A3 ((O Earning)×Int):=(if(decide (F<0))then some true else some (decide (F>=6))).bind λW=>(if W then some true else some (decide (C<1))).bind λv2=>(if v2 then some true else some (decide (C>999))).bind λV=>(if V then some true else(a5r Q).bind λT=>some (T !=0)).bind λY=>if Y then some ([],1)else(b13 Z U F).bind λP=>lpC (P,([]:O (Int×Int)),(0:Int)) λD⟨y,I,z⟩=>if(decide (z<(P.length:Int)))then(c7 y z).bind λS=>(c7 y z).bind λu=>lpC (y,I,(0:Int)) λB⟨o,p,l⟩=>if(decide (l<(u.days.length:Int)))then(c7 u.days l).bind λv=>(a4d v.From).bind λH=>(a4d (i64 (v.To-1))).bind λJ=>lpC (o,p,H.1) λG⟨m,r,k⟩=>if(decide (k<=J.1))then G (m,a62 r k 0,i64 (k+1))else B (m,r,i64 (l+1))else D (o,p,i64 (z+1))else(c8c I).bind λt=>lpC (y,I,([]:O Earning),(List.map (λx=>x) t),(0:Int)) λL⟨s,M,n,j,e⟩=>if(decide (e<((List.map (λx=>x) t).length:Int)))then(c7 j e).bind λX=>(c7 j e).bind λa=>lpC (s,M,n,j,(0:Int)) λq⟨d,b,i,f,c⟩=>if(decide (c<(s.length:Int)))then(c7 d c).bind λR=>(c7 d c).bind λh=>(b5y a).bind λK=>(s6 h.days K).bind λA=>(b6h A).bind λw=>if(w==0)then q (d,b,i,f,i64 (c+1))else(b6a h.fact w).bind λN=>(b68 N h.fact.Currency C (i64 ((i64 (12*(i64 (a-1900))))+11)) Q (⟨1,1⟩:Rounding)).bind λg=>if(g.2!=0)then some ([],g.2)else q (d,a62 b a (i64 ((b5g b a)+g.1)),i,f,i64 (c+1))else if(decide ((b5g b a)>1000000000000))then some ([],2)else(a4n 16 i [(⟨a,b5g b a⟩:Earning)]).bind λE=>L (d,b,E,f,i64 (e+1))else some (n,0)
def b0w(d:Version)(j:Int):A3 fQ:=lpC (d,(⟨0,0⟩:fQ),(-1:Int),(0:Int)) λh⟨c,g,a,b⟩=>if(decide (b<(d.Series.length:Int)))then(c7 d.Series b).bind λf=>(if(decide (f.Year<=j))then(if(decide (a<0))then some true else(c7 c.Series a).bind λk=>some (decide (f.Year>k.Year))).bind λi=>some i else some false).bind λl=>if l then h (c,g,b,i64 (b+1))else h (c,g,a,i64 (b+1))else if(decide (a<0))then some (⟨1,1⟩:fQ)else(c7 c.Series a).bind λe=>some e.Factor
def b0x(a:fQ):A3 Bool:=(o7 a).bind λc=>(if c then some (decide (a.Num>0))else some false).bind λd=>(if d then some (decide (a.Num<=10000000000000))else some false).bind λb=>(if b then some (decide (a.Den<=10000))else some false).bind λe=>some e
def b2s(e:Version)(d j h:Int):A3 (Int×Int):=(b0w e h).bind λa=>(b0w e j).bind λb=>(if(decide (d<0))then some true else some (decide (d>1000000000000))).bind λi=>(if i then some true else(b0x a).bind λk=>some (!k)).bind λm=>(if m then some true else(b0x b).bind λg=>some (!g)).bind λl=>if l then some (0,1)else(b3s (u64 (d)) (u64 ((u64 (a.Num))*(u64 (b.Den))))).bind λc=>if(decide (c.1>=(u64 ((u64 (a.Den))*(u64 (b.Num))))))then some (0,2)else(a8o c.1 c.2 (u64 ((u64 (a.Den))*(u64 (b.Num))))).bind λf=>if(decide (f.1>1000000000000))then some (0,2)else some (i64 (f.1),0)
def b14(c:O Earning)(h:Version)(i:Int):A3 ((O Int)×Int):=lpC (h,([]:O Int),(0:Int)) λg⟨d,e,b⟩=>if(decide (b<(c.length:Int)))then(c7 c b).bind λf=>(b2s d f.Amount f.Year i).bind λa=>if(a.2!=0)then some ([],a.2)else(a4n 8 e [a.1]).bind λj=>g (d,j,i64 (b+1))else some (e,0)
def a70(c:Bool)(b a:rational_wide):A3 (fQ×Int):=(if(b.hi !=0)then some true else some (decide (b.lo>1000000000000000))).bind λe=>(if e then some true else some (a.hi !=0)).bind λf=>(if f then some true else some (decide (a.lo>1000000000))).bind λd=>if d then some ((⟨0,0⟩:fQ),2)else if c then some ((⟨i64 (-(i64 (b.lo))),i64 (a.lo)⟩:fQ),0)else some ((⟨i64 (b.lo),i64 (a.lo)⟩:fQ),0)
def b32(b c:Int):A3 (fQ×Int):=if(c==0)then some ((⟨0,0⟩:fQ),3)else(j5 b).bind λd=>(j5 c).bind λe=>(a7g d e).bind λa=>(if((decide (b<0))!=(decide (c<0)))then some (b !=0)else some false).bind λh=>(if a=0then none else some (u64 (Int.tdiv d a))).bind λi=>(if a=0then none else some (u64 (Int.tdiv e a))).bind λg=>(a70 h (⟨0,i⟩:rational_wide) (⟨0,g⟩:rational_wide)).bind λf=>some (f.1,f.2)
def b6e(a:O Int):A3 (fQ×Int):=if(decide ((a.length:Int)>200))then some ((⟨0,0⟩:fQ),1)else lpC ((⟨0,0⟩:fQ),(0:Int),(0:Int)) λh⟨g,d,b⟩=>if(decide (b<(a.length:Int)))then(c7 a b).bind λc=>(if(decide (c<0))then some true else some (decide (c>1000000000000))).bind λf=>if f then some ((⟨0,0⟩:fQ),1)else h (g,i64 (d+c),i64 (b+1))else if((a.length:Int)==0)then some ((⟨0,1⟩:fQ),0)else(b32 d (a.length:Int)).bind λe=>some (e.1,e.2)
def a7j(a:(O aQ)×(O nQ)×Int×bQ×(O Int)×View×Statute×Version×(O Int)×View×Int):A3 (View×Int):=(a8q a.2.1 a.2.2.2.2.2.2.2.2.2.2 [1]).bind λj=>(a8q a.2.1 a.2.2.2.2.2.2.2.2.2.2 [2]).bind λi=>(a8q a.2.1 a.2.2.2.2.2.2.2.2.2.2 [3]).bind λg=>(a8q a.2.1 a.2.2.2.2.2.2.2.2.2.2 [4,5]).bind λe=>(a8q a.2.1 a.2.2.2.2.2.2.2.2.2.2 [6]).bind λf=>(a8q a.2.1 a.2.2.2.2.2.2.2.2.2.2 [7]).bind λh=>(b4h a.1 a.2.1 a.2.2.1 a.2.2.2.2.2.2.1.Currency a.2.2.2.1.laws.Rates).bind λd=>if(d.2!=0)then some ((⟨0,0,0,0,0,0,0,0,0,0,(⟨0,0⟩:fQ),[]⟩:View),d.2)else(b14 d.1 a.2.2.2.2.2.2.2.1 a.2.2.2.2.2.2.2.2.2.1.Year).bind λb=>if(b.2!=0)then some ((⟨0,0,0,0,0,0,0,0,0,0,(⟨0,0⟩:fQ),[]⟩:View),b.2)else(b6e b.1).bind λc=>if(c.2!=0)then some ((⟨0,0,0,0,0,0,0,0,0,0,(⟨0,0⟩:fQ),[]⟩:View),c.2)else some ((⟨a.2.2.2.2.2.2.2.2.2.1.Age,a.2.2.2.2.2.2.2.2.2.1.Year,a.2.2.2.2.2.2.2.2.2.1.Children,i64 ((i64 ((i64 ((i64 ((i64 (j+i))+g))+e))+f))+h),j,i,g,e,f,h,c.1,b.1⟩:View),0)
def a85(a:(O aQ)×(O nQ)×Int×Bool×bQ×(O Int)×View×Statute×Version×(O Int)×View):A3 (View×Int):=(a4d a.2.2.2.2.1.day).bind λb=>if a.2.2.2.1then joinC a7j (a.1,a.2.1,a.2.2.1,a.2.2.2.2.1,a.2.2.2.2.2.1,(⟨a.2.2.2.2.2.2.1.Age,a.2.2.2.2.2.2.1.Year,a.2.2.2.2.2.2.1.Children,a.2.2.2.2.2.2.1.Insured,a.2.2.2.2.2.2.1.Worked,a.2.2.2.2.2.2.1.Voluntary,a.2.2.2.2.2.2.1.Service,a.2.2.2.2.2.2.1.Equated,a.2.2.2.2.2.2.1.Raising,a.2.2.2.2.2.2.1.Resident,a.2.2.2.2.2.2.1.Base,[]⟩:View),a.2.2.2.2.2.2.2.1,a.2.2.2.2.2.2.2.2.1,a.2.2.2.2.2.2.2.2.2.1,(⟨a.2.2.2.2.2.2.2.2.2.2.Age,b.1,a.2.2.2.2.2.2.2.2.2.2.Children,a.2.2.2.2.2.2.2.2.2.2.Insured,a.2.2.2.2.2.2.2.2.2.2.Worked,a.2.2.2.2.2.2.2.2.2.2.Voluntary,a.2.2.2.2.2.2.2.2.2.2.Service,a.2.2.2.2.2.2.2.2.2.2.Equated,a.2.2.2.2.2.2.2.2.2.2.Raising,a.2.2.2.2.2.2.2.2.2.2.Resident,a.2.2.2.2.2.2.2.2.2.2.Base,[]⟩:View),(-1:Int))else joinC a7j (a.1,a.2.1,a.2.2.1,a.2.2.2.2.1,a.2.2.2.2.2.1,(⟨a.2.2.2.2.2.2.1.Age,a.2.2.2.2.2.2.1.Year,a.2.2.2.2.2.2.1.Children,a.2.2.2.2.2.2.1.Insured,a.2.2.2.2.2.2.1.Worked,a.2.2.2.2.2.2.1.Voluntary,a.2.2.2.2.2.2.1.Service,a.2.2.2.2.2.2.1.Equated,a.2.2.2.2.2.2.1.Raising,a.2.2.2.2.2.2.1.Resident,a.2.2.2.2.2.2.1.Base,[]⟩:View),a.2.2.2.2.2.2.2.1,a.2.2.2.2.2.2.2.2.1,a.2.2.2.2.2.2.2.2.2.1,(⟨a.2.2.2.2.2.2.2.2.2.2.Age,b.1,a.2.2.2.2.2.2.2.2.2.2.Children,a.2.2.2.2.2.2.2.2.2.2.Insured,a.2.2.2.2.2.2.2.2.2.2.Worked,a.2.2.2.2.2.2.2.2.2.2.Voluntary,a.2.2.2.2.2.2.2.2.2.2.Service,a.2.2.2.2.2.2.2.2.2.2.Equated,a.2.2.2.2.2.2.2.2.2.2.Raising,a.2.2.2.2.2.2.2.2.2.2.Resident,a.2.2.2.2.2.2.2.2.2.2.Base,[]⟩:View),a.2.2.1)
def a8k(a:bQ)(c:O aQ)(h:O nQ)(d:Int)(g:Bool):A3 (View×Int):=(a2v a d).bind λb=>if(b.2.2!=0)then some ((⟨0,0,0,0,0,0,0,0,0,0,(⟨0,0⟩:fQ),[]⟩:View),b.2.2)else(b2v c a.day).bind λf=>(b4t c).bind λe=>(if e.2then some (decide (e.1<=a.day))else some false).bind λi=>if i then(b7r e.1 a.day).bind λj=>joinC a85 (c,h,d,g,a,[],(⟨0,0,0,0,0,0,0,0,0,0,(⟨0,0⟩:fQ),[]⟩:View),b.1,b.2.1,[],(⟨j,0,(f.length:Int),0,0,0,0,0,0,0,(⟨0,0⟩:fQ),[]⟩:View))else joinC a85 (c,h,d,g,a,[],(⟨0,0,0,0,0,0,0,0,0,0,(⟨0,0⟩:fQ),[]⟩:View),b.1,b.2.1,[],(⟨0,0,(f.length:Int),0,0,0,0,0,0,0,(⟨0,0⟩:fQ),[]⟩:View))
def c0y(a:O nQ)(e d:Int):A3 Int:=(b6i a e d).bind λb=>(b6h b).bind λc=>some c
def b06(e:(Total×Total×Int×Int)->A3 Total)(a:(O nQ)×Int×Total×Total×Int×Int×Int):A3 Total:=(b6i a.1 a.2.2.2.2.2.1 0).bind λd=>(b90 d).bind λb=>(if b.2then some (decide (b.1>a.2.2.2.2.1))else some false).bind λc=>if c then e (a.2.2.1,(⟨a.2.2.2.1.Own,a.2.2.2.1.Few,a.2.2.2.1.Sum,a.2.2.2.1.Base,a.2.2.2.2.2.1⟩:Total),b.1,i64 (a.2.2.2.2.2.2+1))else e (a.2.2.1,a.2.2.2.1,a.2.2.2.2.1,i64 (a.2.2.2.2.2.2+1))
def b41(e:O nQ)(f:Int):A3 Total:=lpC ((⟨(arZ 6 0:Ar 6 Int),(arZ 6 false:Ar 6 Bool),0,0,0⟩:Total),(⟨(arZ 6 0:Ar 6 Int),(arZ 6 false:Ar 6 Bool),0,0,(-1:Int)⟩:Total),(-1:Int),(0:Int)) λi⟨h,b,g,a⟩=>if(decide (a<6))then(c0y e a 0).bind λc=>(d0n 6 a).bind λo=>(d0n 6 a).bind λn=>(if(decide ((Ar.gt 0 (Ar.set b.Own a c) a)>0))then(d0n 6 a).bind λp=>some (decide ((Ar.gt 0 (Ar.set b.Own a c) a)<f))else some false).bind λd=>(d0n 6 a).bind λk=>(d0n 6 a).bind λj=>(d0n 6 a).bind λl=>if(!(Ar.gt false (Ar.set b.Few a d) a))then(d0n 6 a).bind λm=>joinC (b06 i) (e,f,h,(⟨Ar.set b.Own a c,Ar.set b.Few a d,i64 (b.Sum+(Ar.gt 0 (Ar.set b.Own a c) a)),i64 (b.Base+(Ar.gt 0 (Ar.set b.Own a c) a)),b.Last⟩:Total),g,a,a)else joinC (b06 i) (e,f,h,(⟨Ar.set b.Own a c,Ar.set b.Few a d,i64 (b.Sum+(Ar.gt 0 (Ar.set b.Own a c) a)),b.Base,b.Last⟩:Total),g,a,a)else some b
def b2k(b:Total)(a:Int):A3 (Int×Int):=(if(decide (a<0))then some true else some (decide (a>=6))).bind λd=>if d then some (0,1)else(d0n 6 a).bind λj=>(if(!(Ar.gt false b.Few a))then(d0n 6 a).bind λi=>some (decide ((Ar.gt 0 b.Own a)>0))else some false).bind λe=>(if e then some (decide (b.Base>0))else some false).bind λg=>if g then(d0n 6 a).bind λh=>some (Ar.gt 0 b.Own a,b.Base)else(if(b.Base==0)then some (decide (b.Sum>0))else some false).bind λf=>(if f then some (a==b.Last)else some false).bind λc=>if c then some (1,1)else some (0,1)
def b0a(a:Int):A3 Bool:=(if(decide (a<0))then some true else some (decide (a>1000000000000))).bind λb=>some b
def a6k(b:O Int)(c:Int->A3 Int)(a:Int):A3 Int:=if(decide (a<(b.length:Int)))then(c7 b a).bind λd=>(b0a d).bind λe=>if e then some a else c (i64 (a+1))else some (-1:Int)
def a29(a:O Int):A3 Int:=d9 FU (a6k a) 0
def a1n(b:O Int):A3 Bool:=(a29 b).bind λa=>some (decide (a>=0))
def a9p(a:O Int):A3 Bool:=(if(decide ((a.length:Int)<=200))then(a1n a).bind λb=>some (!b)else some false).bind λc=>some c
def b0s(a:View):A3 Bool:=(if(decide (a.Age<0))then some true else some (decide (a.Age>199))).bind λs=>(if s then some true else some (decide (a.Year<1900))).bind λu=>(if u then some true else some (decide (a.Year>2099))).bind λr=>(if r then some true else some (decide (a.Children<0))).bind λq=>(if q then some true else some (decide (a.Children>99))).bind λt=>(if t then some true else(a9p a.Years).bind λp=>some (!p)).bind λo=>if o then some false else lpC (a,(0:Int)) λg⟨b,k⟩=>if(decide (k<7))then(c7 (⟨[a.Insured,a.Worked,a.Voluntary,a.Service,a.Equated,a.Raising,a.Resident],rfl⟩:Ar 7 Int).l k).bind λc=>(if(decide (c<0))then some true else some (decide (c>73049))).bind λl=>if l then some false else g (b,i64 (k+1))else(o7 b.Base).bind λf=>(if f then some (decide (b.Base.Num>=0))else some false).bind λh=>(if h then(c2t b.Base.Num b.Base.Den).bind λn=>some (decide (n<=1000000000000))else some false).bind λe=>(if e then(c2t b.Base.Num b.Base.Den).bind λm=>(if(decide (m<1000000000000))then some true else(b8t b.Base.Num b.Base.Den).bind λi=>some (i==0)).bind λj=>some j else some false).bind λd=>some d
def c5y(d:Version)(a:View):A3 Int:=(b0s a).bind λb=>if(!b)then some 1 else(b0q d).bind λc=>some c
def c1o(b:Grant)(a:Int):A3 Bool:=some (b.Benefit==a)
structure Ring_eval_mentions where
 f_eval_mentions:Expr->ByteArray->Option Bool
 f_eval_mentions_1:Expr->ByteArray->Option Bool
 f_slices_ContainsFunc_of_api_Expr:(List Expr)->ByteArray->Option Bool
 f_slices_IndexFunc_of_api_Expr:(List Expr)->ByteArray->Option Int
def b2a(R:Ring_eval_mentions)(a:Expr)(b:A4):A3 Bool:=(if(a.Op==2)then some (a.Name.toList==b.toList)else some false).bind λd=>(if d then some true else(R.f_slices_ContainsFunc_of_api_Expr a.Args b).bind λe=>some e).bind λc=>some c
def b93(R:Ring_eval_mentions)(c:Expr)(a:A4):A3 Bool:=(R.f_eval_mentions c a).bind λb=>some b
def a0o(R:Ring_eval_mentions)(c:O Expr)(a:A4):A3 Bool:=(R.f_slices_IndexFunc_of_api_Expr c a).bind λb=>some (decide (b>=0))
def a5n(R:Ring_eval_mentions)(c:O Expr)(a:A4)(d:Int->A3 Int)(b:Int):A3 Int:=if(decide (b<(c.length:Int)))then(c7 c b).bind λe=>(R.f_eval_mentions_1 e a).bind λf=>if f then some b else d (i64 (b+1))else some (-1:Int)
def a16(R:Ring_eval_mentions)(b:O Expr)(a:A4):A3 Int:=d9 FU (a5n R b a) 0
def d5:Nat->Ring_eval_mentions|0=>⟨λ_ _=>none,λ_ _=>none,λ_ _=>none,λ_ _=>none⟩|n+1=>⟨b2a (d5 n),b93 (d5 n),a0o (d5 n),a16 (d5 n)⟩
def b95(b:Expr)(a:A4):A3 Bool:=(d5 FU).f_eval_mentions b a
def b1z(c:((O Int)×Int×Int)->A3 (O Int))(a:(O Int)×Int×Int):A3 (O Int):=if(decide (a.2.1<a.2.2))then(c7 a.1 a.2.2).bind λg=>(c7 a.1 a.2.2).bind λb=>(c7 a.1 a.2.1).bind λj=>(c7 a.1 a.2.1).bind λd=>(c7 a.1 a.2.1).bind λh=>(c7 a.1 a.2.1).bind λf=>(c7 (a8h a.1 a.2.1 b) a.2.2).bind λi=>(c7 (a8h a.1 a.2.1 b) a.2.2).bind λe=>c (a8h (a8h a.1 a.2.1 b) a.2.2 d,i64 (a.2.1+1),i64 (a.2.2-1))else some a.1
def a68(a:O Int):A3 (O Int):=d9 FU b1z (a,0,i64 ((a.length:Int)-1))
def c4e(u:Expr)(d:O Let):A3 (O Int):=lpC (u,([]:O Int),i64 ((d.length:Int)-1)) λq⟨o,m,b⟩=>if(decide (b>=0))then(c7 d b).bind λs=>(b95 o s.Name).bind λr=>lpC (o,m,r,(0:Int)) λe⟨f,c,p,a⟩=>if(decide (a<(m.length:Int)))then(c7 c a).bind λt=>(c7 c a).bind λh=>(if p then some true else(c7 d h).bind λi=>(c7 d b).bind λn=>(b95 i.Body n.Name).bind λg=>some g).bind λl=>e (f,c,l,i64 (a+1))else if p then(a4n 8 c [b]).bind λj=>q (f,j,i64 (b-1))else q (f,c,i64 (b-1))else(a68 m).bind λk=>some k
def t6(b:Int)(a:fQ):A3 Value:=some (⟨b,false,a⟩:Value)
def c2b(b:View)(c:A4):A3 (Value×Bool):=(b4n c).bind λa=>(if(!a.2)then some true else(b0s b).bind λm=>some (!m)).bind λl=>if l then some ((⟨0,false,(⟨0,0⟩:fQ)⟩:Value),false)else if(c.toList==e39.toList)then(t6 a.1 b.Base).bind λn=>some (n,true)else if(c.toList==e0r.toList)then(t6 a.1 (⟨b.Age,1⟩:fQ)).bind λq=>some (q,true)else if(c.toList==d3o.toList)then(t6 a.1 (⟨b.Year,1⟩:fQ)).bind λk=>some (k,true)else if(c.toList==c6q.toList)then(t6 a.1 (⟨b.Children,1⟩:fQ)).bind λo=>some (o,true)else if(c.toList==b6u.toList)then(t6 a.1 (⟨b.Insured,1⟩:fQ)).bind λj=>some (j,true)else if(c.toList==c5w.toList)then(t6 a.1 (⟨b.Worked,1⟩:fQ)).bind λp=>some (p,true)else if(c.toList==b0b.toList)then(t6 a.1 (⟨b.Voluntary,1⟩:fQ)).bind λh=>some (h,true)else if(c.toList==b3z.toList)then(t6 a.1 (⟨b.Service,1⟩:fQ)).bind λe=>some (e,true)else if(c.toList==c3c.toList)then(t6 a.1 (⟨b.Equated,1⟩:fQ)).bind λd=>some (d,true)else if(c.toList==c3j.toList)then(t6 a.1 (⟨b.Raising,1⟩:fQ)).bind λf=>some (f,true)else if(c.toList==c6v.toList)then(t6 a.1 (⟨b.Resident,1⟩:fQ)).bind λg=>some (g,true)else(t6 a.1 (⟨0,1⟩:fQ)).bind λi=>some (i,true)
def b38(d:vQ)(c:((A4×Value)×Int)->A3 Value)(a:(A4×Value)×Int):A3 Value:=if decide (a.2<0)then some (⟨0,false,(⟨0,0⟩:fQ)⟩:Value)else(c7 d.steps a.2).bind λb=>if(b.Name.toList==a.1.1.toList)then some ((a.1.1,b.Value).2)else c ((a.1.1,a.1.2),a.2-1)
def a84(a:vQ)(b:A4):A3 Value:=(c2b a.view b).bind λc=>if c.2then some c.1else d9 FU (b38 a) ((b,(⟨0,false,(⟨0,0⟩:fQ)⟩:Value)),(a.steps.length:Int)-1)
def a0l(b:O Int)(c:(((O Int)×(O Int))×Int)->A3 (O Int))(a:((O Int)×(O Int))×Int):A3 (O Int):=if decide (a.2>=(b.length:Int))then some a.1.1else(c7 b a.2).bind λd=>(a4n 8 a.1.1 [d]).bind λe=>c ((e,[]),a.2+1)
def u5(b a:O Int):A3 (O Int):=d9 FU (a0l a) ((b,[]),(0:Int))
def y5(b:O Int):A3 (O Int):=(u5 [] b).bind λa=>some a
def o9(c:O Int):A3 (O Int):=(y5 c).bind λa=>(b8s a).bind λb=>some b
def c4b(f:O Int)(b:Int):A3 (fQ×Int):=(if(decide (b<1))then some true else some (decide (b>45))).bind λk=>(if k then some true else(a9p f).bind λl=>some (!l)).bind λj=>if j then some ((⟨0,0⟩:fQ),1)else(o9 f).bind λe=>(a1x e (max 0 (i64 ((e.length:Int)-b))) (e.length:Int)).bind λh=>lpC ((⟨0,0⟩:fQ),(0:Int),(0:Int)) λm⟨i,g,c⟩=>if(decide (c<(h.length:Int)))then(c7 h c).bind λd=>m (i,i64 (g+d),i64 (c+1))else(b32 g b).bind λa=>some (a.1,a.2)
def b8n(a:Bool):A3 Value:=some (⟨1,a,(⟨0,0⟩:fQ)⟩:Value)
def b4e(a:fQ):A3 (Int×Int):=(o7 a).bind λd=>if(!d)then some (0,1)else(c2t a.Num a.Den).bind λb=>(b8t a.Num a.Den).bind λc=>if(decide (c<0))then some (i64 (b-1),0)else some (b,0)
def b4p(a:fQ):A3 (fQ×Int):=(o7 a).bind λb=>if(!b)then some ((⟨0,0⟩:fQ),1)else some ((⟨i64 (-a.Num),a.Den⟩:fQ),0)
def a4g(c b:Int):A3 rational_wide:=(b3s c b).bind λa=>some (⟨a.1,a.2⟩:rational_wide)
def a3u(b a:rational_wide):A3 Bool:=(if(decide (b.hi<a.hi))then some true else(if(b.hi==a.hi)then some (decide (b.lo<a.lo))else some false).bind λc=>some c).bind λd=>some d
def a83(a:rational_wide×rational_wide):A3 (Int×Int):=(a3u a.1 a.2).bind λc=>if c then some ((-1:Int),0)else(a3u a.2 a.1).bind λb=>if b then some (1,0)else some (0,0)
def a8g(a b:fQ):A3 (Int×Int):=(o7 a).bind λg=>(if(!g)then some true else(o7 b).bind λh=>some (!h)).bind λf=>if f then some (0,1)else if((decide (a.Num<0))!=(decide (b.Num<0)))then if(decide (a.Num<0))then some ((-1:Int),0)else some (1,0)else(j5 a.Num).bind λi=>(j5 b.Den).bind λk=>(a4g i k).bind λc=>(j5 b.Num).bind λj=>(j5 a.Den).bind λe=>(a4g j e).bind λd=>if(decide (a.Num<0))then joinC a83 (d,c)else joinC a83 (c,d)
def b7z(b:Int)(c d:fQ):A3 (Bool×Int):=(a8g c d).bind λa=>if(b==11)then some (decide (a.1<0),a.2)else if(b==12)then some (decide (a.1<=0),a.2)else if(b==13)then some (a.1==0,a.2)else if(b==14)then some (a.1!=0,a.2)else if(b==15)then some (decide (a.1>0),a.2)else some (decide (a.1>=0),a.2)
def a98(c a:rational_wide):A3 rational_wide:=(c23 c.lo a.lo 0).bind λb=>(c23 c.hi a.hi b.2).bind λd=>some (⟨d.1,b.1⟩:rational_wide)
def a4w(c a:rational_wide):A3 rational_wide:=(c1u c.lo a.lo 0).bind λb=>(c1u c.hi a.hi b.2).bind λd=>some (⟨d.1,b.1⟩:rational_wide)
def c25(b e a:Int):A3 Int:=(b8t b a).bind λc=>(a8o c e a).bind λd=>some d.2
def a8z(b:rational_wide)(a:Int):A3 rational_wide:=(if a=0then none else some (u64 (Int.tdiv b.hi a))).bind λd=>(b8t b.hi a).bind λe=>(a8o e b.lo a).bind λc=>some (⟨d,c.1⟩:rational_wide)
def a9g(a:fQ×fQ×fQ×rational_wide×Bool):A3 (fQ×Int):=(j5 a.1.Den).bind λb=>(j5 a.2.1.Den).bind λc=>if((a.2.2.2.1.hi==0)&&((a.2.2.2.1.lo==0)&&(true)))then some ((⟨0,1⟩:fQ),0)else(c25 a.2.2.2.1.hi a.2.2.2.1.lo (u64 (b*c))).bind λf=>(a7g (u64 (b*c)) f).bind λd=>(a8z a.2.2.2.1 d).bind λh=>(if d=0then none else some (u64 (Int.tdiv (u64 (b*c)) d))).bind λg=>(a70 a.2.2.2.2 h (⟨0,g⟩:rational_wide)).bind λe=>some (e.1,e.2)
def b4q(a b:fQ):A3 (fQ×Int):=(o7 a).bind λk=>(if(!k)then some true else(o7 b).bind λl=>some (!l)).bind λj=>if j then some ((⟨0,0⟩:fQ),1)else(j5 a.Num).bind λm=>(j5 b.Den).bind λo=>(a4g m o).bind λc=>(j5 b.Num).bind λn=>(j5 a.Den).bind λi=>(a4g n i).bind λd=>if((decide (a.Num<0))==(decide (b.Num<0)))then(a98 c d).bind λg=>joinC a9g (a,b,(⟨0,0⟩:fQ),g,decide (a.Num<0))else(a3u c d).bind λf=>if f then(a4w d c).bind λe=>joinC a9g (a,b,(⟨0,0⟩:fQ),e,!(decide (a.Num<0)))else(a4w c d).bind λh=>joinC a9g (a,b,(⟨0,0⟩:fQ),h,decide (a.Num<0))
def b7d(d c:fQ):A3 (fQ×Int):=(b4p c).bind λa=>if(a.2!=0)then some ((⟨0,0⟩:fQ),a.2)else(b4q d a.1).bind λb=>some (b.1,b.2)
def a73(j:Bool)(d f c e:Int):A3 (fQ×Int):=(a7g d e).bind λa=>(a7g c f).bind λb=>(if a=0then none else some (u64 (Int.tdiv d a))).bind λk=>(if b=0then none else some (u64 (Int.tdiv c b))).bind λl=>(a4g k l).bind λn=>(if b=0then none else some (u64 (Int.tdiv f b))).bind λi=>(if a=0then none else some (u64 (Int.tdiv e a))).bind λm=>(a4g i m).bind λh=>(a70 j n h).bind λg=>some (g.1,g.2)
def b7j(a c:fQ):A3 (fQ×Int):=(o7 a).bind λh=>(if(!h)then some true else(o7 c).bind λi=>some (!i)).bind λg=>if g then some ((⟨0,0⟩:fQ),1)else(if(decide (a.Num<0))then some (decide (c.Num>0))else some false).bind λj=>(if j then some true else(if(decide (a.Num>0))then some (decide (c.Num<0))else some false).bind λm=>some m).bind λf=>(j5 a.Num).bind λk=>(j5 a.Den).bind λe=>(j5 c.Num).bind λl=>(j5 c.Den).bind λd=>(a73 f k e l d).bind λb=>some (b.1,b.2)
def b7o(b a:fQ):A3 (fQ×Int):=(o7 b).bind λh=>(if(!h)then some true else(o7 a).bind λi=>some (!i)).bind λg=>if g then some ((⟨0,0⟩:fQ),1)else if(a.Num==0)then some ((⟨0,0⟩:fQ),3)else(if(decide (b.Num<0))then some (decide (a.Num>0))else some false).bind λj=>(if j then some true else(if(decide (b.Num>0))then some (decide (a.Num<0))else some false).bind λm=>some m).bind λf=>(j5 b.Num).bind λk=>(j5 b.Den).bind λe=>(j5 a.Den).bind λl=>(j5 a.Num).bind λd=>(a73 f k e l d).bind λc=>some (c.1,c.2)
def b2w(c:Int)(b a:fQ):A3 (fQ×Int):=if(c==7)then(b4q b a).bind λf=>some (f.1,f.2)else if(c==8)then(b7d b a).bind λg=>some (g.1,g.2)else if(c==9)then(b7j b a).bind λe=>some (e.1,e.2)else if(c==10)then(b7o b a).bind λh=>some (h.1,h.2)else(a8g b a).bind λd=>if((c==19)==(decide (d.1<0)))then some (b,d.2)else some (a,d.2)
def b8c(a c b:Int):A3 Int:=(if(a==9)then some (c==2)else some false).bind λd=>if d then some b else(if(a==10)then some (b !=2)else some false).bind λe=>if e then some 2 else some c
structure Ring_eval_evaluator_expr where f_eval_evaluator_expr:vQ->Expr->Option (Value×Int)f_eval_evaluator_unary:vQ->Expr->Option (Value×Int)f_eval_evaluator_logic:vQ->Expr->Option (Value×Int)
def a2t(R:Ring_eval_evaluator_expr)(a:vQ×Expr×Value×Bool):A3 (Value×Int):=if a.2.2.2then(R.f_eval_evaluator_logic a.1 a.2.1).bind λk=>some (k.1,k.2)else(c7 a.2.1.Args 0).bind λl=>(R.f_eval_evaluator_expr a.1 l).bind λc=>if(c.2!=0)then some ((⟨0,false,(⟨0,0⟩:fQ)⟩:Value),c.2)else(c7 a.2.1.Args 1).bind λg=>(R.f_eval_evaluator_expr a.1 g).bind λb=>if(b.2!=0)then some ((⟨0,false,(⟨0,0⟩:fQ)⟩:Value),b.2)else(if(decide (a.2.1.Op>=11))then some (decide (a.2.1.Op<=16))else some false).bind λf=>if f then(b7z a.2.1.Op c.1.Num b.1.Num).bind λe=>(b8n e.1).bind λi=>some (i,e.2)else(b2w a.2.1.Op c.1.Num b.1.Num).bind λd=>if(d.2!=0)then some ((⟨0,false,(⟨0,0⟩:fQ)⟩:Value),d.2)else(b8c a.2.1.Op c.1.Dim b.1.Dim).bind λh=>(t6 h d.1).bind λj=>some (j,0)
def a2s(R:Ring_eval_evaluator_expr)(a:vQ×Expr×Value×Int×Bool):A3 (Value×Int):=if a.2.2.2.2then(R.f_eval_evaluator_unary a.1 a.2.1).bind λb=>some (b.1,b.2)else if(a.2.2.2.1==17)then joinC (a2t R) (a.1,a.2.1,a.2.2.1,a.2.2.2.1==17)else if(a.2.2.2.1==18)then joinC (a2t R) (a.1,a.2.1,a.2.2.1,a.2.2.2.1==18)else joinC (a2t R) (a.1,a.2.1,a.2.2.1,a.2.2.2.1==21)
def a5u(R:Ring_eval_evaluator_expr)(b:vQ)(a:Expr):A3 (Value×Int):=if(a.Op==1)then(t6 a.Dim a.Value).bind λd=>some (d,0)else if(a.Op==2)then(a84 b a.Name).bind λe=>some (e,0)else if(a.Op==3)then(c4b b.view.Years a.Value.Num).bind λc=>(t6 4 c.1).bind λf=>some (f,c.2)else if(a.Op==4)then joinC (a2s R) (b,a,(⟨0,false,(⟨0,0⟩:fQ)⟩:Value),a.Op,a.Op==4)else if(a.Op==5)then joinC (a2s R) (b,a,(⟨0,false,(⟨0,0⟩:fQ)⟩:Value),a.Op,a.Op==5)else joinC (a2s R) (b,a,(⟨0,false,(⟨0,0⟩:fQ)⟩:Value),a.Op,a.Op==6)
def a5i(R:Ring_eval_evaluator_expr)(e:vQ)(b:Expr):A3 (Value×Int):=(c7 b.Args 0).bind λg=>(R.f_eval_evaluator_expr e g).bind λa=>if(a.2!=0)then some ((⟨0,false,(⟨0,0⟩:fQ)⟩:Value),a.2)else if(b.Op==5)then(b8n (!a.1.Yes)).bind λf=>some (f,0)else if(b.Op==6)then(b4e a.1.Num).bind λd=>(t6 a.1.Dim (⟨d.1,1⟩:fQ)).bind λi=>some (i,d.2)else(b4p a.1.Num).bind λc=>(t6 a.1.Dim c.1).bind λh=>some (h,c.2)
def a5d(R:Ring_eval_evaluator_expr)(d:vQ)(a:Expr):A3 (Value×Int):=(c7 a.Args 0).bind λh=>(R.f_eval_evaluator_expr d h).bind λb=>if(b.2!=0)then some ((⟨0,false,(⟨0,0⟩:fQ)⟩:Value),b.2)else(if(a.Op==17)then some (!b.1.Yes)else some false).bind λg=>(if g then some true else(if(a.Op==18)then some b.1.Yes else some false).bind λi=>some i).bind λl=>if l then some (b.1,0)else(if(a.Op==21)then some (!b.1.Yes)else some false).bind λf=>if f then(c7 a.Args 2).bind λj=>(R.f_eval_evaluator_expr d j).bind λe=>some (e.1,e.2)else(c7 a.Args 1).bind λk=>(R.f_eval_evaluator_expr d k).bind λc=>some (c.1,c.2)
def c4:Nat->Ring_eval_evaluator_expr|0=>⟨λ_ _=>none,λ_ _=>none,λ_ _=>none⟩|n+1=>⟨a5u (c4 n),a5i (c4 n),a5d (c4 n)⟩
def b1n(b:vQ)(a:Expr):A3 (Value×Int):=(c4 FU).f_eval_evaluator_expr b a
def a3e(x:vQ)(p:Expr)(l:O Let)(s:O Bool)(w:A4)(v:O Step):A3 (Int×vQ×(O Bool)×(O Step)):=(c4e p l).bind λq=>lpC (v,(⟨x.view,[]⟩:vQ),s,p,q,(0:Int)) λr⟨f,d,b,m,h,g⟩=>if(decide (g<(q.length:Int)))then(c7 h g).bind λz=>(c7 h g).bind λa=>(c7 b a).bind λt=>(c7 b a).bind λn=>if n then r (f,(⟨d.view,[]⟩:vQ),b,m,h,i64 (g+1))else(c7 l a).bind λk=>(b1n (⟨d.view,f⟩:vQ) k.Body).bind λc=>if(c.2!=0)then some (c.2,(⟨d.view,[]⟩:vQ),b,f)else(c7 l a).bind λo=>(a4n 48 f [(⟨o.Name,c.1⟩:Step)]).bind λj=>(c7 b a).bind λy=>(c7 b a).bind λu=>r (j,(⟨d.view,[]⟩:vQ),a8h b a true,m,h,i64 (g+1))else(b1n (⟨d.view,f⟩:vQ) m).bind λe=>if(e.2!=0)then some (e.2,(⟨d.view,[]⟩:vQ),b,f)else(a4n 48 f [(⟨w,e.1⟩:Step)]).bind λi=>some (0,(⟨d.view,[]⟩:vQ),b,i)
def a55(a:vQ):A3 Value:=(c7 a.steps (i64 ((a.steps.length:Int)-1))).bind λb=>some b.Value
def a6d(c:O Grant)(a:Int)(d:Int->A3 Int)(b:Int):A3 Int:=if(decide (b<(c.length:Int)))then(c7 c b).bind λe=>(c1o e a).bind λf=>if f then some b else d (i64 (b+1))else some (-1:Int)
def a1y(b:O Grant)(a:Int):A3 Int:=d9 FU (a6d b a) 0
def c2a(a:Version)(j:Int)(g:View):A3 (Result×Int):=(c5y a g).bind λf=>if(f !=0)then some ((⟨false,(⟨0,0⟩:fQ),[]⟩:Result),f)else(a1y a.Grants j).bind λe=>if(decide (e<0))then some ((⟨false,(⟨0,0⟩:fQ),[]⟩:Result),9)else(mkI 1 (false:Bool) (a.Lets.length:Int) (a.Lets.length:Int)).bind λi=>(c7 a.Grants e).bind λk=>(a3e (⟨g,[]⟩:vQ) k.If a.Lets i d0k []).bind λb=>if(b.1!=0)then some ((⟨false,(⟨0,0⟩:fQ),[]⟩:Result),b.1)else(a55 (⟨b.2.1.view,b.2.2.2⟩:vQ)).bind λd=>if d.Yes then(c7 a.Grants e).bind λl=>(a3e (⟨b.2.1.view,[]⟩:vQ) l.Pay a.Lets b.2.2.1 c60 b.2.2.2).bind λc=>if(c.1!=0)then some ((⟨false,(⟨0,0⟩:fQ),[]⟩:Result),c.1)else(a55 (⟨c.2.1.view,c.2.2.2⟩:vQ)).bind λh=>if(decide (h.Num.Num>0))then some ((⟨d.Yes,h.Num,c.2.2.2⟩:Result),0)else some ((⟨d.Yes,(⟨0,1⟩:fQ),c.2.2.2⟩:Result),0)else some ((⟨d.Yes,(⟨0,1⟩:fQ),b.2.2.2⟩:Result),0)
def b9q(a:fQ)(b:Rounding):A3 (Int×Int):=(o7 a).bind λe=>(if(!e)then some true else(a2y b).bind λf=>some (!f)).bind λd=>if d then some (0,1)else(b3x a.Num).bind λg=>(a9o (decide (a.Num<0)) 0 g (u64 (a.Den)) b).bind λc=>some (c.1,c.2)
def c1k(b:Version)(e:Int)(d:View):A3 (Result×Int×Int):=(c2a b e d).bind λa=>if(a.2!=0)then some ((⟨false,(⟨0,0⟩:fQ),[]⟩:Result),0,a.2)else(b9q a.1.Pay b.Rounding).bind λc=>some (a.1,c.1,c.2)
def b97(b:fQ)(c d:Int)(e:Rounding):A3 (Int×Int):=(o7 b).bind λj=>(if(!j)then some true else(a2y e).bind λk=>some (!k)).bind λi=>(if i then some true else some (decide (c<0))).bind λl=>(if l then some true else some (decide (c>73049))).bind λn=>(if n then some true else some (decide (d<1))).bind λh=>(if h then some true else some (decide (d>73049))).bind λm=>if m then some (0,1)else(b3x b.Num).bind λg=>(b3s g (u64 (c))).bind λf=>(a9o (decide (b.Num<0)) f.1 f.2 (u64 ((u64 (b.Den))*(u64 (d)))) e).bind λa=>some (a.1,a.2)
def b1p(a:Award):A3 (Int×Award):=some (0,(⟨a.State,a.Benefit,a.Day,a.Code,a.Few,a.Independent,a.Theoretical,a.ProRata,a.Num,a.Den,max a.Independent a.ProRata,a.Steps⟩:Award))
def a8c(a:Award×(O aQ)×bQ×Version×(O nQ)):A3 (Int×Award):=if(a.1.Num !=0)then(a8k a.2.2.1 a.2.1 a.2.2.2.2 a.1.State true).bind λd=>if(d.2!=0)then some (d.2,a.1)else(c1k a.2.2.2.1 a.1.Benefit d.1).bind λb=>if(b.2.2!=0)then some (b.2.2,a.1)else(b97 b.1.Pay a.1.Num a.1.Den a.2.2.2.1.Rounding).bind λc=>if(c.2!=0)then some (c.2,(⟨a.1.State,a.1.Benefit,a.1.Day,a.1.Code,a.1.Few,a.1.Independent,b.2.1,c.1,a.1.Num,a.1.Den,a.1.Amount,a.1.Steps⟩:Award))else if(decide (c.1>a.1.Independent))then joinC b1p (⟨a.1.State,a.1.Benefit,a.1.Day,a.1.Code,a.1.Few,a.1.Independent,b.2.1,c.1,a.1.Num,a.1.Den,a.1.Amount,b.1.Steps⟩:Award)else joinC b1p (⟨a.1.State,a.1.Benefit,a.1.Day,a.1.Code,a.1.Few,a.1.Independent,b.2.1,c.1,a.1.Num,a.1.Den,a.1.Amount,a.1.Steps⟩:Award)else joinC b1p a.1
def a7k(a:Award×(O aQ)×bQ×Version×(O nQ)×View):A3 (Int×Award):=if(!a.1.Few)then(c1k a.2.2.2.1 a.1.Benefit a.2.2.2.2.2).bind λb=>if(b.2.2!=0)then some (b.2.2,a.1)else joinC a8c ((⟨a.1.State,a.1.Benefit,a.1.Day,a.1.Code,a.1.Few,b.2.1,a.1.Theoretical,a.1.ProRata,a.1.Num,a.1.Den,a.1.Amount,b.1.Steps⟩:Award),a.2.1,a.2.2.1,a.2.2.2.1,a.2.2.2.2.1)else joinC a8c (a.1,a.2.1,a.2.2.1,a.2.2.2.1,a.2.2.2.2.1)
def a8d(b:bQ)(a:Award)(f:O aQ):A3 (Int×Award):=(a2v b a.State).bind λd=>if(d.2.2!=0)then some (d.2.2,a)else(a2z b f a.State).bind λe=>(a8k b f e a.State false).bind λc=>if(c.2!=0)then some (c.2,a)else(a08 b a.State).bind λi=>if i then(b41 e b.rules.MinDays).bind λh=>(d0n 6 a.State).bind λj=>(b2k h a.State).bind λg=>joinC a7k ((⟨a.State,a.Benefit,a.Day,a.Code,Ar.gt false h.Few a.State,a.Independent,a.Theoretical,a.ProRata,g.1,g.2,a.Amount,a.Steps⟩:Award),f,b,d.2.1,e,c.1)else joinC a7k ((⟨a.State,a.Benefit,a.Day,a.Code,a.Few,a.Independent,a.Theoretical,a.ProRata,a.Num,1,a.Amount,a.Steps⟩:Award),f,b,d.2.1,e,c.1)
def c3h(a:Int×Int×Int×(O Step)×Award×Award×Int):A3 Award:=if(a.2.2.2.2.2.2!=0)then some (⟨a.1,a.2.1,a.2.2.1,a.2.2.2.2.2.2,false,0,0,0,0,0,0,[]⟩:Award)else some a.2.2.2.2.2.1
def b47(f:Laws)(g:O aQ)(c b a:Int):A3 Award:=(b8v f a).bind λd=>if(d.2==0)then(a8d d.1 (⟨c,b,a,0,false,0,0,0,0,0,0,[]⟩:Award) g).bind λe=>joinC c3h (c,b,a,[],(⟨0,0,0,0,false,0,0,0,0,0,0,[]⟩:Award),e.2,e.1)else joinC c3h (c,b,a,[],(⟨0,0,0,0,false,0,0,0,0,0,0,[]⟩:Award),(⟨c,b,a,0,false,0,0,0,0,0,0,[]⟩:Award),d.2)
def b2m:A3 Bool:=(b47 (⟨[(⟨0,(⟨c91,1,[(⟨0,(⟨1,1⟩:Rounding),[],[],[],[(⟨1,(⟨16,(⟨0,0⟩:fQ),0,a3j,[(⟨2,(⟨0,0⟩:fQ),0,b6u,[]⟩:Expr),(⟨1,(⟨5,1⟩:fQ),3,a3j,[]⟩:Expr)]⟩:Expr),(⟨1,(⟨77,1⟩:fQ),4,a3j,[]⟩:Expr)⟩:Grant)],[]⟩:Version)]⟩:Statute)⟩:State)],[(⟨0,0,0,0,[0]⟩:Rules)],[]⟩:Laws) [(⟨0,1,1,false,1,1,0,(⟨30000,30010⟩:Span),0,100,1,500,0⟩:aQ)] 0 1 31000).bind λa=>(if(a.Code==0)then some (a.Independent==77)else some false).bind λc=>(if c then some (a.ProRata==77)else some false).bind λb=>(if b then some (a.Num==10)else some false).bind λd=>(if d then some (a.Den==10)else some false).bind λe=>some e
def c4q(a:Laws)(h:O aQ)(i f:Int):A3 (O Award):=lpC (a,([]:O Award),(0:Int)) λg⟨c,d,b⟩=>if(decide (b<(a.States.length:Int)))then(c7 a.States b).bind λk=>(b47 c h k.State i f).bind λe=>(a4n 112 d [e]).bind λj=>g (c,j,i64 (b+1))else some d
def k2g(c b:Int):A3 pensionref1_wide:=(b3s c b).bind λa=>some (⟨a.1,a.2⟩:pensionref1_wide)
def k2f(c a:pensionref1_wide):A3 pensionref1_wide:=(c23 c.lo a.lo 0).bind λb=>some (⟨u64 ((u64 (c.hi+a.hi))+b.2),b.1⟩:pensionref1_wide)
def k2j(b a:pensionref1_wide):A3 Bool:=(if(decide (b.hi<a.hi))then some true else(if(b.hi==a.hi)then some (decide (b.lo<a.lo))else some false).bind λc=>some c).bind λd=>some d
def k2i(c a:pensionref1_wide):A3 pensionref1_wide:=(c1u c.lo a.lo 0).bind λb=>some (⟨u64 ((u64 (c.hi-a.hi))-b.2),b.1⟩:pensionref1_wide)
def k2d(a b:fQ):A3 (fQ×Int):=(a1h a).bind λn=>(if(!n)then some true else(a1h b).bind λo=>some (!o)).bind λm=>if m then some ((⟨0,0⟩:fQ),1)else(a43 a.Num).bind λp=>(k2g p (u64 (b.Den))).bind λf=>(a43 b.Num).bind λl=>(k2g l (u64 (a.Den))).bind λe=>if((decide (a.Num<0))==(decide (b.Num<0)))then(k2f f e).bind λk=>(b2l (decide (a.Num<0)) k (u64 ((u64 (a.Den))*(u64 (b.Den))))).bind λj=>some (j.1,j.2)else(k2j f e).bind λi=>if i then(k2i e f).bind λg=>(b2l (decide (b.Num<0)) g (u64 ((u64 (a.Den))*(u64 (b.Den))))).bind λc=>some (c.1,c.2)else(k2i f e).bind λh=>(b2l (decide (a.Num<0)) h (u64 ((u64 (a.Den))*(u64 (b.Den))))).bind λd=>some (d.1,d.2)
def k2e(j:((O nQ)×(O Award)×fQ×Int)->A3 Bool)(a:(O nQ)×(O Award)×fQ×Int):A3 Bool:=if(decide (a.2.2.2<(a.2.1.length:Int)))then(c7 a.2.1 a.2.2.2).bind λi=>(c7 a.2.1 a.2.2.2).bind λd=>if(d.Code !=0)then some true else(c7 a.2.1 a.2.2.2).bind λg=>(c7 a.2.1 a.2.2.2).bind λc=>(c7 a.2.1 a.2.2.2).bind λh=>(c7 a.2.1 a.2.2.2).bind λf=>(a3r c.Num f.Den).bind λb=>if(b.2!=0)then some false else(k2d a.2.2.1 b.1).bind λe=>j (a.1,a.2.1,e.1,i64 (a.2.2.2+1))else if((a.1.length:Int)==0)then some (a.2.2.1.Num==0)else some ((a.2.2.1.Num==1)&&((a.2.2.1.Den==1)&&(true)))
def k2h(h:O tN)(a:O Int)(i:Bool)(g:Int):A3 Bool:=if(decide ((a.length:Int)>60))then some true else(b3p a 7).bind λc=>(b0g h a i).bind λd=>(a40 g 9000).bind λb=>(k2k c d (i64 (33000+b))).bind λe=>(b2m).bind λk=>(if(!k)then some true else some (e.2!=0)).bind λf=>if f then some false else(c4q c d 1 (i64 (33000+b))).bind λj=>d9 FU k2e (e.1,j,(⟨0,1⟩:fQ),0)
end
end Go.PL
