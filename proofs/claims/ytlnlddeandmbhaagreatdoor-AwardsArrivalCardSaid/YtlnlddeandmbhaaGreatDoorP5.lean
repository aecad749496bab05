/- Texts of the proof, joined. -/
import Derived.Test.YtlnlddeandmbhaaGreatDoorP4
import Derived.Laws.BitsLemmas
import Derived.Laws.Bits64
import Derived.Shelf.Strconv.Itoa3
import Derived.Lib.LaidTab
set_option linter.defProp false
set_option linter.unusedVariables false
set_option linter.unusedSimpArgs false
set_option maxRecDepth 100000
open List
namespace Go.PL
open Go
def e9{n:Int}(h0:-9223372036854775808<=n)(h1:n<=9223372036854775807):i64 n=n:=by unfold i64;rw[IntKind.wrap_i64];omega
def b83{n:Int}(h0:0<=n)(h1:n<=18446744073709551615):u64 n=n:=by unfold u64;rw[IntKind.wrap_u64];omega
def g2l(n:Int):u64 n=n%18446744073709551616:=by unfold u64;rw[IntKind.wrap_u64]
def b51(n:Int):0<=u64 n/\u64 n<=18446744073709551615:=by rw[g2l];omega
def d5z(n:Int):-9223372036854775808<=i64 n/\i64 n<=9223372036854775807:=by unfold i64;rw[IntKind.wrap_i64];omega
def b4c{α:Type}(l:O α)(k:Nat):c7 l (k:Int)=l[k]?:=by unfold c7;rw[if_pos (Int.natCast_nonneg k),Int.toNat_natCast]
def j38{α:Type}{l:O α}{i:Int}{x:α}(h0:0<=i)(h:l[i.toNat]?=some x):c7 l i=some x:=by unfold c7;rw[if_pos h0];exact h
def y3{b e:Bool}:(if b=true then some true else some e)=some (b||e):=by cases b<;>rfl
def o4{b e:Bool}:(if b=true then some e else some false)=some (b&&e):=by cases b<;>rfl
def a1z{p:Prop}[Decidable p]{e:Bool}:(if p then some true else some e)=some (decide p||e):=by by_cases h:p<;>simp[h]
def a7h{p:Prop}[Decidable p]{e:Bool}:(if p then some e else some false)=some (decide p&&e):=by by_cases h:p<;>simp[h]
def c9i{σ ρ:Type}{f:(σ->A3 ρ)->σ->A3 ρ}(I:σ->Prop)(μ:σ->Nat)(Q:ρ->Prop)(step:∀s rec,I s->(∃r,f rec s=some r/\Q r)\/∃s',f rec s=rec s'/\I s'/\μ s'<μ s):∀(k:Nat)(s:σ),I s->μ s<k->∃r,d9 k f s=some r/\Q r
 |0,_,_,h=>absurd h (Nat.not_lt_zero _)|k+1,s,hs,hk=>by
   rcases step s (d9 k f) hs with⟨r,h1,h2⟩|⟨s',h1,h2,h3⟩;.exact⟨r,h1,h2⟩
   .obtain⟨r,h4,h5⟩:=c9i I μ Q step k s' h2 (by omega);exact⟨r,by show f (d9 k f) s=_;rw[h1,h4],h5⟩
def b9s{σ ρ:Type}{f:(σ->A3 ρ)->σ->A3 ρ}(I:σ->Prop)(μ:σ->Nat)(Q:ρ->Prop){s:σ}(h0:I s)(hμ:μ s<2^70)(step:∀s rec,I s->(∃r,f rec s=some r/\Q r)\/∃s',f rec s=rec s'/\I s'/\μ s'<μ s):∃r,d9 FU f s=some r/\Q r:=c9i I μ Q step FU s h0 (by unfold FU;exact hμ)
def d05{σ ρ:Type}{f:(σ->A3 ρ)->σ->A3 ρ}(I:σ->Prop)(μ:σ->Nat)(Q:A3 ρ->Prop)(step:∀s rec,I s->Q (f rec s)\/∃s',f rec s=rec s'/\I s'/\μ s'<μ s):∀(k:Nat)(s:σ),I s->μ s<k->Q (d9 k f s)
 |0,_,_,h=>absurd h (Nat.not_lt_zero _)|k+1,s,hs,hk=>by
   rcases step s (d9 k f) hs with h1|⟨s',h1,h2,h3⟩;.exact h1
   .show Q (f (d9 k f) s);rw[h1];exact d05 I μ Q step k s' h2 (by omega)
def c4u{σ ρ:Type}{f:(σ->A3 ρ)->σ->A3 ρ}(I:σ->Prop)(μ:σ->Nat)(Q:A3 ρ->Prop){s:σ}(h0:I s)(hμ:μ s<2^70)(step:∀s rec,I s->Q (f rec s)\/∃s',f rec s=rec s'/\I s'/\μ s'<μ s):Q (d9 FU f s):=d05 I μ Q step FU s h0 (by unfold FU;exact hμ)
def d04{a b:Int}(h:b≠0):b8t a b=some (a.tmod b):=by unfold b8t;rw[if_neg h]
def e9a{a b:Int}(h:b≠0):c2t a b=some (i64 (a.tdiv b)):=by unfold c2t;rw[if_neg h]
def p6{α:Type}{bytes:Nat}{l x:O α}(h:(l.length+x.length)*bytes<=140737488355328):a4n bytes l x=some (l++x):=by unfold a4n;rw[if_pos h]
def b26{α:Type}{l:O α}{lo hi:Int}(h0:0<=lo)(h1:lo<=hi)(h2:hi<=(l.length:Int)):a1x l lo hi=some ((l.drop lo.toNat).take (hi.toNat-lo.toNat)):=by unfold a1x;rw[if_pos ⟨h0,h1,h2⟩]
def c9f{a b:Int}(h:0<=a):a.tmod b=a%b:=Int.tmod_eq_emod_of_nonneg h
def c7w{a b:Int}(h:0<=a):a.tdiv b=a/b:=Int.tdiv_eq_ediv_of_nonneg h
def g4v:Nat->Nat->O UInt8|0,u=>[UInt8.ofNat (48+u)]|k+1,u=>if u<10then[UInt8.ofNat (48+u)]else g4v k (u/10)++[UInt8.ofNat (48+u%10)]
def e9y:∀(k u:Nat),u<10^(k+1)->g4v k u=Lib.decDigits u
 |0,u,h=>by rw[Lib.decDigits,dif_pos (by simpa using h)];rfl|k+1,u,h=>by
   rw[Lib.decDigits];unfold g4v;by_cases hu:u<10;.rw[if_pos hu,dif_pos hu]
   .rw[if_neg hu,dif_neg hu,e9y k (u/10) (by rw[Nat.pow_succ]at h;omega)]
def strconv_Itoa(a:Int):A3 A4:=if 0<=a/\a<=9223372036854775807then some ⟨(g4v 20 a.toNat).toArray⟩else none
end Go.PL
namespace Go.SX
open Go Go.PL Go.Proofs Go.Shelf
def f8r{P:Program}{nm:String}{k:IntKind}{zs:O Int}{g:Nat}(hg:P.globalNamed nm=some g){w w':World}(h:Lib.TabIs P w nm k zs)(hb:w'.heap[g]?=w.heap[g]?):Lib.TabIs P w' nm k zs:=by unfold Lib.TabIs World.var? at*;rw[hg]at*;simpa[hb]using h
def g7m{P:Program}{nm:String}{k:IntKind}{zs:O Int}{g:Nat}(hg:P.globalNamed nm=some g){w:World}(h:Lib.TabIs P w nm k zs):g<w.heap.size:=by unfold Lib.TabIs World.var? at h;rw[hg]at h;cases hh:w.heap[g]?with|none=>simp[hh]at h|some o=>exact(qN.1 hh).1
def f3k(G:Nat->Prop)(w:World)(k:Nat)(os:Array Obj):Ext G w (Sort.grow (w.drewN k) os):=⟨rfl,rfl,rfl,by simp[Sort.grow,World.drewN],λb hb _=>by simp[Sort.grow,World.drewN,Array.getElem?_append_left hb]⟩
section
variable {P:Program} {U:Uni}
def e8o{ρ:Ren}(L:LaysM.n171 P ρ)(ht:∀w,U.tab w->Lib.TabIs P w "internal/strconv.uint64pow10" .u64 Lib.pow10Tab){a c:U.C}(fa:U.T a->Int)(ha:∀x,(inj a x:U.AV)=.int .i64 (fa x))(fc:A4->U.T c)(hc:∀s,(inj c (fc s):U.AV)=.str s):Spec P (ρ.f 171) (⟨⟨[.v a],[.v c]⟩,A4,λx=>strconv_Itoa (fa x.1),λb=>((fc b,()),()),none⟩:Fent U):=by intro xs r hr Z G w us hl hR;match us,hl with
 |[u1],_=>
   have s0:AVR _ (inj a xs.1) u1:=hR.slot 0;rw[ha]at s0;have s0:u1=.int .i64 (fa xs.1):=s0;have hr:strconv_Itoa (fa xs.1)=some r:=hr;unfold strconv_Itoa at hr;split at hr
   .rename_i hb;have hr:=(qH hr).symm;have e:Lib.itoa (fa xs.1)=g4v 20 (fa xs.1).toNat:=by unfold Lib.itoa;rw[if_neg (by omega),e9y 20 _ (by omega)]
    have hC:=Any.strconv_Itoa L (fa xs.1) (by omega) hb.2 w (ht w hR.tab.1);subst s0;show Calls P (ρ.f 171) #[Value.int .i64 (fa xs.1)] w _;refine hC.mono ?_;rintro e' w'⟨he,k,os,hw⟩;subst hw;refine⟨_,he,⟨Z,[_],[.int .i64 (fa xs.1)],rfl,λ_ h=>h,λ_ h=>.inl h,f3k _ _ _ _,rfl,λ_ _ _ _=>rfl,⟨?_,trivial⟩,trivial,?_,?_⟩⟩;.show a1p _ (inj c (fc r)) _;rw[hc,hr,<-e];rfl
    .intro v hv;cases hv
    .intro i j v v' b _ hv;cases hv
   .cases hr
end
end Go.SX
namespace Go.PL
open Go Go.SX
structure Rules where
 From:Int
 MinDays:Int
 PostingLimit:Int
 Substantial:Int
 Members:List Int
structure Rounding where
 Mode:Int
 Unit:Int
structure Credit where
 Kind:Int
 Limit:Int
structure fQ where
 Num:Int
 Den:Int
structure Index where
 Year:Int
 Factor:fQ
structure Expr where
 Op:Int
 Value:fQ
 Dim:Int
 Name:ByteArray
 Args:List Expr
structure Let where
 Name:ByteArray
 Body:Expr
structure Grant where
 Benefit:Int
 If:Expr
 Pay:Expr
structure Reduce where
 Benefit:Int
 By:Expr
structure Version where
 From:Int
 Rounding:Rounding
 Credits:List Credit
 Series:List Index
 Lets:List Let
 Grants:List Grant
 Reduces:List Reduce
structure Value where
 Dim:Int
 Yes:Bool
 Num:fQ
structure Step where
 Name:ByteArray
 Value:Value
structure iQ where
 Name:ByteArray
 Dim:Int
structure Span where
 From:Int
 To:Int
structure Token where
 Kind:Int
 Text:ByteArray
 At:Int
structure rQ where
 l:List Token
 at_:Int
 end_:Int
 bad:Bool
structure pensionref1_wide where
 hi:Int
 lo:Int
structure Statute where
 Name:ByteArray
 Currency:Int
 Versions:List Version
structure State where
 State:Int
 Statute:Statute
structure Rate where
 Currency:Int
 Month:Int
 Value:fQ
structure Laws where
 States:List State
 Treaty:List Rules
 Rates:List Rate
structure tN where
 Issuer:Int
 Number:Int
 Version:Int
 Withdrawn:Bool
 Person:Int
 Kind:Int
 State:Int
 Seat:Int
 From:Int
 Length:Int
 Share:Int
 Amount:Int
 Ref:Int
structure aQ where
 Issuer:Int
 Number:Int
 Version:Int
 Withdrawn:Bool
 Person:Int
 Kind:Int
 State:Int
 Span:Span
 Seat:Int
 Share:Int
 Currency:Int
 Amount:Int
 Ref:Int
structure syntax_entry where
 name:ByteArray
 number:Int
structure bQ where
 laws:Laws
 day:Int
 rules:Rules
structure Posting where
 Seat:Int
 State:Int
 Span:Span
structure uQ where
 seat:Int
 state:Int
structure lQ where
 facts:List aQ
 span:Span
 postings:List Posting
 rules:List Rules
structure gQ where
 Span:Span
 State:Int
 Rule:Int
structure Period where
 State:Int
 Rank:Int
 Span:Span
structure Scheme where
 State:Int
 Version:Version
structure Anon304 where
 kind:Int
 rank:Int
structure nQ where
 Span:Span
 State:Int
 Rank:Int
structure Piece where
 Span:Span
 Members:List Int
structure earnings_income where
 fact:aQ
 days:List Span
structure Earning where
 Year:Int
 Amount:Int
structure rational_wide where
 hi:Int
 lo:Int
structure View where
 Age:Int
 Year:Int
 Children:Int
 Insured:Int
 Worked:Int
 Voluntary:Int
 Service:Int
 Equated:Int
 Raising:Int
 Resident:Int
 Base:fQ
 Years:List Int
structure Total where
 Own:Ar 6 Int
 Few:Ar 6 Bool
 Sum:Int
 Base:Int
 Last:Int
structure vQ where
 view:View
 steps:List Step
structure Result where
 Holds:Bool
 Pay:fQ
 Steps:List Step
structure Award where
 State:Int
 Benefit:Int
 Day:Int
 Code:Int
 Few:Bool
 Independent:Int
 Theoretical:Int
 ProRata:Int
 Num:Int
 Den:Int
 Amount:Int
 Steps:List Step
def a3j:A4:=⟨#[]⟩
def a6h:A4:=⟨#[48,49,50,51,52,53,54,55,56,57]⟩
def b1i:A4:=⟨#[46]⟩
def c6e:A4:=⟨#[102,114,111,109,32,64]⟩
def c1g:A4:=⟨#[32,123,32,114,111,117,110,100,32]⟩
def c33:A4:=⟨#[100,111,119,110,32,49,59,32]⟩
def d01:A4:=⟨#[99,114,101,100,105,116,32,118,111,108,117,110,116,97,114,121,59,32,99,114,101,100,105,116,32,117,110,101,109,112,108,111,121,101,100,32,108,105,109,105,116,32]⟩
def b7x:A4:=⟨#[59,32]⟩
def c8s:A4:=⟨#[99,114,101,100,105,116,32,99,104,105,108,100,32,108,105,109,105,116,32]⟩
def c9v:A4:=⟨#[99,114,101,100,105,116,32,114,101,115,105,100,101,110,99,101,59,32]⟩
def c9k:A4:=⟨#[105,110,100,101,120,32,49,57,54,48,32,49,59,32,105,110,100,101,120,32,49,57,56,48,32]⟩
def c9z:A4:=⟨#[59,32,105,110,100,101,120,32,49,57,57,53,32]⟩
def c83:A4:=⟨#[108,101,116,32,115,112,101,110,116,32,61,32,105,110,115,117,114,101,100,32,47,32]⟩
def c8f:A4:=⟨#[100,59,32,108,101,116,32,112,97,114,116,32,61,32,109,105,110,40,115,112,101,110,116,32,42,32]⟩
def d0e:A4:=⟨#[44,32,48,46,56,48,41,59,32]⟩
def c8t:A4:=⟨#[103,114,97,110,116,32,111,108,100,32,105,102,32,97,103,101,32,62,61,32]⟩
def c8p:A4:=⟨#[32,97,110,100,32,105,110,115,117,114,101,100,32,62,61,32]⟩
def d02:A4:=⟨#[100,32,112,97,121,32,109,97,120,40,98,97,115,101,32,42,32,112,97,114,116,44,32]⟩
def c6o:A4:=⟨#[109,41,59,32]⟩
def c8d:A4:=⟨#[103,114,97,110,116,32,100,105,115,97,98,105,108,105,116,121,32,105,102,32,105,110,115,117,114,101,100,32,62,61,32]⟩
def c80:A4:=⟨#[100,32,112,97,121,32,98,97,115,101,32,42,32]⟩
def c9d:A4:=⟨#[103,114,97,110,116,32,115,117,114,118,105,118,111,114,32,105,102,32,119,111,114,107,101,100,32,43,32,101,113,117,97,116,101,100,32,62,61,32,51,48,100,32,112,97,121,32,98,97,115,101,32,42,32,112,97,114,116,32,42,32,48,46,54,48,59,32]⟩
def c86:A4:=⟨#[103,114,97,110,116,32,102,97,109,105,108,121,32,105,102,32,105,110,115,117,114,101,100,32,62,61,32]⟩
def d1p:A4:=⟨#[100,32,112,97,121,32]⟩
def c9u:A4:=⟨#[109,32,42,32,99,104,105,108,100,114,101,110,59,32]⟩
def c9l:A4:=⟨#[103,114,97,110,116,32,115,105,99,107,110,101,115,115,32,105,102,32,105,110,115,117,114,101,100,32,62,61,32]⟩
def c7y:A4:=⟨#[100,32,112,97,121,32,98,101,115,116,40,51,41,32,47,32,49,50,32,42,32,48,46,55,48,59,32]⟩
def b7g:A4:=⟨#[114,101,100,117,99,101,32,111,108,100,32,98,121,32]⟩
def c8b:A4:=⟨#[114,101,100,117,99,101,32,100,105,115,97,98,105,108,105,116,121,32,98,121,32,105,102,32,97,103,101,32,60,32,54,48,32,116,104,101,110,32,48,46,53,48,32,101,108,115,101,32,49,59,32]⟩
def d3i:A4:=⟨#[125,32]⟩
def c32:A4:=⟨#[104,97,108,102,32,53,59,32]⟩
def c6d:A4:=⟨#[117,112,32,49,59,32]⟩
def c19:A4:=⟨#[101,118,101,110,32,49,48,59,32]⟩
def c2c:A4:=⟨#[97,108,98,97]⟩
def c24:A4:=⟨#[98,111,114,97]⟩
def b8j:A4:=⟨#[99,101,100,97,114]⟩
def c70:A4:=⟨#[115,116,97,116,117,116,101,32]⟩
def c2x:A4:=⟨#[32,99,117,114,114,101,110,99,121,32]⟩
def d8i:A4:=⟨#[32,123,32]⟩
def b7u:A4:=⟨#[49,57,48,48,45,48,49,45,48,49]⟩
def b7v:A4:=⟨#[49,57,57,54,45,48,55,45,48,49]⟩
def b80:A4:=⟨#[50,48,48,49,45,48,49,45,48,49]⟩
def d0a:A4:=⟨#[125]⟩
def d28:A4:=⟨#[60,61]⟩
def d30:A4:=⟨#[62,61]⟩
def d1k:A4:=⟨#[60,62]⟩
def c9m:A4:=⟨#[97,110,100]⟩
def c51:A4:=⟨#[98,101,115,116]⟩
def d69:A4:=⟨#[98,121]⟩
def b91:A4:=⟨#[99,114,101,100,105,116]⟩
def b4x:A4:=⟨#[99,117,114,114,101,110,99,121]⟩
def c53:A4:=⟨#[101,108,115,101]⟩
def c1a:A4:=⟨#[102,108,111,111,114]⟩
def c4c:A4:=⟨#[102,114,111,109]⟩
def c10:A4:=⟨#[103,114,97,110,116]⟩
def d0k:A4:=⟨#[105,102]⟩
def c1q:A4:=⟨#[105,110,100,101,120]⟩
def d07:A4:=⟨#[108,101,116]⟩
def c1c:A4:=⟨#[108,105,109,105,116]⟩
def c98:A4:=⟨#[109,97,120]⟩
def c8l:A4:=⟨#[109,105,110]⟩
def c92:A4:=⟨#[110,111,116]⟩
def d8p:A4:=⟨#[111,114]⟩
def c60:A4:=⟨#[112,97,121]⟩
def b94:A4:=⟨#[114,101,100,117,99,101]⟩
def c14:A4:=⟨#[114,111,117,110,100]⟩
def b76:A4:=⟨#[115,116,97,116,117,116,101]⟩
def d3p:A4:=⟨#[116,104,101,110]⟩
def b3u:A4:=⟨#[0,1,2,2,3,3,3,3,4,4,4,4,4,4,4,4,5,5,5,5,5,5,5,5,5,5,5,5,5,5,5,5,6,6,6,6,6,6,6,6,6,6,6,6,6,6,6,6,6,6,6,6,6,6,6,6,6,6,6,6,6,6,6,6,7,7,7,7,7,7,7,7,7,7,7,7,7,7,7,7,7,7,7,7,7,7,7,7,7,7,7,7,7,7,7,7,7,7,7,7,7,7,7,7,7,7,7,7,7,7,7,7,7,7,7,7,7,7,7,7,7,7,7,7,7,7,7,7,8,8,8,8,8,8,8,8,8,8,8,8,8,8,8,8,8,8,8,8,8,8,8,8,8,8,8,8,8,8,8,8,8,8,8,8,8,8,8,8,8,8,8,8,8,8,8,8,8,8,8,8,8,8,8,8,8,8,8,8,8,8,8,8,8,8,8,8,8,8,8,8,8,8,8,8,8,8,8,8,8,8,8,8,8,8,8,8,8,8,8,8,8,8,8,8,8,8,8,8,8,8,8,8,8,8,8,8,8,8,8,8,8,8,8,8,8,8,8,8,8,8,8,8,8,8,8,8]⟩
def b0b:A4:=⟨#[118,111,108,117,110,116,97,114,121]⟩
def b3z:A4:=⟨#[115,101,114,118,105,99,101]⟩
def b87:A4:=⟨#[117,110,101,109,112,108,111,121,101,100]⟩
def d54:A4:=⟨#[115,105,99,107]⟩
def c97:A4:=⟨#[99,104,105,108,100]⟩
def c04:A4:=⟨#[114,101,115,105,100,101,110,99,101]⟩
def d9m:A4:=⟨#[111,108,100]⟩
def b8e:A4:=⟨#[100,105,115,97,98,105,108,105,116,121]⟩
def c0u:A4:=⟨#[115,117,114,118,105,118,111,114]⟩
def c66:A4:=⟨#[102,97,109,105,108,121]⟩
def c0r:A4:=⟨#[115,105,99,107,110,101,115,115]⟩
def d4s:A4:=⟨#[100,111,119,110]⟩
def f1e:A4:=⟨#[117,112]⟩
def d3b:A4:=⟨#[104,97,108,102]⟩
def d3z:A4:=⟨#[101,118,101,110]⟩
def g5d:A4:=⟨#[43]⟩
def e00:A4:=⟨#[45]⟩
def g62:A4:=⟨#[42]⟩
def e8f:A4:=⟨#[47]⟩
def g4g:A4:=⟨#[60]⟩
def e7j:A4:=⟨#[61]⟩
def g5n:A4:=⟨#[62]⟩
def e02:A4:=⟨#[40]⟩
def d38:A4:=⟨#[41]⟩
def g2w:A4:=⟨#[44]⟩
def c3s:A4:=⟨#[59]⟩
def e8b:A4:=⟨#[123]⟩
def e4t:A4:=⟨#[100]⟩
def e6u:A4:=⟨#[109]⟩
def b1y:A4:=⟨#[83,80,84,72,67,65]⟩
def a6w:A4:=⟨#[83,80,72,67,65]⟩
def c0p:A4:=⟨#[83,80,84]⟩
def a9l:A4:=⟨#[83,80]⟩
def b82:A4:=⟨#[83,80,67,65]⟩
def c1r:A4:=⟨#[83,80,82]⟩
def c0e:A4:=⟨#[80]⟩
def c6f:A4:=⟨#[80,82]⟩
def g49:A4:=⟨#[83]⟩
def g4j:A4:=⟨#[84]⟩
def g3v:A4:=⟨#[72]⟩
def g50:A4:=⟨#[67]⟩
def g4u:A4:=⟨#[65]⟩
def g5k:A4:=⟨#[82]⟩
def e0r:A4:=⟨#[97,103,101]⟩
def b6u:A4:=⟨#[105,110,115,117,114,101,100]⟩
def e39:A4:=⟨#[98,97,115,101]⟩
def c5w:A4:=⟨#[119,111,114,107,101,100]⟩
def c3c:A4:=⟨#[101,113,117,97,116,101,100]⟩
def c3j:A4:=⟨#[114,97,105,115,105,110,103]⟩
def c6v:A4:=⟨#[114,101,115,105,100,101,110,116]⟩
def d3o:A4:=⟨#[121,101,97,114]⟩
def c6q:A4:=⟨#[99,104,105,108,100,114,101,110]⟩
def c91:A4:=⟨#[108,97,119]⟩
abbrev lpC{σ ρ:Type}(s:σ)(f:(σ->A3 ρ)->σ->A3 ρ):A3 ρ:=d9 FU f s
noncomputable section
def i59(a b:O Int):A3 Int:=some (j96 (a.map λx=>x) (b.map λx=>x))
def a7v(s:A4)(c:Int):A3 Int:=some (g6v s c)
def c23(x y c:Int):A3 (Int×Int):=g7y x y c
def c1u(x y c:Int):A3 (Int×Int):=g8x x y c
def a7z(a:O Int):A3 (O Int):=a4n 8 [] a
def a5m(a:O Credit):A3 (O Credit):=a4n 16 [] a
def a6e(a:O Index):A3 (O Index):=a4n 24 [] a
def a86(a:O Let):A3 (O Let):=a4n 88 [] a
def a6f(a:O Grant):A3 (O Grant):=a4n 152 [] a
def a5p(a:O Reduce):A3 (O Reduce):=a4n 80 [] a
instance:Inhabited Span:=⟨⟨0,0⟩⟩
def b3w(l:O Span):A3 (O Span):=f0f (λx y=>decide (x.From<y.From)) l
def b54(b:(Int×A4)->A3 A4)(a:Int×A4):A3 A4:=if(decide (a.1>9))then(b8t a.1 10).bind λe=>(b8t a.1 10).bind λd=>(c3u a6h e (i64 (d+1))).bind λh=>(a7f h a.2).bind λg=>(c2t a.1 10).bind λc=>b (c,g)else(c3u a6h a.1 (i64 (a.1+1))).bind λi=>(a7f i a.2).bind λf=>some f
def i8(a:Int):A3 A4:=d9 FU b54 (a,a3j)
def b7(c b:Int):A3 Int:=(b8t c b).bind λa=>if(decide (a<0))then some (i64 (a+b))else some a
def c5(a:O Int)(b:Int):A3 Int:=if((a.length:Int)==0)then some 0 else(b7 b (a.length:Int)).bind λd=>(c7 a d).bind λc=>some c
def a01(a:Int):A3 A4:=(c2t a 100).bind λg=>(i8 g).bind λj=>(a7f j b1i).bind λe=>(c2t a 10).bind λd=>(b8t d 10).bind λi=>(i8 i).bind λh=>(a7f e h).bind λc=>(b8t a 10).bind λk=>(i8 k).bind λf=>(a7f c f).bind λb=>some b
def a5b(a:(O Int)×Int×A4):A3 A4:=(c5 a.1 (i64 (a.2.1+18))).bind λf=>(b7 f 3).bind λe=>if(e==0)then(a7f a.2.2 c8b).bind λc=>(a7f c d3i).bind λb=>some b else(a7f a.2.2 d3i).bind λd=>some d
def a5c(a:(O Int)×Int×A4):A3 A4:=(c5 a.1 (i64 (a.2.1+14))).bind λz=>(b7 z 800).bind λg=>(i8 g).bind λw=>(a7f c86 w).bind λs=>(a7f s d1p).bind λl=>(c5 a.1 (i64 (a.2.1+15))).bind λi=>(b7 i 300).bind λh=>(i8 (i64 (10+h))).bind λo=>(a7f l o).bind λp=>(a7f p c9u).bind λr=>(a7f a.2.2 r).bind λq=>(c5 a.1 (i64 (a.2.1+16))).bind λv=>(b7 v 400).bind λy=>(i8 y).bind λt=>(a7f c9l t).bind λm=>(a7f m c7y).bind λn=>(a7f q n).bind λd=>(c5 a.1 (i64 (a.2.1+17))).bind λk=>(b7 k 3).bind λj=>if(decide (j>0))then(c5 a.1 (i64 (a.2.1+17))).bind λu=>(b7 u 11).bind λx=>(a01 (i64 (10*x))).bind λe=>(a7f b7g e).bind λc=>(a7f c b7x).bind λb=>(a7f d b).bind λf=>joinC a5b (a.1,a.2.1,f)else joinC a5b (a.1,a.2.1,d)
def a5j(a:(O Int)×Int×A4×A4):A3 A4:=(c5 a.1 (i64 (a.2.1+5))).bind λN=>(b7 N 300).bind λS=>(a01 (i64 (100+S))).bind λG=>(a7f c9k G).bind λE=>(a7f E c9z).bind λd=>(c5 a.1 (i64 (a.2.1+6))).bind λp=>(b7 p 300).bind λt=>(a01 (i64 (400+t))).bind λe=>(a7f d e).bind λf=>(a7f f b7x).bind λo=>(a7f a.2.2.2 o).bind λP=>(a7f c83 a.2.2.1).bind λk=>(a7f k c8f).bind λr=>(c5 a.1 (i64 (a.2.1+7))).bind λQ=>(b7 Q 4).bind λW=>(a01 (i64 (1+W))).bind λC=>(a7f r C).bind λX=>(a7f X d0e).bind λs=>(a7f P s).bind λD=>(c5 a.1 (i64 (a.2.1+8))).bind λY=>(b7 Y 12).bind λj=>(i8 (i64 (50+j))).bind λF=>(a7f c8t F).bind λT=>(a7f T c8p).bind λJ=>(c5 a.1 (i64 (a.2.1+9))).bind λl=>(b7 l 6000).bind λv=>(i8 v).bind λh=>(a7f J h).bind λu=>(a7f u d02).bind λA=>(c5 a.1 (i64 (a.2.1+10))).bind λg=>(b7 g 900).bind λz=>(i8 z).bind λy=>(a7f A y).bind λw=>(a7f w c6o).bind λR=>(a7f D R).bind λi=>(c5 a.1 (i64 (a.2.1+11))).bind λc=>(b7 c 2000).bind λL=>(i8 L).bind λq=>(a7f c8d q).bind λx=>(a7f x c80).bind λU=>(c5 a.1 (i64 (a.2.1+12))).bind λK=>(b7 K 60).bind λH=>(a01 (i64 (20+H))).bind λM=>(a7f U M).bind λB=>(a7f B b7x).bind λI=>(a7f i I).bind λb=>(c5 a.1 (i64 (a.2.1+13))).bind λm=>(b7 m 5).bind λV=>if(decide (V>0))then(a7f b c9d).bind λn=>joinC a5c (a.1,a.2.1,n)else joinC a5c (a.1,a.2.1,b)
def a5k(a:(O Int)×Int×A4×A4):A3 A4:=(c5 a.1 (i64 (a.2.1+4))).bind λb=>(b7 b 4).bind λd=>if(d==0)then(a7f a.2.2.2 c9v).bind λc=>joinC a5j (a.1,a.2.1,a.2.2.1,c)else joinC a5j (a.1,a.2.1,a.2.2.1,a.2.2.2)
def a1a(a:(O Int)×Int×A4×A4):A3 A4:=(c5 a.1 (i64 (a.2.1+2))).bind λh=>(b7 h 900).bind λe=>(i8 (i64 (1+e))).bind λc=>(a7f d01 c).bind λn=>(a7f n b7x).bind λg=>(a7f a.2.2.2 g).bind λb=>(c5 a.1 (i64 (a.2.1+3))).bind λl=>(b7 l 3).bind λk=>if(decide (k>0))then(c5 a.1 (i64 (a.2.1+3))).bind λd=>(b7 d 1000).bind λo=>(i8 (i64 (100+o))).bind λi=>(a7f c8s i).bind λf=>(a7f f b7x).bind λj=>(a7f b j).bind λm=>joinC a5k (a.1,a.2.1,a.2.2.1,m)else joinC a5k (a.1,a.2.1,a.2.2.1,b)
def a38(k:A4)(b:O Int)(a:Int):A3 A4:=(c5 b a).bind λj=>(b7 j 90).bind λm=>(i8 (i64 (300+m))).bind λf=>(a7f c6e k).bind λi=>(a7f i c1g).bind λg=>(c5 b (i64 (a+1))).bind λl=>(b7 l 4).bind λh=>if(h==0)then(a7f g c33).bind λn=>joinC a1a (b,a,f,n)else if(h==1)then(a7f g c32).bind λd=>joinC a1a (b,a,f,d)else if(h==2)then(a7f g c6d).bind λe=>joinC a1a (b,a,f,e)else(a7f g c19).bind λc=>joinC a1a (b,a,f,c)
def a7x(a:Int×(O Int)×A4):A3 A4:=(c5 a.2.1 (i64 (37+a.1))).bind λc=>(b7 c 3).bind λf=>if(f==0)then(a38 b80 a.2.1 (i64 ((i64 (7*a.1))+5))).bind λe=>(a7f a.2.2 e).bind λb=>(a7f b d0a).bind λg=>some g else(a7f a.2.2 d0a).bind λd=>some d
def b10(a:Int)(b:O Int):A3 A4:=(c7 (⟨[c2c,c24,b8j],rfl⟩:Ar 3 A4).l a).bind λo=>(c7 (⟨[c2c,c24,b8j],rfl⟩:Ar 3 A4).l a).bind λm=>(a7f c70 m).bind λj=>(a7f j c2x).bind λi=>(i8 (i64 (1+a))).bind λl=>(a7f i l).bind λk=>(a7f k d8i).bind λh=>(a38 b7u b (i64 (7*a))).bind λn=>(a7f h n).bind λg=>(c5 b (i64 (31+a))).bind λe=>(b7 e 3).bind λd=>if(decide (d>0))then(a38 b7v b (i64 ((i64 (7*a))+3))).bind λc=>(a7f g c).bind λf=>joinC a7x (a,b,f)else joinC a7x (a,b,g)
def b78(d:A4)(c:(Int×Bool)->A3 Int)(a:Int×Bool):A3 Int:=if(decide (a.1<(d.size:Int)))then(b3c d a.1).bind λb=>if(b==10)then c (i64 (a.1+1),false)else if(b==35)then c (i64 (a.1+1),true)else(if(!a.2)then some (b !=9)else some false).bind λe=>(if e then some (b !=13)else some false).bind λg=>(if g then some (b !=32)else some false).bind λf=>if f then some a.1else c (i64 (a.1+1),a.2)else some a.1
def b16(a:A4)(b:Int):A3 Int:=d9 FU (b78 a) (b,false)
def a3q(a:Int):A3 Bool:=(if(decide (a>=97))then some (decide (a<=122))else some false).bind λb=>some b
def a30(a:Int):A3 Bool:=(if(decide (a>=48))then some (decide (a<=57))else some false).bind λb=>some b
def b7b(c:Int)(b:A4)(m:Bool)(h:Int->A3 Int)(a:Int):A3 Int:=(if(decide ((i64 (c+a))<(b.size:Int)))then(b3c b (i64 (c+a))).bind λk=>(a3q k).bind λj=>(if j then some true else(b3c b (i64 (c+a))).bind λo=>(a30 o).bind λn=>some n).bind λi=>(if i then some true else(b3c b (i64 (c+a))).bind λp=>some (p==95)).bind λl=>(if l then some true else(if m then(b3c b (i64 (c+a))).bind λf=>some (f==46)else some false).bind λe=>some e).bind λd=>some d else some false).bind λg=>if g then h (i64 (a+1))else some a
def a9f(a:A4)(c:Int)(b:Bool):A3 Int:=d9 FU (b7b c a b) 0
def b5u(a:Int×A4×A4)(c:Int->A3 (A4×A4×Int×Bool))(b:Int):A3 (A4×A4×Int×Bool):=if(decide (b<(i64 ((a.2.1.size:Int)+(a.2.2.size:Int)))))then(a7f a.2.1 a.2.2).bind λh=>(b3c h b).bind λe=>(a30 e).bind λi=>if(!i)then some (a3j,a3j,0,false)else c (i64 (b+1))else(if(decide ((a.2.1.size:Int)<1))then some true else some (decide ((a.2.1.size:Int)>9))).bind λg=>(if g then some true else(if(decide ((a.2.1.size:Int)>1))then(b3c a.2.1 0).bind λd=>some (d==48)else some false).bind λj=>some j).bind λf=>if f then some (a3j,a3j,0,false)else some (a.2.1,a.2.2,a.1,true)
def a6o(a:Int×A4×A4):A3 (A4×A4×Int×Bool):=d9 FU (b5u a) 0
def b5t(b:A4×Int)(e:(Int×Int)->A3 (A4×A4×Int×Bool))(a:Int×Int):A3 (A4×A4×Int×Bool):=if(decide (a.2>=0))then(b3c b.1 a.2).bind λg=>if(g==46)then e (a.2,i64 (a.2-1))else e (a.1,i64 (a.2-1))else(c3u b.1 0 a.1).bind λf=>if(decide (a.1<(b.1.size:Int)))then(c3u b.1 (i64 (a.1+1)) (b.1.size:Int)).bind λc=>(if(decide ((c.size:Int)<1))then some true else some (decide ((c.size:Int)>4))).bind λd=>if d then some (a3j,a3j,0,false)else joinC a6o (b.2,f,c)else joinC a6o (b.2,f,a3j)
def a45(a:A4×Int):A3 (A4×A4×Int×Bool):=d9 FU (b5t a) ((a.1.size:Int),i64 ((a.1.size:Int)-1))
def a6z(a:A4):A3 (A4×A4×Int×Bool):=(if(decide ((a.size:Int)>0))then(b3c a (i64 ((a.size:Int)-1))).bind λf=>some (f==100)else some false).bind λg=>if g then(c3u a 0 (i64 ((a.size:Int)-1))).bind λe=>joinC a45 (e,3)else(if(decide ((a.size:Int)>0))then(b3c a (i64 ((a.size:Int)-1))).bind λb=>some (b==109)else some false).bind λc=>if c then(c3u a 0 (i64 ((a.size:Int)-1))).bind λd=>joinC a45 (d,4)else joinC a45 (a,2)
def b5p(b:A4)(c:(Int×Int)->A3 (Int×Bool))(a:Int×Int):A3 (Int×Bool):=if(decide (a.2<(b.size:Int)))then(b3c b a.2).bind λe=>(if(decide (e<48))then some true else(b3c b a.2).bind λd=>some (decide (d>57))).bind λg=>if g then some (0,false)else(b3c b a.2).bind λf=>c (i64 ((i64 (a.1*10))+(i64 (IntKind.u8.wrap (f-48)))),i64 (a.2+1))else some (a.1,decide ((b.size:Int)>0))
def a4m(a:A4):A3 (Int×Bool):=d9 FU (b5p a) (0,0)
def b18(a:Int):A3 Bool:=(b8t a 4).bind λd=>(if(d==0)then(b8t a 100).bind λf=>(if(f !=0)then some true else(b8t a 400).bind λc=>some (c==0)).bind λb=>some b else some false).bind λe=>some e
def a6b(b a:Int):A3 Int:=if(a==2)then(b18 b).bind λc=>if c then some 29 else some 28 else if(a==4)then if(a==4)then some 30 else some 31 else if(a==6)then if(a==6)then some 30 else some 31 else if(a==9)then if(a==9)then some 30 else some 31 else if(a==11)then some 30 else some 31
def b5s(e:Int)(b:(Int×Int)->A3 Int)(a:Int×Int):A3 Int:=if(decide (a.2<e))then(c2t a.2 12).bind λd=>(b8t a.2 12).bind λc=>(a6b (i64 (1900+d)) (i64 (c+1))).bind λf=>b (i64 (a.1+f),i64 (a.2+1))else some a.1
def a9y(a:Int):A3 Int:=d9 FU (b5s a) (0,0)
def b22(a b c:Int):A3 (Int×Bool):=(if(decide (a<1900))then some true else some (decide (a>2099))).bind λg=>(if g then some true else some (decide (b<1))).bind λj=>(if j then some true else some (decide (b>12))).bind λf=>(if f then some true else some (decide (c<1))).bind λe=>(if e then some true else(a6b a b).bind λi=>some (decide (c>i))).bind λh=>if h then some (0,false)else(a9y (i64 ((i64 ((i64 ((i64 (a-1900))*12))+b))-1))).bind λd=>some (i64 ((i64 (d+c))-1),true)
def a47(a:A4):A3 (Int×Bool):=(if((a.size:Int)!=10)then some true else(b3c a 4).bind λk=>some (k !=45)).bind λn=>(if n then some true else(b3c a 7).bind λj=>some (j !=45)).bind λi=>if i then some (0,false)else(c3u a 0 4).bind λm=>(a4m m).bind λf=>(c3u a 5 7).bind λh=>(a4m h).bind λg=>(c3u a 8 (a.size:Int)).bind λl=>(a4m l).bind λb=>(if(!f.2)then some true else some (!g.2)).bind λe=>(if e then some true else some (!b.2)).bind λd=>if d then some (0,false)else(b22 f.1 g.1 b.1).bind λc=>some (c.1,c.2)
def a7w(b:A4×Int):A3 Int:=(b3c b.1 b.2).bind λa=>if(a==60)then if(a==60)then some 1 else some 0 else if(a==62)then if(a==62)then some 1 else some 0 else if(a==61)then if(a==61)then some 1 else some 0 else if(a==43)then if(a==43)then some 1 else some 0 else if(a==45)then if(a==45)then some 1 else some 0 else if(a==42)then if(a==42)then some 1 else some 0 else if(a==47)then if(a==47)then some 1 else some 0 else if(a==40)then if(a==40)then some 1 else some 0 else if(a==41)then if(a==41)then some 1 else some 0 else if(a==123)then if(a==123)then some 1 else some 0 else if(a==125)then if(a==125)then some 1 else some 0 else if(a==44)then if(a==44)then some 1 else some 0 else if(a==59)then some 1 else some 0
def b1a(b:A4)(a:Int):A3 Int:=if(decide ((i64 (a+1))<(b.size:Int)))then(c3u b a (i64 (a+2))).bind λc=>(if(c.toList==d28.toList)then some true else some (c.toList==d30.toList)).bind λe=>(if e then some true else some (c.toList==d1k.toList)).bind λd=>if d then some 2 else joinC a7w (b,a)else joinC a7w (b,a)
def a1o(a:A4×Int×Token×Int×Int×Bool):A3 (Token×Int×Int):=if(!a.2.2.2.2.2)then some ((⟨0,a3j,0⟩:Token),a.2.1,4)else(c3u a.1 a.2.1 (i64 (a.2.1+a.2.2.2.2.1))).bind λb=>some ((⟨a.2.2.2.1,b,a.2.1⟩:Token),i64 (a.2.1+a.2.2.2.2.1),0)
def b15(b:A4)(h:Int):A3 (Token×Int×Int):=(if(decide (h<0))then some true else some (decide (h>(b.size:Int)))).bind λn=>if n then some ((⟨0,a3j,0⟩:Token),0,1)else(b16 b h).bind λa=>if(a==(b.size:Int))then some ((⟨0,a3j,a⟩:Token),a,0)else(b3c b a).bind λm=>(a3q m).bind λl=>if l then(a9f b a false).bind λk=>joinC a1o (b,a,(⟨0,a3j,0⟩:Token),1,k,decide (k<=12))else(b3c b a).bind λp=>(a30 p).bind λo=>if o then(a9f b a true).bind λc=>(c3u b a (i64 (a+c))).bind λf=>(a6z f).bind λe=>joinC a1o (b,a,(⟨0,a3j,0⟩:Token),2,c,e.2.2.2)else(b3c b a).bind λj=>if(j==64)then if(decide ((i64 ((b.size:Int)-a))>=11))then(c3u b (i64 (a+1)) (i64 (a+11))).bind λi=>(a47 i).bind λg=>joinC a1o (b,a,(⟨0,a3j,0⟩:Token),3,11,g.2)else joinC a1o (b,a,(⟨0,a3j,0⟩:Token),3,11,decide ((i64 ((b.size:Int)-a))>=11))else(b1a b a).bind λd=>joinC a1o (b,a,(⟨0,a3j,0⟩:Token),4,d,decide (d>0))
def b7c(e:A4)(c:((O Token)×Int)->A3 ((O Token)×Int×Int))(b:(O Token)×Int):A3 ((O Token)×Int×Int):=(b15 e b.2).bind λa=>if(a.2.2!=0)then some ([],a.2.1,a.2.2)else if(a.1.Kind==0)then some (b.1,0,0)else(a4n 32 b.1 [a.1]).bind λd=>c (d,a.2.1)
def b25(a:A4):A3 ((O Token)×Int×Int):=if(decide ((a.size:Int)>8000))then some ([],0,7)else d9 FU (b7c a) ([],0)
def b02(b:A4):A3 ((A3 rQ)×Int×Int):=(b25 b).bind λa=>if(a.2.2!=0)then some (none,a.2.1,a.2.2)else some (some (⟨a.1,0,(b.size:Int),false⟩:rQ),0,0)
def u9(a:rQ)(d:A4):A3 Bool:=(if(!a.bad)then some (decide (a.at_<(a.l.length:Int)))else some false).bind λc=>(if c then(c7 a.l a.at_).bind λe=>some (e.Text.toList==d.toList)else some false).bind λb=>some b
def d7(a:rQ)(b:A4):A3 (Bool×rQ):=(u9 a b).bind λc=>if(!c)then some (false,a)else some (true,(⟨a.l,i64 (a.at_+1),a.end_,a.bad⟩:rQ))
def j8(a:rQ):A3 rQ:=some (⟨a.l,a.at_,a.end_,true⟩:rQ)
def b9(b:rQ)(c:A4):A3 rQ:=(d7 b c).bind λa=>if(!a.1)then(j8 a.2).bind λd=>some d else some a.2
def p8(a:rQ)(d:Int):A3 Bool:=(if(!a.bad)then some (decide (a.at_<(a.l.length:Int)))else some false).bind λc=>(if c then(c7 a.l a.at_).bind λe=>some (e.Kind==d)else some false).bind λb=>some b
def b4m(b:A4)(e:Int->A3 Bool)(a:Int):A3 Bool:=if(decide (a<(b.size:Int)))then(b3c b a).bind λh=>(a3q h).bind λg=>(if(!g)then(if(a==0)then some true else(b3c b a).bind λk=>(a30 k).bind λj=>(if(!j)then(b3c b a).bind λf=>some (f !=95)else some false).bind λl=>some l).bind λi=>some i else some false).bind λd=>if d then some false else e (i64 (a+1))else(if(decide ((b.size:Int)>=1))then some (decide ((b.size:Int)<=12))else some false).bind λc=>some c
def a99(a:A4):A3 Bool:=d9 FU (b4m a) 0
def a7o(a:A4):A3 Bool:=if(a.toList==c9m.toList)then if(a.toList==c9m.toList)then some true else some false else if(a.toList==c51.toList)then if(a.toList==c51.toList)then some true else some false else if(a.toList==d69.toList)then if(a.toList==d69.toList)then some true else some false else if(a.toList==b91.toList)then if(a.toList==b91.toList)then some true else some false else if(a.toList==b4x.toList)then if(a.toList==b4x.toList)then some true else some false else if(a.toList==c53.toList)then if(a.toList==c53.toList)then some true else some false else if(a.toList==c1a.toList)then if(a.toList==c1a.toList)then some true else some false else if(a.toList==c4c.toList)then if(a.toList==c4c.toList)then some true else some false else if(a.toList==c10.toList)then if(a.toList==c10.toList)then some true else some false else if(a.toList==d0k.toList)then if(a.toList==d0k.toList)then some true else some false else if(a.toList==c1q.toList)then if(a.toList==c1q.toList)then some true else some false else if(a.toList==d07.toList)then if(a.toList==d07.toList)then some true else some false else if(a.toList==c1c.toList)then if(a.toList==c1c.toList)then some true else some false else if(a.toList==c98.toList)then if(a.toList==c98.toList)then some true else some false else if(a.toList==c8l.toList)then if(a.toList==c8l.toList)then some true else some false else if(a.toList==c92.toList)then if(a.toList==c92.toList)then some true else some false else if(a.toList==d8p.toList)then if(a.toList==d8p.toList)then some true else some false else if(a.toList==c60.toList)then if(a.toList==c60.toList)then some true else some false else if(a.toList==b94.toList)then if(a.toList==b94.toList)then some true else some false else if(a.toList==c14.toList)then if(a.toList==c14.toList)then some true else some false else if(a.toList==b76.toList)then if(a.toList==b76.toList)then some true else some false else if(a.toList==d3p.toList)then some true else some false
def a2e(a:A4):A3 Bool:=(a99 a).bind λd=>(if d then(a7o a).bind λc=>some (!c)else some false).bind λb=>some b
def a0w(a:rQ):A3 (A4×rQ):=(p8 a 1).bind λd=>(if(!d)then some true else(c7 a.l a.at_).bind λg=>(a2e g.Text).bind λc=>some (!c)).bind λb=>if b then(j8 a).bind λf=>some (a3j,f)else(c7 a.l (i64 ((i64 (a.at_+1))-1))).bind λe=>some (e.Text,(⟨a.l,i64 (a.at_+1),a.end_,a.bad⟩:rQ))
def a43(a:Int):A3 Int:=if(decide (a<0))then some (u64 ((u64 (i64 (-(i64 (a+1)))))+1))else some (u64 (a))
def b62(a:Int×Int):A3 Int:=if(decide (a.1>=256))then(d0l .u64 a.1 8).bind λc=>(b3c b3u (IntKind.u8.wrap (c))).bind λd=>some (i64 ((i64 (a.2+8))+(i64 (d))))else(b3c b3u (IntKind.u8.wrap (a.1))).bind λb=>some (i64 (a.2+(i64 (b))))
def b65(a:Int×Int):A3 Int:=if(decide (a.1>=65536))then(d0l .u64 a.1 16).bind λb=>joinC b62 (b,i64 (a.2+16))else joinC b62 (a.1,a.2)
def b8x(a:Int):A3 Int:=if(decide (a>=4294967296))then(d0l .u64 a 32).bind λb=>joinC b65 (b,32)else joinC b65 (a,0)
def a7n(a:Int):A3 Int:=(b8x a).bind λb=>some (i64 (64-b))
def b5x(a:Int×Int×Int×Int×Int×Int):A3 (Int×Int):=(d0l .u64 (u64 ((u64 ((u64 (a.2.2.2.2.1*4294967296))+a.2.2.1))-(u64 (a.2.2.2.2.2*a.1)))) a.2.1).bind λb=>some (u64 ((u64 (a.2.2.2.1*4294967296))+a.2.2.2.2.2),b)
def c4t(a:Int×Int×Int×Int×Int×Int×Int×Int)(c:(Int×Int)->A3 (Int×Int))(b:Int×Int):A3 (Int×Int):=(if(decide (b.2>=4294967296))then some true else some (decide ((u64 (b.2*a.2.2.2.1))>(u64 ((u64 (4294967296*b.1))+a.2.2.2.2.2.2.1))))).bind λd=>if d then if(decide ((u64 (b.1+a.2.2.1))>=4294967296))then joinC b5x (a.1,a.2.1,a.2.2.2.2.2.2.1,a.2.2.2.2.2.2.2,u64 ((u64 ((u64 (a.2.2.2.2.1*4294967296))+a.2.2.2.2.2.1))-(u64 (a.2.2.2.2.2.2.2*a.1))),u64 (b.2-1))else c (u64 (b.1+a.2.2.1),u64 (b.2-1))else joinC b5x (a.1,a.2.1,a.2.2.2.2.2.2.1,a.2.2.2.2.2.2.2,u64 ((u64 ((u64 (a.2.2.2.2.1*4294967296))+a.2.2.2.2.2.1))-(u64 (a.2.2.2.2.2.2.2*a.1))),b.2)
def b31(a:Int×Int×Int×Int×Int×Int×Int×Int):A3 (Int×Int):=(if a.2.2.1=0then none else some (u64 (Int.tdiv (u64 ((u64 ((u64 (a.2.2.2.2.1*4294967296))+a.2.2.2.2.2.1))-(u64 (a.2.2.2.2.2.2.2*a.1)))) a.2.2.1))).bind λb=>d9 FU (c4t a) (u64 ((u64 ((u64 ((u64 (a.2.2.2.2.1*4294967296))+a.2.2.2.2.2.1))-(u64 (a.2.2.2.2.2.2.2*a.1))))-(u64 (b*a.2.2.1))),b)
def c4k(c b e i j h d:Int)(g:(Int×Int)->A3 (Int×Int))(a:Int×Int):A3 (Int×Int):=(if(decide (a.1>=4294967296))then some true else some (decide ((u64 (a.1*(d5y .u64 c 4294967295)))>(u64 ((u64 (4294967296*a.2))+b))))).bind λf=>if f then if(decide ((u64 (a.2+e))>=4294967296))then joinC b31 (c,u64 (i),e,d5y .u64 c 4294967295,orK .u64 j h,b,d5y .u64 d 4294967295,u64 (a.1-1))else g (u64 (a.1-1),u64 (a.2+e))else joinC b31 (c,u64 (i),e,d5y .u64 c 4294967295,orK .u64 j h,b,d5y .u64 d 4294967295,a.1)
def b9t(a:Int×Int×Int):A3 (Int×Int):=if(a.1==0)then(if a.2.2=0then none else some (u64 (Int.tdiv a.2.1 a.2.2))).bind λk=>(b8t a.2.1 a.2.2).bind λj=>some (k,j)else(a7n a.2.2).bind λc=>(g2a .u64 a.2.2 (u64 (c))).bind λi=>(d0l .u64 i 32).bind λe=>(g2a .u64 a.1 (u64 (c))).bind λh=>(d0l .u64 a.2.1 (u64 (64-(u64 (c))))).bind λf=>(g2a .u64 a.2.1 (u64 (c))).bind λd=>(d0l .u64 d 32).bind λg=>(if e=0then none else some (u64 (Int.tdiv (orK .u64 h f) e))).bind λb=>d9 FU (c4k i g e c h f d) (b,u64 ((orK .u64 h f)-(u64 (b*e))))
def b9j(a:Int×Int×Int):A3 (Int×Int):=if(decide (a.2.2<=a.1))then none else joinC b9t (a.1,a.2.1,a.2.2)
def a8o(b c a:Int):A3 (Int×Int):=if(a==0)then none else joinC b9j (b,c,a)
def a3h(b:pensionref1_wide)(a:Int):A3 (pensionref1_wide×Int):=(b8t b.hi a).bind λe=>(a8o e b.lo a).bind λc=>(if a=0then none else some (u64 (Int.tdiv b.hi a))).bind λd=>some ((⟨d,c.1⟩:pensionref1_wide),c.2)
def b7e(b:(Int×Int)->A3 Int)(a:Int×Int):A3 Int:=if(a.2!=0)then(b8t a.1 a.2).bind λc=>b (a.2,c)else some a.1
def a9s(a b:Int):A3 Int:=d9 FU b7e (a,b)
def b2l(g:Bool)(e:pensionref1_wide)(c:Int):A3 (fQ×Int):=(a3h e c).bind λf=>(a9s c f.2).bind λd=>(a3h e d).bind λa=>(if d=0then none else some (u64 (Int.tdiv c d))).bind λb=>(if(a.1.hi !=0)then some true else some (decide (a.1.lo>1000000000000000))).bind λi=>(if i then some true else some (decide (b>1000000000))).bind λh=>if h then some ((⟨0,0⟩:fQ),2)else if g then some ((⟨i64 (-(i64 (a.1.lo))),i64 (b)⟩:fQ),0)else some ((⟨i64 (a.1.lo),i64 (b)⟩:fQ),0)
def a3r(c a:Int):A3 (fQ×Int):=if(a==0)then some ((⟨0,0⟩:fQ),3)else(a43 c).bind λd=>(a43 a).bind λe=>(b2l ((decide (c<0))!=(decide (a<0))) (⟨0,d⟩:pensionref1_wide) e).bind λb=>some (b.1,b.2)
def b3f(b:A4×A4×Int×Bool)(d:(fQ×Int×Int×Int)->A3 (fQ×Int×Bool))(a:fQ×Int×Int×Int):A3 (fQ×Int×Bool):=if(decide (a.2.2.2<(i64 ((b.1.size:Int)+(b.2.1.size:Int)))))then(a7f b.1 b.2.1).bind λe=>(b3c e a.2.2.2).bind λc=>if(decide (a.2.2.2>=(b.1.size:Int)))then d (a.1,i64 ((i64 (a.2.1*10))+(i64 (IntKind.u8.wrap (c-48)))),i64 (a.2.2.1*10),i64 (a.2.2.2+1))else d (a.1,i64 ((i64 (a.2.1*10))+(i64 (IntKind.u8.wrap (c-48)))),a.2.2.1,i64 (a.2.2.2+1))else(a3r a.2.1 a.2.2.1).bind λf=>some (f.1,b.2.2.1,true)
def a2x(b:A4):A3 (fQ×Int×Bool):=(a6z b).bind λa=>if(!a.2.2.2)then some ((⟨0,0⟩:fQ),0,false)else d9 FU (b3f a) ((⟨0,0⟩:fQ),0,1,0)
def s7(a:rQ)(i f:Int):A3 (Int×rQ):=(p8 a 2).bind λe=>if e then(c7 a.l a.at_).bind λj=>(a2x j.Text).bind λb=>(if(b.2.1==2)then some (b.1.Den==1)else some false).bind λd=>(if d then some (decide (b.1.Num>=i))else some false).bind λh=>(if h then some (decide (b.1.Num<=f))else some false).bind λg=>if g then some (b.1.Num,(⟨a.l,i64 (a.at_+1),a.end_,a.bad⟩:rQ))else(j8 a).bind λc=>some (0,c)else(j8 a).bind λk=>some (0,k)
def b09(a:A4):A3 Int:=(c3u a 1 (a.size:Int)).bind λb=>(a47 b).bind λc=>some c.1
def a8l(a:A4):A3 Int:=if(a.toList==b0b.toList)then some 6 else if(a.toList==b3z.toList)then some 9 else if(a.toList==b87.toList)then some 7 else if(a.toList==d54.toList)then some 8 else if(a.toList==c97.toList)then some 10 else if(a.toList==c04.toList)then some 5 else some 0
def a52(a:A4):A3 Int:=if(a.toList==d9m.toList)then some 1 else if(a.toList==b8e.toList)then some 2 else if(a.toList==c0u.toList)then some 3 else if(a.toList==c66.toList)then some 4 else if(a.toList==c0r.toList)then some 5 else some 0
def a8f(a:A4):A3 Int:=if(a.toList==d4s.toList)then some 1 else if(a.toList==f1e.toList)then some 2 else if(a.toList==d3b.toList)then some 3 else if(a.toList==d3z.toList)then some 4 else some 0
def a0m(a:rQ)(g:Int):A3 (Int×rQ):=(p8 a 1).bind λh=>if h then(c7 a.l a.at_).bind λb=>(a8l b.Text).bind λe=>(a52 b.Text).bind λd=>(a8f b.Text).bind λf=>(c7 [e,d,f] (i64 (g-1))).bind λk=>(c7 [e,d,f] (i64 (g-1))).bind λc=>if(decide (c>0))then some (c,(⟨a.l,i64 (a.at_+1),a.end_,a.bad⟩:rQ))else(j8 a).bind λj=>some (0,j)else(j8 a).bind λi=>some (0,i)
def a8e(a:Int):A3 Int:=(if(decide (a>=1))then some (decide (a<=3))else some false).bind λd=>if d then some 0 else(if(decide (a>=4))then some (decide (a<=6))else some false).bind λc=>if c then some 1 else(if(decide (a>=7))then some (decide (a<=20))else some false).bind λb=>if b then some 2 else if(a==21)then some 3 else some (-1:Int)
def a6m(a:Int×Bool):A3 Int:=if a.2then some 5 else if(a.1==9)then if(a.1==9)then some 6 else some 7 else if(a.1==10)then some 6 else some 7
def a04(a:Int×Bool):A3 Int:=if a.2then some 4 else if(a.1==7)then joinC a6m (a.1,a.1==7)else joinC a6m (a.1,a.1==8)
def b05(a:Int):A3 Int:=if(a==21)then some 0 else if(a==18)then some 1 else if(a==17)then some 2 else if(a==5)then some 3 else if(a==11)then joinC a04 (a,a==11)else if(a==12)then joinC a04 (a,a==12)else if(a==13)then joinC a04 (a,a==13)else if(a==14)then joinC a04 (a,a==14)else if(a==15)then joinC a04 (a,a==15)else joinC a04 (a,a==16)
def a96(a:Int):A3 A4:=if(a==7)then some g5d else if(a==8)then some e00 else if(a==9)then some g62 else if(a==10)then some e8f else if(a==11)then some g4g else if(a==12)then some d28 else if(a==13)then some e7j else if(a==14)then some d1k else if(a==15)then some g5n else if(a==16)then some d30 else if(a==17)then some c9m else some d8p
def a9a(h:Int)(e:rQ)(b:Int->A3 Int)(a:Int):A3 Int:=if(decide (a<=18))then(b05 a).bind λd=>(if(d==h)then(a96 a).bind λc=>(u9 e c).bind λg=>some g else some false).bind λf=>if f then some a else b (i64 (a+1))else some 0
def a3a(a:rQ)(b:Int):A3 Int:=d9 FU (a9a b a) 7
structure eQ where f_pensionref5_reader_expr:rQ->Int->Option (Expr×rQ)f_pensionref5_reader_factor:rQ->Option (Expr×rQ)f_pensionref5_reader_call:rQ->Int->Option (Expr×rQ)
def b0l(R:eQ)(d:Int)(e:(rQ×(O Expr)×Expr×Expr)->A3 (Expr×rQ))(a:rQ×(O Expr)×Expr×Expr):A3 (Expr×rQ):=if(!a.1.bad)then(a3a a.1 d).bind λc=>if(c==0)then some (a.2.2.2,a.1)else(R.f_pensionref5_reader_expr (⟨a.1.l,i64 (a.1.at_+1),a.1.end_,a.1.bad⟩:rQ) (i64 (d+1))).bind λb=>if(d==4)then some ((⟨c,(⟨0,0⟩:fQ),0,a3j,[a.2.2.2,b.1]⟩:Expr),b.2)else e (b.2,a.2.1,(⟨a.2.2.1.Op,a.2.2.1.Value,a.2.2.1.Dim,a.2.2.1.Name,[]⟩:Expr),(⟨c,(⟨0,0⟩:fQ),0,a3j,[a.2.2.2,b.1]⟩:Expr))else some (a.2.2.2,a.1)
def a3b(R:eQ)(a:rQ)(e:Int):A3 (Expr×rQ):=if a.bad then some ((⟨0,(⟨0,0⟩:fQ),0,a3j,[]⟩:Expr),a)else if(e==0)then(d7 a d0k).bind λf=>if(!f.1)then(R.f_pensionref5_reader_expr f.2 1).bind λl=>some (l.1,l.2)else(R.f_pensionref5_reader_expr f.2 0).bind λi=>(b9 i.2 d3p).bind λm=>(R.f_pensionref5_reader_expr m 0).bind λk=>(b9 k.2 c53).bind λn=>(R.f_pensionref5_reader_expr n 0).bind λh=>some ((⟨21,(⟨0,0⟩:fQ),0,a3j,[i.1,k.1,h.1]⟩:Expr),h.2)else if(e==3)then(d7 a c92).bind λg=>if g.1then(R.f_pensionref5_reader_expr g.2 3).bind λj=>some ((⟨5,(⟨0,0⟩:fQ),0,a3j,[j.1]⟩:Expr),j.2)else(R.f_pensionref5_reader_expr g.2 4).bind λd=>some (d.1,d.2)else if(e==7)then(R.f_pensionref5_reader_factor a).bind λc=>some (c.1,c.2)else(R.f_pensionref5_reader_expr a (i64 (e+1))).bind λb=>d9 FU (b0l R e) (b.2,[],(⟨0,(⟨0,0⟩:fQ),0,a3j,[]⟩:Expr),b.1)
def a2a(R:eQ)(b:rQ):A3 (Expr×rQ):=(p8 b 2).bind λs=>if s then(c7 b.l b.at_).bind λr=>(a2x r.Text).bind λo=>some ((⟨1,o.1,o.2.1,a3j,[]⟩:Expr),(⟨b.l,i64 (b.at_+1),b.end_,b.bad⟩:rQ))else(d7 b e00).bind λk=>if k.1then(R.f_pensionref5_reader_expr k.2 7).bind λq=>some ((⟨4,(⟨0,0⟩:fQ),0,a3j,[q.1]⟩:Expr),q.2)else(d7 k.2 e02).bind λn=>if n.1then(R.f_pensionref5_reader_expr n.2 0).bind λp=>(b9 p.2 d38).bind λt=>some (p.1,t)else(d7 n.2 c51).bind λa=>if a.1then(b9 a.2 e02).bind λh=>(s7 h 1 45).bind λd=>(b9 d.2 d38).bind λj=>some ((⟨3,(⟨d.1,1⟩:fQ),0,a3j,[]⟩:Expr),j)else(u9 a.2 c1a).bind λm=>if m then(R.f_pensionref5_reader_call a.2 6).bind λe=>some (e.1,e.2)else(u9 a.2 c8l).bind λi=>if i then(R.f_pensionref5_reader_call a.2 19).bind λg=>some (g.1,g.2)else(u9 a.2 c98).bind λl=>if l then(R.f_pensionref5_reader_call a.2 20).bind λc=>some (c.1,c.2)else(a0w a.2).bind λf=>some ((⟨2,(⟨0,0⟩:fQ),0,f.1,[]⟩:Expr),f.2)
def a3d(R:eQ)(a:rQ)(c:Int):A3 (Expr×rQ):=(b9 (⟨a.l,i64 (a.at_+1),a.end_,a.bad⟩:rQ) e02).bind λh=>(R.f_pensionref5_reader_expr h 0).bind λb=>(a8e c).bind λg=>if(g==2)then(b9 b.2 g2w).bind λf=>(c7 [b.1] 0).bind λi=>(R.f_pensionref5_reader_expr f 0).bind λd=>(b9 d.2 d38).bind λe=>some ((⟨c,(⟨0,0⟩:fQ),0,a3j,[i,d.1]⟩:Expr),e)else(b9 b.2 d38).bind λj=>some ((⟨c,(⟨0,0⟩:fQ),0,a3j,[b.1]⟩:Expr),j)
def c8:Nat->eQ|0=>⟨λ_ _=>none,λ_=>none,λ_ _=>none⟩|n+1=>⟨a3b (c8 n),a2a (c8 n),a3d (c8 n)⟩
def a0u(a:rQ)(b:Int):A3 (Expr×rQ):=(c8 FU).f_pensionref5_reader_expr a b
def a1v(a:rQ×(O Credit)×(O Index)×(O Let)×(O Grant)×(O Reduce)×Version×Credit):A3 (rQ×Version×(O Credit)×(O Index)×(O Let)×(O Grant)×(O Reduce)):=(a4n 16 a.2.1 [a.2.2.2.2.2.2.2]).bind λc=>(b9 a.1 c3s).bind λb=>some (b,(⟨a.2.2.2.2.2.2.1.From,a.2.2.2.2.2.2.1.Rounding,[],[],[],[],[]⟩:Version),c,a.2.2.1,a.2.2.2.1,a.2.2.2.2.1,a.2.2.2.2.2.1)
def a1t(a:rQ×(O Credit)×(O Index)×(O Let)×(O Grant)×(O Reduce)×Version×Index):A3 (rQ×Version×(O Credit)×(O Index)×(O Let)×(O Grant)×(O Reduce)):=(a4n 24 a.2.2.1 [a.2.2.2.2.2.2.2]).bind λb=>(b9 a.1 c3s).bind λc=>some (c,(⟨a.2.2.2.2.2.2.1.From,a.2.2.2.2.2.2.1.Rounding,[],[],[],[],[]⟩:Version),a.2.1,b,a.2.2.2.1,a.2.2.2.2.1,a.2.2.2.2.2.1)
def a0a(a:rQ×(O Credit)×(O Index)×(O Let)×(O Grant)×(O Reduce)×Version×Index):A3 (rQ×Version×(O Credit)×(O Index)×(O Let)×(O Grant)×(O Reduce)):=if(a.2.2.2.2.2.2.2.Factor.Den==0)then(j8 a.1).bind λb=>joinC a1t (b,a.2.1,a.2.2.1,a.2.2.2.1,a.2.2.2.2.1,a.2.2.2.2.2.1,(⟨a.2.2.2.2.2.2.1.From,a.2.2.2.2.2.2.1.Rounding,[],[],[],[],[]⟩:Version),a.2.2.2.2.2.2.2)else joinC a1t (a.1,a.2.1,a.2.2.1,a.2.2.2.1,a.2.2.2.2.1,a.2.2.2.2.2.1,(⟨a.2.2.2.2.2.2.1.From,a.2.2.2.2.2.2.1.Rounding,[],[],[],[],[]⟩:Version),a.2.2.2.2.2.2.2)
def a39(M:rQ)(a:Version)(d:O Credit)(e:O Index)(f:O Let)(c:O Grant)(g:O Reduce):A3 (rQ×Version×(O Credit)×(O Index)×(O Let)×(O Grant)×(O Reduce)):=(d7 M b91).bind λx=>if x.1then(a0m x.2 1).bind λw=>(d7 w.2 c1c).bind λs=>if s.1then(s7 s.2 1 73049).bind λL=>joinC a1v (L.2,d,e,f,c,g,(⟨a.From,a.Rounding,[],[],[],[],[]⟩:Version),(⟨w.1,L.1⟩:Credit))else joinC a1v (s.2,d,e,f,c,g,(⟨a.From,a.Rounding,[],[],[],[],[]⟩:Version),(⟨w.1,0⟩:Credit))else(d7 x.2 c1q).bind λD=>if D.1then(s7 D.2 1900 2099).bind λb=>(p8 b.2 2).bind λB=>if B then(c7 b.2.l b.2.at_).bind λz=>(a2x z.Text).bind λi=>(if(i.2.1==2)then some (decide (i.1.Num>0))else some false).bind λH=>if H then joinC a0a ((⟨b.2.l,i64 (b.2.at_+1),b.2.end_,b.2.bad⟩:rQ),d,e,f,c,g,(⟨a.From,a.Rounding,[],[],[],[],[]⟩:Version),(⟨b.1,i.1⟩:Index))else joinC a0a (b.2,d,e,f,c,g,(⟨a.From,a.Rounding,[],[],[],[],[]⟩:Version),(⟨b.1,(⟨0,0⟩:fQ)⟩:Index))else joinC a0a (b.2,d,e,f,c,g,(⟨a.From,a.Rounding,[],[],[],[],[]⟩:Version),(⟨b.1,(⟨0,0⟩:fQ)⟩:Index))else(d7 D.2 d07).bind λj=>if j.1then(a0w j.2).bind λn=>(b9 n.2 e7j).bind λA=>(a0u A 0).bind λq=>(a4n 88 f [(⟨n.1,q.1⟩:Let)]).bind λK=>(b9 q.2 c3s).bind λt=>some (t,(⟨a.From,a.Rounding,[],[],[],[],[]⟩:Version),d,e,K,c,g)else(d7 j.2 c10).bind λk=>if k.1then(a0m k.2 2).bind λr=>(b9 r.2 d0k).bind λE=>(a0u E 0).bind λo=>(b9 o.2 c60).bind λI=>(a0u I 0).bind λp=>(a4n 152 c [(⟨r.1,o.1,p.1⟩:Grant)]).bind λG=>(b9 p.2 c3s).bind λF=>some (F,(⟨a.From,a.Rounding,[],[],[],[],[]⟩:Version),d,e,f,G,g)else(d7 k.2 b94).bind λh=>if h.1then(a0m h.2 2).bind λm=>(b9 m.2 d69).bind λC=>(a0u C 0).bind λl=>(a4n 80 g [(⟨m.1,l.1⟩:Reduce)]).bind λu=>(b9 l.2 c3s).bind λy=>some (y,(⟨a.From,a.Rounding,[],[],[],[],[]⟩:Version),d,e,f,c,u)else(j8 h.2).bind λJ=>(b9 J c3s).bind λv=>some (v,(⟨a.From,a.Rounding,[],[],[],[],[]⟩:Version),d,e,f,c,g)
def a8i(d:(rQ×(O Credit)×(O Index)×(O Let)×(O Grant)×(O Reduce)×Version×(O Credit)×(O Index)×(O Let)×(O Grant)×(O Reduce)×Version)->A3 (Version×rQ))(a:rQ×(O Credit)×(O Index)×(O Let)×(O Grant)×(O Reduce)×Version×(O Credit)×(O Index)×(O Let)×(O Grant)×(O Reduce)×Version):A3 (Version×rQ):=if(!a.1.bad)then(d7 a.1 d0a).bind λc=>if(!c.1)then(a39 c.2 (⟨a.2.2.2.2.2.2.2.2.2.2.2.2.From,a.2.2.2.2.2.2.2.2.2.2.2.2.Rounding,[],[],[],[],[]⟩:Version) a.2.2.2.2.2.2.2.1 a.2.2.2.2.2.2.2.2.1 a.2.2.2.2.2.2.2.2.2.1 a.2.2.2.2.2.2.2.2.2.2.1 a.2.2.2.2.2.2.2.2.2.2.2.1).bind λb=>d (b.1,a.2.1,a.2.2.1,a.2.2.2.1,a.2.2.2.2.1,a.2.2.2.2.2.1,(⟨a.2.2.2.2.2.2.1.From,a.2.2.2.2.2.2.1.Rounding,[],[],[],[],[]⟩:Version),b.2.2.1,b.2.2.2.1,b.2.2.2.2.1,b.2.2.2.2.2.1,b.2.2.2.2.2.2,(⟨b.2.1.From,b.2.1.Rounding,[],[],[],[],[]⟩:Version))else some ((⟨a.2.2.2.2.2.2.2.2.2.2.2.2.From,a.2.2.2.2.2.2.2.2.2.2.2.2.Rounding,a.2.2.2.2.2.2.2.1,a.2.2.2.2.2.2.2.2.1,a.2.2.2.2.2.2.2.2.2.1,a.2.2.2.2.2.2.2.2.2.2.1,a.2.2.2.2.2.2.2.2.2.2.2.1⟩:Version),c.2)else some ((⟨a.2.2.2.2.2.2.2.2.2.2.2.2.From,a.2.2.2.2.2.2.2.2.2.2.2.2.Rounding,a.2.2.2.2.2.2.2.1,a.2.2.2.2.2.2.2.2.1,a.2.2.2.2.2.2.2.2.2.1,a.2.2.2.2.2.2.2.2.2.2.1,a.2.2.2.2.2.2.2.2.2.2.2.1⟩:Version),a.1)
def a1l(a:rQ×(O Credit)×(O Index)×(O Let)×(O Grant)×(O Reduce)×Version×(O Credit)×(O Index)×(O Let)×(O Grant)×(O Reduce)×Version):A3 (Version×rQ):=(b9 a.1 e8b).bind λf=>(b9 f c14).bind λe=>(a0m e 3).bind λd=>(s7 d.2 1 100000).bind λc=>(b9 c.2 c3s).bind λb=>d9 FU a8i (b,a.2.1,a.2.2.1,a.2.2.2.1,a.2.2.2.2.1,a.2.2.2.2.2.1,(⟨a.2.2.2.2.2.2.1.From,a.2.2.2.2.2.2.1.Rounding,[],[],[],[],[]⟩:Version),a.2.2.2.2.2.2.2.1,a.2.2.2.2.2.2.2.2.1,a.2.2.2.2.2.2.2.2.2.1,a.2.2.2.2.2.2.2.2.2.2.1,a.2.2.2.2.2.2.2.2.2.2.2.1,(⟨a.2.2.2.2.2.2.2.2.2.2.2.2.From,(⟨d.1,c.1⟩:Rounding),[],[],[],[],[]⟩:Version))
def a2o(e:rQ):A3 (Version×rQ):=(b9 e c4c).bind λa=>(p8 a 3).bind λf=>if f then(c7 a.l a.at_).bind λd=>(b09 d.Text).bind λc=>joinC a1l ((⟨a.l,i64 (a.at_+1),a.end_,a.bad⟩:rQ),[],[],[],[],[],(⟨0,(⟨0,0⟩:Rounding),[],[],[],[],[]⟩:Version),[],[],[],[],[],(⟨c,(⟨0,0⟩:Rounding),[],[],[],[],[]⟩:Version))else(j8 a).bind λb=>joinC a1l (b,[],[],[],[],[],(⟨0,(⟨0,0⟩:Rounding),[],[],[],[],[]⟩:Version),[],[],[],[],[],(⟨0,(⟨0,0⟩:Rounding),[],[],[],[],[]⟩:Version))
def a3s(a:rQ):A3 Int:=if(decide (a.at_<(a.l.length:Int)))then(c7 a.l a.at_).bind λb=>some b.At else some a.end_
def a6n(a:Int):A3 Bool:=(if(decide (a>=0))then some (decide (a<=73048))else some false).bind λb=>some b
def a3c(a:Rounding):A3 Bool:=(if(decide (a.Mode>=1))then some (decide (a.Mode<=4))else some false).bind λd=>(if d then some (decide (a.Unit>=1))else some false).bind λc=>(if c then some (decide (a.Unit<=100000))else some false).bind λb=>some b
def b53(b f:Int)(o:((O A4)×Int)->A3 A4)(a:(O A4)×Int):A3 A4:=(if(decide (a.2<(a.1.length:Int)))then some (decide (b>0))else some false).bind λm=>if m then(if(f==1)then(c7 a.1 a.2).bind λu=>(c7 a.1 a.2).bind λs=>(a8l s).bind λr=>some (r==b)else some false).bind λp=>(if p then some true else(if(f==2)then(c7 a.1 a.2).bind λt=>(c7 a.1 a.2).bind λq=>(a52 q).bind λd=>some (d==b)else some false).bind λc=>some c).bind λg=>(if g then some true else(if(f==3)then(c7 a.1 a.2).bind λn=>(c7 a.1 a.2).bind λi=>(a8f i).bind λe=>some (e==b)else some false).bind λk=>some k).bind λh=>if h then(c7 a.1 a.2).bind λl=>(c7 a.1 a.2).bind λj=>some j else o (a.1,i64 (a.2+1))else some a3j
def a3t(a b:Int):A3 A4:=d9 FU (b53 a b) ([b0b,b3z,b87,d54,c97,c04,d9m,b8e,c0u,c66,c0r,d4s,f1e,d3b,d3z],0)
def a1h(a:fQ):A3 Bool:=(if(decide (a.Den>=1))then some (decide (a.Den<=1000000000))else some false).bind λd=>(if d then some (decide (a.Num>=(-1000000000000000:Int)))else some false).bind λg=>(if g then some (decide (a.Num<=1000000000000000))else some false).bind λc=>(if c then(a43 a.Num).bind λb=>(a9s b (u64 (a.Den))).bind λf=>some (f==1)else some false).bind λe=>some e
def b4s(h:Int)(b:(Int×A4)->A3 A4)(a:Int×A4):A3 A4:=(if(decide (a.1>0))then some true else some (decide ((a.2.size:Int)<h))).bind λe=>if e then(b8t a.1 10).bind λd=>(b8t a.1 10).bind λg=>(c3u a6h d (i64 (g+1))).bind λf=>(a7f f a.2).bind λc=>(c2t a.1 10).bind λi=>b (i,c)else some a.2
def a5w(a b:Int):A3 A4:=d9 FU (b4s b) (a,a3j)
def a3x(a:fQ×A4):A3 A4:=if(a.1.Den !=1)then(a7f a.2 e8f).bind λd=>(a5w a.1.Den 1).bind λc=>(a7f d c).bind λb=>some b else some a.2
def a2n(a:fQ):A3 A4:=(a1h a).bind λd=>if(!d)then some a3j else(a43 a.Num).bind λe=>(a5w (i64 (e)) 1).bind λb=>if(decide (a.Num<0))then(a7f e00 b).bind λc=>joinC a3x (a,c)else joinC a3x (a,b)
def a93(b:Int×A4×Int)(c:(A4×Int×Int)->A3 (A4×Bool))(a:A4×Int×Int):A3 (A4×Bool):=if(decide (a.2.1>0))then(c2t a.2.1 a.2.2).bind λi=>(c2t a.2.1 a.2.2).bind λg=>(c3u a6h i (i64 (g+1))).bind λj=>(a7f a.1 j).bind λe=>(b8t a.2.1 a.2.2).bind λd=>(c2t a.2.2 10).bind λk=>c (e,d,k)else(c7 [a3j,e4t,e6u] (i64 (b.1-2))).bind λl=>(c7 [a3j,e4t,e6u] (i64 (b.1-2))).bind λf=>(a7f a.1 f).bind λh=>some (h,true)
def a1u(a:Int×A4×Int):A3 (A4×Bool):=d9 FU (a93 a) (a.2.1,a.2.2,1000)
def a1g(a:fQ)(c:Int):A3 (A4×Bool):=(a1h a).bind λi=>(if(!i)then some true else some (decide (a.Num<0))).bind λl=>(if l then some true else(b8t 10000 a.Den).bind λh=>some (h !=0)).bind λg=>(if g then some true else some (decide (c<2))).bind λk=>(if k then some true else some (decide (c>4))).bind λj=>if j then some (a3j,false)else(c2t a.Num a.Den).bind λb=>if(decide (b>999999999))then some (a3j,false)else(a2n (⟨b,1⟩:fQ)).bind λf=>(c2t 10000 a.Den).bind λd=>if(decide ((i64 ((i64 (a.Num-(i64 (b*a.Den))))*d))>0))then(a7f f b1i).bind λe=>joinC a1u (c,e,i64 ((i64 (a.Num-(i64 (b*a.Den))))*d))else joinC a1u (c,f,i64 ((i64 (a.Num-(i64 (b*a.Den))))*d))
structure Ring_pensionref5_Depth where f_pensionref5_Depth:Expr->Option Int
def b5n(R:Ring_pensionref5_Depth)(b:(Expr×Int×Int)->A3 Int)(a:Expr×Int×Int):A3 Int:=if(decide (a.2.2<(a.1.Args.length:Int)))then(c7 a.1.Args a.2.2).bind λd=>(R.f_pensionref5_Depth d).bind λc=>b (a.1,max a.2.1 c,i64 (a.2.2+1))else some (i64 (a.2.1+1))
def a7r(R:Ring_pensionref5_Depth)(a:Expr):A3 Int:=d9 FU (b5n R) (a,0,0)
def s5:Nat->Ring_pensionref5_Depth|0=>⟨λ_=>none⟩|n+1=>⟨a7r (s5 n)⟩
def c61(a:Expr):A3 Int:=(s5 FU).f_pensionref5_Depth a
structure Ring_pensionref5_Size where f_pensionref5_Size:Expr->Option Int
def b6r(R:Ring_pensionref5_Size)(b:(Expr×Int×Int)->A3 Int)(a:Expr×Int×Int):A3 Int:=if(decide (a.2.2<(a.1.Args.length:Int)))then(c7 a.1.Args a.2.2).bind λd=>(R.f_pensionref5_Size d).bind λc=>b (a.1,i64 (a.2.1+c),i64 (a.2.2+1))else some a.2.1
def a94(R:Ring_pensionref5_Size)(a:Expr):A3 Int:=d9 FU (b6r R) (a,1,0)
def u7:Nat->Ring_pensionref5_Size|0=>⟨λ_=>none⟩|n+1=>⟨a94 (u7 n)⟩
def c76(a:Expr):A3 Int:=(u7 FU).f_pensionref5_Size a
structure Ring_pensionref5_formed where f_pensionref5_formed:Expr->Option Bool
def b4j(R:Ring_pensionref5_formed)(e:Bool)(d:(Expr×Int)->A3 Bool)(a:Expr×Int):A3 Bool:=if(decide (a.2<(a.1.Args.length:Int)))then(c7 a.1.Args a.2).bind λb=>(R.f_pensionref5_formed b).bind λc=>if(!c)then some false else d (a.1,i64 (a.2+1))else some e
def a6s(R:Ring_pensionref5_formed)(a:Expr):A3 Bool:=(a8e a.Op).bind λh=>if((a.Args.length:Int)!=h)then some false else(if((a.Value.Num==0)&&((a.Value.Den==0)&&(true)))then some (a.Dim==0)else some false).bind λl=>(if l then some (a.Name.toList==a3j.toList)else some false).bind λg=>if(a.Op==1)then(a1g a.Value a.Dim).bind λf=>(if f.2then some (a.Name.toList==a3j.toList)else some false).bind λk=>some k else if(a.Op==2)then(if((a.Value.Num==0)&&((a.Value.Den==0)&&(true)))then some (a.Dim==0)else some false).bind λj=>(if j then(a2e a.Name).bind λe=>some e else some false).bind λm=>some m else if(a.Op==3)then(if(a.Dim==0)then some (a.Name.toList==a3j.toList)else some false).bind λi=>(if i then some (a.Value.Den==1)else some false).bind λd=>(if d then some (decide (a.Value.Num>=1))else some false).bind λc=>(if c then some (decide (a.Value.Num<=45))else some false).bind λb=>some b else d9 FU (b4j R g) (a,0)
def p7:Nat->Ring_pensionref5_formed|0=>⟨λ_=>none⟩|n+1=>⟨a6s (p7 n)⟩
def c4h(a:Expr):A3 Bool:=(p7 FU).f_pensionref5_formed a
def a0g(a:Expr):A3 Bool:=(c61 a).bind λd=>(if(decide (d<=10))then(c76 a).bind λf=>some (decide (f<=60))else some false).bind λc=>(if c then(c4h a).bind λb=>some b else some false).bind λe=>some e
def a4x(f:(Version×Int)->A3 Bool)(a:Version×Int):A3 Bool:=if(decide (a.2<(a.1.Reduces.length:Int)))then(c7 a.1.Reduces a.2).bind λd=>(a3t d.Benefit 2).bind λb=>(if(b.toList==a3j.toList)then some true else(c7 a.1.Reduces a.2).bind λg=>(a0g g.By).bind λe=>some (!e)).bind λc=>if c then some false else f (a.1,i64 (a.2+1))else some true
def a4o(j:(Version×Int)->A3 Bool)(a:Version×Int):A3 Bool:=if(decide (a.2<(a.1.Grants.length:Int)))then(c7 a.1.Grants a.2).bind λe=>(a3t e.Benefit 2).bind λf=>(if(f.toList==a3j.toList)then some true else(c7 a.1.Grants a.2).bind λd=>(a0g d.If).bind λc=>some (!c)).bind λi=>(if i then some true else(c7 a.1.Grants a.2).bind λh=>(a0g h.Pay).bind λb=>some (!b)).bind λg=>if g then some false else j (a.1,i64 (a.2+1))else d9 FU a4x (a.1,0)
def a56(g:(Version×Int)->A3 Bool)(a:Version×Int):A3 Bool:=if(decide (a.2<(a.1.Lets.length:Int)))then(c7 a.1.Lets a.2).bind λb=>(a2e b.Name).bind λd=>(if(!d)then some true else(c7 a.1.Lets a.2).bind λf=>(a0g f.Body).bind λe=>some (!e)).bind λc=>if c then some false else g (a.1,i64 (a.2+1))else d9 FU a4o (a.1,0)
def a4z(i:(Version×Int)->A3 Bool)(a:Version×Int):A3 Bool:=if(decide (a.2<(a.1.Series.length:Int)))then(c7 a.1.Series a.2).bind λj=>(a1g j.Factor 2).bind λf=>(c7 a.1.Series a.2).bind λe=>(if(decide (e.Year<1900))then some true else(c7 a.1.Series a.2).bind λg=>some (decide (g.Year>2099))).bind λd=>(if d then some true else some (!f.2)).bind λb=>(if b then some true else(c7 a.1.Series a.2).bind λc=>some (decide (c.Factor.Num<1))).bind λh=>if h then some false else i (a.1,i64 (a.2+1))else d9 FU a56 (a.1,0)
def a4r(d:(Version×Int)->A3 Bool)(a:Version×Int):A3 Bool:=if(decide (a.2<(a.1.Credits.length:Int)))then(c7 a.1.Credits a.2).bind λc=>(a3t c.Kind 1).bind λb=>(if(b.toList==a3j.toList)then some true else(c7 a.1.Credits a.2).bind λh=>some (decide (h.Limit<0))).bind λf=>(if f then some true else(c7 a.1.Credits a.2).bind λe=>some (decide (e.Limit>73049))).bind λg=>if g then some false else d (a.1,i64 (a.2+1))else d9 FU a4z (a.1,0)
def a3n(a:Version):A3 Bool:=(a6n a.From).bind λe=>(if(!e)then some true else(a3c a.Rounding).bind λh=>some (!h)).bind λd=>(if d then some true else some (decide ((a.Credits.length:Int)>6))).bind λc=>(if c then some true else some (decide ((a.Series.length:Int)>20))).bind λg=>(if g then some true else some (decide ((a.Lets.length:Int)>10))).bind λf=>(if f then some true else some (decide ((a.Grants.length:Int)>5))).bind λb=>(if b then some true else some (decide ((a.Reduces.length:Int)>5))).bind λi=>if i then some false else d9 FU a4r (a,0)
def b5o(c:(Statute×Int)->A3 Bool)(a:Statute×Int):A3 Bool:=if(decide (a.2<(a.1.Versions.length:Int)))then(c7 a.1.Versions a.2).bind λb=>(a3n b).bind λd=>if(!d)then some false else c (a.1,i64 (a.2+1))else some true
def b00(a:Statute):A3 Bool:=(a2e a.Name).bind λd=>(if(!d)then some true else some (decide (a.Currency<1))).bind λf=>(if f then some true else some (decide (a.Currency>999))).bind λc=>(if c then some true else some (decide ((a.Versions.length:Int)<1))).bind λb=>(if b then some true else some (decide ((a.Versions.length:Int)>6))).bind λe=>if e then some false else d9 FU b5o (a,0)
def a6u(d:((O Version)×Statute×rQ×(O Version)×Statute×Bool)->A3 (Statute×Int×Int))(a:(O Version)×Statute×rQ×(O Version)×Statute):A3 (Statute×Int×Int):=(a2o a.2.2.1).bind λb=>(a4n 144 a.2.2.2.1 [b.1]).bind λc=>d (a.1,(⟨a.2.1.Name,a.2.1.Currency,[]⟩:Statute),b.2,c,(⟨a.2.2.2.2.Name,a.2.2.2.2.Currency,[]⟩:Statute),false)
def a6p(a:(O Version)×Statute×rQ×(O Version)×Statute):A3 (Statute×Int×Int):=(if a.2.2.1.bad then some true else some (decide (a.2.2.1.at_<(a.2.2.1.l.length:Int)))).bind λc=>if c then(a3s a.2.2.1).bind λb=>some ((⟨a3j,0,[]⟩:Statute),b,4)else(b00 (⟨a.2.2.2.2.Name,a.2.2.2.2.Currency,a.2.2.2.1⟩:Statute)).bind λd=>if(!d)then some ((⟨a3j,0,[]⟩:Statute),0,7)else some ((⟨a.2.2.2.2.Name,a.2.2.2.2.Currency,a.2.2.2.1⟩:Statute),0,0)
def b5m(c:((O Version)×Statute×rQ×(O Version)×Statute×Bool)->A3 (Statute×Int×Int))(a:(O Version)×Statute×rQ×(O Version)×Statute×Bool):A3 (Statute×Int×Int):=if(!a.2.2.1.bad)then if a.2.2.2.2.2then joinC (a6u c) (a.1,(⟨a.2.1.Name,a.2.1.Currency,[]⟩:Statute),a.2.2.1,a.2.2.2.1,(⟨a.2.2.2.2.1.Name,a.2.2.2.2.1.Currency,[]⟩:Statute))else(d7 a.2.2.1 d0a).bind λb=>if(!b.1)then joinC (a6u c) (a.1,(⟨a.2.1.Name,a.2.1.Currency,[]⟩:Statute),b.2,a.2.2.2.1,(⟨a.2.2.2.2.1.Name,a.2.2.2.2.1.Currency,[]⟩:Statute))else joinC a6p (a.1,(⟨a.2.1.Name,a.2.1.Currency,[]⟩:Statute),b.2,a.2.2.2.1,(⟨a.2.2.2.2.1.Name,a.2.2.2.2.1.Currency,[]⟩:Statute))else joinC a6p (a.1,(⟨a.2.1.Name,a.2.1.Currency,[]⟩:Statute),a.2.2.1,a.2.2.2.1,(⟨a.2.2.2.2.1.Name,a.2.2.2.2.1.Currency,[]⟩:Statute))
def a9z(f:A4):A3 (Statute×Int×Int):=(b02 f).bind λa=>optC a.1 (if(a.2.2!=0)then some ((⟨a3j,0,[]⟩:Statute),a.2.1,a.2.2)else none) λh=>if(a.2.2!=0)then some ((⟨a3j,0,[]⟩:Statute),a.2.1,a.2.2)else(b9 h b76).bind λe=>(a0w e).bind λb=>(b9 b.2 b4x).bind λg=>(s7 g 1 999).bind λc=>(b9 c.2 e8b).bind λd=>d9 FU b5m ([],(⟨a3j,0,[]⟩:Statute),d,[],(⟨b.1,c.1,[]⟩:Statute),true)
def b71(f:O Int)(h:((O State)×(O Rules)×(O Rate)×Laws×(O State)×(O Rules)×Laws×Int)->A3 Laws)(a:(O State)×(O Rules)×(O Rate)×Laws×(O State)×(O Rules)×Laws×Int):A3 Laws:=if(decide (a.2.2.2.2.2.2.2<3))then(b10 a.2.2.2.2.2.2.2 f).bind λk=>(a9z k).bind λi=>if(i.2.2==0)then(a4n 56 a.2.2.2.2.1 [(⟨a.2.2.2.2.2.2.2,i.1⟩:State)]).bind λm=>h (a.1,a.2.1,a.2.2.1,(⟨[],[],[]⟩:Laws),m,a.2.2.2.2.2.1,(⟨[],[],a.2.2.2.2.2.2.1.Rates⟩:Laws),i64 (a.2.2.2.2.2.2.2+1))else h (a.1,a.2.1,a.2.2.1,(⟨[],[],[]⟩:Laws),a.2.2.2.2.1,a.2.2.2.2.2.1,(⟨[],[],a.2.2.2.2.2.2.1.Rates⟩:Laws),i64 (a.2.2.2.2.2.2.2+1))else(c5 f 2).bind λl=>(b7 l 6).bind λb=>(c5 f 5).bind λo=>(b7 o 3).bind λj=>if(j==0)then(c7 [(⟨0,i64 (90*b),730,25,[0,1]⟩:Rules)] 0).bind λn=>(c7 [(⟨0,i64 (90*b),730,25,[0,1]⟩:Rules)] 0).bind λc=>some (⟨a.2.2.2.2.1,a8h [(⟨0,i64 (90*b),730,25,[0,1]⟩:Rules)] 0 (⟨c.From,c.MinDays,c.PostingLimit,c.Substantial,[0,1,2]⟩:Rules),a.2.2.2.2.2.2.1.Rates⟩:Laws)else if(j==1)then(a4n 56 [(⟨0,i64 (90*b),730,25,[0,1]⟩:Rules)] [(⟨35000,i64 (90*b),365,30,[0,1,2]⟩:Rules)]).bind λe=>some (⟨a.2.2.2.2.1,e,a.2.2.2.2.2.2.1.Rates⟩:Laws)else(c7 [(⟨0,i64 (90*b),730,25,[0,1]⟩:Rules)] 0).bind λp=>(c7 [(⟨0,i64 (90*b),730,25,[0,1]⟩:Rules)] 0).bind λd=>(a4n 56 (a8h [(⟨0,i64 (90*b),730,25,[0,1]⟩:Rules)] 0 (⟨d.From,d.MinDays,d.PostingLimit,d.Substantial,[0,1,2]⟩:Rules)) [(⟨36000,i64 (90*b),730,25,[0,1]⟩:Rules)]).bind λg=>some (⟨a.2.2.2.2.1,g,a.2.2.2.2.2.2.1.Rates⟩:Laws)
def b11(a:O Int):A3 Laws:=d9 FU (b71 a) ([],[],[],(⟨[],[],[]⟩:Laws),[],[],(⟨[],[],[(⟨1,0,(⟨1,1⟩:fQ)⟩:Rate),(⟨2,0,(⟨3,2⟩:fQ)⟩:Rate),(⟨3,0,(⟨1,7⟩:fQ)⟩:Rate),(⟨3,1150,(⟨1,9⟩:fQ)⟩:Rate)]⟩:Laws),0)
def a40(b a:Int):A3 Int:=if(decide (a<1))then some 0 else(b8t b a).bind λd=>(b8t (i64 (d+a)) a).bind λc=>some c
def b3p(h:O Int)(n:Int):A3 Laws:=(b11 h).bind λa=>(a40 n 24).bind λd=>if(d==0)then(a1x a.States 1 (a.States.length:Int)).bind λf=>some (⟨f,a.Treaty,a.Rates⟩:Laws)else if(d==1)then(c7 a.States 0).bind λq=>none else if(d==2)then some (⟨a.States,[],a.Rates⟩:Laws)else if(d==3)then(a4n 32 [] a.Rates).bind λk=>(c7 a.Rates 0).bind λj=>(a4n 32 k [j]).bind λe=>some (⟨a.States,a.Treaty,e⟩:Laws)else if(d==4)then(a1x a.Rates 0 2).bind λm=>some (⟨a.States,a.Treaty,m⟩:Laws)else if(d==5)then(c7 a.States 0).bind λg=>(a4n 144 [] g.Statute.Versions).bind λc=>(c7 c 0).bind λi=>(c7 c 0).bind λb=>(a1x (a8h c 0 (⟨36000,b.Rounding,b.Credits,b.Series,b.Lets,b.Grants,b.Reduces⟩:Version)) 0 1).bind λp=>(c7 a.States 0).bind λo=>none else if(d==6)then(c7 a.States 1).bind λl=>none else some a
def b5f(a:Int):A3 Int:=(b8t a 16).bind λb=>if(b==0)then some a else(a40 a 9000).bind λc=>some (i64 (33000+c))
def a97(a:Int):A3 Int:=(b7 a 4).bind λb=>if(b==0)then(c2t a 4).bind λi=>(b7 i 9000).bind λe=>some (i64 (1+e))else if(b==1)then(c2t a 4).bind λd=>(b7 d 1200).bind λh=>some (i64 (1+h))else if(b==2)then(c2t a 4).bind λg=>(b7 g 120).bind λc=>some (i64 (1+c))else(c2t a 4).bind λj=>(b7 j 12).bind λf=>some (i64 (1+f))
def u4(a:Int):A3 A4:=(if(decide (a<1))then some true else some (decide (a>=([a3j,b1y,a6w,a6w,c0p,a9l,b82,a9l,a9l,a9l,c1r,c0e,c0e,c0e,c6f].length:Int)))).bind λc=>if c then some a3j else(c7 [a3j,b1y,a6w,a6w,c0p,a9l,b82,a9l,a9l,a9l,c1r,c0e,c0e,c0e,c6f] a).bind λd=>(c7 [a3j,b1y,a6w,a6w,c0p,a9l,b82,a9l,a9l,a9l,c1r,c0e,c0e,c0e,c6f] a).bind λb=>some b
def b6j(d:A4)(o:tN×aQ×aQ×Int×Int)(b:(tN×aQ×aQ×Int)->A3 aQ)(a:tN×aQ×aQ×Int):A3 aQ:=if(decide (a.2.2.2<(d.size:Int)))then(b3c d a.2.2.2).bind λc=>if(c==83)then(b7 a.1.State 3).bind λi=>b (a.1,a.2.1,(⟨a.2.2.1.Issuer,a.2.2.1.Number,a.2.2.1.Version,a.2.2.1.Withdrawn,a.2.2.1.Person,a.2.2.1.Kind,i,a.2.2.1.Span,a.2.2.1.Seat,a.2.2.1.Share,a.2.2.1.Currency,a.2.2.1.Amount,a.2.2.1.Ref⟩:aQ),i64 (a.2.2.2+1))else if(c==80)then b (a.1,a.2.1,(⟨a.2.2.1.Issuer,a.2.2.1.Number,a.2.2.1.Version,a.2.2.1.Withdrawn,a.2.2.1.Person,a.2.2.1.Kind,a.2.2.1.State,(⟨o.2.2.2.1,o.2.2.2.2⟩:Span),a.2.2.1.Seat,a.2.2.1.Share,a.2.2.1.Currency,a.2.2.1.Amount,a.2.2.1.Ref⟩:aQ),i64 (a.2.2.2+1))else if(c==84)then(b7 a.1.Seat 3).bind λe=>(if(a.2.2.1.Kind==4)then some (e==a.2.2.1.State)else some false).bind λj=>if j then(b7 (i64 (a.2.2.1.State+1)) 3).bind λl=>b (a.1,a.2.1,(⟨a.2.2.1.Issuer,a.2.2.1.Number,a.2.2.1.Version,a.2.2.1.Withdrawn,a.2.2.1.Person,a.2.2.1.Kind,a.2.2.1.State,a.2.2.1.Span,l,a.2.2.1.Share,a.2.2.1.Currency,a.2.2.1.Amount,a.2.2.1.Ref⟩:aQ),i64 (a.2.2.2+1))else b (a.1,a.2.1,(⟨a.2.2.1.Issuer,a.2.2.1.Number,a.2.2.1.Version,a.2.2.1.Withdrawn,a.2.2.1.Person,a.2.2.1.Kind,a.2.2.1.State,a.2.2.1.Span,e,a.2.2.1.Share,a.2.2.1.Currency,a.2.2.1.Amount,a.2.2.1.Ref⟩:aQ),i64 (a.2.2.2+1))else if(c==72)then(b7 a.1.Share 100).bind λg=>b (a.1,a.2.1,(⟨a.2.2.1.Issuer,a.2.2.1.Number,a.2.2.1.Version,a.2.2.1.Withdrawn,a.2.2.1.Person,a.2.2.1.Kind,a.2.2.1.State,a.2.2.1.Span,a.2.2.1.Seat,i64 (1+g),a.2.2.1.Currency,a.2.2.1.Amount,a.2.2.1.Ref⟩:aQ),i64 (a.2.2.2+1))else if(c==67)then(b8t a.1.State 3).bind λn=>(b7 (i64 (a.1.Seat+n)) 3).bind λk=>b (a.1,a.2.1,(⟨a.2.2.1.Issuer,a.2.2.1.Number,a.2.2.1.Version,a.2.2.1.Withdrawn,a.2.2.1.Person,a.2.2.1.Kind,a.2.2.1.State,a.2.2.1.Span,a.2.2.1.Seat,a.2.2.1.Share,i64 (1+k),a.2.2.1.Amount,a.2.2.1.Ref⟩:aQ),i64 (a.2.2.2+1))else if(c==65)then(b7 a.1.Amount 3000000).bind λh=>b (a.1,a.2.1,(⟨a.2.2.1.Issuer,a.2.2.1.Number,a.2.2.1.Version,a.2.2.1.Withdrawn,a.2.2.1.Person,a.2.2.1.Kind,a.2.2.1.State,a.2.2.1.Span,a.2.2.1.Seat,a.2.2.1.Share,a.2.2.1.Currency,h,a.2.2.1.Ref⟩:aQ),i64 (a.2.2.2+1))else(b7 a.1.Ref 4).bind λf=>if((i64 (1+f))==a.2.2.1.Person)then(b7 a.2.2.1.Person 4).bind λm=>b (a.1,a.2.1,(⟨a.2.2.1.Issuer,a.2.2.1.Number,a.2.2.1.Version,a.2.2.1.Withdrawn,a.2.2.1.Person,a.2.2.1.Kind,a.2.2.1.State,a.2.2.1.Span,a.2.2.1.Seat,a.2.2.1.Share,a.2.2.1.Currency,a.2.2.1.Amount,i64 (1+m)⟩:aQ),i64 (a.2.2.2+1))else b (a.1,a.2.1,(⟨a.2.2.1.Issuer,a.2.2.1.Number,a.2.2.1.Version,a.2.2.1.Withdrawn,a.2.2.1.Person,a.2.2.1.Kind,a.2.2.1.State,a.2.2.1.Span,a.2.2.1.Seat,a.2.2.1.Share,a.2.2.1.Currency,a.2.2.1.Amount,i64 (1+f)⟩:aQ),i64 (a.2.2.2+1))else some a.2.2.1
def a31(a:tN×aQ×aQ×Int×Int):A3 aQ:=(u4 a.2.2.1.Kind).bind λb=>d9 FU (b6j b a) (a.1,a.2.1,a.2.2.1,0)
def b1b(a:tN):A3 aQ:=(b7 a.Issuer 3).bind λg=>(b7 a.Number 20).bind λh=>(b7 a.Version 3).bind λf=>(b7 a.Person 4).bind λe=>(b7 a.Kind 14).bind λb=>(b7 a.From 16000).bind λj=>(a97 a.Length).bind λl=>if((i64 (1+b))==11)then(b7 a.From 5000).bind λk=>joinC a31 (a,(⟨0,0,0,false,0,0,0,(⟨0,0⟩:Span),0,0,0,0,0⟩:aQ),(⟨g,i64 (1+h),i64 (1+f),a.Withdrawn,i64 (1+e),i64 (1+b),0,(⟨0,0⟩:Span),0,0,0,0,0⟩:aQ),i64 (12000+k),i64 ((i64 (12000+k))+1))else if((i64 (1+b))==12)then(b7 a.From 6000).bind λc=>joinC a31 (a,(⟨0,0,0,false,0,0,0,(⟨0,0⟩:Span),0,0,0,0,0⟩:aQ),(⟨g,i64 (1+h),i64 (1+f),a.Withdrawn,i64 (1+e),i64 (1+b),0,(⟨0,0⟩:Span),0,0,0,0,0⟩:aQ),i64 (34000+c),i64 ((i64 (34000+c))+1))else if((i64 (1+b))==8)then(b7 a.From 4000).bind λd=>(b7 a.Length 700).bind λi=>joinC a31 (a,(⟨0,0,0,false,0,0,0,(⟨0,0⟩:Span),0,0,0,0,0⟩:aQ),(⟨g,i64 (1+h),i64 (1+f),a.Withdrawn,i64 (1+e),i64 (1+b),0,(⟨0,0⟩:Span),0,0,0,0,0⟩:aQ),i64 (34000+d),i64 ((i64 ((i64 (34000+d))+1))+i))else joinC a31 (a,(⟨0,0,0,false,0,0,0,(⟨0,0⟩:Span),0,0,0,0,0⟩:aQ),(⟨g,i64 (1+h),i64 (1+f),a.Withdrawn,i64 (1+e),i64 (1+b),0,(⟨0,0⟩:Span),0,0,0,0,0⟩:aQ),i64 (21900+j),i64 ((i64 (21900+j))+l))
def b5v(b:O Int)(I:((O aQ)×Int)->A3 (O aQ))(a:(O aQ)×Int):A3 (O aQ):=if(decide (a.2<=2))then(c5 b a.2).bind λH=>(b7 H 3).bind λc=>(c5 b (i64 (a.2+2))).bind λL=>(b7 L 3).bind λe=>(c5 b (i64 (a.2+4))).bind λJ=>(b7 J 6000).bind λG=>(c5 b (i64 (a.2+6))).bind λK=>(b7 K 3000).bind λd=>(a4n 112 a.1 [(⟨c,i64 (900+a.2),1,false,a.2,11,0,(⟨i64 (13000+d),i64 ((i64 (13000+d))+1)⟩:Span),0,0,0,0,0⟩:aQ)]).bind λk=>(a4n 112 k [(⟨c,i64 (910+a.2),1,false,a.2,5,c,(⟨20000,60000⟩:Span),0,0,0,0,0⟩:aQ)]).bind λr=>(c5 b (i64 (a.2+8))).bind λx=>(b7 x 900000).bind λv=>(a4n 112 r [(⟨c,i64 (920+a.2),1,false,a.2,1,c,(⟨22000,i64 (27000+G)⟩:Span),c,100,i64 (1+c),i64 (900000+v),0⟩:aQ)]).bind λn=>(c5 b (i64 (a.2+10))).bind λE=>(b7 E 3000).bind λw=>(c5 b (i64 (a.2+12))).bind λf=>(b7 f 900000).bind λy=>(a4n 112 n [(⟨e,i64 (930+a.2),1,false,a.2,1,e,(⟨i64 (27000+G),i64 (34400+w)⟩:Span),e,50,i64 (1+e),i64 (700000+y),0⟩:aQ)]).bind λp=>(a4n 112 p [(⟨c,i64 (940+a.2),1,false,a.2,10,c,(⟨32000,38500⟩:Span),0,0,0,0,3⟩:aQ)]).bind λl=>(a4n 112 l [(⟨c,i64 (950+a.2),1,false,a.2,14,0,(⟨26000,50000⟩:Span),0,0,0,0,i64 (3-a.2)⟩:aQ)]).bind λC=>I (C,i64 (a.2+1))else(c5 b 15).bind λF=>(b7 F 2000).bind λh=>(c5 b 16).bind λB=>(b7 B 2000).bind λD=>(a4n 112 a.1 [(⟨0,961,1,false,1,13,0,(⟨i64 (34000+h),i64 (36500+D)⟩:Span),0,0,0,0,0⟩:aQ)]).bind λq=>(c5 b 17).bind λs=>(b7 s 900).bind λz=>(c5 b 17).bind λA=>(b7 A 900).bind λu=>(a4n 112 q [(⟨1,962,1,false,2,12,0,(⟨i64 (35600+z),i64 (35601+u)⟩:Span),0,0,0,0,0⟩:aQ)]).bind λt=>(c5 b 18).bind λg=>(b7 g 1200).bind λm=>(c5 b 19).bind λo=>(b7 o 300).bind λi=>(a4n 112 t [(⟨0,963,1,false,1,8,0,(⟨i64 (35000+m),i64 (36250+i)⟩:Span),0,0,0,0,0⟩:aQ)]).bind λj=>some j
def b04(a:O Int):A3 (O aQ):=d9 FU (b5v a) ([],1)
def b29(b:O aQ)(g:Int)(c:((O aQ)×Int)->A3 (O aQ))(a:(O aQ)×Int):A3 (O aQ):=if(decide (a.2<(b.length:Int)))then(c7 b a.2).bind λe=>if(e.Person==g)then(c7 b a.2).bind λd=>(a4n 112 a.1 [d]).bind λf=>c (f,i64 (a.2+1))else c (a.1,i64 (a.2+1))else some a.1
def b2c(a:O aQ)(b:Int):A3 (O aQ):=d9 FU (b29 a b) ([],0)
def b7q(a:Int×Bool):A3 A4:=if a.2then some c0e else if(a.1==14)then some c6f else some a3j
def b4i(a:Int×Bool):A3 A4:=if a.2then some a9l else if(a.1==6)then some b82 else if(a.1==10)then some c1r else if(a.1==11)then joinC b7q (a.1,a.1==11)else if(a.1==12)then joinC b7q (a.1,a.1==12)else joinC b7q (a.1,a.1==13)
def c0m(a:Int×Bool):A3 A4:=if a.2then some a6w else if(a.1==4)then some c0p else if(a.1==5)then joinC b4i (a.1,a.1==5)else if(a.1==7)then joinC b4i (a.1,a.1==7)else if(a.1==8)then joinC b4i (a.1,a.1==8)else joinC b4i (a.1,a.1==9)
def b2r(a:Int):A3 A4:=if(a==1)then some b1y else if(a==2)then joinC c0m (a,a==2)else joinC c0m (a,a==3)
def a9d(a:A4)(b:Int):A3 Int:=(a7v a b).bind λc=>some c
def b61(d:Int×Int)(b:(Int×Int×Int)->A3 (Int×Int))(a:Int×Int×Int):A3 (Int×Int):=if(decide (a.2.2>0))then if((d5y .i64 a.2.2 1)!=0)then(d0l .i64 a.2.2 1).bind λe=>b (IntKind.u32.wrap (a.1*a.2.1),IntKind.u32.wrap (a.2.1*a.2.1),e)else(d0l .i64 a.2.2 1).bind λc=>b (a.1,IntKind.u32.wrap (a.2.1*a.2.1),c)else some (d.1,a.1)
def b5w(b:A4)(c:(Int×Int)->A3 (Int×Int))(a:Int×Int):A3 (Int×Int):=if(decide (a.2<(b.size:Int)))then(b3c b a.2).bind λd=>c (IntKind.u32.wrap ((IntKind.u32.wrap (a.1*16777619))+(IntKind.u32.wrap (d))),i64 (a.2+1))else d9 FU (b61 a) (1,16777619,(b.size:Int))
def b0t(a:A4):A3 (Int×Int):=d9 FU (b5w a) (0,0)
def b1o(c d:A4)(f:Int×Int)(i:(Int×Int)->A3 Int)(a:Int×Int):A3 Int:=if(decide (a.2<(c.size:Int)))then(b3c c a.2).bind λh=>(b3c c (i64 (a.2-(d.size:Int)))).bind λb=>(if((IntKind.u32.wrap ((IntKind.u32.wrap ((IntKind.u32.wrap (a.1*16777619))+(IntKind.u32.wrap (h))))-(IntKind.u32.wrap (f.2*(IntKind.u32.wrap (b))))))==f.1)then(c3u c (i64 ((i64 (a.2+1))-(d.size:Int))) (i64 (a.2+1))).bind λg=>some (g.toList==d.toList)else some false).bind λe=>if e then some (i64 ((i64 (a.2+1))-(d.size:Int)))else i (IntKind.u32.wrap ((IntKind.u32.wrap ((IntKind.u32.wrap (a.1*16777619))+(IntKind.u32.wrap (h))))-(IntKind.u32.wrap (f.2*(IntKind.u32.wrap (b))))),i64 (a.2+1))else some (-1:Int)
def b1f(b c:A4)(d:Int×Int)(h:(Int×Int)->A3 Int)(a:Int×Int):A3 Int:=if(decide (a.2<(b.size:Int)))then(b3c c a.2).bind λe=>h (IntKind.u32.wrap ((IntKind.u32.wrap (a.1*16777619))+(IntKind.u32.wrap (e))),i64 (a.2+1))else(if(a.1==d.1)then(c3u c 0 (b.size:Int)).bind λg=>some (g.toList==b.toList)else some false).bind λf=>if f then some 0 else d9 FU (b1o c b d) (a.1,(b.size:Int))
def b36(b a:A4):A3 Int:=(b0t a).bind λc=>d9 FU (b1f a b c) (0,0)
def a6y(b a:A4):A3 Int:=(if((a.size:Int)==0)then some true else some (a.toList==b.toList)).bind λd=>if d then some 0 else if((a.size:Int)==1)then(b3c a 0).bind λe=>(a9d b e).bind λc=>some c else if(decide ((a.size:Int)>=(b.size:Int)))then some (-1:Int)else none
def c3y(a b:A4):A3 Int:=(a6y a b).bind λc=>some c
def c0c(a b:A4):A3 Bool:=(c3y a b).bind λc=>some (decide (c>=0))
def p9(a b:A4):A3 Bool:=(c0c b a).bind λc=>some c
def a9w(a c b:Int):A3 Bool:=(if(decide (a>=c))then some (decide (a<=b))else some false).bind λd=>some d
def b0d(a:Bool)(b f g:Int):A3 Bool:=(if a then(a9w b f g).bind λd=>some d else some false).bind λh=>(if h then some true else(if(!a)then some (b==0)else some false).bind λe=>some e).bind λc=>some c
def b8g(a:Span):A3 Bool:=(if(decide (a.From>=0))then some (decide (a.From<a.To))else some false).bind λb=>(if b then some (decide (a.To<=73049))else some false).bind λc=>some c
def b9v(a:aQ×Bool):A3 Bool:=if a.2then some (a.1.Ref !=a.1.Person)else some true
def b9u(a:aQ×Int×Bool):A3 Bool:=if a.2.2then some (a.1.Span.To==(i64 (a.1.Span.From+1)))else if(a.2.1==10)then joinC b9v (a.1,a.2.1==10)else joinC b9v (a.1,a.2.1==14)
def b3k(a:aQ):A3 Bool:=(b2r a.Kind).bind λb=>(if(b.toList==a3j.toList)then some true else(a9w a.Issuer 0 5).bind λv=>some (!v)).bind λu=>(if u then some true else(a9w a.Number 1 999).bind λx=>some (!x)).bind λB=>(if B then some true else(a9w a.Version 1 99).bind λA=>some (!A)).bind λy=>(if y then some true else(a9w a.Person 1 99).bind λw=>some (!w)).bind λz=>if z then some false else(p9 g49 b).bind λg=>(b0d g a.State 0 5).bind λe=>(if(!e)then some true else(p9 g4j b).bind λk=>(b0d k a.Seat 0 5).bind λo=>some (!o)).bind λm=>(if m then some true else(b8g a.Span).bind λh=>some (!h)).bind λs=>if s then some false else(p9 g3v b).bind λl=>(b0d l a.Share 1 100).bind λc=>(if(!c)then some true else(p9 g50 b).bind λn=>(b0d n a.Currency 1 999).bind λi=>some (!i)).bind λf=>(if f then some true else(p9 g4u b).bind λq=>(b0d q a.Amount 0 1000000000).bind λt=>some (!t)).bind λd=>(if d then some true else(p9 g5k b).bind λp=>(b0d p a.Ref 1 99).bind λr=>some (!r)).bind λj=>if j then some false else if(a.Kind==4)then some (a.State !=a.Seat)else if(a.Kind==11)then joinC b9u (a,a.Kind,a.Kind==11)else joinC b9u (a,a.Kind,a.Kind==12)
def b1d(a:Int):A3 Bool:=some (a !=a)
def a2c(a b:Int):A3 Int:=(b1d a).bind λd=>(b1d b).bind λc=>if d then if c then some 0 else some (-1:Int)else if c then some 1 else if(decide (a<b))then some (-1:Int)else if(decide (a>b))then some 1 else some 0
def b58(b:O Int)(d:Int->A3 Int)(a:Int):A3 Int:=if(decide (a<(b.length:Int)))then(c7 b a).bind λc=>if(c !=0)then some c else d (i64 (a+1))else some 0
def b67(a:O Int):A3 Int:=d9 FU (b58 a) 0
def i4q(a b:aQ):A3 Int:=(a2c a.Issuer b.Issuer).bind λd=>(a2c a.Number b.Number).bind λe=>(b67 [d,e]).bind λc=>some c
def i4n(e:Int)(b:((O Int)×Int)->A3 (O Int))(f:(O Int)×Int)(d:((O Int)×Int)->A3 (O Int))(a:(O Int)×Int):A3 (O Int):=if(decide (a.2>=0))then(d0l .i64 e (i64 (8*a.2))).bind λg=>(a4n 1 a.1 [IntKind.u8.wrap (g)]).bind λc=>d (c,i64 (a.2-1))else b (a.1,i64 (f.2+1))
def i4c(b:O Int)(e:Int)(c:((O Int)×Int)->A3 (O Int))(a:(O Int)×Int):A3 (O Int):=if(decide (a.2<(b.length:Int)))then(c7 b a.2).bind λd=>d9 FU (i4n d c a) (a.1,i64 (e-1))else some a.1
def i3x(a:O Int)(c:Int)(b:O Int):A3 (O Int):=d9 FU (i4c b c) (a,0)
def i57(c:(aQ×(O Int)×(A4×Int))->A3 (O Int))(a:aQ×(O Int)×(A4×Int)):A3 (O Int):=optC (e6l a.2.2.1 a.2.2.2) (some a.2.1) λk=>(k).bind λb=>if(b==83)then(i3x a.2.1 1 [a.1.State]).bind λe=>c (a.1,e,(a.2.2.1,a.2.2.2+1))else if(b==80)then(i3x a.2.1 3 [a.1.Span.From,a.1.Span.To]).bind λd=>c (a.1,d,(a.2.2.1,a.2.2.2+1))else if(b==84)then(i3x a.2.1 1 [a.1.Seat]).bind λj=>c (a.1,j,(a.2.2.1,a.2.2.2+1))else if(b==72)then(i3x a.2.1 1 [a.1.Share]).bind λf=>c (a.1,f,(a.2.2.1,a.2.2.2+1))else if(b==67)then(i3x a.2.1 2 [a.1.Currency]).bind λg=>c (a.1,g,(a.2.2.1,a.2.2.2+1))else if(b==65)then(i3x a.2.1 4 [a.1.Amount]).bind λi=>c (a.1,i,(a.2.2.1,a.2.2.2+1))else if(b==82)then(i3x a.2.1 1 [a.1.Ref]).bind λh=>c (a.1,h,(a.2.2.1,a.2.2.2+1))else c (a.1,a.2.1,(a.2.2.1,a.2.2.2+1))
def i56(a:aQ×Int):A3 (O Int):=(i3x [] 1 [a.1.Issuer]).bind λc=>(i3x c 2 [a.1.Number]).bind λb=>(i3x b 1 [a.1.Version,a.2,a.1.Person,a.1.Kind]).bind λe=>(b2r a.1.Kind).bind λd=>d9 FU i57 (a.1,e,(d,0))
def i5l(a:aQ):A3 (O Int):=(b3k a).bind λb=>if(!b)then some []else if a.Withdrawn then joinC i56 (a,1)else joinC i56 (a,0)
def i5n(a b:O Int):A3 Int:=(i59 a b).bind λc=>some c
def i6i(a b:aQ):A3 Bool:=(b3k a).bind λe=>(if(!e)then some true else(b3k b).bind λh=>some (!h)).bind λd=>if d then some false else(i5l a).bind λc=>(i5l b).bind λg=>(i5n c g).bind λf=>some (decide (f<0))
def i52(a b:aQ):A3 aQ:=(i6i a b).bind λc=>if c then some b else some a
def i3w(l:((O aQ)×(O aQ)×(O aQ))->A3 (O aQ))(a:(O aQ)×(O aQ)×(O aQ)):A3 (O aQ):=(if(decide ((a.1.length:Int)>0))then some (decide ((a.2.1.length:Int)>0))else some false).bind λo=>if o then(c7 a.1 0).bind λq=>(c7 a.2.1 0).bind λt=>(i4q q t).bind λn=>if(decide (n<0))then(c7 a.1 0).bind λr=>(a4n 112 a.2.2 [r]).bind λp=>(a1x a.1 1 (a.1.length:Int)).bind λs=>l (s,a.2.1,p)else if(decide (n>0))then(c7 a.2.1 0).bind λd=>(a4n 112 a.2.2 [d]).bind λc=>(a1x a.2.1 1 (a.2.1.length:Int)).bind λg=>l (a.1,g,c)else(c7 a.1 0).bind λk=>(c7 a.2.1 0).bind λi=>(i52 k i).bind λe=>(a4n 112 a.2.2 [e]).bind λm=>(a1x a.1 1 (a.1.length:Int)).bind λh=>(a1x a.2.1 1 (a.2.1.length:Int)).bind λb=>l (h,b,m)else(a4n 112 a.2.2 a.1).bind λj=>(a4n 112 j a.2.1).bind λf=>some f
def i3v(a b:O aQ):A3 (O aQ):=d9 FU i3w (a,b,[])
def i4f(d:O aQ)(b:((O aQ)×Int)->A3 (O aQ))(a:(O aQ)×Int):A3 (O aQ):=if(decide (a.2<(d.length:Int)))then(c7 d a.2).bind λc=>(b3k c).bind λe=>if e then(i3v a.1 [c]).bind λf=>b (f,i64 (a.2+1))else b (a.1,i64 (a.2+1))else some a.1
def i4i(a:O aQ):A3 (O aQ):=d9 FU (i4f a) ([],0)
def i4d(c d:O aQ):A3 (O aQ):=(i4i c).bind λb=>(i4i d).bind λe=>(i3v b e).bind λa=>some a
def b6l(a:Int):A3 Bool:=(if(decide (a>=97))then some (decide (a<=122))else some false).bind λb=>some b
def b74(a:Int):A3 Bool:=(if(decide (a>=48))then some (decide (a<=57))else some false).bind λb=>some b
def c1b(a:Int):A3 Bool:=(b6l a).bind λd=>(if d then some true else(b74 a).bind λe=>some e).bind λc=>(if c then some true else some (a==95)).bind λb=>some b
def c1f(b:A4)(d:Int->A3 Bool)(a:Int):A3 Bool:=if(decide (a<(b.size:Int)))then(b3c b a).bind λc=>(c1b c).bind λe=>if(!e)then some false else d (i64 (a+1))else some true
def b7f(a:A4):A3 Bool:=(if(decide ((a.size:Int)<1))then some true else some (decide ((a.size:Int)>12))).bind λd=>(if d then some true else(b3c a 0).bind λe=>(b6l e).bind λc=>some (!c)).bind λb=>if b then some false else d9 FU (c1f a) 0
def b49(a:A4):A3 Bool:=if(a.toList==c9m.toList)then if(a.toList==c9m.toList)then some true else some false else if(a.toList==c51.toList)then if(a.toList==c51.toList)then some true else some false else if(a.toList==d69.toList)then if(a.toList==d69.toList)then some true else some false else if(a.toList==b91.toList)then if(a.toList==b91.toList)then some true else some false else if(a.toList==b4x.toList)then if(a.toList==b4x.toList)then some true else some false else if(a.toList==c53.toList)then if(a.toList==c53.toList)then some true else some false else if(a.toList==c1a.toList)then if(a.toList==c1a.toList)then some true else some false else if(a.toList==c4c.toList)then if(a.toList==c4c.toList)then some true else some false else if(a.toList==c10.toList)then if(a.toList==c10.toList)then some true else some false else if(a.toList==d0k.toList)then if(a.toList==d0k.toList)then some true else some false else if(a.toList==c1q.toList)then if(a.toList==c1q.toList)then some true else some false else if(a.toList==d07.toList)then if(a.toList==d07.toList)then some true else some false else if(a.toList==c1c.toList)then if(a.toList==c1c.toList)then some true else some false else if(a.toList==c98.toList)then if(a.toList==c98.toList)then some true else some false else if(a.toList==c8l.toList)then if(a.toList==c8l.toList)then some true else some false else if(a.toList==c92.toList)then if(a.toList==c92.toList)then some true else some false else if(a.toList==d8p.toList)then if(a.toList==d8p.toList)then some true else some false else if(a.toList==c60.toList)then if(a.toList==c60.toList)then some true else some false else if(a.toList==b94.toList)then if(a.toList==b94.toList)then some true else some false else if(a.toList==c14.toList)then if(a.toList==c14.toList)then some true else some false else if(a.toList==b76.toList)then if(a.toList==b76.toList)then some true else some false else if(a.toList==d3p.toList)then some true else some false
def b0e(a:A4):A3 Bool:=(b7f a).bind λd=>(if d then(b49 a).bind λc=>some (!c)else some false).bind λb=>some b
def m7(a:Int):A3 Bool:=(if(decide (a>=0))then some (decide (a<=73048))else some false).bind λb=>some b
def c0l:A3 (O syntax_entry):=some [(⟨d4s,1⟩:syntax_entry),(⟨f1e,2⟩:syntax_entry),(⟨d3b,3⟩:syntax_entry),(⟨d3z,4⟩:syntax_entry)]
def b3q(a:syntax_entry)(b:Int):A3 Bool:=some (a.number==b)
def a3y(c:O syntax_entry)(a:Int)(d:Int->A3 Int)(b:Int):A3 Int:=if(decide (b<(c.length:Int)))then(c7 c b).bind λf=>(b3q f a).bind λe=>if e then some b else d (i64 (b+1))else some (-1:Int)
def a0b(b:O syntax_entry)(a:Int):A3 Int:=d9 FU (a3y b a) 0
def a4u(a:O syntax_entry)(c:Int):A3 A4:=(a0b a c).bind λb=>if(decide (b<0))then some a3j else(c7 a b).bind λd=>some d.name
def c1i:A3 (O syntax_entry):=some [(⟨b0b,6⟩:syntax_entry),(⟨b3z,9⟩:syntax_entry),(⟨b87,7⟩:syntax_entry),(⟨d54,8⟩:syntax_entry),(⟨c97,10⟩:syntax_entry),(⟨c04,5⟩:syntax_entry)]
def b72(a c:A4):A3 (A4×A4×Bool):=(a6y a c).bind λb=>if(decide (b>=0))then(c3u a 0 b).bind λe=>(c3u a (i64 (b+(c.size:Int))) (a.size:Int)).bind λd=>some (e,d,true)else some (a,a3j,false)
def b9e(b c:A4):A3 (A4×A4×Bool):=(b72 b c).bind λa=>some (a.1,a.2.1,a.2.2)
def c0d(b:A4)(c:(Int×Int)->A3 (Int×Bool))(a:Int×Int):A3 (Int×Bool):=if(decide (a.2<(b.size:Int)))then(b3c b a.2).bind λe=>(b74 e).bind λd=>if(!d)then some (0,false)else(b3c b a.2).bind λf=>c (i64 ((i64 (10*a.1))+(i64 (IntKind.u8.wrap (f-48)))),i64 (a.2+1))else some (a.1,true)
def b2i(a:A4):A3 (Int×Bool):=d9 FU (c0d a) (0,0)
def b5e(b:Int)(e:(fQ×Int)->A3 (fQ×Int×Bool))(h:fQ×Int)(i:fQ->A3 (fQ×Int×Bool))(a:fQ):A3 (fQ×Int×Bool):=(b8t a.Num b).bind λj=>(if(j==0)then(b8t a.Den b).bind λc=>some (c==0)else some false).bind λg=>if g then(c2t a.Num b).bind λd=>(c2t a.Den b).bind λf=>i (⟨d,f⟩:fQ)else e (a,i64 (h.2+1))
def c09(c:fQ×Int×Int×Int)(d:(fQ×Int)->A3 (fQ×Int×Bool))(a:fQ×Int):A3 (fQ×Int×Bool):=if(decide (a.2<2))then(c7 (⟨[2,5],rfl⟩:Ar 2 Int).l a.2).bind λb=>d9 FU (b5e b d a) a.1else some (a.1,c.2.1,true)
def b5d(a:fQ×Int×Int×Int):A3 (fQ×Int×Bool):=d9 FU (c09 a) ((⟨i64 (a.2.2.1+a.2.2.2),a.1.Den⟩:fQ),0)
def c0b(e:A4×fQ×Int)(d:Int×Bool)(b:(fQ×Int×(A4×Int))->A3 (fQ×Int×Bool))(a:fQ×Int×(A4×Int)):A3 (fQ×Int×Bool):=optC (e6l a.2.2.1 a.2.2.2) (joinC b5d (a.1,e.2.2,a.2.1,d.1)) λc=>(c).bind λf=>b ((⟨a.1.Num,i64 (10*a.1.Den)⟩:fQ),i64 (10*a.2.1),(a.2.2.1,a.2.2.2+1))
def a5s(e:A4×fQ×Int):A3 (fQ×Int×Bool):=(b9e e.1 b1i).bind λa=>(if(decide ((a.1.size:Int)<1))then some true else some (decide ((a.1.size:Int)>9))).bind λk=>(if k then some true else(if(decide ((a.1.size:Int)>1))then(b3c a.1 0).bind λi=>some (i==48)else some false).bind λl=>some l).bind λj=>(if j then some true else(if a.2.2then(if(decide ((a.2.1.size:Int)<1))then some true else some (decide ((a.2.1.size:Int)>4))).bind λg=>some g else some false).bind λf=>some f).bind λd=>if d then some ((⟨0,0⟩:fQ),0,false)else(b2i a.1).bind λc=>(b2i a.2.1).bind λb=>(if(!c.2)then some true else some (!b.2)).bind λh=>if h then some ((⟨0,0⟩:fQ),0,false)else d9 FU (c0b e b) ((⟨e.2.1.Num,1⟩:fQ),c.1,(a.2.1,0))
def b69(a:A4):A3 (fQ×Int×Bool):=(if(decide ((a.size:Int)>0))then(b3c a (i64 ((a.size:Int)-1))).bind λf=>some (f==100)else some false).bind λg=>if g then(c3u a 0 (i64 ((a.size:Int)-1))).bind λe=>joinC a5s (e,(⟨0,0⟩:fQ),3)else(if(decide ((a.size:Int)>0))then(b3c a (i64 ((a.size:Int)-1))).bind λd=>some (d==109)else some false).bind λc=>if c then(c3u a 0 (i64 ((a.size:Int)-1))).bind λb=>joinC a5s (b,(⟨0,0⟩:fQ),4)else joinC a5s (a,(⟨0,0⟩:fQ),2)
def a5e(f:(fQ×A4×Int×Int)->A3 (A4×Bool))(a:Int×fQ×A4×Int×Int):A3 (A4×Bool):=if(a.2.2.2.2==4)then some (a3j,false)else(c2t (i64 (a.2.2.2.1*10)) a.2.1.Den).bind λc=>(strconv_Itoa c).bind λb=>(a7f a.2.2.1 b).bind λe=>(b8t (i64 (a.2.2.2.1*10)) a.2.1.Den).bind λd=>f (a.2.1,e,d,i64 (a.2.2.2.2+1))
def a2u(a:Int×fQ×A4):A3 (A4×Bool):=(b69 a.2.2).bind λb=>(if(!b.2.2)then some true else some (!((b.1.Num==a.2.1.Num)&&((b.1.Den==a.2.1.Den)&&(true))))).bind λc=>(if c then some true else some (b.2.1!=a.1)).bind λd=>if d then some (a3j,false)else some (a.2.2,true)
def b3h(b:Int)(e:(fQ×A4×Int×Int)->A3 (A4×Bool))(a:fQ×A4×Int×Int):A3 (A4×Bool):=if(decide (a.2.2.1>0))then if(a.2.2.2==0)then(a7f a.2.1 b1i).bind λf=>joinC (a5e e) (b,a.1,f,a.2.2.1,a.2.2.2)else joinC (a5e e) (b,a.1,a.2.1,a.2.2.1,a.2.2.2)else if(b==3)then(a7f a.2.1 e4t).bind λc=>joinC a2u (b,a.1,c)else if(b==4)then(a7f a.2.1 e6u).bind λd=>joinC a2u (b,a.1,d)else joinC a2u (b,a.1,a.2.1)
def a4y(a:fQ)(g:Int):A3 (A4×Bool):=(if(decide (a.Den<1))then some true else some (decide (a.Den>10000))).bind λd=>(if d then some true else some (decide (a.Num<0))).bind λh=>(if h then some true else some (decide (a.Num>1000000000000000))).bind λc=>if c then some (a3j,false)else(c2t a.Num a.Den).bind λb=>(strconv_Itoa b).bind λf=>(b8t a.Num a.Den).bind λe=>d9 FU (b3h g) (a,f,e,0)
def b59(a:Int):A3 Bool:=(if(decide (a>=1900))then some (decide (a<=2099))else some false).bind λb=>some b
def b07(a:Index):A3 Bool:=(a4y a.Factor 2).bind λd=>(if d.2then some (decide (a.Factor.Num>0))else some false).bind λe=>(if e then(b59 a.Year).bind λc=>some c else some false).bind λb=>some b
structure Ring_syntax_Depth where f_syntax_Depth:Expr->Option Int
def b6x(R:Ring_syntax_Depth)(b:Expr)(c:(Int×Int)->A3 Int)(a:Int×Int):A3 Int:=if(decide (a.2<(b.Args.length:Int)))then(c7 b.Args a.2).bind λe=>(R.f_syntax_Depth e).bind λd=>c (max a.1 d,i64 (a.2+1))else some (i64 (a.1+1))
def b86(R:Ring_syntax_Depth)(a:Expr):A3 Int:=d9 FU (b6x R a) (0,0)
def a0r:Nat->Ring_syntax_Depth|0=>⟨λ_=>none⟩|n+1=>⟨b86 (a0r n)⟩
def d57(a:Expr):A3 Int:=(a0r FU).f_syntax_Depth a
structure Ring_syntax_Size where f_syntax_Size:Expr->Option Int
def b8b(R:Ring_syntax_Size)(b:Expr)(c:(Int×Int)->A3 Int)(a:Int×Int):A3 Int:=if(decide (a.2<(b.Args.length:Int)))then(c7 b.Args a.2).bind λe=>(R.f_syntax_Size e).bind λd=>c (i64 (a.1+d),i64 (a.2+1))else some a.1
def b9x(R:Ring_syntax_Size)(a:Expr):A3 Int:=d9 FU (b8b R a) (1,0)
def a1j:Nat->Ring_syntax_Size|0=>⟨λ_=>none⟩|n+1=>⟨b9x (a1j n)⟩
def e0h(a:Expr):A3 Int:=(a1j FU).f_syntax_Size a
def b84(a:Int):A3 Int:=(if(a==1)then some true else some (a==2)).bind λd=>(if d then some true else some (a==3)).bind λf=>if f then some 0 else(if(a==4)then some true else some (a==5)).bind λc=>(if c then some true else some (a==6)).bind λb=>if b then some 1 else(if(decide (a>=7))then some (decide (a<=20))else some false).bind λe=>if e then some 2 else if(a==21)then some 3 else some (-1:Int)
def c05(a:Expr):A3 Bool:=(b84 a.Op).bind λh=>if((a.Args.length:Int)!=h)then some false else if(a.Op==1)then(a4y a.Value a.Dim).bind λl=>(if l.2then some (a.Name.toList==a3j.toList)else some false).bind λg=>some g else if(a.Op==2)then(b0e a.Name).bind λf=>(if f then some ((a.Value.Num==0)&&((a.Value.Den==0)&&(true)))else some false).bind λk=>(if k then some (a.Dim==0)else some false).bind λj=>some j else if(a.Op==3)then(if(a.Value.Den==1)then some (decide (a.Value.Num>=1))else some false).bind λe=>(if e then some (decide (a.Value.Num<=45))else some false).bind λm=>(if m then some (a.Dim==0)else some false).bind λi=>(if i then some (a.Name.toList==a3j.toList)else some false).bind λd=>some d else(if((a.Value.Num==0)&&((a.Value.Den==0)&&(true)))then some (a.Dim==0)else some false).bind λc=>(if c then some (a.Name.toList==a3j.toList)else some false).bind λb=>some b
structure Ring_syntax_form where
 f_syntax_form:Expr->Option Bool
 f_syntax_form_1:Expr->Option Bool
 f_slices_ContainsFunc_of_api_Expr:(List Expr)->Option Bool
 f_slices_IndexFunc_of_api_Expr:(List Expr)->Option Int
def b60(R:Ring_syntax_form)(a:Expr):A3 Bool:=(c05 a).bind λc=>(if c then(R.f_slices_ContainsFunc_of_api_Expr a.Args).bind λd=>some (!d)else some false).bind λb=>some b
def c0q(R:Ring_syntax_form)(a:Expr):A3 Bool:=(R.f_syntax_form a).bind λb=>some (!b)
def a0y(R:Ring_syntax_form)(a:O Expr):A3 Bool:=(R.f_slices_IndexFunc_of_api_Expr a).bind λb=>some (decide (b>=0))
def a6i(R:Ring_syntax_form)(b:O Expr)(c:Int->A3 Int)(a:Int):A3 Int:=if(decide (a<(b.length:Int)))then(c7 b a).bind λe=>(R.f_syntax_form_1 e).bind λd=>if d then some a else c (i64 (a+1))else some (-1:Int)
def a1m(R:Ring_syntax_form)(a:O Expr):A3 Int:=d9 FU (a6i R a) 0
def e6:Nat->Ring_syntax_form|0=>⟨λ_=>none,λ_=>none,λ_=>none,λ_=>none⟩|n+1=>⟨b60 (e6 n),c0q (e6 n),a0y (e6 n),a1m (e6 n)⟩
def d9s(a:Expr):A3 Bool:=(e6 FU).f_syntax_form a
def a1k(a:Expr):A3 Bool:=(d57 a).bind λd=>(if(decide (d<=10))then(e0h a).bind λf=>some (decide (f<=60))else some false).bind λc=>(if c then(d9s a).bind λb=>some b else some false).bind λe=>some e
def b2d:A3 (O syntax_entry):=some [(⟨d9m,1⟩:syntax_entry),(⟨b8e,2⟩:syntax_entry),(⟨c0u,3⟩:syntax_entry),(⟨c66,4⟩:syntax_entry),(⟨c0r,5⟩:syntax_entry)]
def a8y(b:Version)(f:Int->A3 Bool)(a:Int):A3 Bool:=if(decide (a<(b.Reduces.length:Int)))then(c7 b.Reduces a).bind λc=>(b2d).bind λd=>(a4u d c.Benefit).bind λg=>(if(g.toList==a3j.toList)then some true else(a1k c.By).bind λe=>some (!e)).bind λh=>if h then some false else f (i64 (a+1))else some true
def b3e(a:Version):A3 Bool:=d9 FU (a8y a) 0
def a8t(c:Version)(h:(Version×Int)->A3 Bool)(a:Version×Int):A3 Bool:=if(decide (a.2<(c.Grants.length:Int)))then(c7 c.Grants a.2).bind λb=>(b2d).bind λi=>(a4u i b.Benefit).bind λd=>(if(d.toList==a3j.toList)then some true else(a1k b.If).bind λg=>some (!g)).bind λj=>(if j then some true else(a1k b.Pay).bind λe=>some (!e)).bind λf=>if f then some false else h (a.1,i64 (a.2+1))else joinC b3e a.1
def b3b(a:Version):A3 Bool:=d9 FU (a8t a) (a,0)
def a8w(c:Version)(f:(Version×Int)->A3 Bool)(a:Version×Int):A3 Bool:=if(decide (a.2<(c.Lets.length:Int)))then(c7 c.Lets a.2).bind λb=>(b0e b.Name).bind λe=>(if(!e)then some true else(a1k b.Body).bind λg=>some (!g)).bind λd=>if d then some false else f (a.1,i64 (a.2+1))else joinC b3b a.1
def b3i(a:Version):A3 Bool:=d9 FU (a8w a) (a,0)
def a8v(b:Version)(d:(Version×Int)->A3 Bool)(a:Version×Int):A3 Bool:=if(decide (a.2<(b.Series.length:Int)))then(c7 b.Series a.2).bind λe=>(b07 e).bind λc=>if(!c)then some false else d (a.1,i64 (a.2+1))else joinC b3i a.1
def b39(a:Version):A3 Bool:=d9 FU (a8v a) (a,0)
def a8u(h:Version)(d:(Version×Int)->A3 Bool)(b:Version×Int):A3 Bool:=if(decide (b.2<(h.Credits.length:Int)))then(c7 h.Credits b.2).bind λa=>(c1i).bind λc=>(a4u c a.Kind).bind λg=>(if(g.toList==a3j.toList)then some true else some (decide (a.Limit<0))).bind λf=>(if f then some true else some (decide (a.Limit>73049))).bind λe=>if e then some false else d (b.1,i64 (b.2+1))else joinC b39 b.1
def a5f(a:Version):A3 Bool:=(if(decide ((a.Credits.length:Int)>6))then some true else some (decide ((a.Series.length:Int)>20))).bind λd=>(if d then some true else some (decide ((a.Lets.length:Int)>10))).bind λc=>(if c then some true else some (decide ((a.Grants.length:Int)>5))).bind λb=>(if b then some true else some (decide ((a.Reduces.length:Int)>5))).bind λe=>if e then some false else d9 FU (a8u a) (a,0)
def a7q(a:Version):A3 Bool:=(m7 a.From).bind λf=>if(!f)then(if true then some true else some (decide (a.Rounding.Unit<1))).bind λh=>(if h then some true else some (decide (a.Rounding.Unit>100000))).bind λg=>if g then some false else joinC a5f a else(c0l).bind λc=>(a4u c a.Rounding.Mode).bind λb=>(if(b.toList==a3j.toList)then some true else some (decide (a.Rounding.Unit<1))).bind λe=>(if e then some true else some (decide (a.Rounding.Unit>100000))).bind λd=>if d then some false else joinC a5f a
def b77(b:Statute)(c:Int->A3 Bool)(a:Int):A3 Bool:=if(decide (a<(b.Versions.length:Int)))then(c7 b.Versions a).bind λe=>(a7q e).bind λd=>if(!d)then some false else c (i64 (a+1))else some true
def b7h(a:Statute):A3 Bool:=(b0e a.Name).bind λd=>(if(!d)then some true else some (decide (a.Currency<1))).bind λf=>(if f then some true else some (decide (a.Currency>999))).bind λc=>(if c then some true else some (decide ((a.Versions.length:Int)<1))).bind λb=>(if b then some true else some (decide ((a.Versions.length:Int)>6))).bind λe=>if e then some false else d9 FU (b77 a) 0
def a21(a:A4×Bool):A3 (Int×Bool):=if a.2then some (3,true)else if(a.1.toList==e39.toList)then some (4,true)else some (0,false)
def a9q(a:A4×Bool):A3 (Int×Bool):=if a.2then some (2,true)else if(a.1.toList==b6u.toList)then joinC a21 (a.1,a.1.toList==b6u.toList)else if(a.1.toList==c5w.toList)then joinC a21 (a.1,a.1.toList==c5w.toList)else if(a.1.toList==b0b.toList)then joinC a21 (a.1,a.1.toList==b0b.toList)else if(a.1.toList==b3z.toList)then joinC a21 (a.1,a.1.toList==b3z.toList)else if(a.1.toList==c3c.toList)then joinC a21 (a.1,a.1.toList==c3c.toList)else if(a.1.toList==c3j.toList)then joinC a21 (a.1,a.1.toList==c3j.toList)else joinC a21 (a.1,a.1.toList==c6v.toList)
def b4n(a:A4):A3 (Int×Bool):=if(a.toList==e0r.toList)then joinC a9q (a,a.toList==e0r.toList)else if(a.toList==d3o.toList)then joinC a9q (a,a.toList==d3o.toList)else joinC a9q (a,a.toList==c6q.toList)
def b9o(a:A4):A3 Bool:=(a1k (⟨2,(⟨0,0⟩:fQ),0,a,[]⟩:Expr)).bind λb=>some b
def b9r(a:iQ)(b:Let):A3 Bool:=some (a.Name.toList==b.Name.toList)
def b42(a:iQ):A3 Bool:=(if(decide (a.Dim<1))then some true else some (decide (a.Dim>4))).bind λb=>some b
def c07(d:O iQ)(c:((A4×Int×Bool)×Int)->A3 (Int×Bool))(a:(A4×Int×Bool)×Int):A3 (Int×Bool):=if decide (a.2<0)then some (0,false)else(c7 d a.2).bind λb=>if(b.Name.toList==a.1.1.toList)then some ((a.1.1,b.Dim,true).2.1,(a.1.1,b.Dim,true).2.2)else c ((a.1.1,a.1.2.1,a.1.2.2),a.2-1)
def b6c(a:A4)(b:O iQ):A3 (Int×Bool):=(b4n a).bind λc=>if c.2then some (c.1,true)else d9 FU (c07 b) ((a,0,false),(b.length:Int)-1)
def b19(a:(O Int)×Int×Bool):A3 (Int×Bool):=if a.2.2then(c7 a.1 0).bind λh=>(if(h==1)then(c7 a.1 1).bind λg=>some (g==1)else some false).bind λb=>some (1,b)else if(a.2.1==21)then(c7 a.1 1).bind λf=>(c7 a.1 0).bind λi=>(if(i==1)then(c7 a.1 1).bind λd=>(c7 a.1 2).bind λe=>some (d==e)else some false).bind λc=>some (f,c)else some (0,false)
def a2l(a:(O Int)×Int×Bool):A3 (Int×Bool):=if a.2.2then(c7 a.1 0).bind λe=>(c7 a.1 1).bind λb=>(if(e==b)then(c7 a.1 0).bind λd=>some (d !=1)else some false).bind λc=>some (1,c)else if(a.2.1==17)then joinC b19 (a.1,a.2.1,a.2.1==17)else joinC b19 (a.1,a.2.1,a.2.1==18)
def a5q(a:(O Int)×Int×Bool):A3 (Int×Bool):=if a.2.2then(c7 a.1 0).bind λt=>(c7 a.1 0).bind λr=>(c7 a.1 1).bind λq=>(if(r==q)then(c7 a.1 0).bind λs=>some (s !=1)else some false).bind λf=>some (t,f)else if(a.2.1==9)then(c7 a.1 0).bind λd=>if(d==2)then(c7 a.1 1).bind λi=>(c7 a.1 1).bind λl=>some (i,l !=1)else(c7 a.1 0).bind λk=>(c7 a.1 1).bind λg=>(if(g==2)then(c7 a.1 0).bind λo=>some (o !=1)else some false).bind λj=>some (k,j)else if(a.2.1==10)then(c7 a.1 1).bind λb=>if(b==2)then(c7 a.1 0).bind λm=>(c7 a.1 0).bind λh=>some (m,h !=1)else(c7 a.1 0).bind λe=>(c7 a.1 1).bind λn=>(if(e==n)then(c7 a.1 0).bind λp=>some (p !=1)else some false).bind λc=>some (2,c)else if(a.2.1==11)then joinC a2l (a.1,a.2.1,a.2.1==11)else if(a.2.1==12)then joinC a2l (a.1,a.2.1,a.2.1==12)else if(a.2.1==13)then joinC a2l (a.1,a.2.1,a.2.1==13)else if(a.2.1==14)then joinC a2l (a.1,a.2.1,a.2.1==14)else if(a.2.1==15)then joinC a2l (a.1,a.2.1,a.2.1==15)else joinC a2l (a.1,a.2.1,a.2.1==16)
def b0y(a:(O Int)×Int×Bool):A3 (Int×Bool):=if a.2.2then(c7 a.1 0).bind λd=>(c7 a.1 0).bind λc=>some (d,c !=1)else if(a.2.1==5)then(c7 a.1 0).bind λb=>some (1,b==1)else if(a.2.1==7)then joinC a5q (a.1,a.2.1,a.2.1==7)else if(a.2.1==8)then joinC a5q (a.1,a.2.1,a.2.1==8)else if(a.2.1==19)then joinC a5q (a.1,a.2.1,a.2.1==19)else joinC a5q (a.1,a.2.1,a.2.1==20)
def b9i(a:Int)(b:O Int):A3 (Int×Bool):=if(a==4)then joinC b0y (b,a,a==4)else joinC b0y (b,a,a==6)
structure Ring_typing_infer where f_typing_infer:Expr->(List iQ)->Option (Int×Int)
def i4w(R:Ring_typing_infer)(d:Expr)(g:O iQ)(h:(Expr×(O Int)×Int)->A3 (Int×Int))(a:Expr×(O Int)×Int):A3 (Int×Int):=if(decide (a.2.2<(d.Args.length:Int)))then(c7 d.Args a.2.2).bind λe=>(R.f_typing_infer e g).bind λb=>if(b.2!=0)then some (0,b.2)else(a4n 8 a.2.1 [b.1]).bind λf=>h (a.1,f,i64 (a.2.2+1))else(b9i a.1.Op a.2.1).bind λc=>if(!c.2)then some (0,6)else some (c.1,0)
def b4g(R:Ring_typing_infer)(a:Expr)(b:O iQ):A3 (Int×Int):=if(a.Op==1)then some (a.Dim,0)else if(a.Op==3)then some (4,0)else if(a.Op==2)then(b6c a.Name b).bind λc=>if(!c.2)then some (0,5)else some (c.1,0)else d9 FU (i4w R a b) (a,[],0)
def a0v:Nat->Ring_typing_infer|0=>⟨λ_ _=>none⟩|n+1=>⟨b4g (a0v n)⟩
def d5q(a:Expr)(b:O iQ):A3 (Int×Int):=(a0v FU).f_typing_infer a b
def a50(b:O iQ)(c:Int->A3 Int)(a:Int):A3 Int:=if(decide (a<(b.length:Int)))then(c7 b a).bind λe=>(b42 e).bind λd=>if d then some a else c (i64 (a+1))else some (-1:Int)
def a19(a:O iQ):A3 Int:=d9 FU (a50 a) 0
def a0i(a:O iQ):A3 Bool:=(a19 a).bind λb=>some (decide (b>=0))
def b4y(b:Expr)(c:O iQ):A3 (Int×Int):=(a1k b).bind λe=>(if(!e)then some true else(a0i c).bind λf=>some f).bind λd=>if d then some (0,1)else(d5q b c).bind λa=>some (a.1,a.2)
def a5l(c:O iQ)(a:Let)(d:Int->A3 Int)(b:Int):A3 Int:=if(decide (b<(c.length:Int)))then(c7 c b).bind λf=>(b9r f a).bind λe=>if e then some b else d (i64 (b+1))else some (-1:Int)
def a1e(b:O iQ)(a:Let):A3 Int:=d9 FU (a5l b a) 0
def a0q(b:O iQ)(a:Let):A3 Bool:=(a1e b a).bind λc=>some (decide (c>=0))
def i4k(d:O Let)(e:((O iQ)×Int)->A3 ((O iQ)×Int))(a:(O iQ)×Int):A3 ((O iQ)×Int):=if(decide (a.2<(d.length:Int)))then(c7 d a.2).bind λb=>(b4n b.Name).bind λg=>(if g.2then some true else(b9o b.Name).bind λj=>some (!j)).bind λi=>if i then some ([],5)else(a0q a.1 b).bind λf=>if f then some ([],10)else(b4y b.Body a.1).bind λc=>if(c.2!=0)then some ([],c.2)else(a4n 24 a.1 [(⟨b.Name,c.1⟩:iQ)]).bind λh=>e (h,i64 (a.2+1))else some (a.1,0)
def b9n(a:O Let):A3 ((O iQ)×Int):=if(decide ((a.length:Int)>10))then some ([],7)else d9 FU (i4k a) ([],0)
def b5a(a b:Credit):A3 Bool:=some (a.Kind==b.Kind)
def b57(a b:Grant):A3 Bool:=some (a.Benefit==b.Benefit)
def b8w(b:Expr)(d:O iQ)(c:Int):A3 Int:=(b4y b d).bind λa=>if(a.2!=0)then some a.2else if(a.1!=c)then some 6 else some 0
def b5b(a b:Reduce):A3 Bool:=some (a.Benefit==b.Benefit)
def a4i(c:O Credit)(a:Credit)(d:Int->A3 Int)(b:Int):A3 Int:=if(decide (b<(c.length:Int)))then(c7 c b).bind λf=>(b5a f a).bind λe=>if e then some b else d (i64 (b+1))else some (-1:Int)
def a13(b:O Credit)(a:Credit):A3 Int:=d9 FU (a4i b a) 0
def a0e(b:O Credit)(a:Credit):A3 Bool:=(a13 b a).bind λc=>some (decide (c>=0))
def a4s(c:O Grant)(a:Grant)(d:Int->A3 Int)(b:Int):A3 Int:=if(decide (b<(c.length:Int)))then(c7 c b).bind λf=>(b57 f a).bind λe=>if e then some b else d (i64 (b+1))else some (-1:Int)
def a15(b:O Grant)(a:Grant):A3 Int:=d9 FU (a4s b a) 0
def a0h(b:O Grant)(a:Grant):A3 Bool:=(a15 b a).bind λc=>some (decide (c>=0))
def a4k(c:O Reduce)(a:Reduce)(d:Int->A3 Int)(b:Int):A3 Int:=if(decide (b<(c.length:Int)))then(c7 c b).bind λf=>(b5b f a).bind λe=>if e then some b else d (i64 (b+1))else some (-1:Int)
def a0x(b:O Reduce)(a:Reduce):A3 Int:=d9 FU (a4k b a) 0
def a0d(b:O Reduce)(a:Reduce):A3 Bool:=(a0x b a).bind λc=>some (decide (c>=0))
def i4s(b:Version×(O iQ)×Int)(e:(Version×(O iQ)×Int)->A3 Int)(a:Version×(O iQ)×Int):A3 Int:=if(decide (a.2.2<(b.1.Reduces.length:Int)))then(c7 b.1.Reduces a.2.2).bind λd=>(a1x a.1.Reduces 0 a.2.2).bind λf=>(a0d f d).bind λg=>if g then some 10 else(b8w d.By a.2.1 2).bind λc=>if(c !=0)then some c else e (a.1,a.2.1,i64 (a.2.2+1))else some 0
def i4o(h:Version×(O iQ)×Int)(e:(Version×(O iQ)×Int)->A3 Int)(a:Version×(O iQ)×Int):A3 Int:=if(decide (a.2.2<(h.1.Grants.length:Int)))then(c7 h.1.Grants a.2.2).bind λb=>(a1x a.1.Grants 0 a.2.2).bind λf=>(a0h f b).bind λg=>if g then some 10 else(b8w b.If a.2.1 1).bind λd=>if(d !=0)then some d else(b8w b.Pay a.2.1 4).bind λc=>if(c !=0)then some c else e (a.1,a.2.1,i64 (a.2.2+1))else d9 FU (i4s a) (a.1,a.2.1,0)
def i4r(d:Version×(O iQ)×Int)(e:(Version×(O iQ)×Int)->A3 Int)(a:Version×(O iQ)×Int):A3 Int:=if(decide (a.2.2<(d.1.Series.length:Int)))then(c7 d.1.Series a.2.2).bind λf=>(if(decide (a.2.2>0))then(c7 a.1.Series (i64 (a.2.2-1))).bind λc=>some (decide (f.Year<=c.Year))else some false).bind λb=>if b then some 1 else e (a.1,a.2.1,i64 (a.2.2+1))else d9 FU (i4o a) (a.1,a.2.1,0)
def i4p(b:Version)(f:(Version×(O iQ)×Int)->A3 Int)(a:Version×(O iQ)×Int):A3 Int:=if(decide (a.2.2<(b.Credits.length:Int)))then(c7 b.Credits a.2.2).bind λc=>(a1x a.1.Credits 0 a.2.2).bind λe=>(a0e e c).bind λd=>if d then some 10 else f (a.1,a.2.1,i64 (a.2.2+1))else d9 FU (i4r a) (a.1,a.2.1,0)
def b0q(a:Version):A3 Int:=(b9n a.Lets).bind λb=>if(b.2!=0)then some b.2else d9 FU (i4p a) (a,b.1,0)
def i50(d:Statute)(g:(Statute×Int)->A3 (Int×Int))(a:Statute×Int):A3 (Int×Int):=if(decide (a.2<(d.Versions.length:Int)))then(c7 d.Versions a.2).bind λc=>(if(decide (a.2>0))then(c7 a.1.Versions (i64 (a.2-1))).bind λf=>some (decide (c.From<=f.From))else some false).bind λe=>if e then some (a.2,1)else(b0q c).bind λb=>if(b !=0)then some (a.2,b)else g (a.1,i64 (a.2+1))else some (0,0)
def b4b(a:Statute):A3 (Int×Int):=(b7h a).bind λb=>if(!b)then some (0,1)else d9 FU (i50 a) (a,0)
def a7u(a b:Int):A3 Bool:=(if(decide (a>=0))then some (decide (a<=b))else some false).bind λc=>some c
def b2n(g:Rules)(h:(Rules×Int)->A3 Bool)(a:Rules×Int):A3 Bool:=if(decide (a.2<(g.Members.length:Int)))then(c7 g.Members a.2).bind λb=>(a7u b 5).bind λd=>(if(!d)then some true else(if(decide (a.2>0))then(c7 a.1.Members (i64 (a.2-1))).bind λc=>some (decide (b<=c))else some false).bind λf=>some f).bind λe=>if e then some false else h (a.1,i64 (a.2+1))else some true
def a5x(a:Rules):A3 Bool:=(m7 a.From).bind λe=>(if(!e)then some true else(a7u a.MinDays 73049).bind λh=>some (!h)).bind λd=>(if d then some true else(a7u a.PostingLimit 73049).bind λc=>some (!c)).bind λg=>(if g then some true else(a7u a.Substantial 100).bind λf=>some (!f)).bind λb=>if b then some false else d9 FU (b2n a) (a,0)
def b27(b:O Rules)(f:Int->A3 Int)(a:Int):A3 Int:=if(decide (a<(b.length:Int)))then(c7 b a).bind λc=>(a5x c).bind λg=>(if(!g)then some true else(if(decide (a>0))then(c7 b (i64 (a-1))).bind λd=>some (decide (c.From<=d.From))else some false).bind λh=>some h).bind λe=>if e then some 1 else f (i64 (a+1))else some 0
def a9n(a:O Rules):A3 Int:=if(decide ((a.length:Int)>8))then some 7 else(if((a.length:Int)==0)then some true else(c7 a 0).bind λb=>some (b.From !=0)).bind λc=>if c then some 1 else d9 FU (b27 a) 0
def a8n(a:Int):A3 Bool:=(if(decide (a>=1))then some (decide (a<=999))else some false).bind λb=>some b
def b1k(a:Int):A3 Bool:=(if(decide (a>=0))then some (decide (a<=2399))else some false).bind λb=>some b
def a7l(a:Int):A3 Bool:=(b8t a 4).bind λd=>(if(d==0)then(b8t a 100).bind λf=>some (f !=0)else some false).bind λc=>(if c then some true else(b8t a 400).bind λb=>some (b==0)).bind λe=>some e
def a05(d a:Int):A3 Int:=(if(a==2)then(a7l d).bind λc=>some c else some false).bind λe=>if e then some 29 else(c7 (⟨[31,28,31,30,31,30,31,31,30,31,30,31],rfl⟩:Ar 12 Int).l (i64 (a-1))).bind λf=>(c7 (⟨[31,28,31,30,31,30,31,31,30,31,30,31],rfl⟩:Ar 12 Int).l (i64 (a-1))).bind λb=>some b
def a90(a:Int):A3 Int:=(b1k a).bind λd=>if(!d)then some 0 else(c2t a 12).bind λe=>(b8t a 12).bind λc=>(a05 (i64 (1900+e)) (i64 (c+1))).bind λb=>some b
def b9g(a:Int):A3 Bool:=(a90 a).bind λb=>some (decide (b>0))
def j5(a:Int):A3 Int:=if(decide (a<0))then some (u64 (-(u64 (a))))else some (u64 (a))
def a7g(d e:Int):A3 Int:=lpC (d,e) λf⟨b,a⟩=>if(a !=0)then(b8t b a).bind λc=>f (a,c)else some b
def o7(a:fQ):A3 Bool:=(if(decide (a.Den>=1))then some (decide (a.Den<=1000000000))else some false).bind λe=>(if e then some (decide (a.Num>=(-1000000000000000:Int)))else some false).bind λh=>(if h then some (decide (a.Num<=1000000000000000))else some false).bind λd=>(if d then(j5 a.Num).bind λc=>(j5 a.Den).bind λg=>(a7g c g).bind λf=>some (f==1)else some false).bind λb=>some b
def b9l(a:Int):A3 Bool:=(if(decide (a>=1))then some (decide (a<=1000000))else some false).bind λb=>some b
def a5r(c:O Rate):A3 Int:=if(decide ((c.length:Int)>40))then some 7 else lpC (0:Int) λo b=>if(decide (b<(c.length:Int)))then(c7 c b).bind λa=>(a8n a.Currency).bind λn=>(if(!n)then some true else(b9g a.Month).bind λs=>some (!s)).bind λr=>(if r then some true else(o7 a.Value).bind λp=>some (!p)).bind λm=>(if m then some true else(b9l a.Value.Num).bind λq=>some (!q)).bind λf=>(if f then some true else(b9l a.Value.Den).bind λe=>some (!e)).bind λh=>if h then some 1 else(if(decide (b>0))then(c7 c (i64 (b-1))).bind λk=>(if(decide (k.Currency>a.Currency))then some true else(c7 c (i64 (b-1))).bind λj=>(if(j.Currency==a.Currency)then(c7 c (i64 (b-1))).bind λg=>some (decide (g.Month>=a.Month))else some false).bind λl=>some l).bind λi=>some i else some false).bind λd=>if d then some 1 else o (i64 (b+1))else some 0
def c02(i:Laws):A3 Int:=lpC (i,(0:Int)) λp⟨b,c⟩=>if(decide (c<(i.States.length:Int)))then(c7 i.States c).bind λg=>(if(decide (g.State<0))then some true else some (decide (g.State>=6))).bind λn=>(if n then some true else(if(decide (c>0))then(c7 b.States (i64 (c-1))).bind λm=>some (decide (g.State<=m.State))else some false).bind λl=>some l).bind λo=>if o then some 1 else p (b,i64 (c+1))else lpC (b,(0:Int)) λk⟨h,a⟩=>if(decide (a<(b.States.length:Int)))then(c7 b.States a).bind λf=>(b4b f.Statute).bind λe=>if(e.2!=0)then some e.2else k (h,i64 (a+1))else(a9n h.Treaty).bind λd=>if(d !=0)then some d else(a5r h.Rates).bind λj=>some j
def b81(d:O Rules)(e:((Int×Rules×Bool)×Int)->A3 (Rules×Bool))(b:(Int×Rules×Bool)×Int):A3 (Rules×Bool):=if decide (b.2<0)then some ((⟨0,0,0,0,[]⟩:Rules),false)else(c7 d b.2).bind λa=>if(decide (a.From<=b.1.1))then(a7z a.Members).bind λc=>some ((b.1.1,(⟨a.From,a.MinDays,a.PostingLimit,a.Substantial,c⟩:Rules),true).2.1,(b.1.1,(⟨a.From,a.MinDays,a.PostingLimit,a.Substantial,c⟩:Rules),true).2.2)else e ((b.1.1,b.1.2.1,b.1.2.2),b.2-1)
def b2q(a:O Rules)(b:Int):A3 (Rules×Bool):=(m7 b).bind λc=>if(!c)then some ((⟨0,0,0,0,[]⟩:Rules),false)else d9 FU (b81 a) ((b,(⟨0,0,0,0,[]⟩:Rules),false),(a.length:Int)-1)
def b8v(a:Laws)(b:Int):A3 (bQ×Int):=(c02 a).bind λd=>if(d !=0)then some ((⟨(⟨[],[],[]⟩:Laws),0,(⟨0,0,0,0,[]⟩:Rules)⟩:bQ),d)else(b2q a.Treaty b).bind λc=>if(!c.2)then some ((⟨(⟨[],[],[]⟩:Laws),0,(⟨0,0,0,0,[]⟩:Rules)⟩:bQ),1)else some ((⟨a,b,c.1⟩:bQ),0)
def a7y(b:bQ)(g:Int):A3 (Statute×Bool):=lpC (([]:O Version),(⟨a3j,0,[]⟩:Statute),(0:Int)) λf⟨e,d,a⟩=>if(decide (a<(b.laws.States.length:Int)))then(c7 b.laws.States a).bind λc=>if(c.State==g)then some (c.Statute,true)else f (e,(⟨d.Name,d.Currency,[]⟩:Statute),i64 (a+1))else some ((⟨a3j,0,[]⟩:Statute),false)
structure Ring_statute_cloneExpr where f_statute_cloneExpr:Expr->Option Expr
def a7s(R:Ring_statute_cloneExpr)(b:Expr):A3 Expr:=lpC (([]:O Expr),(⟨b.Op,b.Value,b.Dim,b.Name,[]⟩:Expr),([]:O Expr),(⟨0,(⟨0,0⟩:fQ),0,a3j,[]⟩:Expr),(0:Int)) λi⟨e,a,g,c,d⟩=>if(decide (d<(b.Args.length:Int)))then(c7 b.Args d).bind λf=>(R.f_statute_cloneExpr f).bind λj=>(a4n 72 e [j]).bind λh=>i (h,(⟨a.Op,a.Value,a.Dim,a.Name,[]⟩:Expr),g,(⟨c.Op,c.Value,c.Dim,c.Name,[]⟩:Expr),i64 (d+1))else some (⟨a.Op,a.Value,a.Dim,a.Name,e⟩:Expr)
def s4:Nat->Ring_statute_cloneExpr|0=>⟨λ_=>none⟩|n+1=>⟨a7s (s4 n)⟩
def a6x(a:Expr):A3 Expr:=(s4 FU).f_statute_cloneExpr a
def a6r(l:Version):A3 Version:=(a5m l.Credits).bind λv1=>(a6e l.Series).bind λv2=>(a86 l.Lets).bind λv3=>(a6f l.Grants).bind λv4=>(a5p l.Reduces).bind λv5=>lpC (v1,v2,v3,v4,v5,(⟨l.From,l.Rounding,[],[],[],[],[]⟩:Version),([]:O Credit),([]:O Index),([]:O Let),([]:O Grant),([]:O Reduce),(⟨0,(⟨0,0⟩:Rounding),[],[],[],[],[]⟩:Version),(0:Int)) λab⟨v6,v7,o,Y,s,h,x,D,B,t,H,j,c⟩=>if(decide (c<(v3.length:Int)))then(c7 o c).bind λaj=>(c7 o c).bind λP=>(a6x P.Body).bind λaa=>(c7 o c).bind λaq=>(c7 o c).bind λK=>ab (v6,v7,a8h o c (⟨K.Name,aa⟩:Let),Y,s,(⟨h.From,h.Rounding,[],[],[],[],[]⟩:Version),x,D,B,t,H,(⟨j.From,j.Rounding,[],[],[],[],[]⟩:Version),i64 (c+1))else lpC (v6,v7,o,Y,s,(⟨h.From,h.Rounding,[],[],[],[],[]⟩:Version),x,D,B,t,H,(⟨j.From,j.Rounding,[],[],[],[],[]⟩:Version),(0:Int)) λU⟨E,G,w,b,n,k,A,y,p,r,u,g,a⟩=>if(decide (a<(Y.length:Int)))then(c7 b a).bind λam=>(c7 b a).bind λN=>(a6x N.If).bind λm=>(c7 b a).bind λan=>(c7 b a).bind λZ=>(a6x Z.Pay).bind λW=>(c7 b a).bind λap=>(c7 b a).bind λf=>(c7 (a8h b a (⟨f.Benefit,m,f.Pay⟩:Grant)) a).bind λal=>(c7 (a8h b a (⟨f.Benefit,m,f.Pay⟩:Grant)) a).bind λI=>U (E,G,w,a8h (a8h b a (⟨f.Benefit,m,f.Pay⟩:Grant)) a (⟨I.Benefit,I.If,W⟩:Grant),n,(⟨k.From,k.Rounding,[],[],[],[],[]⟩:Version),A,y,p,r,u,(⟨g.From,g.Rounding,[],[],[],[],[]⟩:Version),i64 (a+1))else lpC (E,G,w,b,n,(⟨k.From,k.Rounding,[],[],[],[],[]⟩:Version),A,y,p,r,u,(⟨g.From,g.Rounding,[],[],[],[],[]⟩:Version),(0:Int)) λR⟨q,z,F,C,e,i,M,Q,V,L,T,v,d⟩=>if(decide (d<(n.length:Int)))then(c7 e d).bind λaf=>(c7 e d).bind λJ=>(a6x J.By).bind λX=>(c7 e d).bind λai=>(c7 e d).bind λS=>R (q,z,F,C,a8h e d (⟨S.Benefit,X⟩:Reduce),(⟨i.From,i.Rounding,[],[],[],[],[]⟩:Version),M,Q,V,L,T,(⟨v.From,v.Rounding,[],[],[],[],[]⟩:Version),i64 (d+1))else some (⟨i.From,i.Rounding,q,z,F,C,e⟩:Version)
def c41(d:Statute)(e:((Int×Version×Bool)×Int)->A3 (Version×Bool))(a:(Int×Version×Bool)×Int):A3 (Version×Bool):=if decide (a.2<0)then some ((⟨0,(⟨0,0⟩:Rounding),[],[],[],[],[]⟩:Version),false)else(c7 d.Versions a.2).bind λb=>if(decide (b.From<=a.1.1))then(a6r b).bind λc=>some ((a.1.1,c,true).2.1,(a.1.1,c,true).2.2)else e ((a.1.1,a.1.2.1,a.1.2.2),a.2-1)
def b1v(a:Statute)(b:Int):A3 (Version×Bool):=(m7 b).bind λc=>if(!c)then some ((⟨0,(⟨0,0⟩:Rounding),[],[],[],[],[]⟩:Version),false)else d9 FU (c41 a) ((b,(⟨0,(⟨0,0⟩:Rounding),[],[],[],[],[]⟩:Version),false),(a.Versions.length:Int)-1)
def a2v(b:bQ)(e:Int):A3 (Statute×Version×Int):=(a7y b e).bind λa=>(b1v a.1 b.day).bind λc=>(if(!a.2)then some true else some (!c.2)).bind λd=>if d then some ((⟨a3j,0,[]⟩:Statute),(⟨0,(⟨0,0⟩:Rounding),[],[],[],[],[]⟩:Version),9)else some (a.1,c.1,0)
def a06(b:O Int)(e:Int)(c:Int->A3 Int)(a:Int):A3 Int:=if(decide (a<(b.length:Int)))then(c7 b a).bind λd=>if(e==d)then some a else c (i64 (a+1))else some (-1:Int)
def a4p(a:O Int)(b:Int):A3 Int:=d9 FU (a06 a b) 0
def q9(a:O Int)(b:Int):A3 Bool:=(a4p a b).bind λc=>some (decide (c>=0))
def a08(a:bQ)(b:Int):A3 Bool:=(q9 a.rules.Members b).bind λc=>some c
def a4e(a:aQ):A3 Bool:=(b3k a).bind λb=>(if b then some (!a.Withdrawn)else some false).bind λc=>some c
def a2b(d:O aQ)(b:((O aQ)×Int)->A3 (O aQ))(a:(O aQ)×Int):A3 (O aQ):=if(decide (a.2<(d.length:Int)))then(c7 d a.2).bind λc=>(a4e c).bind λe=>if e then(a4n 112 a.1 [c]).bind λf=>b (f,i64 (a.2+1))else b (a.1,i64 (a.2+1))else some a.1
def a3f(a:O aQ):A3 (O aQ):=d9 FU (a2b a) ([],0)
def a4f(a:O aQ):A3 (O aQ):=(a3f a).bind λb=>some b
def b21(d:O aQ)(i:Int)(c:(Int×Bool×Int)->A3 (Int×Bool))(a:Int×Bool×Int):A3 (Int×Bool):=if(decide (a.2.2<(d.length:Int)))then(c7 d a.2.2).bind λb=>(a4e b).bind λf=>(if f then some (b.Kind==i)else some false).bind λh=>(if h then(if(!a.2.1)then some true else some (decide (b.Span.From<a.1))).bind λg=>some g else some false).bind λe=>if e then c (b.Span.From,true,i64 (a.2.2+1))else c (a.1,a.2.1,i64 (a.2.2+1))else some (a.1,a.2.1)
def b4r(a:O aQ)(b:Int):A3 (Int×Bool):=d9 FU (b21 a b) (0,false,0)
def b4t(b:O aQ):A3 (Int×Bool):=(b4r b 11).bind λa=>some (a.1,a.2)
def b7l(b:O aQ):A3 (Int×Bool):=(b4r b 12).bind λa=>some (a.1,a.2)
def b48(a:Span×Int×Int):A3 Span:=if(decide (a.2.2<a.2.1))then some (⟨0,0⟩:Span)else some (⟨a.2.1,i64 (a.2.2+1)⟩:Span)
def a2i(a:O aQ):A3 Span:=(b4t a).bind λb=>(b7l a).bind λc=>if(!c.2)then joinC b48 ((⟨0,0⟩:Span),b.1,73048)else joinC b48 ((⟨0,0⟩:Span),b.1,c.1)
def c3q(a:Span):A3 Span:=some (⟨max a.From 0,min a.To 73049⟩:Span)
def c7q(a:Int):A3 Int:=(b8x a).bind λb=>some b
def b2e(j:O Span)(h:((O Span)×(O Span)×Int)->A3 (O Span))(a:(O Span)×(O Span)×Int):A3 (O Span):=if(decide (a.2.2<(j.length:Int)))then(c7 a.2.1 a.2.2).bind λm=>(c7 a.2.1 a.2.2).bind λb=>(if(decide ((a.1.length:Int)>0))then(c7 a.1 (i64 ((a.1.length:Int)-1))).bind λi=>(c7 a.1 (i64 ((a.1.length:Int)-1))).bind λc=>some (decide (b.From<=c.To))else some false).bind λg=>if g then(c7 a.1 (i64 ((a.1.length:Int)-1))).bind λk=>(c7 a.1 (i64 ((a.1.length:Int)-1))).bind λe=>(c7 a.1 (i64 ((a.1.length:Int)-1))).bind λl=>(c7 a.1 (i64 ((a.1.length:Int)-1))).bind λf=>h (a8h a.1 (i64 ((a.1.length:Int)-1)) (⟨f.From,max e.To b.To⟩:Span),a.2.1,i64 (a.2.2+1))else(a4n 16 a.1 [b]).bind λd=>h (d,a.2.1,i64 (a.2.2+1))else some a.1
def b5z(d:O Span)(c:((O Span)×(O Span)×Int)->A3 (O Span))(a:(O Span)×(O Span)×Int):A3 (O Span):=if(decide (a.2.2<(d.length:Int)))then(c7 d a.2.2).bind λf=>(c3q f).bind λb=>if(decide (b.From<b.To))then(a4n 16 a.1 [b]).bind λg=>c (g,[],i64 (a.2.2+1))else c (a.1,[],i64 (a.2.2+1))else(b3w a.1).bind λe=>d9 FU (b2e e) ([],e,0)
def a2w(a:O Span):A3 (O Span):=d9 FU (b5z a) ([],[],0)
def a92(d:((O Span)×(O Span)×(O Span)×Int×Int)->A3 (O Span))(a:(O Span)×(O Span)×(O Span)×Int×Int):A3 (O Span):=(c7 a.1 a.2.2.2.1).bind λf=>(c7 a.1 a.2.2.2.1).bind λb=>(c7 a.2.1 a.2.2.2.2).bind λe=>(c7 a.2.1 a.2.2.2.2).bind λc=>if(decide (b.To<c.To))then d (a.1,a.2.1,a.2.2.1,i64 (a.2.2.2.1+1),a.2.2.2.2)else d (a.1,a.2.1,a.2.2.1,a.2.2.2.1,i64 (a.2.2.2.2+1))
def b2h(g:((O Span)×(O Span)×(O Span)×Int×Int)->A3 (O Span))(a:(O Span)×(O Span)×(O Span)×Int×Int):A3 (O Span):=(if(decide (a.2.2.2.1<(a.1.length:Int)))then some (decide (a.2.2.2.2<(a.2.1.length:Int)))else some false).bind λi=>if i then(c7 a.1 a.2.2.2.1).bind λk=>(c7 a.1 a.2.2.2.1).bind λe=>(c7 a.2.1 a.2.2.2.2).bind λl=>(c7 a.2.1 a.2.2.2.2).bind λf=>(c7 a.1 a.2.2.2.1).bind λj=>(c7 a.1 a.2.2.2.1).bind λb=>(c7 a.2.1 a.2.2.2.2).bind λh=>(c7 a.2.1 a.2.2.2.2).bind λc=>if(decide ((max e.From f.From)<(min b.To c.To)))then(a4n 16 a.2.2.1 [(⟨max e.From f.From,min b.To c.To⟩:Span)]).bind λd=>joinC (a92 g) (a.1,a.2.1,d,a.2.2.2.1,a.2.2.2.2)else joinC (a92 g) (a.1,a.2.1,a.2.2.1,a.2.2.2.1,a.2.2.2.2)else some a.2.2.1
def b2g(a b:O Span):A3 (O Span):=(a2w a).bind λd=>(a2w b).bind λc=>d9 FU b2h (d,c,[],0,0)
def s6(a:O Span)(b:Span):A3 (O Span):=(b2g a [b]).bind λc=>some c
def a0j(a b:Posting):A3 Int:=(a2c a.Span.From b.Span.From).bind λe=>(a2c a.Seat b.Seat).bind λf=>(a2c a.State b.State).bind λd=>(b67 [e,f,d]).bind λc=>some c
def a1d(i:Int)(n:((O Posting)×Int)->A3 (O Posting))(f:(O Posting)×Int)(k:((O Posting)×Int)->A3 (O Posting))(a:(O Posting)×Int):A3 (O Posting):=(if(decide (a.2>i))then(c7 a.1 a.2).bind λs=>(c7 a.1 a.2).bind λp=>(c7 a.1 (i64 (a.2-1))).bind λr=>(c7 a.1 (i64 (a.2-1))).bind λj=>(a0j p j).bind λo=>some (decide (o<0))else some false).bind λc=>if c then(c7 a.1 (i64 (a.2-1))).bind λg=>(c7 a.1 (i64 (a.2-1))).bind λb=>(c7 a.1 a.2).bind λm=>(c7 a.1 a.2).bind λd=>(c7 a.1 a.2).bind λh=>(c7 a.1 a.2).bind λq=>(c7 (a8h a.1 a.2 b) (i64 (a.2-1))).bind λl=>(c7 (a8h a.1 a.2 b) (i64 (a.2-1))).bind λe=>k (a8h (a8h a.1 a.2 b) (i64 (a.2-1)) d,i64 (a.2-1))else n (a.1,i64 (f.2+1))
def a1f(c d:Int)(b:((O Posting)×Int)->A3 (O Posting))(a:(O Posting)×Int):A3 (O Posting):=if(decide (a.2<c))then d9 FU (a1d d b a) (a.1,a.2)else some a.1
def m6(b:O Posting)(a c:Int):A3 (O Posting):=d9 FU (a1f c a) (b,i64 (a+1))
structure oQ where f_slices_pdqsortCmpFunc_of_api_Posting:(List Posting)->Int->Int->Int->Option (List Posting)
def a2d(R:oQ)(a:(O Posting)×Int×Int×Int×Unit×Bool×Bool×Int):A3 (O Posting):=none
def i6(R:oQ)(c:((O Posting)×Int×Int×Int×Bool×Bool)->A3 (O Posting))(a:(O Posting)×Int×Int×Int×Bool×Bool):A3 (O Posting):=if(decide ((i64 (a.2.2.1-a.2.1))<=12))then(m6 a.1 a.2.1 a.2.2.1).bind λb=>some b else if(a.2.2.2.1==0)then none else if(!a.2.2.2.2.1)then none else joinC (a2d R) (a.1,a.2.1,a.2.2.1,a.2.2.2.1,(),a.2.2.2.2.1,a.2.2.2.2.2,i64 (a.2.2.1-a.2.1))
def i7(R:oQ)(c:O Posting)(d a b:Int):A3 (O Posting):=d9 FU (i6 R) (c,d,a,b,true,true)
def c3:Nat->oQ|0=>⟨λ_ _ _ _=>none⟩|n+1=>⟨i7 (c3 n)⟩
def y6(a:O Posting)(d b c:Int):A3 (O Posting):=(c3 FU).f_slices_pdqsortCmpFunc_of_api_Posting a d b c
def c9(a:O Posting):A3 (O Posting):=(c7q (u64 ((a.length:Int)))).bind λb=>(y6 a 0 (a.length:Int) b).bind λc=>some c
def b6k(L:O ((Int×Int)×O Span))(f:aQ):O ((Int×Int)×O Span):=if f.Kind=4then f7i L (f.Seat,f.State) f.Span else L
def b4v(l:O aQ):O ((Int×Int)×O Span)->O Posting->A3 (O Posting)|[],out=>some out|q::M,out=>Option.bind (a2i l) λs=>Option.bind (s6 q.2 s) λc=>if out.length+c.length<=100000then b4v l M (out++c.map λx=>⟨q.1.1,q.1.2,x⟩)else none
noncomputable def competence_Postings(a:O aQ):A3 (O Posting):=Option.bind (a4f a) λcur=>if cur.length<=1000/\(cur.all λf=>c4v f.Seat&&c4v f.State)=true then allP (λM=>M.Perm (cur.foldl b6k [])) (λM=>Option.bind (b4v a M []) λout=>c9 out)else none
def a9c(a:O aQ)(b:O Rules):A3 (lQ×Bool):=(a4f a).bind λe=>(a2i a).bind λf=>(competence_Postings a).bind λd=>(a9n b).bind λc=>some ((⟨e,f,d,b⟩:lQ),c==0)
def a1r(h:((O Int)×Int×Int×(Int×Nat))->A3 (O Int))(a:(O Int)×Int×Int×(Int×Nat)):A3 (O Int):=if(decide (a.2.2.1<(a.2.2.2.2:Int)))then(c72 a.1 a.2.2.2.1 a.2.2.1).bind λj=>(c7 a.1 (a.2.2.2.1+a.2.2.1)).bind λc=>(c72 a.1 a.2.2.2.1 (i64 (a.2.2.1-1))).bind λi=>(c7 a.1 (a.2.2.2.1+(i64 (a.2.2.1-1)))).bind λf=>if(c !=f)then(c72 a.1 a.2.2.2.1 a.2.2.1).bind λl=>(c7 a.1 (a.2.2.2.1+a.2.2.1)).bind λd=>(c7 a.1 a.2.1).bind λm=>(c7 a.1 a.2.1).bind λk=>h (a8h a.1 a.2.1 d,i64 (a.2.1+1),i64 (a.2.2.1+1),(a.2.2.2.1,a.2.2.2.2))else h (a.1,a.2.1,i64 (a.2.2.1+1),(a.2.2.2.1,a.2.2.2.2))else(a1x a.1 a.2.1 (a.1.length:Int)).bind λb=>(h1h 0 a.1 a.2.1 b.length).bind λg=>(a1x g 0 a.2.1).bind λe=>some e
def a0c(b:((O Int)×Int)->A3 (O Int))(a:(O Int)×Int):A3 (O Int):=if(decide (a.2<(a.1.length:Int)))then(c7 a.1 a.2).bind λf=>(c7 a.1 a.2).bind λd=>(c7 a.1 (i64 (a.2-1))).bind λg=>(c7 a.1 (i64 (a.2-1))).bind λe=>if(d==e)then(a1x a.1 a.2 (a.1.length:Int)).bind λc=>d9 FU a1r (a.1,a.2,1,(a.2,c.length))else b (a.1,i64 (a.2+1))else some a.1
def a0n(a:O Int):A3 (O Int):=if(decide ((a.length:Int)<2))then some a else d9 FU a0c (a,1)
def a81(d:lQ×(O Int)×Int)(f:(lQ×(O Int)×Int)->A3 (O Int))(e:(lQ×(O Int)×Rules×Int)->A3 (O Int))(a:lQ×(O Int)×Rules×Int):A3 (O Int):=if(decide (a.2.2.2<(d.1.postings.length:Int)))then(c7 d.1.postings a.2.2.2).bind λc=>(a4n 8 a.2.1 [min (i64 (c.Span.From+a.2.2.1.PostingLimit)) 73049]).bind λb=>e (a.1,b,a.2.2.1,i64 (a.2.2.2+1))else f (a.1,a.2.1,i64 (d.2.2+1))
def a89(e:lQ×(O Int)×Int)(f:(lQ×(O Int)×Int)->A3 (O Int))(a:lQ×(O Int)×Int):A3 (O Int):=if(decide (a.2.2<(e.1.rules.length:Int)))then(c7 e.1.rules a.2.2).bind λd=>(a4n 8 a.2.1 [d.From]).bind λg=>d9 FU (a81 a f) (a.1,g,d,0)else(b8s a.2.1).bind λc=>(a0n c).bind λb=>some b
def a8a(c:lQ)(d:(lQ×(O Int)×Int)->A3 (O Int))(a:lQ×(O Int)×Int):A3 (O Int):=if(decide (a.2.2<(c.facts.length:Int)))then(c7 c.facts a.2.2).bind λb=>(a4n 8 a.2.1 [b.Span.From,b.Span.To]).bind λe=>d (a.1,e,i64 (a.2.2+1))else d9 FU (a89 a) (a.1,a.2.1,0)
def a6t(a:lQ):A3 (O Int):=d9 FU (a8a a) (a,[0,73049,a.span.From,a.span.To],0)
def a4l(a:Span)(b:Int):A3 Bool:=(if(decide (a.From<=b))then some (decide (b<a.To))else some false).bind λc=>some c
def a2q(c:lQ)(d g:Int)(e:Int->A3 (Int×Bool))(b:Int):A3 (Int×Bool):=if(decide (b<(c.postings.length:Int)))then(c7 c.postings b).bind λa=>(a4l a.Span d).bind λf=>(if f then some (decide (d<(i64 (a.Span.From+g))))else some false).bind λh=>if h then some (a.Seat,true)else e (i64 (b+1))else some (0,false)
def a4c(a:lQ)(c b:Int):A3 (Int×Bool):=d9 FU (a2q a c b) 0
def a9u(d:lQ)(g:O Int)(j:Int)(c:((O aQ)×Int)->A3 (O aQ))(a:(O aQ)×Int):A3 (O aQ):=if(decide (a.2<(d.facts.length:Int)))then(c7 d.facts a.2).bind λb=>(q9 g b.Kind).bind λf=>(if f then(a4l b.Span j).bind λi=>some i else some false).bind λh=>if h then(a4n 112 a.1 [b]).bind λe=>c (e,i64 (a.2+1))else c (a.1,i64 (a.2+1))else some a.1
def a2j(a:lQ)(c:Int)(b:O Int):A3 (O aQ):=d9 FU (a9u a b c) ([],0)
def a3m(e:O aQ)(c:(aQ×Bool×(O aQ)×Int)->A3 (Int×Bool))(a:aQ×Bool×(O aQ)×Int):A3 (Int×Bool):=if(decide (a.2.2.2<(e.length:Int)))then(c7 a.2.2.1 a.2.2.2).bind λh=>(c7 a.2.2.1 a.2.2.2).bind λb=>(if(!a.2.1)then some true else some (decide (b.Share>a.1.Share))).bind λf=>(if f then some true else(if(b.Share==a.1.Share)then some (decide (b.State<a.1.State))else some false).bind λd=>some d).bind λg=>if g then c (b,true,a.2.2.1,i64 (a.2.2.2+1))else c (a.1,a.2.1,a.2.2.1,i64 (a.2.2.2+1))else some (a.1.State,a.2.1)
def a5v(b:lQ)(c:Int):A3 (Int×Bool):=(a2j b c [3]).bind λa=>d9 FU (a3m a) ((⟨0,0,0,false,0,0,0,(⟨0,0⟩:Span),0,0,0,0,0⟩:aQ),false,a,0)
def b5c(a:Span)(b:Int):A3 Bool:=(if(decide (a.From<=b))then some (decide (b<a.To))else some false).bind λc=>some c
def o5(c:O Span)(a:Int)(d:Int->A3 Int)(b:Int):A3 Int:=if(decide (b<(c.length:Int)))then(c7 c b).bind λf=>(b5c f a).bind λe=>if e then some b else d (i64 (b+1))else some (-1:Int)
def y4(b:O Span)(a:Int):A3 Int:=d9 FU (o5 b a) 0
def s8(b:O Span)(a:Int):A3 Bool:=(y4 b a).bind λc=>some (decide (c>=0))
def a8r(b:O Span)(a:Int):A3 Bool:=(if(decide (a<0))then some true else some (decide (a>=73049))).bind λd=>if d then some false else(s8 b a).bind λc=>some c
def a4t(h:O aQ)(i:Int)(d:(aQ×Bool×Int)->A3 (Int×Bool))(a:aQ×Bool×Int):A3 (Int×Bool):=if(decide (a.2.2<(h.length:Int)))then(c7 h a.2.2).bind λb=>(a4e b).bind λj=>(if(!j)then some true else some (b.Kind !=5)).bind λl=>(if l then some true else some (decide (i<b.Span.From))).bind λk=>(if k then some true else some (decide (i>=b.Span.To))).bind λf=>if f then d (a.1,a.2.1,i64 (a.2.2+1))else(if(!a.2.1)then some true else some (decide (b.Span.From>a.1.Span.From))).bind λe=>(if e then some true else(if(b.Span.From==a.1.Span.From)then some (decide (b.State<a.1.State))else some false).bind λc=>some c).bind λg=>if g then d (b,true,i64 (a.2.2+1))else d (a.1,a.2.1,i64 (a.2.2+1))else some (a.1.State,a.2.1)
def a8j(b:O aQ)(a:Int):A3 (Int×Bool):=(m7 a).bind λd=>if(!d)then some (0,false)else(a2i b).bind λe=>(a8r [e] a).bind λc=>if(!c)then some (0,false)else d9 FU (a4t b a) ((⟨0,0,0,false,0,0,0,(⟨0,0⟩:Span),0,0,0,0,0⟩:aQ),false,0)
def a7p(b:O aQ)(c:((O Int)×Int)->A3 (O Int))(a:(O Int)×Int):A3 (O Int):=if(decide (a.2<(b.length:Int)))then(c7 b a.2).bind λe=>(a4n 8 a.1 [e.Seat]).bind λd=>c (d,i64 (a.2+1))else(b8s a.1).bind λg=>(a0n g).bind λf=>some f
def b12(a:O aQ):A3 (O Int):=d9 FU (a7p a) ([],0)
def a0f(e:O Int)(b:((O (Int×Int))×Int×(O Int)×Int)->A3 (Int×Bool))(a:(O (Int×Int))×Int×(O Int)×Int):A3 (Int×Bool):=if(decide (a.2.2.2<((List.map (λx=>x) e).length:Int)))then(c7 a.2.2.1 a.2.2.2).bind λd=>(c7 a.2.2.1 a.2.2.2).bind λc=>if(decide ((b5g a.1 c)>(b5g a.1 a.2.1)))then b (a.1,c,a.2.2.1,i64 (a.2.2.2+1))else b (a.1,a.2.1,a.2.2.1,i64 (a.2.2.2+1))else some (a.2.1,true)
def a2g(q:O aQ)(p t:Int)(v:(lQ×(O (Int×Int))×Int×(O aQ)×Int)->A3 (Int×Bool))(b:lQ×(O (Int×Int))×Int×(O aQ)×Int):A3 (Int×Bool):=if(decide (b.2.2.2.2<(q.length:Int)))then(c7 b.2.2.2.1 b.2.2.2.2).bind λz=>(c7 b.2.2.2.1 b.2.2.2.2).bind λe=>v (b.1,a62 b.2.1 e.State (i64 ((b5g b.2.1 e.State)+e.Share)),i64 (b.2.2.1+e.Share),b.2.2.2.1,i64 (b.2.2.2.2+1))else(c8c b.2.1).bind λd=>if(((List.map (λx=>x) d).length:Int)==0)then some (0,false)else if(((List.map (λx=>x) d).length:Int)==1)then(c7 (List.map (λx=>x) d) 0).bind λA=>(c7 (List.map (λx=>x) d) 0).bind λs=>some (s,true)else(a8j b.1.facts p).bind λc=>(if c.2then some (c7s b.2.1 c.1)else some false).bind λi=>(if i then some (decide ((i64 (100*(b5g b.2.1 c.1)))>=(i64 (t*b.2.2.1))))else some false).bind λh=>if h then some (c.1,true)else(a2j b.1 p [1]).bind λl=>(b12 l).bind λa=>if((a.length:Int)==1)then(c7 a 0).bind λu=>(c7 a 0).bind λj=>some (j,true)else(if c.2then some ((a.length:Int)==2)else some false).bind λo=>(if o then(q9 a c.1).bind λm=>some m else some false).bind λf=>if f then(c7 a 0).bind λw=>(c7 a 0).bind λk=>(c7 a 1).bind λr=>(c7 a 1).bind λn=>some (i64 ((i64 (k+n))-c.1),true)else if c.2then some (c.1,true)else(c7 (List.map (λx=>x) d) 0).bind λy=>(c7 (List.map (λx=>x) d) 0).bind λg=>d9 FU (a0f d) (b.2.1,g,(List.map (λx=>x) d),0)
def a3v(a:lQ)(b d:Int):A3 (Int×Bool):=(a2j a b [1,2]).bind λc=>d9 FU (a2g c b d) (a,[],0,c,0)
def a6j(a b:aQ):A3 Int:=(a2c a.State b.State).bind λc=>some c
def y9(b:(O aQ)×Unit×aQ)(c:(aQ×aQ×Int)->A3 aQ)(a:aQ×aQ×Int):A3 aQ:=if(decide (a.2.2<(b.1.length:Int)))then(c7 b.1 a.2.2).bind λf=>(a6j f a.2.1).bind λe=>if(decide (e<0))then(c7 b.1 a.2.2).bind λd=>c (a.1,d,i64 (a.2.2+1))else c (a.1,a.2.1,i64 (a.2.2+1))else some a.2.1
def a00(a:(O aQ)×Unit×aQ):A3 aQ:=(c7 a.1 0).bind λb=>d9 FU (y9 a) (a.2.2,b,1)
def m5(a:O aQ):A3 aQ:=if(decide ((a.length:Int)<1))then none else joinC a00 (a,(),(⟨0,0,0,false,0,0,0,(⟨0,0⟩:Span),0,0,0,0,0⟩:aQ))
def a4b(b:lQ)(c:Int):A3 (Int×Bool):=(a2j b c [7,8]).bind λa=>if((a.length:Int)==0)then some (0,false)else(m5 a).bind λd=>some (d.State,true)
def a7m(a:lQ)(b:Int):A3 (Int×Int):=(b2q a.rules b).bind λc=>(if(!c.2)then some true else(a4l a.span b).bind λj=>some (!j)).bind λi=>if i then some ((-1:Int),0)else(a4c a b c.1.PostingLimit).bind λe=>if e.2then some (e.1,1)else(a5v a b).bind λg=>if g.2then some (g.1,2)else(a3v a b c.1.Substantial).bind λf=>if f.2then some (f.1,3)else(a4b a b).bind λd=>if d.2then some (d.1,4)else(a8j a.facts b).bind λh=>if h.2then some (h.1,5)else some ((-1:Int),0)
def b8r(k:(lQ×(O gQ)×(O Int)×Int)->A3 (O gQ))(a:lQ×(O gQ)×(O Int)×Int):A3 (O gQ):=if(decide ((i64 (a.2.2.2+1))<(a.2.2.1.length:Int)))then(c7 a.2.2.1 a.2.2.2).bind λy=>(c7 a.2.2.1 a.2.2.2).bind λu=>(a7m a.1 u).bind λc=>if(c.2==0)then k (a.1,a.2.1,a.2.2.1,i64 (a.2.2.2+1))else(if(decide ((a.2.1.length:Int)>0))then(c7 a.2.1 (i64 ((a.2.1.length:Int)-1))).bind λx=>(c7 a.2.1 (i64 ((a.2.1.length:Int)-1))).bind λs=>(c7 a.2.2.1 a.2.2.2).bind λp=>(c7 a.2.2.1 a.2.2.2).bind λf=>some (s.Span.To==f)else some false).bind λj=>(if j then(c7 a.2.1 (i64 ((a.2.1.length:Int)-1))).bind λq=>(c7 a.2.1 (i64 ((a.2.1.length:Int)-1))).bind λm=>some (m.State==c.1)else some false).bind λg=>(if g then(c7 a.2.1 (i64 ((a.2.1.length:Int)-1))).bind λv=>(c7 a.2.1 (i64 ((a.2.1.length:Int)-1))).bind λl=>some (l.Rule==c.2)else some false).bind λd=>if d then(c7 a.2.2.1 (i64 (a.2.2.2+1))).bind λr=>(c7 a.2.2.1 (i64 (a.2.2.2+1))).bind λh=>(c7 a.2.1 (i64 ((a.2.1.length:Int)-1))).bind λo=>(c7 a.2.1 (i64 ((a.2.1.length:Int)-1))).bind λb=>k (a.1,a8h a.2.1 (i64 ((a.2.1.length:Int)-1)) (⟨(⟨b.Span.From,h⟩:Span),b.State,b.Rule⟩:gQ),a.2.2.1,i64 (a.2.2.2+1))else(c7 a.2.2.1 a.2.2.2).bind λw=>(c7 a.2.2.1 a.2.2.2).bind λe=>(c7 a.2.2.1 (i64 (a.2.2.2+1))).bind λt=>(c7 a.2.2.1 (i64 (a.2.2.2+1))).bind λn=>(a4n 32 a.2.1 [(⟨(⟨e,n⟩:Span),c.1,c.2⟩:gQ)]).bind λi=>k (a.1,i,a.2.2.1,i64 (a.2.2.2+1))else some a.2.1
def a4h(b:O aQ)(c:O Rules):A3 (O gQ):=(a9c b c).bind λa=>if(!a.2)then some []else(a6t a.1).bind λd=>d9 FU b8r (a.1,[],d,0)
def a1s(e:Int)(c:O Span)(j:O Period)(h:Scheme)(i:O Period):A3 ((O Period)×(O Period)):=lpC (i,([]:O Period),(0:Int)) λd⟨b,k,a⟩=>if(decide (a<(c.length:Int)))then(c7 c a).bind λg=>(a4n 32 b [(⟨h.State,e,g⟩:Period)]).bind λf=>d (f,[],i64 (a+1))else some ([],b)
def b1h(d:O gQ)(i f:Int)(c:((O Span)×Int)->A3 (O Span))(a:(O Span)×Int):A3 (O Span):=if(decide (a.2<(d.length:Int)))then(c7 d a.2).bind λb=>(if(b.State==i)then some (decide (b.Rule<=f))else some false).bind λe=>if e then(a4n 16 a.1 [b.Span]).bind λh=>c (h,i64 (a.2+1))else c (a.1,i64 (a.2+1))else(a2w a.1).bind λg=>some g
def b1e(a:O gQ)(c b:Int):A3 (O Span):=d9 FU (b1h a c b) ([],0)
def b3o:A3 (O Anon304):=some [(⟨6,2⟩:Anon304),(⟨9,3⟩:Anon304),(⟨7,4⟩:Anon304),(⟨8,5⟩:Anon304),(⟨10,6⟩:Anon304),(⟨5,7⟩:Anon304)]
def b56(a:Credit)(b:Int):A3 Bool:=some (a.Kind==b)
def q0(c:O Credit)(a:Int)(d:Int->A3 Int)(b:Int):A3 Int:=if(decide (b<(c.length:Int)))then(c7 c b).bind λf=>(b56 f a).bind λe=>if e then some b else d (i64 (b+1))else some (-1:Int)
def t7(b:O Credit)(a:Int):A3 Int:=d9 FU (q0 b a) 0
def b43(a:Version)(c:Int):A3 (Int×Bool):=(t7 a.Credits c).bind λb=>if(decide (b<0))then some (0,false)else(c7 a.Credits b).bind λd=>some (d.Limit,true)
def b6o(c:O aQ)(k h:Int)(d:((O Span)×Int)->A3 (O Span))(a:(O Span)×Int):A3 (O Span):=if(decide (a.2<(c.length:Int)))then(c7 c a.2).bind λb=>(a4e b).bind λf=>(if f then some (b.Kind==k)else some false).bind λj=>(if j then some (b.State==h)else some false).bind λi=>if i then(a4n 16 a.1 [b.Span]).bind λe=>d (e,i64 (a.2+1))else d (a.1,i64 (a.2+1))else(a2i c).bind λl=>(s6 a.1 l).bind λg=>some g
def b7p(a:O aQ)(c b:Int):A3 (O Span):=d9 FU (b6o a c b) ([],0)
def b2y(c:(Int×(O Span)×(O Span)×Int)->A3 (O Span))(a:Int×(O Span)×Span×(O Span)×Int×Int):A3 (O Span):=(a4n 16 a.2.1 [a.2.2.1]).bind λb=>c (i64 (a.1-(i64 (a.2.2.1.To-a.2.2.1.From))),b,a.2.2.2.1,i64 (a.2.2.2.2.2+1))
def b4k(h:O Span)(i:Int):A3 (O Span):=(a2w h).bind λf=>lpC (i,([]:O Span),f,(0:Int)) λg⟨b,e,d,a⟩=>if(decide (a<(f.length:Int)))then(c7 d a).bind λj=>(c7 d a).bind λc=>if(decide (b<1))then some e else if(decide ((i64 (c.To-c.From))>b))then joinC (b2y g) (b,e,(⟨c.From,i64 (c.From+b)⟩:Span),d,(f.length:Int),a)else joinC (b2y g) (b,e,c,d,(f.length:Int),a)else some e
def b1c(r:O aQ)(w:Int)(y:Span)(z:Int):A3 (O Span):=lpC (y,([]:O Span),(1:Int)) λt⟨v,s,e⟩=>if(decide (e<=99))then(a4f r).bind λu=>lpC (v,s,([]:O Span),u,(0:Int)) λc⟨d,g,f,h,a⟩=>if(decide (a<(u.length:Int)))then(c7 h a).bind λx=>(c7 h a).bind λb=>(if(b.Kind==10)then some (b.State==w)else some false).bind λn=>(if n then some (b.Ref==e)else some false).bind λk=>if k then(a4n 16 f [b.Span]).bind λq=>c (d,g,q,h,i64 (a+1))else c (d,g,f,h,i64 (a+1))else if(decide ((f.length:Int)>0))then(a2i r).bind λm=>(s6 f m).bind λi=>(s6 i d).bind λo=>(b4k o z).bind λl=>(a4n 16 g l).bind λj=>t (d,j,i64 (e+1))else t (d,g,i64 (e+1))else(a2w s).bind λp=>some p
def a7e(C:O aQ)(G:O gQ)(n:O Scheme)(x:Int):A3 ((O Period)×Int):=(if(decide (x<0))then some true else some (decide (x>73049))).bind λE=>if E then some ([],1)else lpC (0:Int) λK l=>if(decide (l<(n.length:Int)))then(c7 n l).bind λw=>(if(decide (w.State<0))then some true else some (decide (w.State>=6))).bind λP=>(if P then some true else(if(decide (l>0))then(c7 n (i64 (l-1))).bind λN=>some (decide (w.State<=N.State))else some false).bind λL=>some L).bind λI=>if I then some ([],1)else K (i64 (l+1))else lpC (([]:O Period),([]:O Period),(⟨0,x⟩:Span),(0:Int)) λs⟨D,F,m,i⟩=>if(decide (i<(n.length:Int)))then(c7 n i).bind λj=>(b1e G j.State 3).bind λu=>(s6 u m).bind λB=>(a1s 1 B [] j D).bind λz=>(b3o).bind λk=>lpC (z.2,([]:O Period),m,j,k,(0:Int),()) λh⟨f,H,c,a,e,b,M⟩=>if(decide (b<(k.length:Int)))then(c7 e b).bind λJ=>(c7 e b).bind λd=>(b43 a.Version d.kind).bind λg=>if(!g.2)then h (f,[],c,a,e,i64 (b+1),())else(b7p C d.kind a.State).bind λA=>(s6 A c).bind λo=>(if(g.1!=0)then some (d.kind==10)else some false).bind λy=>if y then(b1c C a.State c g.1).bind λp=>(a1s d.rank p [] a f).bind λt=>h (t.2,[],c,a,e,i64 (b+1),())else if(g.1!=0)then(b4k o g.1).bind λv=>(a1s d.rank v [] a f).bind λq=>h (q.2,[],c,a,e,i64 (b+1),())else(a1s d.rank o [] a f).bind λr=>h (r.2,[],c,a,e,i64 (b+1),())else s (f,[],c,i64 (i+1))else some (D,0)
def b9z(d:O Period)(j e:Int):A3 (O Span):=lpC (([]:O Span),(0:Int)) λf⟨c,a⟩=>if(decide (a<(d.length:Int)))then(c7 d a).bind λb=>(if(b.State==j)then(if(e==0)then some true else some (b.Rank==e)).bind λi=>some i else some false).bind λh=>if h then(a4n 16 c [b.Span]).bind λg=>f (g,i64 (a+1))else f (c,i64 (a+1))else(a2w c).bind λk=>some k
def b2x(g:O Period):A3 (A3 (Ar 6 (Ar 7 (O Span)))):=lpC ((arZ 6 (arZ 7 []:Ar 7 (O Span)):Ar 6 (Ar 7 (O Span))),(0:Int)) λi⟨e,a⟩=>if(decide (a<6))then lpC (e,(0:Int)) λh⟨c,b⟩=>if(decide (b<7))then(b9z g a (i64 (b+1))).bind λf=>(c7 c.l a).bind λk=>(d0n 7 b).bind λj=>(c7 c.l a).bind λd=>h (Ar.set c a (Ar.set d b f),i64 (b+1))else i (c,i64 (a+1))else some (some e)
def a4a(i:Ar 6 (Ar 7 (O Span)))(j:Int):A3 (Int×(O Int)):=lpC (([]:O Int),(0:Int)) λl⟨g,c⟩=>if(decide (c<7))then lpC (g,(0:Int)) λe⟨a,b⟩=>if(decide (b<6))then(c7 i.l b).bind λf=>(c7 f.l c).bind λk=>(a8r k j).bind λh=>if h then(a4n 8 a [b]).bind λd=>e (d,i64 (b+1))else e (a,i64 (b+1))else if(decide ((a.length:Int)>0))then some (i64 (c+1),a)else l (a,i64 (c+1))else some (0,[])
def b90(b:O Span):A3 (Int×Bool):=(a2w b).bind λa=>if((a.length:Int)==0)then some (0,false)else(c7 a (i64 ((a.length:Int)-1))).bind λd=>(c7 a (i64 ((a.length:Int)-1))).bind λc=>some (i64 (c.To-1),true)
def a1b(d:Ar 6 (Ar 7 (O Span)))(f e:Int):A3 Int:=(c7 d.l f).bind λc=>(c7 c.l 0).bind λg=>(s6 g (⟨0,e⟩:Span)).bind λb=>(b90 b).bind λa=>if(!a.2)then some (-1:Int)else some a.1
def c4p(h:O Span)(f:Int):A3 (Int×Bool):=if(decide (f<0))then some (0,false)else(a2w h).bind λe=>lpC (f,e,(0:Int)) λg⟨d,c,b⟩=>if(decide (b<(e.length:Int)))then(c7 c b).bind λi=>(c7 c b).bind λa=>if(decide (d<(i64 (a.To-a.From))))then some (i64 (a.From+d),true)else g (i64 (d-(i64 (a.To-a.From))),c,i64 (b+1))else some (0,false)
def a2f(d:Ar 6 (Ar 7 (O Span)))(f e:Int):A3 Int:=(c7 d.l f).bind λc=>(c7 c.l 0).bind λg=>(s6 g (⟨i64 (e+1),73049⟩:Span)).bind λb=>(c4p b 0).bind λa=>if(!a.2)then some 73049 else some a.1
def a69(d:Ar 6 (Ar 7 (O Span)))(f:O Int)(e:Int):A3 Int:=(c7 f 0).bind λp=>(a1x f 1 (f.length:Int)).bind λn=>lpC (p,(0:Int)) λl⟨c,i⟩=>if(decide (i<(n.length:Int)))then(c7 n i).bind λm=>(a1b d m e).bind λo=>(a1b d c e).bind λr=>if(decide (o>r))then l (m,i64 (i+1))else l (c,i64 (i+1))else(a1b d c e).bind λq=>if(decide (q>=0))then some c else lpC (c,(0:Int)) λg⟨b,a⟩=>if(decide (a<(f.length:Int)))then(c7 f a).bind λh=>(a2f d h e).bind λk=>(a2f d b e).bind λj=>if(decide (k<j))then g (h,i64 (a+1))else g (b,i64 (a+1))else some b
def b17(b:Ar 6 (Ar 7 (O Span)))(c:Int):A3 (Int×Int×Bool):=(a4a b c).bind λa=>if(a.1==0)then some ((-1:Int),0,false)else(a69 b a.2 c).bind λd=>some (d,a.1,true)
def a72(d h:Int)(k:Ar 6 (Ar 7 (O Span)))(p a:O nQ):A3 ((O nQ)×(O nQ)):=(b17 k d).bind λb=>(if(!b.2.2)then some true else some (decide (d>=h))).bind λm=>if m then some ([],a)else(if(decide ((a.length:Int)>0))then(c7 a (i64 ((a.length:Int)-1))).bind λn=>(c7 a (i64 ((a.length:Int)-1))).bind λc=>(c7 a (i64 ((a.length:Int)-1))).bind λo=>(c7 a (i64 ((a.length:Int)-1))).bind λl=>some (((c.Span.From==l.Span.From)&&((c.Span.To==d)&&(true)))&&((c.State==b.1)&&((c.Rank==b.2.1)&&(true))))else some false).bind λi=>if i then(c7 a (i64 ((a.length:Int)-1))).bind λq=>(c7 a (i64 ((a.length:Int)-1))).bind λj=>(a1x a 0 (i64 ((a.length:Int)-1))).bind λg=>(a4n 32 g [(⟨(⟨j.Span.From,h⟩:Span),b.1,b.2.1⟩:nQ)]).bind λf=>some ([],f)else(a4n 32 a [(⟨(⟨d,h⟩:Span),b.1,b.2.1⟩:nQ)]).bind λe=>some ([],e)
def a8x(b f:O Int)(c:Int->A3 Bool)(a:Int):A3 Bool:=if(decide (a<(b.length:Int)))then(c7 b a).bind λe=>(c7 f a).bind λd=>if(e !=d)then some false else c (i64 (a+1))else some true
def a88(a b:O Int):A3 Bool:=if((a.length:Int)!=(b.length:Int))then some false else d9 FU (a8x a b) 0
def b7w(u:O (O Span)):A3 (O Piece):=(mkI 24 ([]:O Span) (u.length:Int) (u.length:Int)).bind λQ=>lpC (Q,([]:O Int),(0:Int)) λM⟨l,L,i⟩=>if(decide (i<(u.length:Int)))then(c7 u i).bind λV=>(a2w V).bind λF=>(c7 l i).bind λX=>(c7 l i).bind λY=>(c7 (a8h l i F) i).bind λR=>(c7 (a8h l i F) i).bind λm=>lpC (a8h l i F,L,(0:Int)) λG⟨o,q,j⟩=>if(decide (j<(m.length:Int)))then(c7 m j).bind λs=>(a4n 8 q [s.From,s.To]).bind λD=>G (o,D,i64 (j+1))else M (o,q,i64 (i+1))else(b8s L).bind λv=>(a0n v).bind λE=>lpC (l,E,([]:O Piece),(0:Int)) λk⟨n,e,r,b⟩=>if(decide ((i64 (b+1))<(e.length:Int)))then(c7 e b).bind λU=>(c7 e b).bind λK=>(c7 e (i64 (b+1))).bind λS=>(c7 e (i64 (b+1))).bind λB=>lpC (n,e,r,([]:O Int),(⟨(⟨K,B⟩:Span),[]⟩:Piece),(0:Int)) λp⟨c,h,a,g,d,f⟩=>if(decide (f<(n.length:Int)))then(c7 c f).bind λN=>(c7 c f).bind λw=>(a8r w d.Span.From).bind λy=>if y then(a4n 8 g [f]).bind λH=>p (c,h,a,H,(⟨d.Span,[]⟩:Piece),i64 (f+1))else p (c,h,a,g,(⟨d.Span,[]⟩:Piece),i64 (f+1))else if((g.length:Int)==0)then k (c,h,a,i64 (b+1))else(if(decide ((a.length:Int)>0))then(c7 a (i64 ((a.length:Int)-1))).bind λP=>(c7 a (i64 ((a.length:Int)-1))).bind λz=>some (z.Span.To==d.Span.From)else some false).bind λI=>(if I then(c7 a (i64 ((a.length:Int)-1))).bind λW=>(c7 a (i64 ((a.length:Int)-1))).bind λC=>(a88 C.Members g).bind λJ=>some J else some false).bind λA=>if A then(c7 a (i64 ((a.length:Int)-1))).bind λT=>(c7 a (i64 ((a.length:Int)-1))).bind λt=>k (c,h,a8h a (i64 ((a.length:Int)-1)) (⟨(⟨t.Span.From,d.Span.To⟩:Span),t.Members⟩:Piece),i64 (b+1))else(a4n 40 a [(⟨d.Span,g⟩:Piece)]).bind λx=>k (c,h,x,i64 (b+1))else some r
def a71(m:O Period):A3 (O nQ):=(b2x m).bind λo=>optC o (none) λn=>lpC (n,([]:O (O Span)),(0:Int)) λs⟨f,k,i⟩=>if(decide (i<6))then(c7 f.l i).bind λu=>(a4n 24 k u.l).bind λq=>s (f,q,i64 (i+1))else(b7w k).bind λl=>lpC (f,([]:O nQ),([]:O nQ),l,(0:Int),()) λj⟨c,e,r,d,b,p⟩=>if(decide (b<(l.length:Int)))then(c7 d b).bind λt=>(c7 d b).bind λa=>(a72 a.Span.From (i64 (a.Span.From+1)) c [] e).bind λh=>(a72 (i64 (a.Span.From+1)) a.Span.To c [] h.2).bind λg=>j (c,g.2,[],d,i64 (b+1),())else some e
def b1l(a b:Int):A3 Bool:=some (a==b)
def a3g(d:bQ)(j:O aQ)(b:Int):A3 (O nQ):=lpC (d,([]:O Scheme),(0:Int)) λi⟨a,h,c⟩=>if(decide (c<(d.laws.States.length:Int)))then(c7 d.laws.States c).bind λf=>(b1l f.State b).bind λm=>if m then(b1v f.Statute a.day).bind λk=>(a4n 152 h [(⟨f.State,k.1⟩:Scheme)]).bind λn=>i (a,n,i64 (c+1))else i (a,h,i64 (c+1))else(a4h j a.laws.Treaty).bind λl=>(a7e j l h a.day).bind λg=>(a71 g.1).bind λe=>some e
def b3l(a:bQ)(c:O aQ)(b:Int):A3 (O nQ):=(a3g a c b).bind λd=>some d
def a0s(c:bQ)(i:O aQ)(l:bQ):A3 (O nQ):=lpC (c,([]:O Scheme),(0:Int)) λh⟨a,g,b⟩=>if(decide (b<(c.laws.States.length:Int)))then(c7 c.laws.States b).bind λe=>(a08 l e.State).bind λm=>if m then(b1v e.Statute a.day).bind λj=>(a4n 152 g [(⟨e.State,j.1⟩:Scheme)]).bind λn=>h (a,n,i64 (b+1))else h (a,g,i64 (b+1))else(a4h i a.laws.Treaty).bind λk=>(a7e i k g a.day).bind λf=>(a71 f.1).bind λd=>some d
def a2z(a:bQ)(c:O aQ)(b:Int):A3 (O nQ):=(a08 a b).bind λe=>if e then(a0s a c a).bind λf=>some f else(b3l a c b).bind λd=>some d
def b30(d:O aQ)(j:Int)(c:((O Int)×Int)->A3 (O Int))(a:(O Int)×Int):A3 (O Int):=if(decide (a.2<(d.length:Int)))then(c7 d a.2).bind λb=>(a4e b).bind λf=>(if f then some (b.Kind==10)else some false).bind λi=>(if i then some (decide (b.Span.From<j))else some false).bind λh=>if h then(a4n 8 a.1 [b.Ref]).bind λe=>c (e,i64 (a.2+1))else c (a.1,i64 (a.2+1))else(b8s a.1).bind λk=>(a0n k).bind λg=>some g
def b2v(a:O aQ)(b:Int):A3 (O Int):=d9 FU (b30 a b) ([],0)
def a3o(a:Int):A3 Int:=if(decide ((i64 (a-1900))>0))then(c2t (i64 ((i64 (a-1900))-1)) 4).bind λb=>some (i64 ((i64 (365*(i64 (a-1900))))+b))else some (i64 (365*(i64 (a-1900))))
def a7i(a:Int):A3 Int:=(a7l a).bind λb=>if b then some 366 else some 365
def a4d(b:Int):A3 (Int×Int×Int×Bool):=(m7 b).bind λi=>if(!i)then some (0,0,0,false)else(c2t b 366).bind λm=>lpC (i64 (1900+m)) λj a=>(a3o a).bind λl=>(a7i a).bind λk=>if(decide ((i64 (l+k))<=b))then j (i64 (a+1))else(a3o a).bind λh=>lpC ((1:Int),i64 (b-h)) λg⟨c,e⟩=>(a05 a c).bind λf=>if(decide (e>=f))then(a05 a c).bind λd=>g (i64 (c+1),i64 (e-d))else some (a,c,i64 (e+1),true)
def b1r(a b d:Int):A3 (Int×Bool):=(if(decide (a<1900))then some true else some (decide (a>2099))).bind λk=>(if k then some true else some (decide (b<1))).bind λn=>(if n then some true else some (decide (b>12))).bind λj=>(if j then some true else some (decide (d<1))).bind λi=>(if i then some true else(a05 a b).bind λm=>some (decide (d>m))).bind λl=>if l then some (0,false)else(a3o a).bind λh=>lpC (i64 ((i64 (h+d))-1),(1:Int)) λf⟨g,c⟩=>if(decide (c<b))then(a05 a c).bind λe=>f (i64 (g+e),i64 (c+1))else some (g,true)
def a6q(a:Int×Int×Int):A3 (Int×Bool):=(b1r a.1 a.2.1 a.2.2).bind λb=>some (b.1,b.2)
def b03(e b:Int):A3 (Int×Bool):=(a4d e).bind λa=>(if(!a.2.2.2)then some true else some (decide (b<0))).bind λh=>(if h then some true else some (decide (b>(i64 (2099-a.1))))).bind λd=>if d then some (0,false)else(if(a.2.1==2)then some (a.2.2.1==29)else some false).bind λc=>(if c then(a7l (i64 (a.1+b))).bind λg=>some (!g)else some false).bind λf=>if f then joinC a6q (i64 (a.1+b),3,1)else joinC a6q (i64 (a.1+b),a.2.1,a.2.2.1)
def b7r(a b:Int):A3 Int:=(m7 a).bind λh=>(if(!h)then some true else(m7 b).bind λi=>some (!i)).bind λg=>(if g then some true else some (decide (b<a))).bind λf=>if f then some (-1:Int)else(a4d a).bind λd=>(a4d b).bind λc=>(b03 a (i64 (c.1-d.1))).bind λe=>if(decide (e.1>b))then some (i64 ((i64 (c.1-d.1))-1))else some (i64 (c.1-d.1))
def c0z(h:O Span)(g:Int):A3 Int:=(a2w h).bind λf=>lpC ((0:Int),f,(0:Int)) λe⟨d,b,a⟩=>if(decide (a<(f.length:Int)))then(c7 b a).bind λi=>(c7 b a).bind λc=>if(decide (c.From<g))then e (i64 (d+(i64 ((min c.To g)-c.From))),b,i64 (a+1))else e (d,b,i64 (a+1))else some d
def b6h(a:O Span):A3 Int:=(c0z a 73049).bind λb=>some b
def a8q(d:O nQ)(e:Int)(i:O Int):A3 Int:=lpC (([]:O Span),(0:Int)) λf⟨c,a⟩=>if(decide (a<(d.length:Int)))then(c7 d a).bind λb=>(if(decide (e<0))then some true else some (b.State==e)).bind λk=>(if k then(q9 i b.Rank).bind λj=>some j else some false).bind λg=>if g then(a4n 16 c [b.Span]).bind λl=>f (l,i64 (a+1))else f (c,i64 (a+1))else(b6h c).bind λh=>some h
def b63(a:aQ)(d:Int):A3 Int:=(if(a.Kind==1)then some true else some (a.Kind==2)).bind λc=>(if c then some true else some (a.Kind==3)).bind λe=>if e then some 1 else(if(a.Kind==6)then some (a.State==d)else some false).bind λb=>if b then some 2 else some 0
def b6i(d:O nQ)(j e:Int):A3 (O Span):=lpC (([]:O Span),(0:Int)) λf⟨c,a⟩=>if(decide (a<(d.length:Int)))then(c7 d a).bind λb=>(if(b.State==j)then(if(e==0)then some true else some (b.Rank==e)).bind λi=>some i else some false).bind λh=>if h then(a4n 16 c [b.Span]).bind λg=>f (g,i64 (a+1))else f (c,i64 (a+1))else(a2w c).bind λk=>some k
def b13(k:O aQ)(o:O nQ)(l:Int):A3 (O earnings_income):=(a4f k).bind λj=>lpC (([]:O earnings_income),j,(0:Int)) λf⟨d,c,a⟩=>if(decide (a<(j.length:Int)))then(c7 c a).bind λp=>(c7 c a).bind λe=>(b63 e l).bind λm=>if(m==0)then f (d,c,i64 (a+1))else(b6i o l m).bind λn=>(s6 n e.Span).bind λh=>(a2i k).bind λg=>(s6 h g).bind λb=>if(decide ((b.length:Int)>0))then(a4n 136 d [(⟨e,b⟩:earnings_income)]).bind λi=>f (i,c,i64 (a+1))else f (d,c,i64 (a+1))else some d
def b5y(a:Int):A3 Span:=(b1r a 1 1).bind λb=>(b1r a 12 31).bind λc=>some (⟨b.1,i64 (c.1+1)⟩:Span)
def b6a(a:aQ)(b:Int):A3 Int:=(b3k a).bind λe=>(if(!e)then some true else some (decide (b<0))).bind λf=>(if f then some true else some (decide (b>(i64 (a.Span.To-a.Span.From))))).bind λd=>if d then some 0 else(c2t (i64 (a.Amount*b)) (i64 (a.Span.To-a.Span.From))).bind λc=>some c
def c17(a:Int):A3 Bool:=(if(decide (a>=(-1000000000000:Int)))then some (decide (a<=1000000000000))else some false).bind λb=>some b
def a1c(a:Rounding×Bool):A3 Bool:=if a.2then(if(decide (a.1.Unit>=1))then some (decide (a.1.Unit<=100000))else some false).bind λb=>some b else some false
def a2y(a:Rounding):A3 Bool:=if(a.Mode==1)then joinC a1c (a,a.Mode==1)else if(a.Mode==2)then joinC a1c (a,a.Mode==2)else if(a.Mode==3)then joinC a1c (a,a.Mode==3)else joinC a1c (a,a.Mode==4)
def b3x(a:Int):A3 Int:=if(decide (a<0))then some (u64 (i64 (-a)))else some (u64 (a))
def b2f(a:Rounding×Int):A3 (Int×Int):=(c2t 1000000000000 a.1.Unit).bind λc=>(if(decide (a.2>c))then some true else(c2t (-1000000000000:Int) a.1.Unit).bind λd=>some (decide (a.2<d))).bind λb=>if b then some (0,2)else some (i64 (a.2*a.1.Unit),0)
def a7a(a:Rounding×Int×Bool):A3 (Int×Int):=if a.2.2then joinC b2f (a.1,i64 (a.2.1+1))else joinC b2f (a.1,a.2.1)
def a9e(a:Rounding×Int×Int×Int):A3 (Int×Int):=if(a.1.Mode==2)then joinC a7a (a.1,a.2.2.2,decide (a.2.2.1>0))else if(a.1.Mode==3)then joinC a7a (a.1,a.2.2.2,decide (a.2.2.1>=(u64 (a.2.1-a.2.2.1))))else if(a.1.Mode==4)then(if(decide (a.2.2.1>(u64 (a.2.1-a.2.2.1))))then some true else(if(a.2.2.1==(u64 (a.2.1-a.2.2.1)))then(b8t a.2.2.2 2).bind λc=>some (c !=0)else some false).bind λd=>some d).bind λb=>joinC a7a (a.1,a.2.2.2,b)else joinC a7a (a.1,a.2.2.2,false)
def a9o(e:Bool)(d f c:Int)(a:Rounding):A3 (Int×Int):=if(decide (d>=(u64 (c*(u64 (a.Unit))))))then some (0,2)else(a8o d f (u64 (c*(u64 (a.Unit))))).bind λb=>if(decide (b.1>2000000000000))then some (0,2)else if e then if(decide (b.2>0))then joinC a9e (a,u64 (c*(u64 (a.Unit))),u64 ((u64 (c*(u64 (a.Unit))))-b.2),i64 ((i64 (-(i64 (b.1))))-1))else joinC a9e (a,u64 (c*(u64 (a.Unit))),b.2,i64 (-(i64 (b.1))))else joinC a9e (a,u64 (c*(u64 (a.Unit))),b.2,i64 (b.1))
def b6m(c:O Rate)(l j:Int):A3 (fQ×Bool):=lpC ((⟨0,0⟩:fQ),(-1:Int),(0:Int)) λf⟨g,b,a⟩=>if(decide (a<(c.length:Int)))then(c7 c a).bind λd=>(if(d.Currency==l)then some (decide (d.Month<=j))else some false).bind λk=>(if k then(if(decide (b<0))then some true else(c7 c b).bind λh=>some (decide (d.Month>h.Month))).bind λm=>some m else some false).bind λi=>if i then f (g,a,i64 (a+1))else f (g,b,i64 (a+1))else if(decide (b<0))then some ((⟨0,0⟩:fQ),false)else(c7 c b).bind λe=>some (e.Value,true)
def b3s(b a:Int):A3 (Int×Int):=(d0l .u64 b 32).bind λc=>(d0l .u64 a 32).bind λe=>(d0l .u64 (u64 ((d5y .u64 b 4294967295)*(d5y .u64 a 4294967295))) 32).bind λd=>(d0l .u64 (u64 ((u64 (c*(d5y .u64 a 4294967295)))+d)) 32).bind λf=>(d0l .u64 (u64 ((d5y .u64 (u64 ((u64 (c*(d5y .u64 a 4294967295)))+d)) 4294967295)+(u64 ((d5y .u64 b 4294967295)*e)))) 32).bind λg=>some (u64 ((u64 ((u64 (c*e))+f))+g),u64 (b*a))
def b68(d j l m:Int)(o:O Rate)(h:Rounding):A3 (Int×Int):=(c17 d).bind λs=>(if(!s)then some true else(a8n j).bind λr=>some (!r)).bind λq=>(if q then some true else(a8n l).bind λu=>some (!u)).bind λy=>(if y then some true else(b9g m).bind λx=>some (!x)).bind λv=>(if v then some true else(a2y h).bind λt=>some (!t)).bind λw=>(if w then some true else(a5r o).bind λi=>some (i !=0)).bind λg=>if g then some (0,1)else if(j==l)then(b3x d).bind λk=>(a9o (decide (d<0)) 0 k 1 h).bind λf=>some (f.1,f.2)else(b6m o j m).bind λb=>(b6m o l m).bind λa=>(if(!b.2)then some true else some (!a.2)).bind λp=>if p then some (0,9)else(b3x d).bind λn=>(b3s n (u64 ((u64 (b.1.Num))*(u64 (a.1.Den))))).bind λc=>(a9o (decide (d<0)) c.1 c.2 (u64 ((u64 (b.1.Den))*(u64 (a.1.Num)))) h).bind λe=>some (e.1,e.2)
def b4h(S:O aQ)(W:O nQ)(H J:Int)(P:O Rate):A3 ((O Earning)×Int):=(if(decide (H<0))then some true else some (decide (H>=6))).bind λU=>(if U then some true else some (decide (J<1))).bind λT=>(if T then some true else some (decide (J>999))).bind λR=>(if R then some true else(a5r P).bind λX=>some (X !=0)).bind λv5=>if v5 then some ([],1)else(b13 S W H).bind λQ=>lpC (Q,([]:O (Int×Int)),(0:Int)) λD⟨y,G,z⟩=>if(decide (z<(Q.length:Int)))then(c7 y z).bind λV=>(c7 y z).bind λq=>lpC (y,G,(0:Int)) λN⟨u,s,h⟩=>if(decide (h<(q.days.length:Int)))then(c7 q.days h).bind λt=>(a4d t.From).bind λA=>(a4d (i64 (t.To-1))).bind λK=>lpC (u,s,A.1) λB⟨o,n,l⟩=>if(decide (l<=K.1))then B (o,a62 n l 0,i64 (l+1))else N (o,n,i64 (h+1))else D (u,s,i64 (z+1))else(c8c G).bind λm=>lpC (y,G,([]:O Earning),(List.map (λx=>x) m),(0:Int)) λC⟨v,M,p,j,e⟩=>if(decide (e<((List.map (λx=>x) m).length:Int)))then(c7 j e).bind λY=>(c7 j e).bind λa=>lpC (v,M,p,j,(0:Int)) λr⟨c,b,i,f,d⟩=>if(decide (d<(v.length:Int)))then(c7 c d).bind λZ=>(c7 c d).bind λg=>(b5y a).bind λE=>(s6 g.days E).bind λL=>(b6h L).bind λw=>if(w==0)then r (c,b,i,f,i64 (d+1))else(b6a g.fact w).bind λI=>(b68 I g.fact.Currency J (i64 ((i64 (12*(i64 (a-1900))))+11)) P (⟨1,1⟩:Rounding)).bind λk=>if(k.2!=0)then some ([],k.2)else r (c,a62 b a (i64 ((b5g b a)+k.1)),i,f,i64 (d+1))else if(decide ((b5g b a)>1000000000000))then some ([],2)else(a4n 16 i [(⟨a,b5g b a⟩:Earning)]).bind λF=>C (c,b,F,f,i64 (e+1))else some (p,0)
def b0w(d:Version)(k:Int):A3 fQ:=lpC (d,(⟨0,0⟩:fQ),(-1:Int),(0:Int)) λf⟨c,h,b,a⟩=>if(decide (a<(d.Series.length:Int)))then(c7 d.Series a).bind λg=>(if(decide (g.Year<=k))then(if(decide (b<0))then some true else(c7 c.Series b).bind λi=>some (decide (g.Year>i.Year))).bind λl=>some l else some false).bind λj=>if j then f (c,h,a,i64 (a+1))else f (c,h,b,i64 (a+1))else if(decide (b<0))then some (⟨1,1⟩:fQ)else(c7 c.Series b).bind λe=>some e.Factor
def b0x(a:fQ):A3 Bool:=(o7 a).bind λd=>(if d then some (decide (a.Num>0))else some false).bind λe=>(if e then some (decide (a.Num<=10000000000000))else some false).bind λc=>(if c then some (decide (a.Den<=10000))else some false).bind λb=>some b
def b2s(f:Version)(c j m:Int):A3 (Int×Int):=(b0w f m).bind λa=>(b0w f j).bind λb=>(if(decide (c<0))then some true else some (decide (c>1000000000000))).bind λi=>(if i then some true else(b0x a).bind λh=>some (!h)).bind λl=>(if l then some true else(b0x b).bind λk=>some (!k)).bind λg=>if g then some (0,1)else(b3s (u64 (c)) (u64 ((u64 (a.Num))*(u64 (b.Den))))).bind λd=>if(decide (d.1>=(u64 ((u64 (a.Den))*(u64 (b.Num))))))then some (0,2)else(a8o d.1 d.2 (u64 ((u64 (a.Den))*(u64 (b.Num))))).bind λe=>if(decide (e.1>1000000000000))then some (0,2)else some (i64 (e.1),0)
def b14(d:O Earning)(j:Version)(i:Int):A3 ((O Int)×Int):=lpC (j,([]:O Int),(0:Int)) λh⟨c,f,a⟩=>if(decide (a<(d.length:Int)))then(c7 d a).bind λe=>(b2s c e.Amount e.Year i).bind λb=>if(b.2!=0)then some ([],b.2)else(a4n 8 f [b.1]).bind λg=>h (c,g,i64 (a+1))else some (f,0)
def a70(e:Bool)(b a:rational_wide):A3 (fQ×Int):=(if(b.hi !=0)then some true else some (decide (b.lo>1000000000000000))).bind λd=>(if d then some true else some (a.hi !=0)).bind λf=>(if f then some true else some (decide (a.lo>1000000000))).bind λc=>if c then some ((⟨0,0⟩:fQ),2)else if e then some ((⟨i64 (-(i64 (b.lo))),i64 (a.lo)⟩:fQ),0)else some ((⟨i64 (b.lo),i64 (a.lo)⟩:fQ),0)
def b32(b c:Int):A3 (fQ×Int):=if(c==0)then some ((⟨0,0⟩:fQ),3)else(j5 b).bind λe=>(j5 c).bind λf=>(a7g e f).bind λa=>(if((decide (b<0))!=(decide (c<0)))then some (b !=0)else some false).bind λg=>(if a=0then none else some (u64 (Int.tdiv e a))).bind λi=>(if a=0then none else some (u64 (Int.tdiv f a))).bind λh=>(a70 g (⟨0,i⟩:rational_wide) (⟨0,h⟩:rational_wide)).bind λd=>some (d.1,d.2)
def b6e(a:O Int):A3 (fQ×Int):=if(decide ((a.length:Int)>200))then some ((⟨0,0⟩:fQ),1)else lpC ((⟨0,0⟩:fQ),(0:Int),(0:Int)) λf⟨g,e,b⟩=>if(decide (b<(a.length:Int)))then(c7 a b).bind λc=>(if(decide (c<0))then some true else some (decide (c>1000000000000))).bind λh=>if h then some ((⟨0,0⟩:fQ),1)else f (g,i64 (e+c),i64 (b+1))else if((a.length:Int)==0)then some ((⟨0,1⟩:fQ),0)else(b32 e (a.length:Int)).bind λd=>some (d.1,d.2)
def a7j(a:(O aQ)×(O nQ)×Int×bQ×(O Int)×View×Statute×Version×(O Int)×View×Int):A3 (View×Int):=(a8q a.2.1 a.2.2.2.2.2.2.2.2.2.2 [1]).bind λj=>(a8q a.2.1 a.2.2.2.2.2.2.2.2.2.2 [2]).bind λg=>(a8q a.2.1 a.2.2.2.2.2.2.2.2.2.2 [3]).bind λf=>(a8q a.2.1 a.2.2.2.2.2.2.2.2.2.2 [4,5]).bind λe=>(a8q a.2.1 a.2.2.2.2.2.2.2.2.2.2 [6]).bind λi=>(a8q a.2.1 a.2.2.2.2.2.2.2.2.2.2 [7]).bind λh=>(b4h a.1 a.2.1 a.2.2.1 a.2.2.2.2.2.2.1.Currency a.2.2.2.1.laws.Rates).bind λc=>if(c.2!=0)then some ((⟨0,0,0,0,0,0,0,0,0,0,(⟨0,0⟩:fQ),[]⟩:View),c.2)else(b14 c.1 a.2.2.2.2.2.2.2.1 a.2.2.2.2.2.2.2.2.2.1.Year).bind λb=>if(b.2!=0)then some ((⟨0,0,0,0,0,0,0,0,0,0,(⟨0,0⟩:fQ),[]⟩:View),b.2)else(b6e b.1).bind λd=>if(d.2!=0)then some ((⟨0,0,0,0,0,0,0,0,0,0,(⟨0,0⟩:fQ),[]⟩:View),d.2)else some ((⟨a.2.2.2.2.2.2.2.2.2.1.Age,a.2.2.2.2.2.2.2.2.2.1.Year,a.2.2.2.2.2.2.2.2.2.1.Children,i64 ((i64 ((i64 ((i64 ((i64 (j+g))+f))+e))+i))+h),j,g,f,e,i,h,d.1,b.1⟩:View),0)
def a85(a:(O aQ)×(O nQ)×Int×Bool×bQ×(O Int)×View×Statute×Version×(O Int)×View):A3 (View×Int):=(a4d a.2.2.2.2.1.day).bind λb=>if a.2.2.2.1then joinC a7j (a.1,a.2.1,a.2.2.1,a.2.2.2.2.1,a.2.2.2.2.2.1,(⟨a.2.2.2.2.2.2.1.Age,a.2.2.2.2.2.2.1.Year,a.2.2.2.2.2.2.1.Children,a.2.2.2.2.2.2.1.Insured,a.2.2.2.2.2.2.1.Worked,a.2.2.2.2.2.2.1.Voluntary,a.2.2.2.2.2.2.1.Service,a.2.2.2.2.2.2.1.Equated,a.2.2.2.2.2.2.1.Raising,a.2.2.2.2.2.2.1.Resident,a.2.2.2.2.2.2.1.Base,[]⟩:View),a.2.2.2.2.2.2.2.1,a.2.2.2.2.2.2.2.2.1,a.2.2.2.2.2.2.2.2.2.1,(⟨a.2.2.2.2.2.2.2.2.2.2.Age,b.1,a.2.2.2.2.2.2.2.2.2.2.Children,a.2.2.2.2.2.2.2.2.2.2.Insured,a.2.2.2.2.2.2.2.2.2.2.Worked,a.2.2.2.2.2.2.2.2.2.2.Voluntary,a.2.2.2.2.2.2.2.2.2.2.Service,a.2.2.2.2.2.2.2.2.2.2.Equated,a.2.2.2.2.2.2.2.2.2.2.Raising,a.2.2.2.2.2.2.2.2.2.2.Resident,a.2.2.2.2.2.2.2.2.2.2.Base,[]⟩:View),(-1:Int))else joinC a7j (a.1,a.2.1,a.2.2.1,a.2.2.2.2.1,a.2.2.2.2.2.1,(⟨a.2.2.2.2.2.2.1.Age,a.2.2.2.2.2.2.1.Year,a.2.2.2.2.2.2.1.Children,a.2.2.2.2.2.2.1.Insured,a.2.2.2.2.2.2.1.Worked,a.2.2.2.2.2.2.1.Voluntary,a.2.2.2.2.2.2.1.Service,a.2.2.2.2.2.2.1.Equated,a.2.2.2.2.2.2.1.Raising,a.2.2.2.2.2.2.1.Resident,a.2.2.2.2.2.2.1.Base,[]⟩:View),a.2.2.2.2.2.2.2.1,a.2.2.2.2.2.2.2.2.1,a.2.2.2.2.2.2.2.2.2.1,(⟨a.2.2.2.2.2.2.2.2.2.2.Age,b.1,a.2.2.2.2.2.2.2.2.2.2.Children,a.2.2.2.2.2.2.2.2.2.2.Insured,a.2.2.2.2.2.2.2.2.2.2.Worked,a.2.2.2.2.2.2.2.2.2.2.Voluntary,a.2.2.2.2.2.2.2.2.2.2.Service,a.2.2.2.2.2.2.2.2.2.2.Equated,a.2.2.2.2.2.2.2.2.2.2.Raising,a.2.2.2.2.2.2.2.2.2.2.Resident,a.2.2.2.2.2.2.2.2.2.2.Base,[]⟩:View),a.2.2.1)
def a8k(b:bQ)(c:O aQ)(f:O nQ)(e:Int)(h:Bool):A3 (View×Int):=(a2v b e).bind λa=>if(a.2.2!=0)then some ((⟨0,0,0,0,0,0,0,0,0,0,(⟨0,0⟩:fQ),[]⟩:View),a.2.2)else(b2v c b.day).bind λg=>(b4t c).bind λd=>(if d.2then some (decide (d.1<=b.day))else some false).bind λi=>if i then(b7r d.1 b.day).bind λj=>joinC a85 (c,f,e,h,b,[],(⟨0,0,0,0,0,0,0,0,0,0,(⟨0,0⟩:fQ),[]⟩:View),a.1,a.2.1,[],(⟨j,0,(g.length:Int),0,0,0,0,0,0,0,(⟨0,0⟩:fQ),[]⟩:View))else joinC a85 (c,f,e,h,b,[],(⟨0,0,0,0,0,0,0,0,0,0,(⟨0,0⟩:fQ),[]⟩:View),a.1,a.2.1,[],(⟨0,0,(g.length:Int),0,0,0,0,0,0,0,(⟨0,0⟩:fQ),[]⟩:View))
def c0y(b:O nQ)(d c:Int):A3 Int:=(b6i b d c).bind λa=>(b6h a).bind λe=>some e
def b06(e:(Total×Total×Int×Int)->A3 Total)(a:(O nQ)×Int×Total×Total×Int×Int×Int):A3 Total:=(b6i a.1 a.2.2.2.2.2.1 0).bind λd=>(b90 d).bind λb=>(if b.2then some (decide (b.1>a.2.2.2.2.1))else some false).bind λc=>if c then e (a.2.2.1,(⟨a.2.2.2.1.Own,a.2.2.2.1.Few,a.2.2.2.1.Sum,a.2.2.2.1.Base,a.2.2.2.2.2.1⟩:Total),b.1,i64 (a.2.2.2.2.2.2+1))else e (a.2.2.1,a.2.2.2.1,a.2.2.2.2.1,i64 (a.2.2.2.2.2.2+1))
def b41(e:O nQ)(f:Int):A3 Total:=lpC ((⟨(arZ 6 0:Ar 6 Int),(arZ 6 false:Ar 6 Bool),0,0,0⟩:Total),(⟨(arZ 6 0:Ar 6 Int),(arZ 6 false:Ar 6 Bool),0,0,(-1:Int)⟩:Total),(-1:Int),(0:Int)) λg⟨i,b,h,a⟩=>if(decide (a<6))then(c0y e a 0).bind λc=>(d0n 6 a).bind λn=>(d0n 6 a).bind λp=>(if(decide ((Ar.gt 0 (Ar.set b.Own a c) a)>0))then(d0n 6 a).bind λo=>some (decide ((Ar.gt 0 (Ar.set b.Own a c) a)<f))else some false).bind λd=>(d0n 6 a).bind λk=>(d0n 6 a).bind λj=>(d0n 6 a).bind λm=>if(!(Ar.gt false (Ar.set b.Few a d) a))then(d0n 6 a).bind λl=>joinC (b06 g) (e,f,i,(⟨Ar.set b.Own a c,Ar.set b.Few a d,i64 (b.Sum+(Ar.gt 0 (Ar.set b.Own a c) a)),i64 (b.Base+(Ar.gt 0 (Ar.set b.Own a c) a)),b.Last⟩:Total),h,a,a)else joinC (b06 g) (e,f,i,(⟨Ar.set b.Own a c,Ar.set b.Few a d,i64 (b.Sum+(Ar.gt 0 (Ar.set b.Own a c) a)),b.Base,b.Last⟩:Total),h,a,a)else some b
def b2k(b:Total)(a:Int):A3 (Int×Int):=(if(decide (a<0))then some true else some (decide (a>=6))).bind λe=>if e then some (0,1)else(d0n 6 a).bind λj=>(if(!(Ar.gt false b.Few a))then(d0n 6 a).bind λh=>some (decide ((Ar.gt 0 b.Own a)>0))else some false).bind λd=>(if d then some (decide (b.Base>0))else some false).bind λf=>if f then(d0n 6 a).bind λi=>some (Ar.gt 0 b.Own a,b.Base)else(if(b.Base==0)then some (decide (b.Sum>0))else some false).bind λc=>(if c then some (a==b.Last)else some false).bind λg=>if g then some (1,1)else some (0,1)
def b0a(a:Int):A3 Bool:=(if(decide (a<0))then some true else some (decide (a>1000000000000))).bind λb=>some b
def a6k(b:O Int)(c:Int->A3 Int)(a:Int):A3 Int:=if(decide (a<(b.length:Int)))then(c7 b a).bind λe=>(b0a e).bind λd=>if d then some a else c (i64 (a+1))else some (-1:Int)
def a29(a:O Int):A3 Int:=d9 FU (a6k a) 0
def a1n(a:O Int):A3 Bool:=(a29 a).bind λb=>some (decide (b>=0))
def a9p(a:O Int):A3 Bool:=(if(decide ((a.length:Int)<=200))then(a1n a).bind λb=>some (!b)else some false).bind λc=>some c
def b0s(a:View):A3 Bool:=(if(decide (a.Age<0))then some true else some (decide (a.Age>199))).bind λq=>(if q then some true else some (decide (a.Year<1900))).bind λp=>(if p then some true else some (decide (a.Year>2099))).bind λo=>(if o then some true else some (decide (a.Children<0))).bind λr=>(if r then some true else some (decide (a.Children>99))).bind λu=>(if u then some true else(a9p a.Years).bind λt=>some (!t)).bind λs=>if s then some false else lpC (a,(0:Int)) λe⟨b,m⟩=>if(decide (m<7))then(c7 (⟨[a.Insured,a.Worked,a.Voluntary,a.Service,a.Equated,a.Raising,a.Resident],rfl⟩:Ar 7 Int).l m).bind λc=>(if(decide (c<0))then some true else some (decide (c>73049))).bind λh=>if h then some false else e (b,i64 (m+1))else(o7 b.Base).bind λl=>(if l then some (decide (b.Base.Num>=0))else some false).bind λj=>(if j then(c2t b.Base.Num b.Base.Den).bind λf=>some (decide (f<=1000000000000))else some false).bind λn=>(if n then(c2t b.Base.Num b.Base.Den).bind λi=>(if(decide (i<1000000000000))then some true else(b8t b.Base.Num b.Base.Den).bind λd=>some (d==0)).bind λk=>some k else some false).bind λg=>some g
def c5y(a:Version)(b:View):A3 Int:=(b0s b).bind λd=>if(!d)then some 1 else(b0q a).bind λc=>some c
def c1o(a:Grant)(b:Int):A3 Bool:=some (a.Benefit==b)
structure Ring_eval_mentions where
 f_eval_mentions:Expr->ByteArray->Option Bool
 f_eval_mentions_1:Expr->ByteArray->Option Bool
 f_slices_ContainsFunc_of_api_Expr:(List Expr)->ByteArray->Option Bool
 f_slices_IndexFunc_of_api_Expr:(List Expr)->ByteArray->Option Int
def b2a(R:Ring_eval_mentions)(a:Expr)(b:A4):A3 Bool:=(if(a.Op==2)then some (a.Name.toList==b.toList)else some false).bind λd=>(if d then some true else(R.f_slices_ContainsFunc_of_api_Expr a.Args b).bind λe=>some e).bind λc=>some c
def b93(R:Ring_eval_mentions)(a:Expr)(b:A4):A3 Bool:=(R.f_eval_mentions a b).bind λc=>some c
def a0o(R:Ring_eval_mentions)(b:O Expr)(a:A4):A3 Bool:=(R.f_slices_IndexFunc_of_api_Expr b a).bind λc=>some (decide (c>=0))
def a5n(R:Ring_eval_mentions)(c:O Expr)(a:A4)(d:Int->A3 Int)(b:Int):A3 Int:=if(decide (b<(c.length:Int)))then(c7 c b).bind λf=>(R.f_eval_mentions_1 f a).bind λe=>if e then some b else d (i64 (b+1))else some (-1:Int)
def a16(R:Ring_eval_mentions)(b:O Expr)(a:A4):A3 Int:=d9 FU (a5n R b a) 0
def d5:Nat->Ring_eval_mentions|0=>⟨λ_ _=>none,λ_ _=>none,λ_ _=>none,λ_ _=>none⟩|n+1=>⟨b2a (d5 n),b93 (d5 n),a0o (d5 n),a16 (d5 n)⟩
def b95(a:Expr)(b:A4):A3 Bool:=(d5 FU).f_eval_mentions a b
def b1z(c:((O Int)×Int×Int)->A3 (O Int))(a:(O Int)×Int×Int):A3 (O Int):=if(decide (a.2.1<a.2.2))then(c7 a.1 a.2.2).bind λg=>(c7 a.1 a.2.2).bind λb=>(c7 a.1 a.2.1).bind λi=>(c7 a.1 a.2.1).bind λd=>(c7 a.1 a.2.1).bind λf=>(c7 a.1 a.2.1).bind λj=>(c7 (a8h a.1 a.2.1 b) a.2.2).bind λh=>(c7 (a8h a.1 a.2.1 b) a.2.2).bind λe=>c (a8h (a8h a.1 a.2.1 b) a.2.2 d,i64 (a.2.1+1),i64 (a.2.2-1))else some a.1
def a68(a:O Int):A3 (O Int):=d9 FU b1z (a,0,i64 ((a.length:Int)-1))
def c4e(r:Expr)(d:O Let):A3 (O Int):=lpC (r,([]:O Int),i64 ((d.length:Int)-1)) λp⟨o,f,b⟩=>if(decide (b>=0))then(c7 d b).bind λu=>(b95 o u.Name).bind λt=>lpC (o,f,t,(0:Int)) λh⟨m,c,q,a⟩=>if(decide (a<(f.length:Int)))then(c7 c a).bind λs=>(c7 c a).bind λl=>(if q then some true else(c7 d l).bind λj=>(c7 d b).bind λg=>(b95 j.Body g.Name).bind λn=>some n).bind λi=>h (m,c,i,i64 (a+1))else if q then(a4n 8 c [b]).bind λe=>p (m,e,i64 (b-1))else p (m,c,i64 (b-1))else(a68 f).bind λk=>some k
def t6(a:Int)(b:fQ):A3 Value:=some (⟨a,false,b⟩:Value)
def c2b(b:View)(c:A4):A3 (Value×Bool):=(b4n c).bind λa=>(if(!a.2)then some true else(b0s b).bind λq=>some (!q)).bind λl=>if l then some ((⟨0,false,(⟨0,0⟩:fQ)⟩:Value),false)else if(c.toList==e39.toList)then(t6 a.1 b.Base).bind λk=>some (k,true)else if(c.toList==e0r.toList)then(t6 a.1 (⟨b.Age,1⟩:fQ)).bind λo=>some (o,true)else if(c.toList==d3o.toList)then(t6 a.1 (⟨b.Year,1⟩:fQ)).bind λn=>some (n,true)else if(c.toList==c6q.toList)then(t6 a.1 (⟨b.Children,1⟩:fQ)).bind λj=>some (j,true)else if(c.toList==b6u.toList)then(t6 a.1 (⟨b.Insured,1⟩:fQ)).bind λp=>some (p,true)else if(c.toList==c5w.toList)then(t6 a.1 (⟨b.Worked,1⟩:fQ)).bind λm=>some (m,true)else if(c.toList==b0b.toList)then(t6 a.1 (⟨b.Voluntary,1⟩:fQ)).bind λf=>some (f,true)else if(c.toList==b3z.toList)then(t6 a.1 (⟨b.Service,1⟩:fQ)).bind λe=>some (e,true)else if(c.toList==c3c.toList)then(t6 a.1 (⟨b.Equated,1⟩:fQ)).bind λd=>some (d,true)else if(c.toList==c3j.toList)then(t6 a.1 (⟨b.Raising,1⟩:fQ)).bind λi=>some (i,true)else if(c.toList==c6v.toList)then(t6 a.1 (⟨b.Resident,1⟩:fQ)).bind λh=>some (h,true)else(t6 a.1 (⟨0,1⟩:fQ)).bind λg=>some (g,true)
def b38(c:vQ)(d:((A4×Value)×Int)->A3 Value)(a:(A4×Value)×Int):A3 Value:=if decide (a.2<0)then some (⟨0,false,(⟨0,0⟩:fQ)⟩:Value)else(c7 c.steps a.2).bind λb=>if(b.Name.toList==a.1.1.toList)then some ((a.1.1,b.Value).2)else d ((a.1.1,a.1.2),a.2-1)
def a84(a:vQ)(b:A4):A3 Value:=(c2b a.view b).bind λc=>if c.2then some c.1else d9 FU (b38 a) ((b,(⟨0,false,(⟨0,0⟩:fQ)⟩:Value)),(a.steps.length:Int)-1)
def a0l(b:O Int)(c:(((O Int)×(O Int))×Int)->A3 (O Int))(a:((O Int)×(O Int))×Int):A3 (O Int):=if decide (a.2>=(b.length:Int))then some a.1.1else(c7 b a.2).bind λe=>(a4n 8 a.1.1 [e]).bind λd=>c ((d,[]),a.2+1)
def u5(a b:O Int):A3 (O Int):=d9 FU (a0l b) ((a,[]),(0:Int))
def y5(a:O Int):A3 (O Int):=(u5 [] a).bind λb=>some b
def o9(a:O Int):A3 (O Int):=(y5 a).bind λb=>(b8s b).bind λc=>some c
def c4b(g:O Int)(b:Int):A3 (fQ×Int):=(if(decide (b<1))then some true else some (decide (b>45))).bind λj=>(if j then some true else(a9p g).bind λl=>some (!l)).bind λi=>if i then some ((⟨0,0⟩:fQ),1)else(o9 g).bind λc=>(a1x c (max 0 (i64 ((c.length:Int)-b))) (c.length:Int)).bind λh=>lpC ((⟨0,0⟩:fQ),(0:Int),(0:Int)) λm⟨k,f,e⟩=>if(decide (e<(h.length:Int)))then(c7 h e).bind λd=>m (k,i64 (f+d),i64 (e+1))else(b32 f b).bind λa=>some (a.1,a.2)
def b8n(a:Bool):A3 Value:=some (⟨1,a,(⟨0,0⟩:fQ)⟩:Value)
def b4e(a:fQ):A3 (Int×Int):=(o7 a).bind λd=>if(!d)then some (0,1)else(c2t a.Num a.Den).bind λb=>(b8t a.Num a.Den).bind λc=>if(decide (c<0))then some (i64 (b-1),0)else some (b,0)
def b4p(a:fQ):A3 (fQ×Int):=(o7 a).bind λb=>if(!b)then some ((⟨0,0⟩:fQ),1)else some ((⟨i64 (-a.Num),a.Den⟩:fQ),0)
def a4g(b c:Int):A3 rational_wide:=(b3s b c).bind λa=>some (⟨a.1,a.2⟩:rational_wide)
def a3u(a b:rational_wide):A3 Bool:=(if(decide (a.hi<b.hi))then some true else(if(a.hi==b.hi)then some (decide (a.lo<b.lo))else some false).bind λd=>some d).bind λc=>some c
def a83(a:rational_wide×rational_wide):A3 (Int×Int):=(a3u a.1 a.2).bind λb=>if b then some ((-1:Int),0)else(a3u a.2 a.1).bind λc=>if c then some (1,0)else some (0,0)
def a8g(a b:fQ):A3 (Int×Int):=(o7 a).bind λh=>(if(!h)then some true else(o7 b).bind λj=>some (!j)).bind λg=>if g then some (0,1)else if((decide (a.Num<0))!=(decide (b.Num<0)))then if(decide (a.Num<0))then some ((-1:Int),0)else some (1,0)else(j5 a.Num).bind λf=>(j5 b.Den).bind λi=>(a4g f i).bind λd=>(j5 b.Num).bind λe=>(j5 a.Den).bind λk=>(a4g e k).bind λc=>if(decide (a.Num<0))then joinC a83 (c,d)else joinC a83 (d,c)
def b7z(b:Int)(d c:fQ):A3 (Bool×Int):=(a8g d c).bind λa=>if(b==11)then some (decide (a.1<0),a.2)else if(b==12)then some (decide (a.1<=0),a.2)else if(b==13)then some (a.1==0,a.2)else if(b==14)then some (a.1!=0,a.2)else if(b==15)then some (decide (a.1>0),a.2)else some (decide (a.1>=0),a.2)
def a98(a b:rational_wide):A3 rational_wide:=(c23 a.lo b.lo 0).bind λc=>(c23 a.hi b.hi c.2).bind λd=>some (⟨d.1,c.1⟩:rational_wide)
def a4w(a b:rational_wide):A3 rational_wide:=(c1u a.lo b.lo 0).bind λc=>(c1u a.hi b.hi c.2).bind λd=>some (⟨d.1,c.1⟩:rational_wide)
def c25(c d a:Int):A3 Int:=(b8t c a).bind λb=>(a8o b d a).bind λe=>some e.2
def a8z(b:rational_wide)(a:Int):A3 rational_wide:=(if a=0then none else some (u64 (Int.tdiv b.hi a))).bind λd=>(b8t b.hi a).bind λe=>(a8o e b.lo a).bind λc=>some (⟨d,c.1⟩:rational_wide)
def a9g(a:fQ×fQ×fQ×rational_wide×Bool):A3 (fQ×Int):=(j5 a.1.Den).bind λb=>(j5 a.2.1.Den).bind λd=>if((a.2.2.2.1.hi==0)&&((a.2.2.2.1.lo==0)&&(true)))then some ((⟨0,1⟩:fQ),0)else(c25 a.2.2.2.1.hi a.2.2.2.1.lo (u64 (b*d))).bind λf=>(a7g (u64 (b*d)) f).bind λc=>(a8z a.2.2.2.1 c).bind λh=>(if c=0then none else some (u64 (Int.tdiv (u64 (b*d)) c))).bind λg=>(a70 a.2.2.2.2 h (⟨0,g⟩:rational_wide)).bind λe=>some (e.1,e.2)
def b4q(a b:fQ):A3 (fQ×Int):=(o7 a).bind λl=>(if(!l)then some true else(o7 b).bind λn=>some (!n)).bind λk=>if k then some ((⟨0,0⟩:fQ),1)else(j5 a.Num).bind λj=>(j5 b.Den).bind λm=>(a4g j m).bind λd=>(j5 b.Num).bind λi=>(j5 a.Den).bind λo=>(a4g i o).bind λc=>if((decide (a.Num<0))==(decide (b.Num<0)))then(a98 d c).bind λf=>joinC a9g (a,b,(⟨0,0⟩:fQ),f,decide (a.Num<0))else(a3u d c).bind λh=>if h then(a4w c d).bind λg=>joinC a9g (a,b,(⟨0,0⟩:fQ),g,!(decide (a.Num<0)))else(a4w d c).bind λe=>joinC a9g (a,b,(⟨0,0⟩:fQ),e,decide (a.Num<0))
def b7d(c d:fQ):A3 (fQ×Int):=(b4p d).bind λa=>if(a.2!=0)then some ((⟨0,0⟩:fQ),a.2)else(b4q c a.1).bind λb=>some (b.1,b.2)
def a73(k:Bool)(f d e g:Int):A3 (fQ×Int):=(a7g f g).bind λa=>(a7g e d).bind λb=>(if a=0then none else some (u64 (Int.tdiv f a))).bind λj=>(if b=0then none else some (u64 (Int.tdiv e b))).bind λi=>(a4g j i).bind λm=>(if b=0then none else some (u64 (Int.tdiv d b))).bind λl=>(if a=0then none else some (u64 (Int.tdiv g a))).bind λh=>(a4g l h).bind λn=>(a70 k m n).bind λc=>some (c.1,c.2)
def b7j(a c:fQ):A3 (fQ×Int):=(o7 a).bind λh=>(if(!h)then some true else(o7 c).bind λl=>some (!l)).bind λg=>if g then some ((⟨0,0⟩:fQ),1)else(if(decide (a.Num<0))then some (decide (c.Num>0))else some false).bind λf=>(if f then some true else(if(decide (a.Num>0))then some (decide (c.Num<0))else some false).bind λk=>some k).bind λj=>(j5 a.Num).bind λe=>(j5 a.Den).bind λm=>(j5 c.Num).bind λi=>(j5 c.Den).bind λd=>(a73 j e m i d).bind λb=>some (b.1,b.2)
def b7o(b a:fQ):A3 (fQ×Int):=(o7 b).bind λh=>(if(!h)then some true else(o7 a).bind λl=>some (!l)).bind λg=>if g then some ((⟨0,0⟩:fQ),1)else if(a.Num==0)then some ((⟨0,0⟩:fQ),3)else(if(decide (b.Num<0))then some (decide (a.Num>0))else some false).bind λf=>(if f then some true else(if(decide (b.Num>0))then some (decide (a.Num<0))else some false).bind λk=>some k).bind λj=>(j5 b.Num).bind λe=>(j5 b.Den).bind λm=>(j5 a.Den).bind λi=>(j5 a.Num).bind λd=>(a73 j e m i d).bind λc=>some (c.1,c.2)
def b2w(c:Int)(b a:fQ):A3 (fQ×Int):=if(c==7)then(b4q b a).bind λg=>some (g.1,g.2)else if(c==8)then(b7d b a).bind λh=>some (h.1,h.2)else if(c==9)then(b7j b a).bind λf=>some (f.1,f.2)else if(c==10)then(b7o b a).bind λe=>some (e.1,e.2)else(a8g b a).bind λd=>if((c==19)==(decide (d.1<0)))then some (b,d.2)else some (a,d.2)
def b8c(a c b:Int):A3 Int:=(if(a==9)then some (c==2)else some false).bind λd=>if d then some b else(if(a==10)then some (b !=2)else some false).bind λe=>if e then some 2 else some c
structure Ring_eval_evaluator_expr where f_eval_evaluator_expr:vQ->Expr->Option (Value×Int)f_eval_evaluator_unary:vQ->Expr->Option (Value×Int)f_eval_evaluator_logic:vQ->Expr->Option (Value×Int)
def a2t(R:Ring_eval_evaluator_expr)(a:vQ×Expr×Value×Bool):A3 (Value×Int):=if a.2.2.2then(R.f_eval_evaluator_logic a.1 a.2.1).bind λk=>some (k.1,k.2)else(c7 a.2.1.Args 0).bind λl=>(R.f_eval_evaluator_expr a.1 l).bind λc=>if(c.2!=0)then some ((⟨0,false,(⟨0,0⟩:fQ)⟩:Value),c.2)else(c7 a.2.1.Args 1).bind λg=>(R.f_eval_evaluator_expr a.1 g).bind λb=>if(b.2!=0)then some ((⟨0,false,(⟨0,0⟩:fQ)⟩:Value),b.2)else(if(decide (a.2.1.Op>=11))then some (decide (a.2.1.Op<=16))else some false).bind λj=>if j then(b7z a.2.1.Op c.1.Num b.1.Num).bind λe=>(b8n e.1).bind λh=>some (h,e.2)else(b2w a.2.1.Op c.1.Num b.1.Num).bind λd=>if(d.2!=0)then some ((⟨0,false,(⟨0,0⟩:fQ)⟩:Value),d.2)else(b8c a.2.1.Op c.1.Dim b.1.Dim).bind λi=>(t6 i d.1).bind λf=>some (f,0)
def a2s(R:Ring_eval_evaluator_expr)(a:vQ×Expr×Value×Int×Bool):A3 (Value×Int):=if a.2.2.2.2then(R.f_eval_evaluator_unary a.1 a.2.1).bind λb=>some (b.1,b.2)else if(a.2.2.2.1==17)then joinC (a2t R) (a.1,a.2.1,a.2.2.1,a.2.2.2.1==17)else if(a.2.2.2.1==18)then joinC (a2t R) (a.1,a.2.1,a.2.2.1,a.2.2.2.1==18)else joinC (a2t R) (a.1,a.2.1,a.2.2.1,a.2.2.2.1==21)
def a5u(R:Ring_eval_evaluator_expr)(b:vQ)(a:Expr):A3 (Value×Int):=if(a.Op==1)then(t6 a.Dim a.Value).bind λe=>some (e,0)else if(a.Op==2)then(a84 b a.Name).bind λf=>some (f,0)else if(a.Op==3)then(c4b b.view.Years a.Value.Num).bind λc=>(t6 4 c.1).bind λd=>some (d,c.2)else if(a.Op==4)then joinC (a2s R) (b,a,(⟨0,false,(⟨0,0⟩:fQ)⟩:Value),a.Op,a.Op==4)else if(a.Op==5)then joinC (a2s R) (b,a,(⟨0,false,(⟨0,0⟩:fQ)⟩:Value),a.Op,a.Op==5)else joinC (a2s R) (b,a,(⟨0,false,(⟨0,0⟩:fQ)⟩:Value),a.Op,a.Op==6)
def a5i(R:Ring_eval_evaluator_expr)(h:vQ)(b:Expr):A3 (Value×Int):=(c7 b.Args 0).bind λg=>(R.f_eval_evaluator_expr h g).bind λa=>if(a.2!=0)then some ((⟨0,false,(⟨0,0⟩:fQ)⟩:Value),a.2)else if(b.Op==5)then(b8n (!a.1.Yes)).bind λf=>some (f,0)else if(b.Op==6)then(b4e a.1.Num).bind λc=>(t6 a.1.Dim (⟨c.1,1⟩:fQ)).bind λi=>some (i,c.2)else(b4p a.1.Num).bind λd=>(t6 a.1.Dim d.1).bind λe=>some (e,d.2)
def a5d(R:Ring_eval_evaluator_expr)(d:vQ)(a:Expr):A3 (Value×Int):=(c7 a.Args 0).bind λi=>(R.f_eval_evaluator_expr d i).bind λb=>if(b.2!=0)then some ((⟨0,false,(⟨0,0⟩:fQ)⟩:Value),b.2)else(if(a.Op==17)then some (!b.1.Yes)else some false).bind λh=>(if h then some true else(if(a.Op==18)then some b.1.Yes else some false).bind λg=>some g).bind λl=>if l then some (b.1,0)else(if(a.Op==21)then some (!b.1.Yes)else some false).bind λk=>if k then(c7 a.Args 2).bind λf=>(R.f_eval_evaluator_expr d f).bind λe=>some (e.1,e.2)else(c7 a.Args 1).bind λj=>(R.f_eval_evaluator_expr d j).bind λc=>some (c.1,c.2)
def c4:Nat->Ring_eval_evaluator_expr|0=>⟨λ_ _=>none,λ_ _=>none,λ_ _=>none⟩|n+1=>⟨a5u (c4 n),a5i (c4 n),a5d (c4 n)⟩
def b1n(a:vQ)(b:Expr):A3 (Value×Int):=(c4 FU).f_eval_evaluator_expr a b
def a3e(t:vQ)(r:Expr)(l:O Let)(w:O Bool)(y:A4)(v:O Step):A3 (Int×vQ×(O Bool)×(O Step)):=(c4e r l).bind λq=>lpC (v,(⟨t.view,[]⟩:vQ),w,r,q,(0:Int)) λp⟨d,c,b,n,h,g⟩=>if(decide (g<(q.length:Int)))then(c7 h g).bind λz=>(c7 h g).bind λa=>(c7 b a).bind λu=>(c7 b a).bind λk=>if k then p (d,(⟨c.view,[]⟩:vQ),b,n,h,i64 (g+1))else(c7 l a).bind λm=>(b1n (⟨c.view,d⟩:vQ) m.Body).bind λe=>if(e.2!=0)then some (e.2,(⟨c.view,[]⟩:vQ),b,d)else(c7 l a).bind λi=>(a4n 48 d [(⟨i.Name,e.1⟩:Step)]).bind λo=>(c7 b a).bind λx=>(c7 b a).bind λs=>p (o,(⟨c.view,[]⟩:vQ),a8h b a true,n,h,i64 (g+1))else(b1n (⟨c.view,d⟩:vQ) n).bind λf=>if(f.2!=0)then some (f.2,(⟨c.view,[]⟩:vQ),b,d)else(a4n 48 d [(⟨y,f.1⟩:Step)]).bind λj=>some (0,(⟨c.view,[]⟩:vQ),b,j)
def a55(a:vQ):A3 Value:=(c7 a.steps (i64 ((a.steps.length:Int)-1))).bind λb=>some b.Value
def a6d(c:O Grant)(a:Int)(d:Int->A3 Int)(b:Int):A3 Int:=if(decide (b<(c.length:Int)))then(c7 c b).bind λf=>(c1o f a).bind λe=>if e then some b else d (i64 (b+1))else some (-1:Int)
def a1y(b:O Grant)(a:Int):A3 Int:=d9 FU (a6d b a) 0
def c2a(a:Version)(l:Int)(h:View):A3 (Result×Int):=(c5y a h).bind λf=>if(f !=0)then some ((⟨false,(⟨0,0⟩:fQ),[]⟩:Result),f)else(a1y a.Grants l).bind λe=>if(decide (e<0))then some ((⟨false,(⟨0,0⟩:fQ),[]⟩:Result),9)else(mkI 1 (false:Bool) (a.Lets.length:Int) (a.Lets.length:Int)).bind λk=>(c7 a.Grants e).bind λj=>(a3e (⟨h,[]⟩:vQ) j.If a.Lets k d0k []).bind λb=>if(b.1!=0)then some ((⟨false,(⟨0,0⟩:fQ),[]⟩:Result),b.1)else(a55 (⟨b.2.1.view,b.2.2.2⟩:vQ)).bind λd=>if d.Yes then(c7 a.Grants e).bind λi=>(a3e (⟨b.2.1.view,[]⟩:vQ) i.Pay a.Lets b.2.2.1 c60 b.2.2.2).bind λc=>if(c.1!=0)then some ((⟨false,(⟨0,0⟩:fQ),[]⟩:Result),c.1)else(a55 (⟨c.2.1.view,c.2.2.2⟩:vQ)).bind λg=>if(decide (g.Num.Num>0))then some ((⟨d.Yes,g.Num,c.2.2.2⟩:Result),0)else some ((⟨d.Yes,(⟨0,1⟩:fQ),c.2.2.2⟩:Result),0)else some ((⟨d.Yes,(⟨0,1⟩:fQ),b.2.2.2⟩:Result),0)
def b9q(a:fQ)(c:Rounding):A3 (Int×Int):=(o7 a).bind λf=>(if(!f)then some true else(a2y c).bind λg=>some (!g)).bind λe=>if e then some (0,1)else(b3x a.Num).bind λd=>(a9o (decide (a.Num<0)) 0 d (u64 (a.Den)) c).bind λb=>some (b.1,b.2)
def c1k(b:Version)(e:Int)(d:View):A3 (Result×Int×Int):=(c2a b e d).bind λa=>if(a.2!=0)then some ((⟨false,(⟨0,0⟩:fQ),[]⟩:Result),0,a.2)else(b9q a.1.Pay b.Rounding).bind λc=>some (a.1,c.1,c.2)
def b97(b:fQ)(d c:Int)(f:Rounding):A3 (Int×Int):=(o7 b).bind λj=>(if(!j)then some true else(a2y f).bind λm=>some (!m)).bind λi=>(if i then some true else some (decide (d<0))).bind λh=>(if h then some true else some (decide (d>73049))).bind λl=>(if l then some true else some (decide (c<1))).bind λk=>(if k then some true else some (decide (c>73049))).bind λg=>if g then some (0,1)else(b3x b.Num).bind λn=>(b3s n (u64 (d))).bind λe=>(a9o (decide (b.Num<0)) e.1 e.2 (u64 ((u64 (b.Den))*(u64 (c)))) f).bind λa=>some (a.1,a.2)
def b1p(a:Award):A3 (Int×Award):=some (0,(⟨a.State,a.Benefit,a.Day,a.Code,a.Few,a.Independent,a.Theoretical,a.ProRata,a.Num,a.Den,max a.Independent a.ProRata,a.Steps⟩:Award))
def a8c(a:Award×(O aQ)×bQ×Version×(O nQ)):A3 (Int×Award):=if(a.1.Num !=0)then(a8k a.2.2.1 a.2.1 a.2.2.2.2 a.1.State true).bind λd=>if(d.2!=0)then some (d.2,a.1)else(c1k a.2.2.2.1 a.1.Benefit d.1).bind λb=>if(b.2.2!=0)then some (b.2.2,a.1)else(b97 b.1.Pay a.1.Num a.1.Den a.2.2.2.1.Rounding).bind λc=>if(c.2!=0)then some (c.2,(⟨a.1.State,a.1.Benefit,a.1.Day,a.1.Code,a.1.Few,a.1.Independent,b.2.1,c.1,a.1.Num,a.1.Den,a.1.Amount,a.1.Steps⟩:Award))else if(decide (c.1>a.1.Independent))then joinC b1p (⟨a.1.State,a.1.Benefit,a.1.Day,a.1.Code,a.1.Few,a.1.Independent,b.2.1,c.1,a.1.Num,a.1.Den,a.1.Amount,b.1.Steps⟩:Award)else joinC b1p (⟨a.1.State,a.1.Benefit,a.1.Day,a.1.Code,a.1.Few,a.1.Independent,b.2.1,c.1,a.1.Num,a.1.Den,a.1.Amount,a.1.Steps⟩:Award)else joinC b1p a.1
def a7k(a:Award×(O aQ)×bQ×Version×(O nQ)×View):A3 (Int×Award):=if(!a.1.Few)then(c1k a.2.2.2.1 a.1.Benefit a.2.2.2.2.2).bind λb=>if(b.2.2!=0)then some (b.2.2,a.1)else joinC a8c ((⟨a.1.State,a.1.Benefit,a.1.Day,a.1.Code,a.1.Few,b.2.1,a.1.Theoretical,a.1.ProRata,a.1.Num,a.1.Den,a.1.Amount,b.1.Steps⟩:Award),a.2.1,a.2.2.1,a.2.2.2.1,a.2.2.2.2.1)else joinC a8c (a.1,a.2.1,a.2.2.1,a.2.2.2.1,a.2.2.2.2.1)
def a8d(b:bQ)(a:Award)(e:O aQ):A3 (Int×Award):=(a2v b a.State).bind λd=>if(d.2.2!=0)then some (d.2.2,a)else(a2z b e a.State).bind λf=>(a8k b e f a.State false).bind λc=>if(c.2!=0)then some (c.2,a)else(a08 b a.State).bind λi=>if i then(b41 f b.rules.MinDays).bind λh=>(d0n 6 a.State).bind λj=>(b2k h a.State).bind λg=>joinC a7k ((⟨a.State,a.Benefit,a.Day,a.Code,Ar.gt false h.Few a.State,a.Independent,a.Theoretical,a.ProRata,g.1,g.2,a.Amount,a.Steps⟩:Award),e,b,d.2.1,f,c.1)else joinC a7k ((⟨a.State,a.Benefit,a.Day,a.Code,a.Few,a.Independent,a.Theoretical,a.ProRata,a.Num,1,a.Amount,a.Steps⟩:Award),e,b,d.2.1,f,c.1)
def c3h(a:Int×Int×Int×(O Step)×Award×Award×Int):A3 Award:=if(a.2.2.2.2.2.2!=0)then some (⟨a.1,a.2.1,a.2.2.1,a.2.2.2.2.2.2,false,0,0,0,0,0,0,[]⟩:Award)else some a.2.2.2.2.2.1
def b47(f:Laws)(g:O aQ)(b c a:Int):A3 Award:=(b8v f a).bind λd=>if(d.2==0)then(a8d d.1 (⟨b,c,a,0,false,0,0,0,0,0,0,[]⟩:Award) g).bind λe=>joinC c3h (b,c,a,[],(⟨0,0,0,0,false,0,0,0,0,0,0,[]⟩:Award),e.2,e.1)else joinC c3h (b,c,a,[],(⟨0,0,0,0,false,0,0,0,0,0,0,[]⟩:Award),(⟨b,c,a,0,false,0,0,0,0,0,0,[]⟩:Award),d.2)
def c4q(b:Laws)(k:O aQ)(g j:Int):A3 (O Award):=lpC (b,([]:O Award),(0:Int)) λf⟨c,d,a⟩=>if(decide (a<(b.States.length:Int)))then(c7 b.States a).bind λi=>(b47 c k i.State g j).bind λh=>(a4n 112 d [h]).bind λe=>f (c,e,i64 (a+1))else some d
def b2m:A3 Bool:=(b47 (⟨[(⟨0,(⟨c91,1,[(⟨0,(⟨1,1⟩:Rounding),[],[],[],[(⟨1,(⟨16,(⟨0,0⟩:fQ),0,a3j,[(⟨2,(⟨0,0⟩:fQ),0,b6u,[]⟩:Expr),(⟨1,(⟨5,1⟩:fQ),3,a3j,[]⟩:Expr)]⟩:Expr),(⟨1,(⟨77,1⟩:fQ),4,a3j,[]⟩:Expr)⟩:Grant)],[]⟩:Version)]⟩:Statute)⟩:State)],[(⟨0,0,0,0,[0]⟩:Rules)],[]⟩:Laws) [(⟨0,1,1,false,1,1,0,(⟨30000,30010⟩:Span),0,100,1,500,0⟩:aQ)] 0 1 31000).bind λa=>(if(a.Code==0)then some (a.Independent==77)else some false).bind λe=>(if e then some (a.ProRata==77)else some false).bind λc=>(if c then some (a.Num==10)else some false).bind λb=>(if b then some (a.Den==10)else some false).bind λd=>some d
def a3k(d f:O Step)(e:Int->A3 Bool)(c:Int):A3 Bool:=if(decide (c<(d.length:Int)))then(c7 d c).bind λb=>(c7 f c).bind λa=>if(!((b.Name.toList==a.Name.toList)&&(((b.Value.Dim==a.Value.Dim)&&((b.Value.Yes==a.Value.Yes)&&(((b.Value.Num.Num==a.Value.Num.Num)&&((b.Value.Num.Den==a.Value.Num.Den)&&(true)))&&(true))))&&(true))))then some false else e (i64 (c+1))else some true
def a61(a b:O Step):A3 Bool:=if((a.length:Int)!=(b.length:Int))then some false else d9 FU (a3k a b) 0
def a59(a b:Award):A3 Bool:=(if(a.State==b.State)then some (a.Benefit==b.Benefit)else some false).bind λi=>(if i then some (a.Day==b.Day)else some false).bind λm=>(if m then some (a.Code==b.Code)else some false).bind λh=>(if h then some (a.Few==b.Few)else some false).bind λg=>(if g then some (a.Independent==b.Independent)else some false).bind λl=>(if l then some (a.Theoretical==b.Theoretical)else some false).bind λk=>(if k then some (a.ProRata==b.ProRata)else some false).bind λf=>(if f then some (a.Num==b.Num)else some false).bind λn=>(if n then some (a.Den==b.Den)else some false).bind λj=>(if j then some (a.Amount==b.Amount)else some false).bind λe=>(if e then(a61 a.Steps b.Steps).bind λd=>some d else some false).bind λc=>some c
def i43(e:((O Award)×(O Award)×Int)->A3 Bool)(a:(O Award)×(O Award)×Int):A3 Bool:=if(decide (a.2.2<(a.1.length:Int)))then(c7 a.1 a.2.2).bind λg=>(c7 a.1 a.2.2).bind λc=>(c7 a.2.1 a.2.2).bind λf=>(c7 a.2.1 a.2.2).bind λb=>(a59 c b).bind λd=>if(!d)then some false else e (a.1,a.2.1,i64 (a.2.2+1))else some true
def i4h(j k:Int)(h:(Laws×(O aQ)×(O aQ)×(O aQ)×Int)->A3 Bool)(a:Laws×(O aQ)×(O aQ)×(O aQ)×Int):A3 Bool:=if(decide (a.2.2.2.2>=0))then(c7 a.2.1 a.2.2.2.2).bind λl=>(c7 a.2.1 a.2.2.2.2).bind λd=>(i4d a.2.2.2.1 [d]).bind λf=>h (a.1,a.2.1,a.2.2.1,f,i64 (a.2.2.2.2-1))else(c4q a.1 a.2.2.1 (i64 (1+j)) k).bind λb=>(c4q a.1 a.2.2.2.1 (i64 (1+j)) k).bind λc=>(b2m).bind λi=>(if(!i)then some true else some ((b.length:Int)!=(c.length:Int))).bind λg=>(if g then some true else some ((b.length:Int)==0)).bind λe=>if e then some false else d9 FU i43 (b,c,0)
def i4j(h:O Int)(i j:Int)(c:(Laws×(O aQ)×(O aQ)×(O aQ)×Int)->A3 Bool)(a:Laws×(O aQ)×(O aQ)×(O aQ)×Int):A3 Bool:=(if(decide (a.2.2.2.2<(h.length:Int)))then some (decide ((a.2.1.length:Int)>0))else some false).bind λd=>if d then(c7 h a.2.2.2.2).bind λg=>(a40 g (a.2.1.length:Int)).bind λb=>(c7 a.2.1 b).bind λk=>(c7 a.2.1 b).bind λe=>(i4d a.2.2.2.1 [e]).bind λf=>c (a.1,a.2.1,a.2.2.1,f,i64 (a.2.2.2.2+1))else d9 FU (i4h i j) (a.1,a.2.1,a.2.2.1,a.2.2.2.1,i64 ((a.2.1.length:Int)-1))
def i4g(i:O tN)(o n:O Int)(k l:Int)(p:(Laws×(O aQ)×Int)->A3 Bool)(b:Laws×(O aQ)×Int):A3 Bool:=(if(decide (b.2.2<(i.length:Int)))then some (decide (b.2.2<10))else some false).bind λj=>if j then(c7 i b.2.2).bind λa=>(a40 a.Number 6).bind λm=>(b1b (⟨a.Issuer,m,a.Version,a.Withdrawn,0,a.Kind,a.State,a.Seat,a.From,a.Length,a.Share,a.Amount,a.Ref⟩:tN)).bind λf=>(a4n 112 b.2.1 [f]).bind λe=>p (b.1,e,i64 (b.2.2+1))else(b04 o).bind λd=>(b2c d 1).bind λh=>(a4n 112 b.2.1 h).bind λc=>(i4d c []).bind λg=>d9 FU (i4j n k l) (b.1,c,g,[],0)
def i42(f:O tN)(a b:O Int)(g i:Int):A3 Bool:=(if(decide ((a.length:Int)>60))then some true else some (decide ((b.length:Int)>40))).bind λe=>if e then some true else(b3p a 7).bind λh=>(b5f g).bind λd=>(a40 i 5).bind λc=>d9 FU (i4g f a b c d) (h,[],0)
end
def a9k{σ ρ S α:Type}{f:(σ->A3 ρ)->σ->A3 ρ}(l:O α)(e:S->Int->σ)(I:S->Nat->Prop)(Q:A3 ρ->Prop)(hl:l.length<2^62)(hstep:∀rec s(i:Nat)y,i<l.length->l[i]?=some y->I s i->Q (f rec (e s (i:Int)))\/∃s',f rec (e s (i:Int))=rec (e s' ((i+1:Nat):Int))/\I s' (i+1))(hfin:∀rec s,I s l.length->Q (f rec (e s (l.length:Int))))(s:S)(h0:I s 0):Q (d9 FU f (e s 0)):=by
 have key:∀(k:Nat)(s:S)(i:Nat),i<=l.length->I s i->l.length-i<k->Q (d9 k f (e s (i:Int))):=by intro k;induction k with|zero=>omega|succ k ih=>
    intro s i hi hI hk;show Q (f (d9 k f) (e s (i:Int)));by_cases h:i<l.length
    .rcases hstep (d9 k f) s i l[i] h (qG h) hI with h1|⟨s',h1,h2⟩;.omega
     .rw[h1];exact ih s' (i+1) (by omega) h2 (by omega)
    .have:i=l.length:=by omega
     subst this;exact hfin _ _ hI
 have:(0:Int)=((0:Nat):Int):=rfl;exact key FU s 0 (Nat.zero_le _) h0 (by unfold FU;omega)
def a5g{x:Nat}(h:x<2^62):i64 ((x:Int)+1)=((x+1:Nat):Int):=by rw[e9 (by omega) (by omega)];simp
def e7{α:Type}{l:O α}{i:Nat}{y:α}(h:l[i]?=some y):c7 l (i:Int)=some y:=by rw[b4c];omega
def a9h{α:Type}{l:O α}{i:Nat}{y:α}(h:l[i]?=some y):l.take (i+1)=l.take i++[y]:=by
 have hi:i<l.length:=by grind
 rw[take_succ_eq_append_getElem hi];simp_all
def d3s{α:Type}(a:O α)(t:α)(h:a.length<2^62):c7 (a++[t]) (i64 (((a++[t]).length:Int)-1))=some t:=by
 have:i64 (((a++[t]).length:Int)-1)=((a.length:Nat):Int):=by rw[qL];simp only[qR,qS];rw[e9 (by omega) (by omega)];omega
 rw[this,b4c];simp
def d3y{α:Type}(a:O α)(t u:α)(h:a.length<2^62):a8h (a++[t]) (i64 (((a++[t]).length:Int)-1)) u=a++[u]:=by
 have:i64 (((a++[t]).length:Int)-1)=((a.length:Nat):Int):=by rw[qL];simp only[qR,qS];rw[e9 (by omega) (by omega)];omega
 unfold a8h;simp_all
def h1f{α:Type}(l:O α):l=[]\/∃a t,l=a++[t]:=by rcases eq_nil_or_concat l with h|⟨a,t,h⟩;all_goals simp_all
def d36{α:Type}{l:O α}{i:Nat}{y:α}(h:l[i]?=some y):l.drop i=y::l.drop (i+1):=by
 have hi:i<l.length:=by grind
 rw[qG hi]at h;rw[drop_eq_getElem_cons hi,qH h]
def e4d{α β:Type}{g:β->α->β}{l:O α}{i:Nat}{y:α}{b:β}(h:l[i]?=some y):(l.take (i+1)).foldl g b=g ((l.take i).foldl g b) y:=by rw[a9h h,foldl_append];rfl
end Go.PL
