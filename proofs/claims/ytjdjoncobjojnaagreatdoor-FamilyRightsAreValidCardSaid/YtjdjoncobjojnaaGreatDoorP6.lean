/- Texts of the proof, joined. -/
import Derived.Test.YtjdjoncobjojnaaGreatDoorP5
import Derived.Laws.BitsLemmas
import Derived.Laws.Bits64
import Derived.Shelf.Strconv.Itoa3
import Derived.Lib.LaidTab
set_option linter.defProp false
set_option linter.unusedVariables false
set_option linter.unusedSimpArgs false
set_option maxRecDepth 100000
open List
namespace Go.PL
open Go
def e9{n:Int}(h0:-9223372036854775808<=n)(h1:n<=9223372036854775807):i64 n=n:=by unfold i64;rw[IntKind.wrap_i64];omega
def b83{n:Int}(h0:0<=n)(h1:n<=18446744073709551615):u64 n=n:=by unfold u64;rw[IntKind.wrap_u64];omega
def g2l(n:Int):u64 n=n%18446744073709551616:=by unfold u64;rw[IntKind.wrap_u64]
def b51(n:Int):0<=u64 n/\u64 n<=18446744073709551615:=by rw[g2l];omega
def d5z(n:Int):-9223372036854775808<=i64 n/\i64 n<=9223372036854775807:=by unfold i64;rw[IntKind.wrap_i64];omega
def b4c{α:Type}(l:O α)(k:Nat):c7 l (k:Int)=l[k]?:=by unfold c7;rw[if_pos (Int.natCast_nonneg k),Int.toNat_natCast]
def y3{b e:Bool}:(if b=true then some true else some e)=some (b||e):=by cases b<;>rfl
def o4{b e:Bool}:(if b=true then some e else some false)=some (b&&e):=by cases b<;>rfl
def a1z{p:Prop}[Decidable p]{e:Bool}:(if p then some true else some e)=some (decide p||e):=by by_cases h:p<;>simp[h]
def a7h{p:Prop}[Decidable p]{e:Bool}:(if p then some e else some false)=some (decide p&&e):=by by_cases h:p<;>simp[h]
def c9i{σ ρ:Type}{f:(σ->A3 ρ)->σ->A3 ρ}(I:σ->Prop)(μ:σ->Nat)(Q:ρ->Prop)(step:∀s rec,I s->(∃r,f rec s=some r/\Q r)\/∃s',f rec s=rec s'/\I s'/\μ s'<μ s):∀(k:Nat)(s:σ),I s->μ s<k->∃r,d9 k f s=some r/\Q r
 |0,_,_,h=>absurd h (Nat.not_lt_zero _)|k+1,s,hs,hk=>by
   rcases step s (d9 k f) hs with⟨r,h1,h2⟩|⟨s',h1,h2,h3⟩;.exact⟨r,h1,h2⟩
   .obtain⟨r,h4,h5⟩:=c9i I μ Q step k s' h2 (by omega);exact⟨r,by show f (d9 k f) s=_;rw[h1,h4],h5⟩
def b9s{σ ρ:Type}{f:(σ->A3 ρ)->σ->A3 ρ}(I:σ->Prop)(μ:σ->Nat)(Q:ρ->Prop){s:σ}(h0:I s)(hμ:μ s<2^70)(step:∀s rec,I s->(∃r,f rec s=some r/\Q r)\/∃s',f rec s=rec s'/\I s'/\μ s'<μ s):∃r,d9 FU f s=some r/\Q r:=c9i I μ Q step FU s h0 (by unfold FU;exact hμ)
def d05{σ ρ:Type}{f:(σ->A3 ρ)->σ->A3 ρ}(I:σ->Prop)(μ:σ->Nat)(Q:A3 ρ->Prop)(step:∀s rec,I s->Q (f rec s)\/∃s',f rec s=rec s'/\I s'/\μ s'<μ s):∀(k:Nat)(s:σ),I s->μ s<k->Q (d9 k f s)
 |0,_,_,h=>absurd h (Nat.not_lt_zero _)|k+1,s,hs,hk=>by
   rcases step s (d9 k f) hs with h1|⟨s',h1,h2,h3⟩;.exact h1
   .show Q (f (d9 k f) s);rw[h1];exact d05 I μ Q step k s' h2 (by omega)
def c4u{σ ρ:Type}{f:(σ->A3 ρ)->σ->A3 ρ}(I:σ->Prop)(μ:σ->Nat)(Q:A3 ρ->Prop){s:σ}(h0:I s)(hμ:μ s<2^70)(step:∀s rec,I s->Q (f rec s)\/∃s',f rec s=rec s'/\I s'/\μ s'<μ s):Q (d9 FU f s):=d05 I μ Q step FU s h0 (by unfold FU;exact hμ)
def d04{a b:Int}(h:b≠0):b8t a b=some (a.tmod b):=by unfold b8t;rw[if_neg h]
def e9a{a b:Int}(h:b≠0):c2t a b=some (i64 (a.tdiv b)):=by unfold c2t;rw[if_neg h]
def p6{α:Type}{bytes:Nat}{l x:O α}(h:(l.length+x.length)*bytes<=140737488355328):a4n bytes l x=some (l++x):=by unfold a4n;rw[if_pos h]
def b26{α:Type}{l:O α}{lo hi:Int}(h0:0<=lo)(h1:lo<=hi)(h2:hi<=(l.length:Int)):a1x l lo hi=some ((l.drop lo.toNat).take (hi.toNat-lo.toNat)):=by unfold a1x;rw[if_pos ⟨h0,h1,h2⟩]
def c9f{a b:Int}(h:0<=a):a.tmod b=a%b:=Int.tmod_eq_emod_of_nonneg h
def c7w{a b:Int}(h:0<=a):a.tdiv b=a/b:=Int.tdiv_eq_ediv_of_nonneg h
def g4v:Nat->Nat->O UInt8|0,u=>[UInt8.ofNat (48+u)]|k+1,u=>if u<10then[UInt8.ofNat (48+u)]else g4v k (u/10)++[UInt8.ofNat (48+u%10)]
def e9y:∀(k u:Nat),u<10^(k+1)->g4v k u=Lib.decDigits u
 |0,u,h=>by rw[Lib.decDigits,dif_pos (by simpa using h)];rfl|k+1,u,h=>by
   rw[Lib.decDigits];unfold g4v;by_cases hu:u<10;.rw[if_pos hu,dif_pos hu]
   .rw[if_neg hu,dif_neg hu,e9y k (u/10) (by rw[Nat.pow_succ]at h;omega)]
def strconv_Itoa(a:Int):A3 A4:=if 0<=a/\a<=9223372036854775807then some ⟨(g4v 20 a.toNat).toArray⟩else none
end Go.PL
namespace Go.SX
open Go Go.PL Go.Proofs Go.Shelf
def f8r{P:Program}{nm:String}{k:IntKind}{zs:O Int}{g:Nat}(hg:P.globalNamed nm=some g){w w':World}(h:Lib.TabIs P w nm k zs)(hb:w'.heap[g]?=w.heap[g]?):Lib.TabIs P w' nm k zs:=by unfold Lib.TabIs World.var? at*;rw[hg]at*;simpa[hb]using h
def g7m{P:Program}{nm:String}{k:IntKind}{zs:O Int}{g:Nat}(hg:P.globalNamed nm=some g){w:World}(h:Lib.TabIs P w nm k zs):g<w.heap.size:=by unfold Lib.TabIs World.var? at h;rw[hg]at h;cases hh:w.heap[g]?with|none=>simp[hh]at h|some o=>exact(qN.1 hh).1
def f3k(G:Nat->Prop)(w:World)(k:Nat)(os:Array Obj):Ext G w (Sort.grow (w.drewN k) os):=⟨rfl,rfl,rfl,by simp[Sort.grow,World.drewN],λb hb _=>by simp[Sort.grow,World.drewN,Array.getElem?_append_left hb]⟩
section
variable {P:Program} {U:Uni}
def e8o{ρ:Ren}(L:LaysM.n171 P ρ)(ht:∀w,U.tab w->Lib.TabIs P w "internal/strconv.uint64pow10" .u64 Lib.pow10Tab){a c:U.C}(fa:U.T a->Int)(ha:∀x,(inj a x:U.AV)=.int .i64 (fa x))(fc:A4->U.T c)(hc:∀s,(inj c (fc s):U.AV)=.str s):Spec P (ρ.f 171) (⟨⟨[.v a],[.v c]⟩,A4,λx=>strconv_Itoa (fa x.1),λb=>((fc b,()),()),none⟩:Fent U):=by intro xs r hr Z G w us hl hR;match us,hl with
 |[u1],_=>
   have s0:AVR _ (inj a xs.1) u1:=hR.slot 0;rw[ha]at s0;have s0:u1=.int .i64 (fa xs.1):=s0;have hr:strconv_Itoa (fa xs.1)=some r:=hr;unfold strconv_Itoa at hr;split at hr
   .rename_i hb;have hr:=(qH hr).symm;have e:Lib.itoa (fa xs.1)=g4v 20 (fa xs.1).toNat:=by unfold Lib.itoa;rw[if_neg (by omega),e9y 20 _ (by omega)]
    have hC:=Any.strconv_Itoa L (fa xs.1) (by omega) hb.2 w (ht w hR.tab.1);subst s0;show Calls P (ρ.f 171) #[Value.int .i64 (fa xs.1)] w _;refine hC.mono ?_;rintro e' w'⟨he,k,os,hw⟩;subst hw;refine⟨_,he,⟨Z,[_],[.int .i64 (fa xs.1)],rfl,λ_ h=>h,λ_ h=>.inl h,f3k _ _ _ _,rfl,λ_ _ _ _=>rfl,⟨?_,trivial⟩,trivial,?_,?_⟩⟩;.show a1p _ (inj c (fc r)) _;rw[hc,hr,<-e];rfl
    .intro v hv;cases hv
    .intro i j v v' b _ hv;cases hv
   .cases hr
end
end Go.SX
namespace Go.PL
open Go Go.SX
structure Rounding where
 Mode:Int
 Unit:Int
structure Credit where
 Kind:Int
 Limit:Int
structure fQ where
 Num:Int
 Den:Int
structure Index where
 Year:Int
 Factor:fQ
structure Expr where
 Op:Int
 Value:fQ
 Dim:Int
 Name:ByteArray
 Args:List Expr
structure Let where
 Name:ByteArray
 Body:Expr
structure Grant where
 Benefit:Int
 If:Expr
 Pay:Expr
structure Reduce where
 Benefit:Int
 By:Expr
structure Version where
 From:Int
 Rounding:Rounding
 Credits:List Credit
 Series:List Index
 Lets:List Let
 Grants:List Grant
 Reduces:List Reduce
structure Rules where
 From:Int
 MinDays:Int
 PostingLimit:Int
 Substantial:Int
 Members:List Int
structure Value where
 Dim:Int
 Yes:Bool
 Num:fQ
structure Step where
 Name:ByteArray
 Value:Value
structure iQ where
 Name:ByteArray
 Dim:Int
structure Right where
 State:Int
 Basis:Int
 Currency:Int
 Amount:Int
structure Span where
 From:Int
 To:Int
structure Token where
 Kind:Int
 Text:ByteArray
 At:Int
structure rQ where
 l:List Token
 at_:Int
 end_:Int
 bad:Bool
structure pensionref1_wide where
 hi:Int
 lo:Int
structure Statute where
 Name:ByteArray
 Currency:Int
 Versions:List Version
structure State where
 State:Int
 Statute:Statute
structure Rate where
 Currency:Int
 Month:Int
 Value:fQ
structure Laws where
 States:List State
 Treaty:List Rules
 Rates:List Rate
structure aQ where
 Issuer:Int
 Number:Int
 Version:Int
 Withdrawn:Bool
 Person:Int
 Kind:Int
 State:Int
 Span:Span
 Seat:Int
 Share:Int
 Currency:Int
 Amount:Int
 Ref:Int
structure tH where
 Issuer:Int
 Number:Int
 Version:Int
 Withdrawn:Bool
 Person:Int
 Kind:Int
 State:Int
 Seat:Int
 From:Int
 Length:Int
 Share:Int
 Amount:Int
 Ref:Int
structure Posting where
 Seat:Int
 State:Int
 Span:Span
structure uQ where
 seat:Int
 state:Int
structure lQ where
 facts:List aQ
 span:Span
 postings:List Posting
 rules:List Rules
structure syntax_entry where
 name:ByteArray
 number:Int
structure bQ where
 laws:Laws
 day:Int
 rules:Rules
structure gQ where
 Span:Span
 State:Int
 Rule:Int
structure Period where
 State:Int
 Rank:Int
 Span:Span
structure Scheme where
 State:Int
 Version:Version
structure Anon378 where
 kind:Int
 rank:Int
structure nQ where
 Span:Span
 State:Int
 Rank:Int
structure Piece where
 Span:Span
 Members:List Int
structure earnings_income where
 fact:aQ
 days:List Span
structure Earning where
 Year:Int
 Amount:Int
structure rational_wide where
 hi:Int
 lo:Int
structure View where
 Age:Int
 Year:Int
 Children:Int
 Insured:Int
 Worked:Int
 Voluntary:Int
 Service:Int
 Equated:Int
 Raising:Int
 Resident:Int
 Base:fQ
 Years:List Int
structure vQ where
 view:View
 steps:List Step
structure Result where
 Holds:Bool
 Pay:fQ
 Steps:List Step
structure FamilyPay where
 State:Int
 Currency:Int
 Amount:Int
 Primary:Bool
structure family_value where
 num:Int
 den:Int
def a3j:A4:=⟨#[]⟩
def a6h:A4:=⟨#[48,49,50,51,52,53,54,55,56,57]⟩
def b1i:A4:=⟨#[46]⟩
def c6e:A4:=⟨#[102,114,111,109,32,64]⟩
def c1g:A4:=⟨#[32,123,32,114,111,117,110,100,32]⟩
def c33:A4:=⟨#[100,111,119,110,32,49,59,32]⟩
def d01:A4:=⟨#[99,114,101,100,105,116,32,118,111,108,117,110,116,97,114,121,59,32,99,114,101,100,105,116,32,117,110,101,109,112,108,111,121,101,100,32,108,105,109,105,116,32]⟩
def b7x:A4:=⟨#[59,32]⟩
def c8s:A4:=⟨#[99,114,101,100,105,116,32,99,104,105,108,100,32,108,105,109,105,116,32]⟩
def c9v:A4:=⟨#[99,114,101,100,105,116,32,114,101,115,105,100,101,110,99,101,59,32]⟩
def c9k:A4:=⟨#[105,110,100,101,120,32,49,57,54,48,32,49,59,32,105,110,100,101,120,32,49,57,56,48,32]⟩
def c9z:A4:=⟨#[59,32,105,110,100,101,120,32,49,57,57,53,32]⟩
def c83:A4:=⟨#[108,101,116,32,115,112,101,110,116,32,61,32,105,110,115,117,114,101,100,32,47,32]⟩
def c8f:A4:=⟨#[100,59,32,108,101,116,32,112,97,114,116,32,61,32,109,105,110,40,115,112,101,110,116,32,42,32]⟩
def d0e:A4:=⟨#[44,32,48,46,56,48,41,59,32]⟩
def c8t:A4:=⟨#[103,114,97,110,116,32,111,108,100,32,105,102,32,97,103,101,32,62,61,32]⟩
def c8p:A4:=⟨#[32,97,110,100,32,105,110,115,117,114,101,100,32,62,61,32]⟩
def d02:A4:=⟨#[100,32,112,97,121,32,109,97,120,40,98,97,115,101,32,42,32,112,97,114,116,44,32]⟩
def c6o:A4:=⟨#[109,41,59,32]⟩
def c8d:A4:=⟨#[103,114,97,110,116,32,100,105,115,97,98,105,108,105,116,121,32,105,102,32,105,110,115,117,114,101,100,32,62,61,32]⟩
def c80:A4:=⟨#[100,32,112,97,121,32,98,97,115,101,32,42,32]⟩
def c9d:A4:=⟨#[103,114,97,110,116,32,115,117,114,118,105,118,111,114,32,105,102,32,119,111,114,107,101,100,32,43,32,101,113,117,97,116,101,100,32,62,61,32,51,48,100,32,112,97,121,32,98,97,115,101,32,42,32,112,97,114,116,32,42,32,48,46,54,48,59,32]⟩
def c86:A4:=⟨#[103,114,97,110,116,32,102,97,109,105,108,121,32,105,102,32,105,110,115,117,114,101,100,32,62,61,32]⟩
def d1p:A4:=⟨#[100,32,112,97,121,32]⟩
def c9u:A4:=⟨#[109,32,42,32,99,104,105,108,100,114,101,110,59,32]⟩
def c9l:A4:=⟨#[103,114,97,110,116,32,115,105,99,107,110,101,115,115,32,105,102,32,105,110,115,117,114,101,100,32,62,61,32]⟩
def c7y:A4:=⟨#[100,32,112,97,121,32,98,101,115,116,40,51,41,32,47,32,49,50,32,42,32,48,46,55,48,59,32]⟩
def b7g:A4:=⟨#[114,101,100,117,99,101,32,111,108,100,32,98,121,32]⟩
def c8b:A4:=⟨#[114,101,100,117,99,101,32,100,105,115,97,98,105,108,105,116,121,32,98,121,32,105,102,32,97,103,101,32,60,32,54,48,32,116,104,101,110,32,48,46,53,48,32,101,108,115,101,32,49,59,32]⟩
def d3i:A4:=⟨#[125,32]⟩
def c32:A4:=⟨#[104,97,108,102,32,53,59,32]⟩
def c6d:A4:=⟨#[117,112,32,49,59,32]⟩
def c19:A4:=⟨#[101,118,101,110,32,49,48,59,32]⟩
def c2c:A4:=⟨#[97,108,98,97]⟩
def c24:A4:=⟨#[98,111,114,97]⟩
def b8j:A4:=⟨#[99,101,100,97,114]⟩
def c70:A4:=⟨#[115,116,97,116,117,116,101,32]⟩
def c2x:A4:=⟨#[32,99,117,114,114,101,110,99,121,32]⟩
def d8i:A4:=⟨#[32,123,32]⟩
def b7u:A4:=⟨#[49,57,48,48,45,48,49,45,48,49]⟩
def b7v:A4:=⟨#[49,57,57,54,45,48,55,45,48,49]⟩
def b80:A4:=⟨#[50,48,48,49,45,48,49,45,48,49]⟩
def d0a:A4:=⟨#[125]⟩
def d28:A4:=⟨#[60,61]⟩
def d30:A4:=⟨#[62,61]⟩
def d1k:A4:=⟨#[60,62]⟩
def c9m:A4:=⟨#[97,110,100]⟩
def c51:A4:=⟨#[98,101,115,116]⟩
def d69:A4:=⟨#[98,121]⟩
def b91:A4:=⟨#[99,114,101,100,105,116]⟩
def b4x:A4:=⟨#[99,117,114,114,101,110,99,121]⟩
def c53:A4:=⟨#[101,108,115,101]⟩
def c1a:A4:=⟨#[102,108,111,111,114]⟩
def c4c:A4:=⟨#[102,114,111,109]⟩
def c10:A4:=⟨#[103,114,97,110,116]⟩
def d0k:A4:=⟨#[105,102]⟩
def c1q:A4:=⟨#[105,110,100,101,120]⟩
def d07:A4:=⟨#[108,101,116]⟩
def c1c:A4:=⟨#[108,105,109,105,116]⟩
def c98:A4:=⟨#[109,97,120]⟩
def c8l:A4:=⟨#[109,105,110]⟩
def c92:A4:=⟨#[110,111,116]⟩
def d8p:A4:=⟨#[111,114]⟩
def c60:A4:=⟨#[112,97,121]⟩
def b94:A4:=⟨#[114,101,100,117,99,101]⟩
def c14:A4:=⟨#[114,111,117,110,100]⟩
def b76:A4:=⟨#[115,116,97,116,117,116,101]⟩
def d3p:A4:=⟨#[116,104,101,110]⟩
def b3u:A4:=⟨#[0,1,2,2,3,3,3,3,4,4,4,4,4,4,4,4,5,5,5,5,5,5,5,5,5,5,5,5,5,5,5,5,6,6,6,6,6,6,6,6,6,6,6,6,6,6,6,6,6,6,6,6,6,6,6,6,6,6,6,6,6,6,6,6,7,7,7,7,7,7,7,7,7,7,7,7,7,7,7,7,7,7,7,7,7,7,7,7,7,7,7,7,7,7,7,7,7,7,7,7,7,7,7,7,7,7,7,7,7,7,7,7,7,7,7,7,7,7,7,7,7,7,7,7,7,7,7,7,8,8,8,8,8,8,8,8,8,8,8,8,8,8,8,8,8,8,8,8,8,8,8,8,8,8,8,8,8,8,8,8,8,8,8,8,8,8,8,8,8,8,8,8,8,8,8,8,8,8,8,8,8,8,8,8,8,8,8,8,8,8,8,8,8,8,8,8,8,8,8,8,8,8,8,8,8,8,8,8,8,8,8,8,8,8,8,8,8,8,8,8,8,8,8,8,8,8,8,8,8,8,8,8,8,8,8,8,8,8,8,8,8,8,8,8,8,8,8,8,8,8,8,8,8,8,8,8]⟩
def b0b:A4:=⟨#[118,111,108,117,110,116,97,114,121]⟩
def b3z:A4:=⟨#[115,101,114,118,105,99,101]⟩
def b87:A4:=⟨#[117,110,101,109,112,108,111,121,101,100]⟩
def d54:A4:=⟨#[115,105,99,107]⟩
def c97:A4:=⟨#[99,104,105,108,100]⟩
def c04:A4:=⟨#[114,101,115,105,100,101,110,99,101]⟩
def d9m:A4:=⟨#[111,108,100]⟩
def b8e:A4:=⟨#[100,105,115,97,98,105,108,105,116,121]⟩
def c0u:A4:=⟨#[115,117,114,118,105,118,111,114]⟩
def c66:A4:=⟨#[102,97,109,105,108,121]⟩
def c0r:A4:=⟨#[115,105,99,107,110,101,115,115]⟩
def d4s:A4:=⟨#[100,111,119,110]⟩
def f1e:A4:=⟨#[117,112]⟩
def d3b:A4:=⟨#[104,97,108,102]⟩
def d3z:A4:=⟨#[101,118,101,110]⟩
def g5d:A4:=⟨#[43]⟩
def e00:A4:=⟨#[45]⟩
def g62:A4:=⟨#[42]⟩
def e8f:A4:=⟨#[47]⟩
def g4g:A4:=⟨#[60]⟩
def e7j:A4:=⟨#[61]⟩
def g5n:A4:=⟨#[62]⟩
def e02:A4:=⟨#[40]⟩
def d38:A4:=⟨#[41]⟩
def g2w:A4:=⟨#[44]⟩
def c3s:A4:=⟨#[59]⟩
def e8b:A4:=⟨#[123]⟩
def e4t:A4:=⟨#[100]⟩
def e6u:A4:=⟨#[109]⟩
def b1y:A4:=⟨#[83,80,84,72,67,65]⟩
def a6w:A4:=⟨#[83,80,72,67,65]⟩
def c0p:A4:=⟨#[83,80,84]⟩
def a9l:A4:=⟨#[83,80]⟩
def b82:A4:=⟨#[83,80,67,65]⟩
def c1r:A4:=⟨#[83,80,82]⟩
def c0e:A4:=⟨#[80]⟩
def c6f:A4:=⟨#[80,82]⟩
def g49:A4:=⟨#[83]⟩
def g4j:A4:=⟨#[84]⟩
def g3v:A4:=⟨#[72]⟩
def g50:A4:=⟨#[67]⟩
def g4u:A4:=⟨#[65]⟩
def g5k:A4:=⟨#[82]⟩
def e0r:A4:=⟨#[97,103,101]⟩
def b6u:A4:=⟨#[105,110,115,117,114,101,100]⟩
def e39:A4:=⟨#[98,97,115,101]⟩
def c5w:A4:=⟨#[119,111,114,107,101,100]⟩
def c3c:A4:=⟨#[101,113,117,97,116,101,100]⟩
def c3j:A4:=⟨#[114,97,105,115,105,110,103]⟩
def c6v:A4:=⟨#[114,101,115,105,100,101,110,116]⟩
def d3o:A4:=⟨#[121,101,97,114]⟩
def c6q:A4:=⟨#[99,104,105,108,100,114,101,110]⟩
abbrev lpC{σ ρ:Type}(s:σ)(f:(σ->A3 ρ)->σ->A3 ρ):A3 ρ:=d9 FU f s
noncomputable section
def i59(a b:O Int):A3 Int:=some (j96 (a.map λx=>x) (b.map λx=>x))
def a7v(s:A4)(c:Int):A3 Int:=some (g6v s c)
def c23(x y c:Int):A3 (Int×Int):=g7y x y c
def c1u(x y c:Int):A3 (Int×Int):=g8x x y c
def l4l:A3 Bool:=some true
def a7z(a:O Int):A3 (O Int):=a4n 8 [] a
def a5m(a:O Credit):A3 (O Credit):=a4n 16 [] a
def a6e(a:O Index):A3 (O Index):=a4n 24 [] a
def a86(a:O Let):A3 (O Let):=a4n 88 [] a
def a6f(a:O Grant):A3 (O Grant):=a4n 152 [] a
def a5p(a:O Reduce):A3 (O Reduce):=a4n 80 [] a
def l41(b:O Right)(c:Int)(a:O Right):A3 (O Right):=m4i 32 b c a
instance:Inhabited Span:=⟨⟨0,0⟩⟩
def b3w(l:O Span):A3 (O Span):=f0f (λx y=>decide (x.From<y.From)) l
def b54(i:(Int×A4)->A3 A4)(a:Int×A4):A3 A4:=if(decide (a.1>9))then(b8t a.1 10).bind λb=>(b8t a.1 10).bind λg=>(c3u a6h b (i64 (g+1))).bind λd=>(a7f d a.2).bind λc=>(c2t a.1 10).bind λh=>i (h,c)else(c3u a6h a.1 (i64 (a.1+1))).bind λf=>(a7f f a.2).bind λe=>some e
def i8(a:Int):A3 A4:=d9 FU b54 (a,a3j)
def b7(c b:Int):A3 Int:=(b8t c b).bind λa=>if(decide (a<0))then some (i64 (a+b))else some a
def c5(a:O Int)(d:Int):A3 Int:=if((a.length:Int)==0)then some 0 else(b7 d (a.length:Int)).bind λb=>(c7 a b).bind λc=>some c
def a01(b:Int):A3 A4:=(c2t b 100).bind λh=>(i8 h).bind λk=>(a7f k b1i).bind λc=>(c2t b 10).bind λi=>(b8t i 10).bind λe=>(i8 e).bind λd=>(a7f c d).bind λj=>(b8t b 10).bind λg=>(i8 g).bind λf=>(a7f j f).bind λa=>some a
def a5b(a:(O Int)×Int×A4):A3 A4:=(c5 a.1 (i64 (a.2.1+18))).bind λe=>(b7 e 3).bind λd=>if(d==0)then(a7f a.2.2 c8b).bind λb=>(a7f b d3i).bind λc=>some c else(a7f a.2.2 d3i).bind λf=>some f
def a5c(a:(O Int)×Int×A4):A3 A4:=(c5 a.1 (i64 (a.2.1+14))).bind λs=>(b7 s 800).bind λu=>(i8 u).bind λq=>(a7f c86 q).bind λj=>(a7f j d1p).bind λt=>(c5 a.1 (i64 (a.2.1+15))).bind λk=>(b7 k 300).bind λx=>(i8 (i64 (10+x))).bind λg=>(a7f t g).bind λo=>(a7f o c9u).bind λp=>(a7f a.2.2 p).bind λz=>(c5 a.1 (i64 (a.2.1+16))).bind λm=>(b7 m 400).bind λy=>(i8 y).bind λl=>(a7f c9l l).bind λh=>(a7f h c7y).bind λr=>(a7f z r).bind λb=>(c5 a.1 (i64 (a.2.1+17))).bind λw=>(b7 w 3).bind λv=>if(decide (v>0))then(c5 a.1 (i64 (a.2.1+17))).bind λi=>(b7 i 11).bind λn=>(a01 (i64 (10*n))).bind λd=>(a7f b7g d).bind λf=>(a7f f b7x).bind λe=>(a7f b e).bind λc=>joinC a5b (a.1,a.2.1,c)else joinC a5b (a.1,a.2.1,b)
def a5j(a:(O Int)×Int×A4×A4):A3 A4:=(c5 a.1 (i64 (a.2.1+5))).bind λv=>(b7 v 300).bind λu=>(a01 (i64 (100+u))).bind λB=>(a7f c9k B).bind λA=>(a7f A c9z).bind λT=>(c5 a.1 (i64 (a.2.1+6))).bind λw=>(b7 w 300).bind λC=>(a01 (i64 (400+C))).bind λN=>(a7f T N).bind λr=>(a7f r b7x).bind λc=>(a7f a.2.2.2 c).bind λq=>(a7f c83 a.2.2.1).bind λI=>(a7f I c8f).bind λL=>(c5 a.1 (i64 (a.2.1+7))).bind λo=>(b7 o 4).bind λi=>(a01 (i64 (1+i))).bind λS=>(a7f L S).bind λn=>(a7f n d0e).bind λK=>(a7f q K).bind λs=>(c5 a.1 (i64 (a.2.1+8))).bind λy=>(b7 y 12).bind λQ=>(i8 (i64 (50+Q))).bind λG=>(a7f c8t G).bind λU=>(a7f U c8p).bind λR=>(c5 a.1 (i64 (a.2.1+9))).bind λm=>(b7 m 6000).bind λj=>(i8 j).bind λt=>(a7f R t).bind λM=>(a7f M d02).bind λE=>(c5 a.1 (i64 (a.2.1+10))).bind λV=>(b7 V 900).bind λW=>(i8 W).bind λJ=>(a7f E J).bind λk=>(a7f k c6o).bind λl=>(a7f s l).bind λx=>(c5 a.1 (i64 (a.2.1+11))).bind λF=>(b7 F 2000).bind λH=>(i8 H).bind λp=>(a7f c8d p).bind λf=>(a7f f c80).bind λX=>(c5 a.1 (i64 (a.2.1+12))).bind λD=>(b7 D 60).bind λP=>(a01 (i64 (20+P))).bind λe=>(a7f X e).bind λY=>(a7f Y b7x).bind λg=>(a7f x g).bind λb=>(c5 a.1 (i64 (a.2.1+13))).bind λz=>(b7 z 5).bind λh=>if(decide (h>0))then(a7f b c9d).bind λd=>joinC a5c (a.1,a.2.1,d)else joinC a5c (a.1,a.2.1,b)
def a5k(a:(O Int)×Int×A4×A4):A3 A4:=(c5 a.1 (i64 (a.2.1+4))).bind λc=>(b7 c 4).bind λb=>if(b==0)then(a7f a.2.2.2 c9v).bind λd=>joinC a5j (a.1,a.2.1,a.2.2.1,d)else joinC a5j (a.1,a.2.1,a.2.2.1,a.2.2.2)
def a1a(a:(O Int)×Int×A4×A4):A3 A4:=(c5 a.1 (i64 (a.2.1+2))).bind λj=>(b7 j 900).bind λc=>(i8 (i64 (1+c))).bind λl=>(a7f d01 l).bind λk=>(a7f k b7x).bind λe=>(a7f a.2.2.2 e).bind λb=>(c5 a.1 (i64 (a.2.1+3))).bind λh=>(b7 h 3).bind λn=>if(decide (n>0))then(c5 a.1 (i64 (a.2.1+3))).bind λm=>(b7 m 1000).bind λi=>(i8 (i64 (100+i))).bind λo=>(a7f c8s o).bind λg=>(a7f g b7x).bind λd=>(a7f b d).bind λf=>joinC a5k (a.1,a.2.1,a.2.2.1,f)else joinC a5k (a.1,a.2.1,a.2.2.1,b)
def a38(n:A4)(b:O Int)(a:Int):A3 A4:=(c5 b a).bind λk=>(b7 k 90).bind λm=>(i8 (i64 (300+m))).bind λf=>(a7f c6e n).bind λl=>(a7f l c1g).bind λg=>(c5 b (i64 (a+1))).bind λi=>(b7 i 4).bind λh=>if(h==0)then(a7f g c33).bind λj=>joinC a1a (b,a,f,j)else if(h==1)then(a7f g c32).bind λe=>joinC a1a (b,a,f,e)else if(h==2)then(a7f g c6d).bind λd=>joinC a1a (b,a,f,d)else(a7f g c19).bind λc=>joinC a1a (b,a,f,c)
def a7x(a:Int×(O Int)×A4):A3 A4:=(c5 a.2.1 (i64 (37+a.1))).bind λb=>(b7 b 3).bind λc=>if(c==0)then(a38 b80 a.2.1 (i64 ((i64 (7*a.1))+5))).bind λf=>(a7f a.2.2 f).bind λe=>(a7f e d0a).bind λd=>some d else(a7f a.2.2 d0a).bind λg=>some g
def b10(a:Int)(b:O Int):A3 A4:=(c7 (⟨[c2c,c24,b8j],rfl⟩:Ar 3 A4).l a).bind λo=>(c7 (⟨[c2c,c24,b8j],rfl⟩:Ar 3 A4).l a).bind λn=>(a7f c70 n).bind λh=>(a7f h c2x).bind λl=>(i8 (i64 (1+a))).bind λj=>(a7f l j).bind λi=>(a7f i d8i).bind λm=>(a38 b7u b (i64 (7*a))).bind λk=>(a7f m k).bind λg=>(c5 b (i64 (31+a))).bind λd=>(b7 d 3).bind λc=>if(decide (c>0))then(a38 b7v b (i64 ((i64 (7*a))+3))).bind λf=>(a7f g f).bind λe=>joinC a7x (a,b,e)else joinC a7x (a,b,g)
def b78(d:A4)(c:(Int×Bool)->A3 Int)(a:Int×Bool):A3 Int:=if(decide (a.1<(d.size:Int)))then(b3c d a.1).bind λb=>if(b==10)then c (i64 (a.1+1),false)else if(b==35)then c (i64 (a.1+1),true)else(if(!a.2)then some (b !=9)else some false).bind λg=>(if g then some (b !=13)else some false).bind λf=>(if f then some (b !=32)else some false).bind λe=>if e then some a.1else c (i64 (a.1+1),a.2)else some a.1
def b16(a:A4)(b:Int):A3 Int:=d9 FU (b78 a) (b,false)
def a3q(a:Int):A3 Bool:=(if(decide (a>=97))then some (decide (a<=122))else some false).bind λb=>some b
def a30(a:Int):A3 Bool:=(if(decide (a>=48))then some (decide (a<=57))else some false).bind λb=>some b
def b7b(b:Int)(c:A4)(h:Bool)(p:Int->A3 Int)(a:Int):A3 Int:=(if(decide ((i64 (b+a))<(c.size:Int)))then(b3c c (i64 (b+a))).bind λi=>(a3q i).bind λn=>(if n then some true else(b3c c (i64 (b+a))).bind λk=>(a30 k).bind λj=>some j).bind λo=>(if o then some true else(b3c c (i64 (b+a))).bind λl=>some (l==95)).bind λm=>(if m then some true else(if h then(b3c c (i64 (b+a))).bind λe=>some (e==46)else some false).bind λd=>some d).bind λg=>some g else some false).bind λf=>if f then p (i64 (a+1))else some a
def a9f(b:A4)(c:Int)(a:Bool):A3 Int:=d9 FU (b7b c b a) 0
def b5u(a:Int×A4×A4)(h:Int->A3 (A4×A4×Int×Bool))(b:Int):A3 (A4×A4×Int×Bool):=if(decide (b<(i64 ((a.2.1.size:Int)+(a.2.2.size:Int)))))then(a7f a.2.1 a.2.2).bind λd=>(b3c d b).bind λc=>(a30 c).bind λe=>if(!e)then some (a3j,a3j,0,false)else h (i64 (b+1))else(if(decide ((a.2.1.size:Int)<1))then some true else some (decide ((a.2.1.size:Int)>9))).bind λi=>(if i then some true else(if(decide ((a.2.1.size:Int)>1))then(b3c a.2.1 0).bind λg=>some (g==48)else some false).bind λf=>some f).bind λj=>if j then some (a3j,a3j,0,false)else some (a.2.1,a.2.2,a.1,true)
def a6o(a:Int×A4×A4):A3 (A4×A4×Int×Bool):=d9 FU (b5u a) 0
def b5t(b:A4×Int)(e:(Int×Int)->A3 (A4×A4×Int×Bool))(a:Int×Int):A3 (A4×A4×Int×Bool):=if(decide (a.2>=0))then(b3c b.1 a.2).bind λg=>if(g==46)then e (a.2,i64 (a.2-1))else e (a.1,i64 (a.2-1))else(c3u b.1 0 a.1).bind λf=>if(decide (a.1<(b.1.size:Int)))then(c3u b.1 (i64 (a.1+1)) (b.1.size:Int)).bind λc=>(if(decide ((c.size:Int)<1))then some true else some (decide ((c.size:Int)>4))).bind λd=>if d then some (a3j,a3j,0,false)else joinC a6o (b.2,f,c)else joinC a6o (b.2,f,a3j)
def a45(a:A4×Int):A3 (A4×A4×Int×Bool):=d9 FU (b5t a) ((a.1.size:Int),i64 ((a.1.size:Int)-1))
def a6z(a:A4):A3 (A4×A4×Int×Bool):=(if(decide ((a.size:Int)>0))then(b3c a (i64 ((a.size:Int)-1))).bind λf=>some (f==100)else some false).bind λg=>if g then(c3u a 0 (i64 ((a.size:Int)-1))).bind λe=>joinC a45 (e,3)else(if(decide ((a.size:Int)>0))then(b3c a (i64 ((a.size:Int)-1))).bind λd=>some (d==109)else some false).bind λb=>if b then(c3u a 0 (i64 ((a.size:Int)-1))).bind λc=>joinC a45 (c,4)else joinC a45 (a,2)
def b5p(b:A4)(g:(Int×Int)->A3 (Int×Bool))(a:Int×Int):A3 (Int×Bool):=if(decide (a.2<(b.size:Int)))then(b3c b a.2).bind λc=>(if(decide (c<48))then some true else(b3c b a.2).bind λf=>some (decide (f>57))).bind λe=>if e then some (0,false)else(b3c b a.2).bind λd=>g (i64 ((i64 (a.1*10))+(i64 (IntKind.u8.wrap (d-48)))),i64 (a.2+1))else some (a.1,decide ((b.size:Int)>0))
def a4m(a:A4):A3 (Int×Bool):=d9 FU (b5p a) (0,0)
def b18(a:Int):A3 Bool:=(b8t a 4).bind λd=>(if(d==0)then(b8t a 100).bind λf=>(if(f !=0)then some true else(b8t a 400).bind λb=>some (b==0)).bind λe=>some e else some false).bind λc=>some c
def a6b(c a:Int):A3 Int:=if(a==2)then(b18 c).bind λb=>if b then some 29 else some 28 else if(a==4)then if(a==4)then some 30 else some 31 else if(a==6)then if(a==6)then some 30 else some 31 else if(a==9)then if(a==9)then some 30 else some 31 else if(a==11)then some 30 else some 31
def b5s(e:Int)(f:(Int×Int)->A3 Int)(a:Int×Int):A3 Int:=if(decide (a.2<e))then(c2t a.2 12).bind λb=>(b8t a.2 12).bind λd=>(a6b (i64 (1900+b)) (i64 (d+1))).bind λc=>f (i64 (a.1+c),i64 (a.2+1))else some a.1
def a9y(a:Int):A3 Int:=d9 FU (b5s a) (0,0)
def b22(b a c:Int):A3 (Int×Bool):=(if(decide (b<1900))then some true else some (decide (b>2099))).bind λg=>(if g then some true else some (decide (a<1))).bind λj=>(if j then some true else some (decide (a>12))).bind λd=>(if d then some true else some (decide (c<1))).bind λh=>(if h then some true else(a6b b a).bind λf=>some (decide (c>f))).bind λe=>if e then some (0,false)else(a9y (i64 ((i64 ((i64 ((i64 (b-1900))*12))+a))-1))).bind λi=>some (i64 ((i64 (i+c))-1),true)
def a47(a:A4):A3 (Int×Bool):=(if((a.size:Int)!=10)then some true else(b3c a 4).bind λk=>some (k !=45)).bind λn=>(if n then some true else(b3c a 7).bind λh=>some (h !=45)).bind λl=>if l then some (0,false)else(c3u a 0 4).bind λi=>(a4m i).bind λf=>(c3u a 5 7).bind λm=>(a4m m).bind λg=>(c3u a 8 (a.size:Int)).bind λj=>(a4m j).bind λb=>(if(!f.2)then some true else some (!g.2)).bind λd=>(if d then some true else some (!b.2)).bind λe=>if e then some (0,false)else(b22 f.1 g.1 b.1).bind λc=>some (c.1,c.2)
def a7w(b:A4×Int):A3 Int:=(b3c b.1 b.2).bind λa=>if(a==60)then if(a==60)then some 1 else some 0 else if(a==62)then if(a==62)then some 1 else some 0 else if(a==61)then if(a==61)then some 1 else some 0 else if(a==43)then if(a==43)then some 1 else some 0 else if(a==45)then if(a==45)then some 1 else some 0 else if(a==42)then if(a==42)then some 1 else some 0 else if(a==47)then if(a==47)then some 1 else some 0 else if(a==40)then if(a==40)then some 1 else some 0 else if(a==41)then if(a==41)then some 1 else some 0 else if(a==123)then if(a==123)then some 1 else some 0 else if(a==125)then if(a==125)then some 1 else some 0 else if(a==44)then if(a==44)then some 1 else some 0 else if(a==59)then some 1 else some 0
def b1a(b:A4)(a:Int):A3 Int:=if(decide ((i64 (a+1))<(b.size:Int)))then(c3u b a (i64 (a+2))).bind λc=>(if(c.toList==d28.toList)then some true else some (c.toList==d30.toList)).bind λe=>(if e then some true else some (c.toList==d1k.toList)).bind λd=>if d then some 2 else joinC a7w (b,a)else joinC a7w (b,a)
def a1o(a:A4×Int×Token×Int×Int×Bool):A3 (Token×Int×Int):=if(!a.2.2.2.2.2)then some ((⟨0,a3j,0⟩:Token),a.2.1,4)else(c3u a.1 a.2.1 (i64 (a.2.1+a.2.2.2.2.1))).bind λb=>some ((⟨a.2.2.2.1,b,a.2.1⟩:Token),i64 (a.2.1+a.2.2.2.2.1),0)
def b15(b:A4)(g:Int):A3 (Token×Int×Int):=(if(decide (g<0))then some true else some (decide (g>(b.size:Int)))).bind λo=>if o then some ((⟨0,a3j,0⟩:Token),0,1)else(b16 b g).bind λa=>if(a==(b.size:Int))then some ((⟨0,a3j,a⟩:Token),a,0)else(b3c b a).bind λl=>(a3q l).bind λp=>if p then(a9f b a false).bind λk=>joinC a1o (b,a,(⟨0,a3j,0⟩:Token),1,k,decide (k<=12))else(b3c b a).bind λm=>(a30 m).bind λn=>if n then(a9f b a true).bind λd=>(c3u b a (i64 (a+d))).bind λf=>(a6z f).bind λj=>joinC a1o (b,a,(⟨0,a3j,0⟩:Token),2,d,j.2.2.2)else(b3c b a).bind λi=>if(i==64)then if(decide ((i64 ((b.size:Int)-a))>=11))then(c3u b (i64 (a+1)) (i64 (a+11))).bind λh=>(a47 h).bind λe=>joinC a1o (b,a,(⟨0,a3j,0⟩:Token),3,11,e.2)else joinC a1o (b,a,(⟨0,a3j,0⟩:Token),3,11,decide ((i64 ((b.size:Int)-a))>=11))else(b1a b a).bind λc=>joinC a1o (b,a,(⟨0,a3j,0⟩:Token),4,c,decide (c>0))
def b7c(d:A4)(e:((O Token)×Int)->A3 ((O Token)×Int×Int))(b:(O Token)×Int):A3 ((O Token)×Int×Int):=(b15 d b.2).bind λa=>if(a.2.2!=0)then some ([],a.2.1,a.2.2)else if(a.1.Kind==0)then some (b.1,0,0)else(a4n 32 b.1 [a.1]).bind λc=>e (c,a.2.1)
def b25(a:A4):A3 ((O Token)×Int×Int):=if(decide ((a.size:Int)>8000))then some ([],0,7)else d9 FU (b7c a) ([],0)
def b02(b:A4):A3 ((A3 rQ)×Int×Int):=(b25 b).bind λa=>if(a.2.2!=0)then some (none,a.2.1,a.2.2)else some (some (⟨a.1,0,(b.size:Int),false⟩:rQ),0,0)
def u9(a:rQ)(c:A4):A3 Bool:=(if(!a.bad)then some (decide (a.at_<(a.l.length:Int)))else some false).bind λd=>(if d then(c7 a.l a.at_).bind λe=>some (e.Text.toList==c.toList)else some false).bind λb=>some b
def d7(a:rQ)(c:A4):A3 (Bool×rQ):=(u9 a c).bind λb=>if(!b)then some (false,a)else some (true,(⟨a.l,i64 (a.at_+1),a.end_,a.bad⟩:rQ))
def j8(a:rQ):A3 rQ:=some (⟨a.l,a.at_,a.end_,true⟩:rQ)
def b9(c:rQ)(d:A4):A3 rQ:=(d7 c d).bind λa=>if(!a.1)then(j8 a.2).bind λb=>some b else some a.2
def p8(a:rQ)(c:Int):A3 Bool:=(if(!a.bad)then some (decide (a.at_<(a.l.length:Int)))else some false).bind λd=>(if d then(c7 a.l a.at_).bind λe=>some (e.Kind==c)else some false).bind λb=>some b
def b4m(b:A4)(l:Int->A3 Bool)(a:Int):A3 Bool:=if(decide (a<(b.size:Int)))then(b3c b a).bind λe=>(a3q e).bind λj=>(if(!j)then(if(a==0)then some true else(b3c b a).bind λg=>(a30 g).bind λf=>(if(!f)then(b3c b a).bind λk=>some (k !=95)else some false).bind λh=>some h).bind λi=>some i else some false).bind λd=>if d then some false else l (i64 (a+1))else(if(decide ((b.size:Int)>=1))then some (decide ((b.size:Int)<=12))else some false).bind λc=>some c
def a99(a:A4):A3 Bool:=d9 FU (b4m a) 0
def a7o(a:A4):A3 Bool:=if(a.toList==c9m.toList)then if(a.toList==c9m.toList)then some true else some false else if(a.toList==c51.toList)then if(a.toList==c51.toList)then some true else some false else if(a.toList==d69.toList)then if(a.toList==d69.toList)then some true else some false else if(a.toList==b91.toList)then if(a.toList==b91.toList)then some true else some false else if(a.toList==b4x.toList)then if(a.toList==b4x.toList)then some true else some false else if(a.toList==c53.toList)then if(a.toList==c53.toList)then some true else some false else if(a.toList==c1a.toList)then if(a.toList==c1a.toList)then some true else some false else if(a.toList==c4c.toList)then if(a.toList==c4c.toList)then some true else some false else if(a.toList==c10.toList)then if(a.toList==c10.toList)then some true else some false else if(a.toList==d0k.toList)then if(a.toList==d0k.toList)then some true else some false else if(a.toList==c1q.toList)then if(a.toList==c1q.toList)then some true else some false else if(a.toList==d07.toList)then if(a.toList==d07.toList)then some true else some false else if(a.toList==c1c.toList)then if(a.toList==c1c.toList)then some true else some false else if(a.toList==c98.toList)then if(a.toList==c98.toList)then some true else some false else if(a.toList==c8l.toList)then if(a.toList==c8l.toList)then some true else some false else if(a.toList==c92.toList)then if(a.toList==c92.toList)then some true else some false else if(a.toList==d8p.toList)then if(a.toList==d8p.toList)then some true else some false else if(a.toList==c60.toList)then if(a.toList==c60.toList)then some true else some false else if(a.toList==b94.toList)then if(a.toList==b94.toList)then some true else some false else if(a.toList==c14.toList)then if(a.toList==c14.toList)then some true else some false else if(a.toList==b76.toList)then if(a.toList==b76.toList)then some true else some false else if(a.toList==d3p.toList)then some true else some false
def a2e(a:A4):A3 Bool:=(a99 a).bind λb=>(if b then(a7o a).bind λc=>some (!c)else some false).bind λd=>some d
def a0w(a:rQ):A3 (A4×rQ):=(p8 a 1).bind λe=>(if(!e)then some true else(c7 a.l a.at_).bind λg=>(a2e g.Text).bind λb=>some (!b)).bind λf=>if f then(j8 a).bind λd=>some (a3j,d)else(c7 a.l (i64 ((i64 (a.at_+1))-1))).bind λc=>some (c.Text,(⟨a.l,i64 (a.at_+1),a.end_,a.bad⟩:rQ))
def a43(a:Int):A3 Int:=if(decide (a<0))then some (u64 ((u64 (i64 (-(i64 (a+1)))))+1))else some (u64 (a))
def b62(a:Int×Int):A3 Int:=if(decide (a.1>=256))then(d0l .u64 a.1 8).bind λd=>(b3c b3u (IntKind.u8.wrap (d))).bind λc=>some (i64 ((i64 (a.2+8))+(i64 (c))))else(b3c b3u (IntKind.u8.wrap (a.1))).bind λb=>some (i64 (a.2+(i64 (b))))
def b65(a:Int×Int):A3 Int:=if(decide (a.1>=65536))then(d0l .u64 a.1 16).bind λb=>joinC b62 (b,i64 (a.2+16))else joinC b62 (a.1,a.2)
def b8x(a:Int):A3 Int:=if(decide (a>=4294967296))then(d0l .u64 a 32).bind λb=>joinC b65 (b,32)else joinC b65 (a,0)
def a7n(b:Int):A3 Int:=(b8x b).bind λa=>some (i64 (64-a))
def b5x(a:Int×Int×Int×Int×Int×Int):A3 (Int×Int):=(d0l .u64 (u64 ((u64 ((u64 (a.2.2.2.2.1*4294967296))+a.2.2.1))-(u64 (a.2.2.2.2.2*a.1)))) a.2.1).bind λb=>some (u64 ((u64 (a.2.2.2.1*4294967296))+a.2.2.2.2.2),b)
def c4t(a:Int×Int×Int×Int×Int×Int×Int×Int)(d:(Int×Int)->A3 (Int×Int))(b:Int×Int):A3 (Int×Int):=(if(decide (b.2>=4294967296))then some true else some (decide ((u64 (b.2*a.2.2.2.1))>(u64 ((u64 (4294967296*b.1))+a.2.2.2.2.2.2.1))))).bind λc=>if c then if(decide ((u64 (b.1+a.2.2.1))>=4294967296))then joinC b5x (a.1,a.2.1,a.2.2.2.2.2.2.1,a.2.2.2.2.2.2.2,u64 ((u64 ((u64 (a.2.2.2.2.1*4294967296))+a.2.2.2.2.2.1))-(u64 (a.2.2.2.2.2.2.2*a.1))),u64 (b.2-1))else d (u64 (b.1+a.2.2.1),u64 (b.2-1))else joinC b5x (a.1,a.2.1,a.2.2.2.2.2.2.1,a.2.2.2.2.2.2.2,u64 ((u64 ((u64 (a.2.2.2.2.1*4294967296))+a.2.2.2.2.2.1))-(u64 (a.2.2.2.2.2.2.2*a.1))),b.2)
def b31(a:Int×Int×Int×Int×Int×Int×Int×Int):A3 (Int×Int):=(if a.2.2.1=0then none else some (u64 (Int.tdiv (u64 ((u64 ((u64 (a.2.2.2.2.1*4294967296))+a.2.2.2.2.2.1))-(u64 (a.2.2.2.2.2.2.2*a.1)))) a.2.2.1))).bind λb=>d9 FU (c4t a) (u64 ((u64 ((u64 ((u64 (a.2.2.2.2.1*4294967296))+a.2.2.2.2.2.1))-(u64 (a.2.2.2.2.2.2.2*a.1))))-(u64 (b*a.2.2.1))),b)
def c4k(c b e h j i d:Int)(g:(Int×Int)->A3 (Int×Int))(a:Int×Int):A3 (Int×Int):=(if(decide (a.1>=4294967296))then some true else some (decide ((u64 (a.1*(d5y .u64 c 4294967295)))>(u64 ((u64 (4294967296*a.2))+b))))).bind λf=>if f then if(decide ((u64 (a.2+e))>=4294967296))then joinC b31 (c,u64 (h),e,d5y .u64 c 4294967295,orK .u64 j i,b,d5y .u64 d 4294967295,u64 (a.1-1))else g (u64 (a.1-1),u64 (a.2+e))else joinC b31 (c,u64 (h),e,d5y .u64 c 4294967295,orK .u64 j i,b,d5y .u64 d 4294967295,a.1)
def b9t(a:Int×Int×Int):A3 (Int×Int):=if(a.1==0)then(if a.2.2=0then none else some (u64 (Int.tdiv a.2.1 a.2.2))).bind λj=>(b8t a.2.1 a.2.2).bind λk=>some (j,k)else(a7n a.2.2).bind λb=>(g2a .u64 a.2.2 (u64 (b))).bind λi=>(d0l .u64 i 32).bind λe=>(g2a .u64 a.1 (u64 (b))).bind λg=>(d0l .u64 a.2.1 (u64 (64-(u64 (b))))).bind λh=>(g2a .u64 a.2.1 (u64 (b))).bind λc=>(d0l .u64 c 32).bind λf=>(if e=0then none else some (u64 (Int.tdiv (orK .u64 g h) e))).bind λd=>d9 FU (c4k i f e b g h c) (d,u64 ((orK .u64 g h)-(u64 (d*e))))
def b9j(a:Int×Int×Int):A3 (Int×Int):=if(decide (a.2.2<=a.1))then none else joinC b9t (a.1,a.2.1,a.2.2)
def a8o(b c a:Int):A3 (Int×Int):=if(a==0)then none else joinC b9j (b,c,a)
def a3h(b:pensionref1_wide)(a:Int):A3 (pensionref1_wide×Int):=(b8t b.hi a).bind λe=>(a8o e b.lo a).bind λc=>(if a=0then none else some (u64 (Int.tdiv b.hi a))).bind λd=>some ((⟨d,c.1⟩:pensionref1_wide),c.2)
def b7e(c:(Int×Int)->A3 Int)(a:Int×Int):A3 Int:=if(a.2!=0)then(b8t a.1 a.2).bind λb=>c (a.2,b)else some a.1
def a9s(a b:Int):A3 Int:=d9 FU b7e (a,b)
def b2l(i:Bool)(e:pensionref1_wide)(b:Int):A3 (fQ×Int):=(a3h e b).bind λh=>(a9s b h.2).bind λd=>(a3h e d).bind λa=>(if d=0then none else some (u64 (Int.tdiv b d))).bind λc=>(if(a.1.hi !=0)then some true else some (decide (a.1.lo>1000000000000000))).bind λg=>(if g then some true else some (decide (c>1000000000))).bind λf=>if f then some ((⟨0,0⟩:fQ),2)else if i then some ((⟨i64 (-(i64 (a.1.lo))),i64 (c)⟩:fQ),0)else some ((⟨i64 (a.1.lo),i64 (c)⟩:fQ),0)
def a3r(c a:Int):A3 (fQ×Int):=if(a==0)then some ((⟨0,0⟩:fQ),3)else(a43 c).bind λd=>(a43 a).bind λe=>(b2l ((decide (c<0))!=(decide (a<0))) (⟨0,d⟩:pensionref1_wide) e).bind λb=>some (b.1,b.2)
def b3f(b:A4×A4×Int×Bool)(c:(fQ×Int×Int×Int)->A3 (fQ×Int×Bool))(a:fQ×Int×Int×Int):A3 (fQ×Int×Bool):=if(decide (a.2.2.2<(i64 ((b.1.size:Int)+(b.2.1.size:Int)))))then(a7f b.1 b.2.1).bind λf=>(b3c f a.2.2.2).bind λd=>if(decide (a.2.2.2>=(b.1.size:Int)))then c (a.1,i64 ((i64 (a.2.1*10))+(i64 (IntKind.u8.wrap (d-48)))),i64 (a.2.2.1*10),i64 (a.2.2.2+1))else c (a.1,i64 ((i64 (a.2.1*10))+(i64 (IntKind.u8.wrap (d-48)))),a.2.2.1,i64 (a.2.2.2+1))else(a3r a.2.1 a.2.2.1).bind λe=>some (e.1,b.2.2.1,true)
def a2x(b:A4):A3 (fQ×Int×Bool):=(a6z b).bind λa=>if(!a.2.2.2)then some ((⟨0,0⟩:fQ),0,false)else d9 FU (b3f a) ((⟨0,0⟩:fQ),0,1,0)
def s7(a:rQ)(e c:Int):A3 (Int×rQ):=(p8 a 2).bind λh=>if h then(c7 a.l a.at_).bind λk=>(a2x k.Text).bind λb=>(if(b.2.1==2)then some (b.1.Den==1)else some false).bind λi=>(if i then some (decide (b.1.Num>=e))else some false).bind λf=>(if f then some (decide (b.1.Num<=c))else some false).bind λd=>if d then some (b.1.Num,(⟨a.l,i64 (a.at_+1),a.end_,a.bad⟩:rQ))else(j8 a).bind λj=>some (0,j)else(j8 a).bind λg=>some (0,g)
def b09(a:A4):A3 Int:=(c3u a 1 (a.size:Int)).bind λb=>(a47 b).bind λc=>some c.1
def a8l(a:A4):A3 Int:=if(a.toList==b0b.toList)then some 6 else if(a.toList==b3z.toList)then some 9 else if(a.toList==b87.toList)then some 7 else if(a.toList==d54.toList)then some 8 else if(a.toList==c97.toList)then some 10 else if(a.toList==c04.toList)then some 5 else some 0
def a52(a:A4):A3 Int:=if(a.toList==d9m.toList)then some 1 else if(a.toList==b8e.toList)then some 2 else if(a.toList==c0u.toList)then some 3 else if(a.toList==c66.toList)then some 4 else if(a.toList==c0r.toList)then some 5 else some 0
def a8f(a:A4):A3 Int:=if(a.toList==d4s.toList)then some 1 else if(a.toList==f1e.toList)then some 2 else if(a.toList==d3b.toList)then some 3 else if(a.toList==d3z.toList)then some 4 else some 0
def a0m(a:rQ)(d:Int):A3 (Int×rQ):=(p8 a 1).bind λj=>if j then(c7 a.l a.at_).bind λb=>(a8l b.Text).bind λc=>(a52 b.Text).bind λf=>(a8f b.Text).bind λe=>(c7 [c,f,e] (i64 (d-1))).bind λk=>(c7 [c,f,e] (i64 (d-1))).bind λg=>if(decide (g>0))then some (g,(⟨a.l,i64 (a.at_+1),a.end_,a.bad⟩:rQ))else(j8 a).bind λh=>some (0,h)else(j8 a).bind λi=>some (0,i)
def a8e(a:Int):A3 Int:=(if(decide (a>=1))then some (decide (a<=3))else some false).bind λb=>if b then some 0 else(if(decide (a>=4))then some (decide (a<=6))else some false).bind λc=>if c then some 1 else(if(decide (a>=7))then some (decide (a<=20))else some false).bind λd=>if d then some 2 else if(a==21)then some 3 else some (-1:Int)
def a6m(a:Int×Bool):A3 Int:=if a.2then some 5 else if(a.1==9)then if(a.1==9)then some 6 else some 7 else if(a.1==10)then some 6 else some 7
def a04(a:Int×Bool):A3 Int:=if a.2then some 4 else if(a.1==7)then joinC a6m (a.1,a.1==7)else joinC a6m (a.1,a.1==8)
def b05(a:Int):A3 Int:=if(a==21)then some 0 else if(a==18)then some 1 else if(a==17)then some 2 else if(a==5)then some 3 else if(a==11)then joinC a04 (a,a==11)else if(a==12)then joinC a04 (a,a==12)else if(a==13)then joinC a04 (a,a==13)else if(a==14)then joinC a04 (a,a==14)else if(a==15)then joinC a04 (a,a==15)else joinC a04 (a,a==16)
def a96(a:Int):A3 A4:=if(a==7)then some g5d else if(a==8)then some e00 else if(a==9)then some g62 else if(a==10)then some e8f else if(a==11)then some g4g else if(a==12)then some d28 else if(a==13)then some e7j else if(a==14)then some d1k else if(a==15)then some g5n else if(a==16)then some d30 else if(a==17)then some c9m else some d8p
def a9a(e:Int)(g:rQ)(h:Int->A3 Int)(a:Int):A3 Int:=if(decide (a<=18))then(b05 a).bind λb=>(if(b==e)then(a96 a).bind λf=>(u9 g f).bind λd=>some d else some false).bind λc=>if c then some a else h (i64 (a+1))else some 0
def a3a(a:rQ)(b:Int):A3 Int:=d9 FU (a9a b a) 7
structure eQ where f_pensionref5_reader_expr:rQ->Int->Option (Expr×rQ)f_pensionref5_reader_factor:rQ->Option (Expr×rQ)f_pensionref5_reader_call:rQ->Int->Option (Expr×rQ)
def b0l(R:eQ)(d:Int)(e:(rQ×(O Expr)×Expr×Expr)->A3 (Expr×rQ))(a:rQ×(O Expr)×Expr×Expr):A3 (Expr×rQ):=if(!a.1.bad)then(a3a a.1 d).bind λc=>if(c==0)then some (a.2.2.2,a.1)else(R.f_pensionref5_reader_expr (⟨a.1.l,i64 (a.1.at_+1),a.1.end_,a.1.bad⟩:rQ) (i64 (d+1))).bind λb=>if(d==4)then some ((⟨c,(⟨0,0⟩:fQ),0,a3j,[a.2.2.2,b.1]⟩:Expr),b.2)else e (b.2,a.2.1,(⟨a.2.2.1.Op,a.2.2.1.Value,a.2.2.1.Dim,a.2.2.1.Name,[]⟩:Expr),(⟨c,(⟨0,0⟩:fQ),0,a3j,[a.2.2.2,b.1]⟩:Expr))else some (a.2.2.2,a.1)
def a3b(R:eQ)(a:rQ)(c:Int):A3 (Expr×rQ):=if a.bad then some ((⟨0,(⟨0,0⟩:fQ),0,a3j,[]⟩:Expr),a)else if(c==0)then(d7 a d0k).bind λg=>if(!g.1)then(R.f_pensionref5_reader_expr g.2 1).bind λl=>some (l.1,l.2)else(R.f_pensionref5_reader_expr g.2 0).bind λh=>(b9 h.2 d3p).bind λn=>(R.f_pensionref5_reader_expr n 0).bind λi=>(b9 i.2 c53).bind λm=>(R.f_pensionref5_reader_expr m 0).bind λk=>some ((⟨21,(⟨0,0⟩:fQ),0,a3j,[h.1,i.1,k.1]⟩:Expr),k.2)else if(c==3)then(d7 a c92).bind λf=>if f.1then(R.f_pensionref5_reader_expr f.2 3).bind λj=>some ((⟨5,(⟨0,0⟩:fQ),0,a3j,[j.1]⟩:Expr),j.2)else(R.f_pensionref5_reader_expr f.2 4).bind λd=>some (d.1,d.2)else if(c==7)then(R.f_pensionref5_reader_factor a).bind λb=>some (b.1,b.2)else(R.f_pensionref5_reader_expr a (i64 (c+1))).bind λe=>d9 FU (b0l R c) (e.2,[],(⟨0,(⟨0,0⟩:fQ),0,a3j,[]⟩:Expr),e.1)
def a2a(R:eQ)(b:rQ):A3 (Expr×rQ):=(p8 b 2).bind λr=>if r then(c7 b.l b.at_).bind λs=>(a2x s.Text).bind λp=>some ((⟨1,p.1,p.2.1,a3j,[]⟩:Expr),(⟨b.l,i64 (b.at_+1),b.end_,b.bad⟩:rQ))else(d7 b e00).bind λk=>if k.1then(R.f_pensionref5_reader_expr k.2 7).bind λq=>some ((⟨4,(⟨0,0⟩:fQ),0,a3j,[q.1]⟩:Expr),q.2)else(d7 k.2 e02).bind λj=>if j.1then(R.f_pensionref5_reader_expr j.2 0).bind λo=>(b9 o.2 d38).bind λt=>some (o.1,t)else(d7 j.2 c51).bind λa=>if a.1then(b9 a.2 e02).bind λn=>(s7 n 1 45).bind λe=>(b9 e.2 d38).bind λi=>some ((⟨3,(⟨e.1,1⟩:fQ),0,a3j,[]⟩:Expr),i)else(u9 a.2 c1a).bind λl=>if l then(R.f_pensionref5_reader_call a.2 6).bind λc=>some (c.1,c.2)else(u9 a.2 c8l).bind λh=>if h then(R.f_pensionref5_reader_call a.2 19).bind λf=>some (f.1,f.2)else(u9 a.2 c98).bind λm=>if m then(R.f_pensionref5_reader_call a.2 20).bind λg=>some (g.1,g.2)else(a0w a.2).bind λd=>some ((⟨2,(⟨0,0⟩:fQ),0,d.1,[]⟩:Expr),d.2)
def a3d(R:eQ)(b:rQ)(c:Int):A3 (Expr×rQ):=(b9 (⟨b.l,i64 (b.at_+1),b.end_,b.bad⟩:rQ) e02).bind λh=>(R.f_pensionref5_reader_expr h 0).bind λa=>(a8e c).bind λe=>if(e==2)then(b9 a.2 g2w).bind λi=>(c7 [a.1] 0).bind λf=>(R.f_pensionref5_reader_expr i 0).bind λd=>(b9 d.2 d38).bind λj=>some ((⟨c,(⟨0,0⟩:fQ),0,a3j,[f,d.1]⟩:Expr),j)else(b9 a.2 d38).bind λg=>some ((⟨c,(⟨0,0⟩:fQ),0,a3j,[a.1]⟩:Expr),g)
def c8:Nat->eQ|0=>⟨λ_ _=>none,λ_=>none,λ_ _=>none⟩|n+1=>⟨a3b (c8 n),a2a (c8 n),a3d (c8 n)⟩
def a0u(a:rQ)(b:Int):A3 (Expr×rQ):=(c8 FU).f_pensionref5_reader_expr a b
def a1v(a:rQ×(O Credit)×(O Index)×(O Let)×(O Grant)×(O Reduce)×Version×Credit):A3 (rQ×Version×(O Credit)×(O Index)×(O Let)×(O Grant)×(O Reduce)):=(a4n 16 a.2.1 [a.2.2.2.2.2.2.2]).bind λc=>(b9 a.1 c3s).bind λb=>some (b,(⟨a.2.2.2.2.2.2.1.From,a.2.2.2.2.2.2.1.Rounding,[],[],[],[],[]⟩:Version),c,a.2.2.1,a.2.2.2.1,a.2.2.2.2.1,a.2.2.2.2.2.1)
def a1t(a:rQ×(O Credit)×(O Index)×(O Let)×(O Grant)×(O Reduce)×Version×Index):A3 (rQ×Version×(O Credit)×(O Index)×(O Let)×(O Grant)×(O Reduce)):=(a4n 24 a.2.2.1 [a.2.2.2.2.2.2.2]).bind λb=>(b9 a.1 c3s).bind λc=>some (c,(⟨a.2.2.2.2.2.2.1.From,a.2.2.2.2.2.2.1.Rounding,[],[],[],[],[]⟩:Version),a.2.1,b,a.2.2.2.1,a.2.2.2.2.1,a.2.2.2.2.2.1)
def a0a(a:rQ×(O Credit)×(O Index)×(O Let)×(O Grant)×(O Reduce)×Version×Index):A3 (rQ×Version×(O Credit)×(O Index)×(O Let)×(O Grant)×(O Reduce)):=if(a.2.2.2.2.2.2.2.Factor.Den==0)then(j8 a.1).bind λb=>joinC a1t (b,a.2.1,a.2.2.1,a.2.2.2.1,a.2.2.2.2.1,a.2.2.2.2.2.1,(⟨a.2.2.2.2.2.2.1.From,a.2.2.2.2.2.2.1.Rounding,[],[],[],[],[]⟩:Version),a.2.2.2.2.2.2.2)else joinC a1t (a.1,a.2.1,a.2.2.1,a.2.2.2.1,a.2.2.2.2.1,a.2.2.2.2.2.1,(⟨a.2.2.2.2.2.2.1.From,a.2.2.2.2.2.2.1.Rounding,[],[],[],[],[]⟩:Version),a.2.2.2.2.2.2.2)
def a39(M:rQ)(a:Version)(c:O Credit)(f:O Index)(e:O Let)(g:O Grant)(d:O Reduce):A3 (rQ×Version×(O Credit)×(O Index)×(O Let)×(O Grant)×(O Reduce)):=(d7 M b91).bind λy=>if y.1then(a0m y.2 1).bind λG=>(d7 G.2 c1c).bind λv=>if v.1then(s7 v.2 1 73049).bind λL=>joinC a1v (L.2,c,f,e,g,d,(⟨a.From,a.Rounding,[],[],[],[],[]⟩:Version),(⟨G.1,L.1⟩:Credit))else joinC a1v (v.2,c,f,e,g,d,(⟨a.From,a.Rounding,[],[],[],[],[]⟩:Version),(⟨G.1,0⟩:Credit))else(d7 y.2 c1q).bind λH=>if H.1then(s7 H.2 1900 2099).bind λb=>(p8 b.2 2).bind λK=>if K then(c7 b.2.l b.2.at_).bind λB=>(a2x B.Text).bind λh=>(if(h.2.1==2)then some (decide (h.1.Num>0))else some false).bind λE=>if E then joinC a0a ((⟨b.2.l,i64 (b.2.at_+1),b.2.end_,b.2.bad⟩:rQ),c,f,e,g,d,(⟨a.From,a.Rounding,[],[],[],[],[]⟩:Version),(⟨b.1,h.1⟩:Index))else joinC a0a (b.2,c,f,e,g,d,(⟨a.From,a.Rounding,[],[],[],[],[]⟩:Version),(⟨b.1,(⟨0,0⟩:fQ)⟩:Index))else joinC a0a (b.2,c,f,e,g,d,(⟨a.From,a.Rounding,[],[],[],[],[]⟩:Version),(⟨b.1,(⟨0,0⟩:fQ)⟩:Index))else(d7 H.2 d07).bind λi=>if i.1then(a0w i.2).bind λr=>(b9 r.2 e7j).bind λJ=>(a0u J 0).bind λp=>(a4n 88 e [(⟨r.1,p.1⟩:Let)]).bind λI=>(b9 p.2 c3s).bind λs=>some (s,(⟨a.From,a.Rounding,[],[],[],[],[]⟩:Version),c,f,I,g,d)else(d7 i.2 c10).bind λk=>if k.1then(a0m k.2 2).bind λq=>(b9 q.2 d0k).bind λu=>(a0u u 0).bind λl=>(b9 l.2 c60).bind λz=>(a0u z 0).bind λm=>(a4n 152 g [(⟨q.1,l.1,m.1⟩:Grant)]).bind λC=>(b9 m.2 c3s).bind λA=>some (A,(⟨a.From,a.Rounding,[],[],[],[],[]⟩:Version),c,f,e,C,d)else(d7 k.2 b94).bind λj=>if j.1then(a0m j.2 2).bind λn=>(b9 n.2 d69).bind λD=>(a0u D 0).bind λo=>(a4n 80 d [(⟨n.1,o.1⟩:Reduce)]).bind λx=>(b9 o.2 c3s).bind λt=>some (t,(⟨a.From,a.Rounding,[],[],[],[],[]⟩:Version),c,f,e,g,x)else(j8 j.2).bind λw=>(b9 w c3s).bind λF=>some (F,(⟨a.From,a.Rounding,[],[],[],[],[]⟩:Version),c,f,e,g,d)
def a8i(d:(rQ×(O Credit)×(O Index)×(O Let)×(O Grant)×(O Reduce)×Version×(O Credit)×(O Index)×(O Let)×(O Grant)×(O Reduce)×Version)->A3 (Version×rQ))(a:rQ×(O Credit)×(O Index)×(O Let)×(O Grant)×(O Reduce)×Version×(O Credit)×(O Index)×(O Let)×(O Grant)×(O Reduce)×Version):A3 (Version×rQ):=if(!a.1.bad)then(d7 a.1 d0a).bind λc=>if(!c.1)then(a39 c.2 (⟨a.2.2.2.2.2.2.2.2.2.2.2.2.From,a.2.2.2.2.2.2.2.2.2.2.2.2.Rounding,[],[],[],[],[]⟩:Version) a.2.2.2.2.2.2.2.1 a.2.2.2.2.2.2.2.2.1 a.2.2.2.2.2.2.2.2.2.1 a.2.2.2.2.2.2.2.2.2.2.1 a.2.2.2.2.2.2.2.2.2.2.2.1).bind λb=>d (b.1,a.2.1,a.2.2.1,a.2.2.2.1,a.2.2.2.2.1,a.2.2.2.2.2.1,(⟨a.2.2.2.2.2.2.1.From,a.2.2.2.2.2.2.1.Rounding,[],[],[],[],[]⟩:Version),b.2.2.1,b.2.2.2.1,b.2.2.2.2.1,b.2.2.2.2.2.1,b.2.2.2.2.2.2,(⟨b.2.1.From,b.2.1.Rounding,[],[],[],[],[]⟩:Version))else some ((⟨a.2.2.2.2.2.2.2.2.2.2.2.2.From,a.2.2.2.2.2.2.2.2.2.2.2.2.Rounding,a.2.2.2.2.2.2.2.1,a.2.2.2.2.2.2.2.2.1,a.2.2.2.2.2.2.2.2.2.1,a.2.2.2.2.2.2.2.2.2.2.1,a.2.2.2.2.2.2.2.2.2.2.2.1⟩:Version),c.2)else some ((⟨a.2.2.2.2.2.2.2.2.2.2.2.2.From,a.2.2.2.2.2.2.2.2.2.2.2.2.Rounding,a.2.2.2.2.2.2.2.1,a.2.2.2.2.2.2.2.2.1,a.2.2.2.2.2.2.2.2.2.1,a.2.2.2.2.2.2.2.2.2.2.1,a.2.2.2.2.2.2.2.2.2.2.2.1⟩:Version),a.1)
def a1l(a:rQ×(O Credit)×(O Index)×(O Let)×(O Grant)×(O Reduce)×Version×(O Credit)×(O Index)×(O Let)×(O Grant)×(O Reduce)×Version):A3 (Version×rQ):=(b9 a.1 e8b).bind λe=>(b9 e c14).bind λf=>(a0m f 3).bind λd=>(s7 d.2 1 100000).bind λc=>(b9 c.2 c3s).bind λb=>d9 FU a8i (b,a.2.1,a.2.2.1,a.2.2.2.1,a.2.2.2.2.1,a.2.2.2.2.2.1,(⟨a.2.2.2.2.2.2.1.From,a.2.2.2.2.2.2.1.Rounding,[],[],[],[],[]⟩:Version),a.2.2.2.2.2.2.2.1,a.2.2.2.2.2.2.2.2.1,a.2.2.2.2.2.2.2.2.2.1,a.2.2.2.2.2.2.2.2.2.2.1,a.2.2.2.2.2.2.2.2.2.2.2.1,(⟨a.2.2.2.2.2.2.2.2.2.2.2.2.From,(⟨d.1,c.1⟩:Rounding),[],[],[],[],[]⟩:Version))
def a2o(f:rQ):A3 (Version×rQ):=(b9 f c4c).bind λa=>(p8 a 3).bind λe=>if e then(c7 a.l a.at_).bind λc=>(b09 c.Text).bind λd=>joinC a1l ((⟨a.l,i64 (a.at_+1),a.end_,a.bad⟩:rQ),[],[],[],[],[],(⟨0,(⟨0,0⟩:Rounding),[],[],[],[],[]⟩:Version),[],[],[],[],[],(⟨d,(⟨0,0⟩:Rounding),[],[],[],[],[]⟩:Version))else(j8 a).bind λb=>joinC a1l (b,[],[],[],[],[],(⟨0,(⟨0,0⟩:Rounding),[],[],[],[],[]⟩:Version),[],[],[],[],[],(⟨0,(⟨0,0⟩:Rounding),[],[],[],[],[]⟩:Version))
def a3s(a:rQ):A3 Int:=if(decide (a.at_<(a.l.length:Int)))then(c7 a.l a.at_).bind λb=>some b.At else some a.end_
def a6n(a:Int):A3 Bool:=(if(decide (a>=0))then some (decide (a<=73048))else some false).bind λb=>some b
def a3c(a:Rounding):A3 Bool:=(if(decide (a.Mode>=1))then some (decide (a.Mode<=4))else some false).bind λb=>(if b then some (decide (a.Unit>=1))else some false).bind λc=>(if c then some (decide (a.Unit<=100000))else some false).bind λd=>some d
def b53(b h:Int)(r:((O A4)×Int)->A3 A4)(a:(O A4)×Int):A3 A4:=(if(decide (a.2<(a.1.length:Int)))then some (decide (b>0))else some false).bind λm=>if m then(if(h==1)then(c7 a.1 a.2).bind λt=>(c7 a.1 a.2).bind λo=>(a8l o).bind λn=>some (n==b)else some false).bind λl=>(if l then some true else(if(h==2)then(c7 a.1 a.2).bind λu=>(c7 a.1 a.2).bind λp=>(a52 p).bind λk=>some (k==b)else some false).bind λg=>some g).bind λd=>(if d then some true else(if(h==3)then(c7 a.1 a.2).bind λq=>(c7 a.1 a.2).bind λe=>(a8f e).bind λc=>some (c==b)else some false).bind λj=>some j).bind λi=>if i then(c7 a.1 a.2).bind λs=>(c7 a.1 a.2).bind λf=>some f else r (a.1,i64 (a.2+1))else some a3j
def a3t(a b:Int):A3 A4:=d9 FU (b53 a b) ([b0b,b3z,b87,d54,c97,c04,d9m,b8e,c0u,c66,c0r,d4s,f1e,d3b,d3z],0)
def a1h(a:fQ):A3 Bool:=(if(decide (a.Den>=1))then some (decide (a.Den<=1000000000))else some false).bind λe=>(if e then some (decide (a.Num>=(-1000000000000000:Int)))else some false).bind λg=>(if g then some (decide (a.Num<=1000000000000000))else some false).bind λb=>(if b then(a43 a.Num).bind λf=>(a9s f (u64 (a.Den))).bind λd=>some (d==1)else some false).bind λc=>some c
def b4s(d:Int)(i:(Int×A4)->A3 A4)(a:Int×A4):A3 A4:=(if(decide (a.1>0))then some true else some (decide ((a.2.size:Int)<d))).bind λb=>if b then(b8t a.1 10).bind λg=>(b8t a.1 10).bind λe=>(c3u a6h g (i64 (e+1))).bind λc=>(a7f c a.2).bind λh=>(c2t a.1 10).bind λf=>i (f,h)else some a.2
def a5w(a b:Int):A3 A4:=d9 FU (b4s b) (a,a3j)
def a3x(a:fQ×A4):A3 A4:=if(a.1.Den !=1)then(a7f a.2 e8f).bind λd=>(a5w a.1.Den 1).bind λb=>(a7f d b).bind λc=>some c else some a.2
def a2n(a:fQ):A3 A4:=(a1h a).bind λc=>if(!c)then some a3j else(a43 a.Num).bind λe=>(a5w (i64 (e)) 1).bind λb=>if(decide (a.Num<0))then(a7f e00 b).bind λd=>joinC a3x (a,d)else joinC a3x (a,b)
def a93(b:Int×A4×Int)(j:(A4×Int×Int)->A3 (A4×Bool))(a:A4×Int×Int):A3 (A4×Bool):=if(decide (a.2.1>0))then(c2t a.2.1 a.2.2).bind λe=>(c2t a.2.1 a.2.2).bind λc=>(c3u a6h e (i64 (c+1))).bind λg=>(a7f a.1 g).bind λk=>(b8t a.2.1 a.2.2).bind λi=>(c2t a.2.2 10).bind λh=>j (k,i,h)else(c7 [a3j,e4t,e6u] (i64 (b.1-2))).bind λl=>(c7 [a3j,e4t,e6u] (i64 (b.1-2))).bind λf=>(a7f a.1 f).bind λd=>some (d,true)
def a1u(a:Int×A4×Int):A3 (A4×Bool):=d9 FU (a93 a) (a.2.1,a.2.2,1000)
def a1g(a:fQ)(c:Int):A3 (A4×Bool):=(a1h a).bind λj=>(if(!j)then some true else some (decide (a.Num<0))).bind λl=>(if l then some true else(b8t 10000 a.Den).bind λg=>some (g !=0)).bind λk=>(if k then some true else some (decide (c<2))).bind λi=>(if i then some true else some (decide (c>4))).bind λh=>if h then some (a3j,false)else(c2t a.Num a.Den).bind λb=>if(decide (b>999999999))then some (a3j,false)else(a2n (⟨b,1⟩:fQ)).bind λf=>(c2t 10000 a.Den).bind λd=>if(decide ((i64 ((i64 (a.Num-(i64 (b*a.Den))))*d))>0))then(a7f f b1i).bind λe=>joinC a1u (c,e,i64 ((i64 (a.Num-(i64 (b*a.Den))))*d))else joinC a1u (c,f,i64 ((i64 (a.Num-(i64 (b*a.Den))))*d))
structure Ring_pensionref5_Depth where f_pensionref5_Depth:Expr->Option Int
def b5n(R:Ring_pensionref5_Depth)(d:(Expr×Int×Int)->A3 Int)(a:Expr×Int×Int):A3 Int:=if(decide (a.2.2<(a.1.Args.length:Int)))then(c7 a.1.Args a.2.2).bind λc=>(R.f_pensionref5_Depth c).bind λb=>d (a.1,max a.2.1 b,i64 (a.2.2+1))else some (i64 (a.2.1+1))
def a7r(R:Ring_pensionref5_Depth)(a:Expr):A3 Int:=d9 FU (b5n R) (a,0,0)
def s5:Nat->Ring_pensionref5_Depth|0=>⟨λ_=>none⟩|n+1=>⟨a7r (s5 n)⟩
def c61(a:Expr):A3 Int:=(s5 FU).f_pensionref5_Depth a
structure Ring_pensionref5_Size where f_pensionref5_Size:Expr->Option Int
def b6r(R:Ring_pensionref5_Size)(d:(Expr×Int×Int)->A3 Int)(a:Expr×Int×Int):A3 Int:=if(decide (a.2.2<(a.1.Args.length:Int)))then(c7 a.1.Args a.2.2).bind λc=>(R.f_pensionref5_Size c).bind λb=>d (a.1,i64 (a.2.1+b),i64 (a.2.2+1))else some a.2.1
def a94(R:Ring_pensionref5_Size)(a:Expr):A3 Int:=d9 FU (b6r R) (a,1,0)
def u7:Nat->Ring_pensionref5_Size|0=>⟨λ_=>none⟩|n+1=>⟨a94 (u7 n)⟩
def c76(a:Expr):A3 Int:=(u7 FU).f_pensionref5_Size a
structure Ring_pensionref5_formed where f_pensionref5_formed:Expr->Option Bool
def b4j(R:Ring_pensionref5_formed)(e:Bool)(d:(Expr×Int)->A3 Bool)(a:Expr×Int):A3 Bool:=if(decide (a.2<(a.1.Args.length:Int)))then(c7 a.1.Args a.2).bind λb=>(R.f_pensionref5_formed b).bind λc=>if(!c)then some false else d (a.1,i64 (a.2+1))else some e
def a6s(R:Ring_pensionref5_formed)(a:Expr):A3 Bool:=(a8e a.Op).bind λj=>if((a.Args.length:Int)!=j)then some false else(if((a.Value.Num==0)&&((a.Value.Den==0)&&(true)))then some (a.Dim==0)else some false).bind λm=>(if m then some (a.Name.toList==a3j.toList)else some false).bind λe=>if(a.Op==1)then(a1g a.Value a.Dim).bind λk=>(if k.2then some (a.Name.toList==a3j.toList)else some false).bind λg=>some g else if(a.Op==2)then(if((a.Value.Num==0)&&((a.Value.Den==0)&&(true)))then some (a.Dim==0)else some false).bind λf=>(if f then(a2e a.Name).bind λl=>some l else some false).bind λh=>some h else if(a.Op==3)then(if(a.Dim==0)then some (a.Name.toList==a3j.toList)else some false).bind λi=>(if i then some (a.Value.Den==1)else some false).bind λc=>(if c then some (decide (a.Value.Num>=1))else some false).bind λb=>(if b then some (decide (a.Value.Num<=45))else some false).bind λd=>some d else d9 FU (b4j R e) (a,0)
def p7:Nat->Ring_pensionref5_formed|0=>⟨λ_=>none⟩|n+1=>⟨a6s (p7 n)⟩
def c4h(a:Expr):A3 Bool:=(p7 FU).f_pensionref5_formed a
def a0g(a:Expr):A3 Bool:=(c61 a).bind λd=>(if(decide (d<=10))then(c76 a).bind λf=>some (decide (f<=60))else some false).bind λb=>(if b then(c4h a).bind λe=>some e else some false).bind λc=>some c
def a4x(f:(Version×Int)->A3 Bool)(a:Version×Int):A3 Bool:=if(decide (a.2<(a.1.Reduces.length:Int)))then(c7 a.1.Reduces a.2).bind λg=>(a3t g.Benefit 2).bind λe=>(if(e.toList==a3j.toList)then some true else(c7 a.1.Reduces a.2).bind λb=>(a0g b.By).bind λc=>some (!c)).bind λd=>if d then some false else f (a.1,i64 (a.2+1))else some true
def a4o(f:(Version×Int)->A3 Bool)(a:Version×Int):A3 Bool:=if(decide (a.2<(a.1.Grants.length:Int)))then(c7 a.1.Grants a.2).bind λb=>(a3t b.Benefit 2).bind λg=>(if(g.toList==a3j.toList)then some true else(c7 a.1.Grants a.2).bind λd=>(a0g d.If).bind λe=>some (!e)).bind λi=>(if i then some true else(c7 a.1.Grants a.2).bind λj=>(a0g j.Pay).bind λc=>some (!c)).bind λh=>if h then some false else f (a.1,i64 (a.2+1))else d9 FU a4x (a.1,0)
def a56(b:(Version×Int)->A3 Bool)(a:Version×Int):A3 Bool:=if(decide (a.2<(a.1.Lets.length:Int)))then(c7 a.1.Lets a.2).bind λg=>(a2e g.Name).bind λf=>(if(!f)then some true else(c7 a.1.Lets a.2).bind λd=>(a0g d.Body).bind λc=>some (!c)).bind λe=>if e then some false else b (a.1,i64 (a.2+1))else d9 FU a4o (a.1,0)
def a4z(b:(Version×Int)->A3 Bool)(a:Version×Int):A3 Bool:=if(decide (a.2<(a.1.Series.length:Int)))then(c7 a.1.Series a.2).bind λg=>(a1g g.Factor 2).bind λj=>(c7 a.1.Series a.2).bind λf=>(if(decide (f.Year<1900))then some true else(c7 a.1.Series a.2).bind λd=>some (decide (d.Year>2099))).bind λe=>(if e then some true else some (!j.2)).bind λc=>(if c then some true else(c7 a.1.Series a.2).bind λi=>some (decide (i.Factor.Num<1))).bind λh=>if h then some false else b (a.1,i64 (a.2+1))else d9 FU a56 (a.1,0)
def a4r(h:(Version×Int)->A3 Bool)(a:Version×Int):A3 Bool:=if(decide (a.2<(a.1.Credits.length:Int)))then(c7 a.1.Credits a.2).bind λc=>(a3t c.Kind 1).bind λg=>(if(g.toList==a3j.toList)then some true else(c7 a.1.Credits a.2).bind λf=>some (decide (f.Limit<0))).bind λd=>(if d then some true else(c7 a.1.Credits a.2).bind λb=>some (decide (b.Limit>73049))).bind λe=>if e then some false else h (a.1,i64 (a.2+1))else d9 FU a4z (a.1,0)
def a3n(a:Version):A3 Bool:=(a6n a.From).bind λf=>(if(!f)then some true else(a3c a.Rounding).bind λi=>some (!i)).bind λb=>(if b then some true else some (decide ((a.Credits.length:Int)>6))).bind λg=>(if g then some true else some (decide ((a.Series.length:Int)>20))).bind λd=>(if d then some true else some (decide ((a.Lets.length:Int)>10))).bind λc=>(if c then some true else some (decide ((a.Grants.length:Int)>5))).bind λh=>(if h then some true else some (decide ((a.Reduces.length:Int)>5))).bind λe=>if e then some false else d9 FU a4r (a,0)
def b5o(c:(Statute×Int)->A3 Bool)(a:Statute×Int):A3 Bool:=if(decide (a.2<(a.1.Versions.length:Int)))then(c7 a.1.Versions a.2).bind λd=>(a3n d).bind λb=>if(!b)then some false else c (a.1,i64 (a.2+1))else some true
def b00(a:Statute):A3 Bool:=(a2e a.Name).bind λd=>(if(!d)then some true else some (decide (a.Currency<1))).bind λf=>(if f then some true else some (decide (a.Currency>999))).bind λb=>(if b then some true else some (decide ((a.Versions.length:Int)<1))).bind λe=>(if e then some true else some (decide ((a.Versions.length:Int)>6))).bind λc=>if c then some false else d9 FU b5o (a,0)
def a6u(d:((O Version)×Statute×rQ×(O Version)×Statute×Bool)->A3 (Statute×Int×Int))(a:(O Version)×Statute×rQ×(O Version)×Statute):A3 (Statute×Int×Int):=(a2o a.2.2.1).bind λb=>(a4n 144 a.2.2.2.1 [b.1]).bind λc=>d (a.1,(⟨a.2.1.Name,a.2.1.Currency,[]⟩:Statute),b.2,c,(⟨a.2.2.2.2.Name,a.2.2.2.2.Currency,[]⟩:Statute),false)
def a6p(a:(O Version)×Statute×rQ×(O Version)×Statute):A3 (Statute×Int×Int):=(if a.2.2.1.bad then some true else some (decide (a.2.2.1.at_<(a.2.2.1.l.length:Int)))).bind λb=>if b then(a3s a.2.2.1).bind λc=>some ((⟨a3j,0,[]⟩:Statute),c,4)else(b00 (⟨a.2.2.2.2.Name,a.2.2.2.2.Currency,a.2.2.2.1⟩:Statute)).bind λd=>if(!d)then some ((⟨a3j,0,[]⟩:Statute),0,7)else some ((⟨a.2.2.2.2.Name,a.2.2.2.2.Currency,a.2.2.2.1⟩:Statute),0,0)
def b5m(c:((O Version)×Statute×rQ×(O Version)×Statute×Bool)->A3 (Statute×Int×Int))(a:(O Version)×Statute×rQ×(O Version)×Statute×Bool):A3 (Statute×Int×Int):=if(!a.2.2.1.bad)then if a.2.2.2.2.2then joinC (a6u c) (a.1,(⟨a.2.1.Name,a.2.1.Currency,[]⟩:Statute),a.2.2.1,a.2.2.2.1,(⟨a.2.2.2.2.1.Name,a.2.2.2.2.1.Currency,[]⟩:Statute))else(d7 a.2.2.1 d0a).bind λb=>if(!b.1)then joinC (a6u c) (a.1,(⟨a.2.1.Name,a.2.1.Currency,[]⟩:Statute),b.2,a.2.2.2.1,(⟨a.2.2.2.2.1.Name,a.2.2.2.2.1.Currency,[]⟩:Statute))else joinC a6p (a.1,(⟨a.2.1.Name,a.2.1.Currency,[]⟩:Statute),b.2,a.2.2.2.1,(⟨a.2.2.2.2.1.Name,a.2.2.2.2.1.Currency,[]⟩:Statute))else joinC a6p (a.1,(⟨a.2.1.Name,a.2.1.Currency,[]⟩:Statute),a.2.2.1,a.2.2.2.1,(⟨a.2.2.2.2.1.Name,a.2.2.2.2.1.Currency,[]⟩:Statute))
def a9z(h:A4):A3 (Statute×Int×Int):=(b02 h).bind λa=>optC a.1 (if(a.2.2!=0)then some ((⟨a3j,0,[]⟩:Statute),a.2.1,a.2.2)else none) λg=>if(a.2.2!=0)then some ((⟨a3j,0,[]⟩:Statute),a.2.1,a.2.2)else(b9 g b76).bind λd=>(a0w d).bind λc=>(b9 c.2 b4x).bind λe=>(s7 e 1 999).bind λb=>(b9 b.2 e8b).bind λf=>d9 FU b5m ([],(⟨a3j,0,[]⟩:Statute),f,[],(⟨c.1,b.1,[]⟩:Statute),true)
def b71(g:O Int)(j:((O State)×(O Rules)×(O Rate)×Laws×(O State)×(O Rules)×Laws×Int)->A3 Laws)(a:(O State)×(O Rules)×(O Rate)×Laws×(O State)×(O Rules)×Laws×Int):A3 Laws:=if(decide (a.2.2.2.2.2.2.2<3))then(b10 a.2.2.2.2.2.2.2 g).bind λk=>(a9z k).bind λi=>if(i.2.2==0)then(a4n 56 a.2.2.2.2.1 [(⟨a.2.2.2.2.2.2.2,i.1⟩:State)]).bind λm=>j (a.1,a.2.1,a.2.2.1,(⟨[],[],[]⟩:Laws),m,a.2.2.2.2.2.1,(⟨[],[],a.2.2.2.2.2.2.1.Rates⟩:Laws),i64 (a.2.2.2.2.2.2.2+1))else j (a.1,a.2.1,a.2.2.1,(⟨[],[],[]⟩:Laws),a.2.2.2.2.1,a.2.2.2.2.2.1,(⟨[],[],a.2.2.2.2.2.2.1.Rates⟩:Laws),i64 (a.2.2.2.2.2.2.2+1))else(c5 g 2).bind λl=>(b7 l 6).bind λd=>(c5 g 5).bind λn=>(b7 n 3).bind λh=>if(h==0)then(c7 [(⟨0,i64 (90*d),730,25,[0,1]⟩:Rules)] 0).bind λo=>(c7 [(⟨0,i64 (90*d),730,25,[0,1]⟩:Rules)] 0).bind λb=>some (⟨a.2.2.2.2.1,a8h [(⟨0,i64 (90*d),730,25,[0,1]⟩:Rules)] 0 (⟨b.From,b.MinDays,b.PostingLimit,b.Substantial,[0,1,2]⟩:Rules),a.2.2.2.2.2.2.1.Rates⟩:Laws)else if(h==1)then(a4n 56 [(⟨0,i64 (90*d),730,25,[0,1]⟩:Rules)] [(⟨35000,i64 (90*d),365,30,[0,1,2]⟩:Rules)]).bind λf=>some (⟨a.2.2.2.2.1,f,a.2.2.2.2.2.2.1.Rates⟩:Laws)else(c7 [(⟨0,i64 (90*d),730,25,[0,1]⟩:Rules)] 0).bind λp=>(c7 [(⟨0,i64 (90*d),730,25,[0,1]⟩:Rules)] 0).bind λc=>(a4n 56 (a8h [(⟨0,i64 (90*d),730,25,[0,1]⟩:Rules)] 0 (⟨c.From,c.MinDays,c.PostingLimit,c.Substantial,[0,1,2]⟩:Rules)) [(⟨36000,i64 (90*d),730,25,[0,1]⟩:Rules)]).bind λe=>some (⟨a.2.2.2.2.1,e,a.2.2.2.2.2.2.1.Rates⟩:Laws)
def b11(a:O Int):A3 Laws:=d9 FU (b71 a) ([],[],[],(⟨[],[],[]⟩:Laws),[],[],(⟨[],[],[(⟨1,0,(⟨1,1⟩:fQ)⟩:Rate),(⟨2,0,(⟨3,2⟩:fQ)⟩:Rate),(⟨3,0,(⟨1,7⟩:fQ)⟩:Rate),(⟨3,1150,(⟨1,9⟩:fQ)⟩:Rate)]⟩:Laws),0)
def b5v(b:O Int)(L:((O aQ)×Int)->A3 (O aQ))(a:(O aQ)×Int):A3 (O aQ):=if(decide (a.2<=2))then(c5 b a.2).bind λI=>(b7 I 3).bind λc=>(c5 b (i64 (a.2+2))).bind λJ=>(b7 J 3).bind λe=>(c5 b (i64 (a.2+4))).bind λH=>(b7 H 6000).bind λG=>(c5 b (i64 (a.2+6))).bind λK=>(b7 K 3000).bind λd=>(a4n 112 a.1 [(⟨c,i64 (900+a.2),1,false,a.2,11,0,(⟨i64 (13000+d),i64 ((i64 (13000+d))+1)⟩:Span),0,0,0,0,0⟩:aQ)]).bind λr=>(a4n 112 r [(⟨c,i64 (910+a.2),1,false,a.2,5,c,(⟨20000,60000⟩:Span),0,0,0,0,0⟩:aQ)]).bind λj=>(c5 b (i64 (a.2+8))).bind λu=>(b7 u 900000).bind λk=>(a4n 112 j [(⟨c,i64 (920+a.2),1,false,a.2,1,c,(⟨22000,i64 (27000+G)⟩:Span),c,100,i64 (1+c),i64 (900000+k),0⟩:aQ)]).bind λf=>(c5 b (i64 (a.2+10))).bind λB=>(b7 B 3000).bind λv=>(c5 b (i64 (a.2+12))).bind λC=>(b7 C 900000).bind λm=>(a4n 112 f [(⟨e,i64 (930+a.2),1,false,a.2,1,e,(⟨i64 (27000+G),i64 (34400+v)⟩:Span),e,50,i64 (1+e),i64 (700000+m),0⟩:aQ)]).bind λF=>(a4n 112 F [(⟨c,i64 (940+a.2),1,false,a.2,10,c,(⟨32000,38500⟩:Span),0,0,0,0,3⟩:aQ)]).bind λz=>(a4n 112 z [(⟨c,i64 (950+a.2),1,false,a.2,14,0,(⟨26000,50000⟩:Span),0,0,0,0,i64 (3-a.2)⟩:aQ)]).bind λx=>L (x,i64 (a.2+1))else(c5 b 15).bind λy=>(b7 y 2000).bind λh=>(c5 b 16).bind λE=>(b7 E 2000).bind λD=>(a4n 112 a.1 [(⟨0,961,1,false,1,13,0,(⟨i64 (34000+h),i64 (36500+D)⟩:Span),0,0,0,0,0⟩:aQ)]).bind λi=>(c5 b 17).bind λg=>(b7 g 900).bind λp=>(c5 b 17).bind λn=>(b7 n 900).bind λs=>(a4n 112 i [(⟨1,962,1,false,2,12,0,(⟨i64 (35600+p),i64 (35601+s)⟩:Span),0,0,0,0,0⟩:aQ)]).bind λq=>(c5 b 18).bind λA=>(b7 A 1200).bind λo=>(c5 b 19).bind λt=>(b7 t 300).bind λw=>(a4n 112 q [(⟨0,963,1,false,1,8,0,(⟨i64 (35000+o),i64 (36250+w)⟩:Span),0,0,0,0,0⟩:aQ)]).bind λl=>some l
def b04(a:O Int):A3 (O aQ):=d9 FU (b5v a) ([],1)
def a97(a:Int):A3 Int:=(b7 a 4).bind λb=>if(b==0)then(c2t a 4).bind λj=>(b7 j 9000).bind λc=>some (i64 (1+c))else if(b==1)then(c2t a 4).bind λh=>(b7 h 1200).bind λe=>some (i64 (1+e))else if(b==2)then(c2t a 4).bind λd=>(b7 d 120).bind λi=>some (i64 (1+i))else(c2t a 4).bind λg=>(b7 g 12).bind λf=>some (i64 (1+f))
def u4(a:Int):A3 A4:=(if(decide (a<1))then some true else some (decide (a>=([a3j,b1y,a6w,a6w,c0p,a9l,b82,a9l,a9l,a9l,c1r,c0e,c0e,c0e,c6f].length:Int)))).bind λb=>if b then some a3j else(c7 [a3j,b1y,a6w,a6w,c0p,a9l,b82,a9l,a9l,a9l,c1r,c0e,c0e,c0e,c6f] a).bind λd=>(c7 [a3j,b1y,a6w,a6w,c0p,a9l,b82,a9l,a9l,a9l,c1r,c0e,c0e,c0e,c6f] a).bind λc=>some c
def b6j(f:A4)(o:tH×aQ×aQ×Int×Int)(b:(tH×aQ×aQ×Int)->A3 aQ)(a:tH×aQ×aQ×Int):A3 aQ:=if(decide (a.2.2.2<(f.size:Int)))then(b3c f a.2.2.2).bind λc=>if(c==83)then(b7 a.1.State 3).bind λg=>b (a.1,a.2.1,(⟨a.2.2.1.Issuer,a.2.2.1.Number,a.2.2.1.Version,a.2.2.1.Withdrawn,a.2.2.1.Person,a.2.2.1.Kind,g,a.2.2.1.Span,a.2.2.1.Seat,a.2.2.1.Share,a.2.2.1.Currency,a.2.2.1.Amount,a.2.2.1.Ref⟩:aQ),i64 (a.2.2.2+1))else if(c==80)then b (a.1,a.2.1,(⟨a.2.2.1.Issuer,a.2.2.1.Number,a.2.2.1.Version,a.2.2.1.Withdrawn,a.2.2.1.Person,a.2.2.1.Kind,a.2.2.1.State,(⟨o.2.2.2.1,o.2.2.2.2⟩:Span),a.2.2.1.Seat,a.2.2.1.Share,a.2.2.1.Currency,a.2.2.1.Amount,a.2.2.1.Ref⟩:aQ),i64 (a.2.2.2+1))else if(c==84)then(b7 a.1.Seat 3).bind λd=>(if(a.2.2.1.Kind==4)then some (d==a.2.2.1.State)else some false).bind λj=>if j then(b7 (i64 (a.2.2.1.State+1)) 3).bind λm=>b (a.1,a.2.1,(⟨a.2.2.1.Issuer,a.2.2.1.Number,a.2.2.1.Version,a.2.2.1.Withdrawn,a.2.2.1.Person,a.2.2.1.Kind,a.2.2.1.State,a.2.2.1.Span,m,a.2.2.1.Share,a.2.2.1.Currency,a.2.2.1.Amount,a.2.2.1.Ref⟩:aQ),i64 (a.2.2.2+1))else b (a.1,a.2.1,(⟨a.2.2.1.Issuer,a.2.2.1.Number,a.2.2.1.Version,a.2.2.1.Withdrawn,a.2.2.1.Person,a.2.2.1.Kind,a.2.2.1.State,a.2.2.1.Span,d,a.2.2.1.Share,a.2.2.1.Currency,a.2.2.1.Amount,a.2.2.1.Ref⟩:aQ),i64 (a.2.2.2+1))else if(c==72)then(b7 a.1.Share 100).bind λl=>b (a.1,a.2.1,(⟨a.2.2.1.Issuer,a.2.2.1.Number,a.2.2.1.Version,a.2.2.1.Withdrawn,a.2.2.1.Person,a.2.2.1.Kind,a.2.2.1.State,a.2.2.1.Span,a.2.2.1.Seat,i64 (1+l),a.2.2.1.Currency,a.2.2.1.Amount,a.2.2.1.Ref⟩:aQ),i64 (a.2.2.2+1))else if(c==67)then(b8t a.1.State 3).bind λk=>(b7 (i64 (a.1.Seat+k)) 3).bind λn=>b (a.1,a.2.1,(⟨a.2.2.1.Issuer,a.2.2.1.Number,a.2.2.1.Version,a.2.2.1.Withdrawn,a.2.2.1.Person,a.2.2.1.Kind,a.2.2.1.State,a.2.2.1.Span,a.2.2.1.Seat,a.2.2.1.Share,i64 (1+n),a.2.2.1.Amount,a.2.2.1.Ref⟩:aQ),i64 (a.2.2.2+1))else if(c==65)then(b7 a.1.Amount 3000000).bind λi=>b (a.1,a.2.1,(⟨a.2.2.1.Issuer,a.2.2.1.Number,a.2.2.1.Version,a.2.2.1.Withdrawn,a.2.2.1.Person,a.2.2.1.Kind,a.2.2.1.State,a.2.2.1.Span,a.2.2.1.Seat,a.2.2.1.Share,a.2.2.1.Currency,i,a.2.2.1.Ref⟩:aQ),i64 (a.2.2.2+1))else(b7 a.1.Ref 4).bind λe=>if((i64 (1+e))==a.2.2.1.Person)then(b7 a.2.2.1.Person 4).bind λh=>b (a.1,a.2.1,(⟨a.2.2.1.Issuer,a.2.2.1.Number,a.2.2.1.Version,a.2.2.1.Withdrawn,a.2.2.1.Person,a.2.2.1.Kind,a.2.2.1.State,a.2.2.1.Span,a.2.2.1.Seat,a.2.2.1.Share,a.2.2.1.Currency,a.2.2.1.Amount,i64 (1+h)⟩:aQ),i64 (a.2.2.2+1))else b (a.1,a.2.1,(⟨a.2.2.1.Issuer,a.2.2.1.Number,a.2.2.1.Version,a.2.2.1.Withdrawn,a.2.2.1.Person,a.2.2.1.Kind,a.2.2.1.State,a.2.2.1.Span,a.2.2.1.Seat,a.2.2.1.Share,a.2.2.1.Currency,a.2.2.1.Amount,i64 (1+e)⟩:aQ),i64 (a.2.2.2+1))else some a.2.2.1
def a31(a:tH×aQ×aQ×Int×Int):A3 aQ:=(u4 a.2.2.1.Kind).bind λb=>d9 FU (b6j b a) (a.1,a.2.1,a.2.2.1,0)
def b1b(a:tH):A3 aQ:=(b7 a.Issuer 3).bind λg=>(b7 a.Number 20).bind λf=>(b7 a.Version 3).bind λe=>(b7 a.Person 4).bind λh=>(b7 a.Kind 14).bind λb=>(b7 a.From 16000).bind λj=>(a97 a.Length).bind λl=>if((i64 (1+b))==11)then(b7 a.From 5000).bind λk=>joinC a31 (a,(⟨0,0,0,false,0,0,0,(⟨0,0⟩:Span),0,0,0,0,0⟩:aQ),(⟨g,i64 (1+f),i64 (1+e),a.Withdrawn,i64 (1+h),i64 (1+b),0,(⟨0,0⟩:Span),0,0,0,0,0⟩:aQ),i64 (12000+k),i64 ((i64 (12000+k))+1))else if((i64 (1+b))==12)then(b7 a.From 6000).bind λc=>joinC a31 (a,(⟨0,0,0,false,0,0,0,(⟨0,0⟩:Span),0,0,0,0,0⟩:aQ),(⟨g,i64 (1+f),i64 (1+e),a.Withdrawn,i64 (1+h),i64 (1+b),0,(⟨0,0⟩:Span),0,0,0,0,0⟩:aQ),i64 (34000+c),i64 ((i64 (34000+c))+1))else if((i64 (1+b))==8)then(b7 a.From 4000).bind λd=>(b7 a.Length 700).bind λi=>joinC a31 (a,(⟨0,0,0,false,0,0,0,(⟨0,0⟩:Span),0,0,0,0,0⟩:aQ),(⟨g,i64 (1+f),i64 (1+e),a.Withdrawn,i64 (1+h),i64 (1+b),0,(⟨0,0⟩:Span),0,0,0,0,0⟩:aQ),i64 (34000+d),i64 ((i64 ((i64 (34000+d))+1))+i))else joinC a31 (a,(⟨0,0,0,false,0,0,0,(⟨0,0⟩:Span),0,0,0,0,0⟩:aQ),(⟨g,i64 (1+f),i64 (1+e),a.Withdrawn,i64 (1+h),i64 (1+b),0,(⟨0,0⟩:Span),0,0,0,0,0⟩:aQ),i64 (21900+j),i64 ((i64 (21900+j))+l))
def l4e(b:O tH)(g:((O aQ)×Int)->A3 (O aQ))(a:(O aQ)×Int):A3 (O aQ):=(if(decide (a.2<(b.length:Int)))then some (decide (a.2<12))else some false).bind λc=>if c then(c7 b a.2).bind λf=>(b1b f).bind λe=>(a4n 112 a.1 [e]).bind λd=>g (d,i64 (a.2+1))else some a.1
def l46(a:O tH):A3 (O aQ):=d9 FU (l4e a) ([],0)
def a8n(a:Int):A3 Bool:=(if(decide (a>=1))then some (decide (a<=999))else some false).bind λb=>some b
def b1k(a:Int):A3 Bool:=(if(decide (a>=0))then some (decide (a<=2399))else some false).bind λb=>some b
def a7l(a:Int):A3 Bool:=(b8t a 4).bind λd=>(if(d==0)then(b8t a 100).bind λf=>some (f !=0)else some false).bind λb=>(if b then some true else(b8t a 400).bind λe=>some (e==0)).bind λc=>some c
def a05(e a:Int):A3 Int:=(if(a==2)then(a7l e).bind λb=>some b else some false).bind λd=>if d then some 29 else(c7 (⟨[31,28,31,30,31,30,31,31,30,31,30,31],rfl⟩:Ar 12 Int).l (i64 (a-1))).bind λf=>(c7 (⟨[31,28,31,30,31,30,31,31,30,31,30,31],rfl⟩:Ar 12 Int).l (i64 (a-1))).bind λc=>some c
def a90(a:Int):A3 Int:=(b1k a).bind λc=>if(!c)then some 0 else(c2t a 12).bind λe=>(b8t a 12).bind λb=>(a05 (i64 (1900+e)) (i64 (b+1))).bind λd=>some d
def b9g(b:Int):A3 Bool:=(a90 b).bind λa=>some (decide (a>0))
def j5(a:Int):A3 Int:=if(decide (a<0))then some (u64 (-(u64 (a))))else some (u64 (a))
def a7g(f d:Int):A3 Int:=lpC (f,d) λc⟨b,a⟩=>if(a !=0)then(b8t b a).bind λe=>c (a,e)else some b
def o7(a:fQ):A3 Bool:=(if(decide (a.Den>=1))then some (decide (a.Den<=1000000000))else some false).bind λe=>(if e then some (decide (a.Num>=(-1000000000000000:Int)))else some false).bind λh=>(if h then some (decide (a.Num<=1000000000000000))else some false).bind λb=>(if b then(j5 a.Num).bind λf=>(j5 a.Den).bind λd=>(a7g f d).bind λc=>some (c==1)else some false).bind λg=>some g
def b9l(a:Int):A3 Bool:=(if(decide (a>=1))then some (decide (a<=1000000))else some false).bind λb=>some b
def a5r(c:O Rate):A3 Int:=if(decide ((c.length:Int)>40))then some 7 else lpC (0:Int) λr b=>if(decide (b<(c.length:Int)))then(c7 c b).bind λa=>(a8n a.Currency).bind λq=>(if(!q)then some true else(b9g a.Month).bind λo=>some (!o)).bind λn=>(if n then some true else(o7 a.Value).bind λm=>some (!m)).bind λs=>(if s then some true else(b9l a.Value.Num).bind λp=>some (!p)).bind λk=>(if k then some true else(b9l a.Value.Den).bind λg=>some (!g)).bind λe=>if e then some 1 else(if(decide (b>0))then(c7 c (i64 (b-1))).bind λh=>(if(decide (h.Currency>a.Currency))then some true else(c7 c (i64 (b-1))).bind λf=>(if(f.Currency==a.Currency)then(c7 c (i64 (b-1))).bind λd=>some (decide (d.Month>=a.Month))else some false).bind λj=>some j).bind λi=>some i else some false).bind λl=>if l then some 1 else r (i64 (b+1))else some 0
def b1d(a:Int):A3 Bool:=some (a !=a)
def a2c(a b:Int):A3 Int:=(b1d a).bind λd=>(b1d b).bind λc=>if d then if c then some 0 else some (-1:Int)else if c then some 1 else if(decide (a<b))then some (-1:Int)else if(decide (a>b))then some 1 else some 0
def b6m(c:O Rate)(j h:Int):A3 (fQ×Bool):=lpC ((⟨0,0⟩:fQ),(-1:Int),(0:Int)) λf⟨g,b,a⟩=>if(decide (a<(c.length:Int)))then(c7 c a).bind λd=>(if(d.Currency==j)then some (decide (d.Month<=h))else some false).bind λi=>(if i then(if(decide (b<0))then some true else(c7 c b).bind λm=>some (decide (d.Month>m.Month))).bind λk=>some k else some false).bind λl=>if l then f (g,a,i64 (a+1))else f (g,b,i64 (a+1))else if(decide (b<0))then some ((⟨0,0⟩:fQ),false)else(c7 c b).bind λe=>some (e.Value,true)
def b3s(b a:Int):A3 (Int×Int):=(d0l .u64 b 32).bind λc=>(d0l .u64 a 32).bind λe=>(d0l .u64 (u64 ((d5y .u64 b 4294967295)*(d5y .u64 a 4294967295))) 32).bind λd=>(d0l .u64 (u64 ((u64 (c*(d5y .u64 a 4294967295)))+d)) 32).bind λg=>(d0l .u64 (u64 ((d5y .u64 (u64 ((u64 (c*(d5y .u64 a 4294967295)))+d)) 4294967295)+(u64 ((d5y .u64 b 4294967295)*e)))) 32).bind λf=>some (u64 ((u64 ((u64 (c*e))+g))+f),u64 (b*a))
def b58(c:O Int)(d:Int->A3 Int)(a:Int):A3 Int:=if(decide (a<(c.length:Int)))then(c7 c a).bind λb=>if(b !=0)then some b else d (i64 (a+1))else some 0
def b67(a:O Int):A3 Int:=d9 FU (b58 a) 0
def c7q(b:Int):A3 Int:=(b8x b).bind λa=>some a
def l4y(c:Int):A3 Int:=(c7q (u64 (c))).bind λa=>(g2a .u64 1 a).bind λb=>some b
def l56(a:Int):A3 (Int×Int):=(g2a .u64 a 13).bind λb=>(d0l .u64 (h2r .u64 a b) 7).bind λc=>(g2a .u64 (h2r .u64 (h2r .u64 a b) c) 17).bind λd=>some (h2r .u64 (h2r .u64 (h2r .u64 a b) c) d,h2r .u64 (h2r .u64 (h2r .u64 a b) c) d)
def c17(a:Int):A3 Bool:=(if(decide (a>=(-1000000000000:Int)))then some (decide (a<=1000000000000))else some false).bind λb=>some b
def a1c(a:Rounding×Bool):A3 Bool:=if a.2then(if(decide (a.1.Unit>=1))then some (decide (a.1.Unit<=100000))else some false).bind λb=>some b else some false
def a2y(a:Rounding):A3 Bool:=if(a.Mode==1)then joinC a1c (a,a.Mode==1)else if(a.Mode==2)then joinC a1c (a,a.Mode==2)else if(a.Mode==3)then joinC a1c (a,a.Mode==3)else joinC a1c (a,a.Mode==4)
def b3x(a:Int):A3 Int:=if(decide (a<0))then some (u64 (i64 (-a)))else some (u64 (a))
def b2f(a:Rounding×Int):A3 (Int×Int):=(c2t 1000000000000 a.1.Unit).bind λd=>(if(decide (a.2>d))then some true else(c2t (-1000000000000:Int) a.1.Unit).bind λc=>some (decide (a.2<c))).bind λb=>if b then some (0,2)else some (i64 (a.2*a.1.Unit),0)
def a7a(a:Rounding×Int×Bool):A3 (Int×Int):=if a.2.2then joinC b2f (a.1,i64 (a.2.1+1))else joinC b2f (a.1,a.2.1)
def a9e(a:Rounding×Int×Int×Int):A3 (Int×Int):=if(a.1.Mode==2)then joinC a7a (a.1,a.2.2.2,decide (a.2.2.1>0))else if(a.1.Mode==3)then joinC a7a (a.1,a.2.2.2,decide (a.2.2.1>=(u64 (a.2.1-a.2.2.1))))else if(a.1.Mode==4)then(if(decide (a.2.2.1>(u64 (a.2.1-a.2.2.1))))then some true else(if(a.2.2.1==(u64 (a.2.1-a.2.2.1)))then(b8t a.2.2.2 2).bind λc=>some (c !=0)else some false).bind λd=>some d).bind λb=>joinC a7a (a.1,a.2.2.2,b)else joinC a7a (a.1,a.2.2.2,false)
def a9o(f:Bool)(d e c:Int)(a:Rounding):A3 (Int×Int):=if(decide (d>=(u64 (c*(u64 (a.Unit))))))then some (0,2)else(a8o d e (u64 (c*(u64 (a.Unit))))).bind λb=>if(decide (b.1>2000000000000))then some (0,2)else if f then if(decide (b.2>0))then joinC a9e (a,u64 (c*(u64 (a.Unit))),u64 ((u64 (c*(u64 (a.Unit))))-b.2),i64 ((i64 (-(i64 (b.1))))-1))else joinC a9e (a,u64 (c*(u64 (a.Unit))),b.2,i64 (-(i64 (b.1))))else joinC a9e (a,u64 (c*(u64 (a.Unit))),b.2,i64 (b.1))
def b68(e k g m:Int)(i:O Rate)(n:Rounding):A3 (Int×Int):=(c17 e).bind λu=>(if(!u)then some true else(a8n k).bind λx=>some (!x)).bind λr=>(if r then some true else(a8n g).bind λw=>some (!w)).bind λt=>(if t then some true else(b9g m).bind λs=>some (!s)).bind λq=>(if q then some true else(a2y n).bind λy=>some (!y)).bind λv=>(if v then some true else(a5r i).bind λp=>some (p !=0)).bind λj=>if j then some (0,1)else if(k==g)then(b3x e).bind λh=>(a9o (decide (e<0)) 0 h 1 n).bind λd=>some (d.1,d.2)else(b6m i k m).bind λb=>(b6m i g m).bind λa=>(if(!b.2)then some true else some (!a.2)).bind λo=>if o then some (0,9)else(b3x e).bind λl=>(b3s l (u64 ((u64 (b.1.Num))*(u64 (a.1.Den))))).bind λf=>(a9o (decide (e<0)) f.1 f.2 (u64 ((u64 (b.1.Den))*(u64 (a.1.Num)))) n).bind λc=>some (c.1,c.2)
def l47(b:Int):A3 Int:=(b7 b 72).bind λa=>some (i64 (1157+a))
def a3o(a:Int):A3 Int:=if(decide ((i64 (a-1900))>0))then(c2t (i64 ((i64 (a-1900))-1)) 4).bind λb=>some (i64 ((i64 (365*(i64 (a-1900))))+b))else some (i64 (365*(i64 (a-1900))))
def b1r(a b c:Int):A3 (Int×Bool):=(if(decide (a<1900))then some true else some (decide (a>2099))).bind λk=>(if k then some true else some (decide (b<1))).bind λn=>(if n then some true else some (decide (b>12))).bind λh=>(if h then some true else some (decide (c<1))).bind λl=>(if l then some true else(a05 a b).bind λj=>some (decide (c>j))).bind λi=>if i then some (0,false)else(a3o a).bind λm=>lpC (i64 ((i64 (m+c))-1),(1:Int)) λf⟨g,e⟩=>if(decide (e<b))then(a05 a e).bind λd=>f (i64 (g+d),i64 (e+1))else some (g,true)
def l43(a:Int):A3 (Int×Bool):=(b1k a).bind λd=>if(!d)then some (0,false)else(c2t a 12).bind λe=>(b8t a 12).bind λc=>(b1r (i64 (1900+e)) (i64 (c+1)) 1).bind λb=>some (b.1,b.2)
def b7q(a:Int×Bool):A3 A4:=if a.2then some c0e else if(a.1==14)then some c6f else some a3j
def b4i(a:Int×Bool):A3 A4:=if a.2then some a9l else if(a.1==6)then some b82 else if(a.1==10)then some c1r else if(a.1==11)then joinC b7q (a.1,a.1==11)else if(a.1==12)then joinC b7q (a.1,a.1==12)else joinC b7q (a.1,a.1==13)
def c0m(a:Int×Bool):A3 A4:=if a.2then some a6w else if(a.1==4)then some c0p else if(a.1==5)then joinC b4i (a.1,a.1==5)else if(a.1==7)then joinC b4i (a.1,a.1==7)else if(a.1==8)then joinC b4i (a.1,a.1==8)else joinC b4i (a.1,a.1==9)
def b2r(a:Int):A3 A4:=if(a==1)then some b1y else if(a==2)then joinC c0m (a,a==2)else joinC c0m (a,a==3)
def a9d(b:A4)(c:Int):A3 Int:=(a7v b c).bind λa=>some a
def b61(d:Int×Int)(b:(Int×Int×Int)->A3 (Int×Int))(a:Int×Int×Int):A3 (Int×Int):=if(decide (a.2.2>0))then if((d5y .i64 a.2.2 1)!=0)then(d0l .i64 a.2.2 1).bind λc=>b (IntKind.u32.wrap (a.1*a.2.1),IntKind.u32.wrap (a.2.1*a.2.1),c)else(d0l .i64 a.2.2 1).bind λe=>b (a.1,IntKind.u32.wrap (a.2.1*a.2.1),e)else some (d.1,a.1)
def b5w(b:A4)(d:(Int×Int)->A3 (Int×Int))(a:Int×Int):A3 (Int×Int):=if(decide (a.2<(b.size:Int)))then(b3c b a.2).bind λc=>d (IntKind.u32.wrap ((IntKind.u32.wrap (a.1*16777619))+(IntKind.u32.wrap (c))),i64 (a.2+1))else d9 FU (b61 a) (1,16777619,(b.size:Int))
def b0t(a:A4):A3 (Int×Int):=d9 FU (b5w a) (0,0)
def b1o(d c:A4)(f:Int×Int)(i:(Int×Int)->A3 Int)(a:Int×Int):A3 Int:=if(decide (a.2<(d.size:Int)))then(b3c d a.2).bind λh=>(b3c d (i64 (a.2-(c.size:Int)))).bind λb=>(if((IntKind.u32.wrap ((IntKind.u32.wrap ((IntKind.u32.wrap (a.1*16777619))+(IntKind.u32.wrap (h))))-(IntKind.u32.wrap (f.2*(IntKind.u32.wrap (b))))))==f.1)then(c3u d (i64 ((i64 (a.2+1))-(c.size:Int))) (i64 (a.2+1))).bind λe=>some (e.toList==c.toList)else some false).bind λg=>if g then some (i64 ((i64 (a.2+1))-(c.size:Int)))else i (IntKind.u32.wrap ((IntKind.u32.wrap ((IntKind.u32.wrap (a.1*16777619))+(IntKind.u32.wrap (h))))-(IntKind.u32.wrap (f.2*(IntKind.u32.wrap (b))))),i64 (a.2+1))else some (-1:Int)
def b1f(b c:A4)(d:Int×Int)(e:(Int×Int)->A3 Int)(a:Int×Int):A3 Int:=if(decide (a.2<(b.size:Int)))then(b3c c a.2).bind λh=>e (IntKind.u32.wrap ((IntKind.u32.wrap (a.1*16777619))+(IntKind.u32.wrap (h))),i64 (a.2+1))else(if(a.1==d.1)then(c3u c 0 (b.size:Int)).bind λg=>some (g.toList==b.toList)else some false).bind λf=>if f then some 0 else d9 FU (b1o c b d) (a.1,(b.size:Int))
def b36(c a:A4):A3 Int:=(b0t a).bind λb=>d9 FU (b1f a c b) (0,0)
def a6y(b a:A4):A3 Int:=(if((a.size:Int)==0)then some true else some (a.toList==b.toList)).bind λd=>if d then some 0 else if((a.size:Int)==1)then(b3c a 0).bind λe=>(a9d b e).bind λc=>some c else if(decide ((a.size:Int)>=(b.size:Int)))then some (-1:Int)else none
def c3y(b c:A4):A3 Int:=(a6y b c).bind λa=>some a
def c0c(b c:A4):A3 Bool:=(c3y b c).bind λa=>some (decide (a>=0))
def p9(b c:A4):A3 Bool:=(c0c c b).bind λa=>some a
def a9w(a d b:Int):A3 Bool:=(if(decide (a>=d))then some (decide (a<=b))else some false).bind λc=>some c
def b0d(b:Bool)(a c h:Int):A3 Bool:=(if b then(a9w a c h).bind λe=>some e else some false).bind λg=>(if g then some true else(if(!b)then some (a==0)else some false).bind λd=>some d).bind λf=>some f
def b8g(a:Span):A3 Bool:=(if(decide (a.From>=0))then some (decide (a.From<a.To))else some false).bind λb=>(if b then some (decide (a.To<=73049))else some false).bind λc=>some c
def b9v(a:aQ×Bool):A3 Bool:=if a.2then some (a.1.Ref !=a.1.Person)else some true
def b9u(a:aQ×Int×Bool):A3 Bool:=if a.2.2then some (a.1.Span.To==(i64 (a.1.Span.From+1)))else if(a.2.1==10)then joinC b9v (a.1,a.2.1==10)else joinC b9v (a.1,a.2.1==14)
def b3k(a:aQ):A3 Bool:=(b2r a.Kind).bind λb=>(if(b.toList==a3j.toList)then some true else(a9w a.Issuer 0 5).bind λA=>some (!A)).bind λv=>(if v then some true else(a9w a.Number 1 999).bind λz=>some (!z)).bind λx=>(if x then some true else(a9w a.Version 1 99).bind λw=>some (!w)).bind λu=>(if u then some true else(a9w a.Person 1 99).bind λB=>some (!B)).bind λy=>if y then some false else(p9 g49 b).bind λp=>(b0d p a.State 0 5).bind λi=>(if(!i)then some true else(p9 g4j b).bind λf=>(b0d f a.Seat 0 5).bind λj=>some (!j)).bind λg=>(if g then some true else(b8g a.Span).bind λc=>some (!c)).bind λo=>if o then some false else(p9 g3v b).bind λk=>(b0d k a.Share 1 100).bind λq=>(if(!q)then some true else(p9 g50 b).bind λh=>(b0d h a.Currency 1 999).bind λt=>some (!t)).bind λn=>(if n then some true else(p9 g4u b).bind λl=>(b0d l a.Amount 0 1000000000).bind λm=>some (!m)).bind λd=>(if d then some true else(p9 g5k b).bind λs=>(b0d s a.Ref 1 99).bind λr=>some (!r)).bind λe=>if e then some false else if(a.Kind==4)then some (a.State !=a.Seat)else if(a.Kind==11)then joinC b9u (a,a.Kind,a.Kind==11)else joinC b9u (a,a.Kind,a.Kind==12)
def i4q(b a:aQ):A3 Int:=(a2c b.Issuer a.Issuer).bind λd=>(a2c b.Number a.Number).bind λe=>(b67 [d,e]).bind λc=>some c
def i4n(b:Int)(g:((O Int)×Int)->A3 (O Int))(e:(O Int)×Int)(d:((O Int)×Int)->A3 (O Int))(a:(O Int)×Int):A3 (O Int):=if(decide (a.2>=0))then(d0l .i64 b (i64 (8*a.2))).bind λc=>(a4n 1 a.1 [IntKind.u8.wrap (c)]).bind λf=>d (f,i64 (a.2-1))else g (a.1,i64 (e.2+1))
def i4c(b:O Int)(d:Int)(e:((O Int)×Int)->A3 (O Int))(a:(O Int)×Int):A3 (O Int):=if(decide (a.2<(b.length:Int)))then(c7 b a.2).bind λc=>d9 FU (i4n c e a) (a.1,i64 (d-1))else some a.1
def i3x(b:O Int)(c:Int)(a:O Int):A3 (O Int):=d9 FU (i4c a c) (b,0)
def i57(c:(aQ×(O Int)×(A4×Int))->A3 (O Int))(a:aQ×(O Int)×(A4×Int)):A3 (O Int):=optC (e6l a.2.2.1 a.2.2.2) (some a.2.1) λk=>(k).bind λb=>if(b==83)then(i3x a.2.1 1 [a.1.State]).bind λe=>c (a.1,e,(a.2.2.1,a.2.2.2+1))else if(b==80)then(i3x a.2.1 3 [a.1.Span.From,a.1.Span.To]).bind λh=>c (a.1,h,(a.2.2.1,a.2.2.2+1))else if(b==84)then(i3x a.2.1 1 [a.1.Seat]).bind λi=>c (a.1,i,(a.2.2.1,a.2.2.2+1))else if(b==72)then(i3x a.2.1 1 [a.1.Share]).bind λf=>c (a.1,f,(a.2.2.1,a.2.2.2+1))else if(b==67)then(i3x a.2.1 2 [a.1.Currency]).bind λd=>c (a.1,d,(a.2.2.1,a.2.2.2+1))else if(b==65)then(i3x a.2.1 4 [a.1.Amount]).bind λg=>c (a.1,g,(a.2.2.1,a.2.2.2+1))else if(b==82)then(i3x a.2.1 1 [a.1.Ref]).bind λj=>c (a.1,j,(a.2.2.1,a.2.2.2+1))else c (a.1,a.2.1,(a.2.2.1,a.2.2.2+1))
def i56(a:aQ×Int):A3 (O Int):=(i3x [] 1 [a.1.Issuer]).bind λb=>(i3x b 2 [a.1.Number]).bind λe=>(i3x e 1 [a.1.Version,a.2,a.1.Person,a.1.Kind]).bind λd=>(b2r a.1.Kind).bind λc=>d9 FU i57 (a.1,d,(c,0))
def i5l(a:aQ):A3 (O Int):=(b3k a).bind λb=>if(!b)then some []else if a.Withdrawn then joinC i56 (a,1)else joinC i56 (a,0)
def i5n(b c:O Int):A3 Int:=(i59 b c).bind λa=>some a
def i6i(b a:aQ):A3 Bool:=(b3k b).bind λf=>(if(!f)then some true else(b3k a).bind λh=>some (!h)).bind λc=>if c then some false else(i5l b).bind λg=>(i5l a).bind λe=>(i5n g e).bind λd=>some (decide (d<0))
def i52(a b:aQ):A3 aQ:=(i6i a b).bind λc=>if c then some b else some a
def i3w(i:((O aQ)×(O aQ)×(O aQ))->A3 (O aQ))(a:(O aQ)×(O aQ)×(O aQ)):A3 (O aQ):=(if(decide ((a.1.length:Int)>0))then some (decide ((a.2.1.length:Int)>0))else some false).bind λp=>if p then(c7 a.1 0).bind λs=>(c7 a.2.1 0).bind λq=>(i4q s q).bind λn=>if(decide (n<0))then(c7 a.1 0).bind λo=>(a4n 112 a.2.2 [o]).bind λt=>(a1x a.1 1 (a.1.length:Int)).bind λr=>i (r,a.2.1,t)else if(decide (n>0))then(c7 a.2.1 0).bind λk=>(a4n 112 a.2.2 [k]).bind λf=>(a1x a.2.1 1 (a.2.1.length:Int)).bind λc=>i (a.1,c,f)else(c7 a.1 0).bind λg=>(c7 a.2.1 0).bind λd=>(i52 g d).bind λb=>(a4n 112 a.2.2 [b]).bind λj=>(a1x a.1 1 (a.1.length:Int)).bind λh=>(a1x a.2.1 1 (a.2.1.length:Int)).bind λl=>i (h,l,j)else(a4n 112 a.2.2 a.1).bind λe=>(a4n 112 e a.2.1).bind λm=>some m
def i3v(a b:O aQ):A3 (O aQ):=d9 FU i3w (a,b,[])
def i4f(c:O aQ)(d:((O aQ)×Int)->A3 (O aQ))(a:(O aQ)×Int):A3 (O aQ):=if(decide (a.2<(c.length:Int)))then(c7 c a.2).bind λb=>(b3k b).bind λf=>if f then(i3v a.1 [b]).bind λe=>d (e,i64 (a.2+1))else d (a.1,i64 (a.2+1))else some a.1
def i4i(a:O aQ):A3 (O aQ):=d9 FU (i4f a) ([],0)
def i4d(e b:O aQ):A3 (O aQ):=(i4i e).bind λc=>(i4i b).bind λd=>(i3v c d).bind λa=>some a
def a4e(a:aQ):A3 Bool:=(b3k a).bind λb=>(if b then some (!a.Withdrawn)else some false).bind λc=>some c
def a2b(c:O aQ)(d:((O aQ)×Int)->A3 (O aQ))(a:(O aQ)×Int):A3 (O aQ):=if(decide (a.2<(c.length:Int)))then(c7 c a.2).bind λb=>(a4e b).bind λf=>if f then(a4n 112 a.1 [b]).bind λe=>d (e,i64 (a.2+1))else d (a.1,i64 (a.2+1))else some a.1
def a3f(a:O aQ):A3 (O aQ):=d9 FU (a2b a) ([],0)
def a4f(b:O aQ):A3 (O aQ):=(a3f b).bind λa=>some a
def l4k(c:O aQ):A3 (O aQ):=(i4d c []).bind λa=>(a4f a).bind λb=>some b
def l57(a:aQ)(b:Int):A3 Bool:=some (a.Person==b)
def l42(e:O aQ)(b:Int)(c:((O aQ)×Int)->A3 (O aQ))(a:(O aQ)×Int):A3 (O aQ):=if(decide (a.2<(e.length:Int)))then(c7 e a.2).bind λd=>(l57 d b).bind λg=>if g then(a4n 112 a.1 [d]).bind λf=>c (f,i64 (a.2+1))else c (a.1,i64 (a.2+1))else some a.1
def l44(b:O aQ)(a:Int):A3 (O aQ):=d9 FU (l42 b a) ([],0)
def l4s(b:O aQ)(c:Int):A3 (O aQ):=(l44 b c).bind λa=>some a
def b21(c:O aQ)(f:Int)(d:(Int×Bool×Int)->A3 (Int×Bool))(a:Int×Bool×Int):A3 (Int×Bool):=if(decide (a.2.2<(c.length:Int)))then(c7 c a.2.2).bind λb=>(a4e b).bind λh=>(if h then some (b.Kind==f)else some false).bind λg=>(if g then(if(!a.2.1)then some true else some (decide (b.Span.From<a.1))).bind λe=>some e else some false).bind λi=>if i then d (b.Span.From,true,i64 (a.2.2+1))else d (a.1,a.2.1,i64 (a.2.2+1))else some (a.1,a.2.1)
def b4r(a:O aQ)(b:Int):A3 (Int×Bool):=d9 FU (b21 a b) (0,false,0)
def b7l(b:O aQ):A3 (Int×Bool):=(b4r b 12).bind λa=>some (a.1,a.2)
def l4a(f:O aQ)(d b:Int):A3 Bool:=(l4s f d).bind λe=>(b7l e).bind λa=>(if(!a.2)then some true else some (decide (a.1>=b))).bind λc=>some c
def l4j(a:aQ)(d b:Int):A3 Bool:=(if(a.Kind==10)then some (a.Ref==d)else some false).bind λe=>(if e then some (decide (a.Span.From<=b))else some false).bind λf=>(if f then some (decide (b<a.Span.To))else some false).bind λc=>some c
def l3v(d:O aQ)(b a:Int)(e:Int->A3 Int)(c:Int):A3 Int:=if(decide (c<(d.length:Int)))then(c7 d c).bind λf=>(l4j f b a).bind λg=>if g then some c else e (i64 (c+1))else some (-1:Int)
def l3w(c:O aQ)(b a:Int):A3 Int:=d9 FU (l3v c b a) 0
def l3u(d:O aQ)(b a:Int):A3 Bool:=(l3w d b a).bind λc=>some (decide (c>=0))
def l4f(b:O aQ)(d a:Int):A3 Bool:=(l3u b d a).bind λc=>some c
def l4q(k:Int)(j:O aQ)(c:Int)(b:((O Int)×Int)->A3 (O Int))(a:(O Int)×Int):A3 (O Int):=if(decide (a.2<=99))then if(a.2!=k)then(l4s j a.2).bind λm=>(l4f m k c).bind λl=>(if l then(l4a j a.2 c).bind λg=>some g else some false).bind λe=>if e then(a4n 8 a.1 [a.2]).bind λh=>b (h,i64 (a.2+1))else b (a.1,i64 (a.2+1))else(if false then(l4a j a.2 c).bind λi=>some i else some false).bind λf=>if f then(a4n 8 a.1 [a.2]).bind λd=>b (d,i64 (a.2+1))else b (a.1,i64 (a.2+1))else some a.1
def l49(c:O aQ)(b a:Int):A3 (O Int):=(if(decide (b<1))then some true else some (decide (b>99))).bind λf=>(if f then some true else some (decide (a<0))).bind λh=>(if h then some true else some (decide (a>73048))).bind λd=>(if d then some true else(l4a c b a).bind λg=>some (!g)).bind λe=>if e then some []else d9 FU (l4q b c a) ([],1)
def b4t(b:O aQ):A3 (Int×Bool):=(b4r b 11).bind λa=>some (a.1,a.2)
def b48(a:Span×Int×Int):A3 Span:=if(decide (a.2.2<a.2.1))then some (⟨0,0⟩:Span)else some (⟨a.2.1,i64 (a.2.2+1)⟩:Span)
def a2i(c:O aQ):A3 Span:=(b4t c).bind λa=>(b7l c).bind λb=>if(!b.2)then joinC b48 ((⟨0,0⟩:Span),a.1,73048)else joinC b48 ((⟨0,0⟩:Span),a.1,b.1)
def c3q(a:Span):A3 Span:=some (⟨max a.From 0,min a.To 73049⟩:Span)
def b2e(j:O Span)(h:((O Span)×(O Span)×Int)->A3 (O Span))(a:(O Span)×(O Span)×Int):A3 (O Span):=if(decide (a.2.2<(j.length:Int)))then(c7 a.2.1 a.2.2).bind λm=>(c7 a.2.1 a.2.2).bind λb=>(if(decide ((a.1.length:Int)>0))then(c7 a.1 (i64 ((a.1.length:Int)-1))).bind λi=>(c7 a.1 (i64 ((a.1.length:Int)-1))).bind λd=>some (decide (b.From<=d.To))else some false).bind λe=>if e then(c7 a.1 (i64 ((a.1.length:Int)-1))).bind λk=>(c7 a.1 (i64 ((a.1.length:Int)-1))).bind λc=>(c7 a.1 (i64 ((a.1.length:Int)-1))).bind λl=>(c7 a.1 (i64 ((a.1.length:Int)-1))).bind λg=>h (a8h a.1 (i64 ((a.1.length:Int)-1)) (⟨g.From,max c.To b.To⟩:Span),a.2.1,i64 (a.2.2+1))else(a4n 16 a.1 [b]).bind λf=>h (f,a.2.1,i64 (a.2.2+1))else some a.1
def b5z(d:O Span)(e:((O Span)×(O Span)×Int)->A3 (O Span))(a:(O Span)×(O Span)×Int):A3 (O Span):=if(decide (a.2.2<(d.length:Int)))then(c7 d a.2.2).bind λf=>(c3q f).bind λb=>if(decide (b.From<b.To))then(a4n 16 a.1 [b]).bind λg=>e (g,[],i64 (a.2.2+1))else e (a.1,[],i64 (a.2.2+1))else(b3w a.1).bind λc=>d9 FU (b2e c) ([],c,0)
def a2w(a:O Span):A3 (O Span):=d9 FU (b5z a) ([],[],0)
def a92(d:((O Span)×(O Span)×(O Span)×Int×Int)->A3 (O Span))(a:(O Span)×(O Span)×(O Span)×Int×Int):A3 (O Span):=(c7 a.1 a.2.2.2.1).bind λe=>(c7 a.1 a.2.2.2.1).bind λc=>(c7 a.2.1 a.2.2.2.2).bind λf=>(c7 a.2.1 a.2.2.2.2).bind λb=>if(decide (c.To<b.To))then d (a.1,a.2.1,a.2.2.1,i64 (a.2.2.2.1+1),a.2.2.2.2)else d (a.1,a.2.1,a.2.2.1,a.2.2.2.1,i64 (a.2.2.2.2+1))
def b2h(f:((O Span)×(O Span)×(O Span)×Int×Int)->A3 (O Span))(a:(O Span)×(O Span)×(O Span)×Int×Int):A3 (O Span):=(if(decide (a.2.2.2.1<(a.1.length:Int)))then some (decide (a.2.2.2.2<(a.2.1.length:Int)))else some false).bind λh=>if h then(c7 a.1 a.2.2.2.1).bind λk=>(c7 a.1 a.2.2.2.1).bind λg=>(c7 a.2.1 a.2.2.2.2).bind λl=>(c7 a.2.1 a.2.2.2.2).bind λe=>(c7 a.1 a.2.2.2.1).bind λi=>(c7 a.1 a.2.2.2.1).bind λb=>(c7 a.2.1 a.2.2.2.2).bind λj=>(c7 a.2.1 a.2.2.2.2).bind λc=>if(decide ((max g.From e.From)<(min b.To c.To)))then(a4n 16 a.2.2.1 [(⟨max g.From e.From,min b.To c.To⟩:Span)]).bind λd=>joinC (a92 f) (a.1,a.2.1,d,a.2.2.2.1,a.2.2.2.2)else joinC (a92 f) (a.1,a.2.1,a.2.2.1,a.2.2.2.1,a.2.2.2.2)else some a.2.2.1
def b2g(c d:O Span):A3 (O Span):=(a2w c).bind λa=>(a2w d).bind λb=>d9 FU b2h (a,b,[],0,0)
def s6(b:O Span)(c:Span):A3 (O Span):=(b2g b [c]).bind λa=>some a
def a0j(b a:Posting):A3 Int:=(a2c b.Span.From a.Span.From).bind λd=>(a2c b.Seat a.Seat).bind λf=>(a2c b.State a.State).bind λc=>(b67 [d,f,c]).bind λe=>some e
def a1d(i:Int)(m:((O Posting)×Int)->A3 (O Posting))(g:(O Posting)×Int)(o:((O Posting)×Int)->A3 (O Posting))(a:(O Posting)×Int):A3 (O Posting):=(if(decide (a.2>i))then(c7 a.1 a.2).bind λs=>(c7 a.1 a.2).bind λf=>(c7 a.1 (i64 (a.2-1))).bind λr=>(c7 a.1 (i64 (a.2-1))).bind λn=>(a0j f n).bind λj=>some (decide (j<0))else some false).bind λd=>if d then(c7 a.1 (i64 (a.2-1))).bind λh=>(c7 a.1 (i64 (a.2-1))).bind λb=>(c7 a.1 a.2).bind λk=>(c7 a.1 a.2).bind λc=>(c7 a.1 a.2).bind λe=>(c7 a.1 a.2).bind λp=>(c7 (a8h a.1 a.2 b) (i64 (a.2-1))).bind λl=>(c7 (a8h a.1 a.2 b) (i64 (a.2-1))).bind λq=>o (a8h (a8h a.1 a.2 b) (i64 (a.2-1)) c,i64 (a.2-1))else m (a.1,i64 (g.2+1))
def a1f(b c:Int)(d:((O Posting)×Int)->A3 (O Posting))(a:(O Posting)×Int):A3 (O Posting):=if(decide (a.2<b))then d9 FU (a1d c d a) (a.1,a.2)else some a.1
def m6(c:O Posting)(a b:Int):A3 (O Posting):=d9 FU (a1f b a) (c,i64 (a+1))
structure oQ where f_slices_pdqsortCmpFunc_of_api_Posting:(List Posting)->Int->Int->Int->Option (List Posting)
def a2d(R:oQ)(a:(O Posting)×Int×Int×Int×Unit×Bool×Bool×Int):A3 (O Posting):=none
def i6(R:oQ)(c:((O Posting)×Int×Int×Int×Bool×Bool)->A3 (O Posting))(a:(O Posting)×Int×Int×Int×Bool×Bool):A3 (O Posting):=if(decide ((i64 (a.2.2.1-a.2.1))<=12))then(m6 a.1 a.2.1 a.2.2.1).bind λb=>some b else if(a.2.2.2.1==0)then none else if(!a.2.2.2.2.1)then none else joinC (a2d R) (a.1,a.2.1,a.2.2.1,a.2.2.2.1,(),a.2.2.2.2.1,a.2.2.2.2.2,i64 (a.2.2.1-a.2.1))
def i7(R:oQ)(c:O Posting)(d a b:Int):A3 (O Posting):=d9 FU (i6 R) (c,d,a,b,true,true)
def c3:Nat->oQ|0=>⟨λ_ _ _ _=>none⟩|n+1=>⟨i7 (c3 n)⟩
def y6(b:O Posting)(c a d:Int):A3 (O Posting):=(c3 FU).f_slices_pdqsortCmpFunc_of_api_Posting b c a d
def c9(a:O Posting):A3 (O Posting):=(c7q (u64 ((a.length:Int)))).bind λb=>(y6 a 0 (a.length:Int) b).bind λc=>some c
def b6k(L:O ((Int×Int)×O Span))(f:aQ):O ((Int×Int)×O Span):=if f.Kind=4then f7i L (f.Seat,f.State) f.Span else L
def b4v(l:O aQ):O ((Int×Int)×O Span)->O Posting->A3 (O Posting)|[],out=>some out|q::M,out=>Option.bind (a2i l) λs=>Option.bind (s6 q.2 s) λc=>if out.length+c.length<=100000then b4v l M (out++c.map λx=>⟨q.1.1,q.1.2,x⟩)else none
noncomputable def competence_Postings(a:O aQ):A3 (O Posting):=Option.bind (a4f a) λcur=>if cur.length<=1000/\(cur.all λf=>c4v f.Seat&&c4v f.State)=true then allP (λM=>M.Perm (cur.foldl b6k [])) (λM=>Option.bind (b4v a M []) λout=>c9 out)else none
def m7(a:Int):A3 Bool:=(if(decide (a>=0))then some (decide (a<=73048))else some false).bind λb=>some b
def a7u(a c:Int):A3 Bool:=(if(decide (a>=0))then some (decide (a<=c))else some false).bind λb=>some b
def b2n(g:Rules)(h:(Rules×Int)->A3 Bool)(a:Rules×Int):A3 Bool:=if(decide (a.2<(g.Members.length:Int)))then(c7 g.Members a.2).bind λb=>(a7u b 5).bind λc=>(if(!c)then some true else(if(decide (a.2>0))then(c7 a.1.Members (i64 (a.2-1))).bind λf=>some (decide (b<=f))else some false).bind λe=>some e).bind λd=>if d then some false else h (a.1,i64 (a.2+1))else some true
def a5x(a:Rules):A3 Bool:=(m7 a.From).bind λe=>(if(!e)then some true else(a7u a.MinDays 73049).bind λh=>some (!h)).bind λb=>(if b then some true else(a7u a.PostingLimit 73049).bind λf=>some (!f)).bind λd=>(if d then some true else(a7u a.Substantial 100).bind λc=>some (!c)).bind λg=>if g then some false else d9 FU (b2n a) (a,0)
def b27(b:O Rules)(g:Int->A3 Int)(a:Int):A3 Int:=if(decide (a<(b.length:Int)))then(c7 b a).bind λc=>(a5x c).bind λd=>(if(!d)then some true else(if(decide (a>0))then(c7 b (i64 (a-1))).bind λh=>some (decide (c.From<=h.From))else some false).bind λf=>some f).bind λe=>if e then some 1 else g (i64 (a+1))else some 0
def a9n(a:O Rules):A3 Int:=if(decide ((a.length:Int)>8))then some 7 else(if((a.length:Int)==0)then some true else(c7 a 0).bind λb=>some (b.From !=0)).bind λc=>if c then some 1 else d9 FU (b27 a) 0
def a9c(a:O aQ)(b:O Rules):A3 (lQ×Bool):=(a4f a).bind λd=>(a2i a).bind λf=>(competence_Postings a).bind λc=>(a9n b).bind λe=>some ((⟨d,f,c,b⟩:lQ),e==0)
def b81(e:O Rules)(d:((Int×Rules×Bool)×Int)->A3 (Rules×Bool))(b:(Int×Rules×Bool)×Int):A3 (Rules×Bool):=if decide (b.2<0)then some ((⟨0,0,0,0,[]⟩:Rules),false)else(c7 e b.2).bind λa=>if(decide (a.From<=b.1.1))then(a7z a.Members).bind λc=>some ((b.1.1,(⟨a.From,a.MinDays,a.PostingLimit,a.Substantial,c⟩:Rules),true).2.1,(b.1.1,(⟨a.From,a.MinDays,a.PostingLimit,a.Substantial,c⟩:Rules),true).2.2)else d ((b.1.1,b.1.2.1,b.1.2.2),b.2-1)
def b2q(a:O Rules)(b:Int):A3 (Rules×Bool):=(m7 b).bind λc=>if(!c)then some ((⟨0,0,0,0,[]⟩:Rules),false)else d9 FU (b81 a) ((b,(⟨0,0,0,0,[]⟩:Rules),false),(a.length:Int)-1)
def a4l(a:Span)(b:Int):A3 Bool:=(if(decide (a.From<=b))then some (decide (b<a.To))else some false).bind λc=>some c
def a2q(d:lQ)(c e:Int)(h:Int->A3 (Int×Bool))(b:Int):A3 (Int×Bool):=if(decide (b<(d.postings.length:Int)))then(c7 d.postings b).bind λa=>(a4l a.Span c).bind λg=>(if g then some (decide (c<(i64 (a.Span.From+e))))else some false).bind λf=>if f then some (a.Seat,true)else h (i64 (b+1))else some (0,false)
def a4c(b:lQ)(c a:Int):A3 (Int×Bool):=d9 FU (a2q b c a) 0
def a06(b:O Int)(d:Int)(e:Int->A3 Int)(a:Int):A3 Int:=if(decide (a<(b.length:Int)))then(c7 b a).bind λc=>if(d==c)then some a else e (i64 (a+1))else some (-1:Int)
def a4p(a:O Int)(b:Int):A3 Int:=d9 FU (a06 a b) 0
def q9(b:O Int)(c:Int):A3 Bool:=(a4p b c).bind λa=>some (decide (a>=0))
def a9u(c:lQ)(e:O Int)(g:Int)(d:((O aQ)×Int)->A3 (O aQ))(a:(O aQ)×Int):A3 (O aQ):=if(decide (a.2<(c.facts.length:Int)))then(c7 c.facts a.2).bind λb=>(q9 e b.Kind).bind λi=>(if i then(a4l b.Span g).bind λh=>some h else some false).bind λf=>if f then(a4n 112 a.1 [b]).bind λj=>d (j,i64 (a.2+1))else d (a.1,i64 (a.2+1))else some a.1
def a2j(b:lQ)(c:Int)(a:O Int):A3 (O aQ):=d9 FU (a9u b a c) ([],0)
def a3m(f:O aQ)(c:(aQ×Bool×(O aQ)×Int)->A3 (Int×Bool))(a:aQ×Bool×(O aQ)×Int):A3 (Int×Bool):=if(decide (a.2.2.2<(f.length:Int)))then(c7 a.2.2.1 a.2.2.2).bind λh=>(c7 a.2.2.1 a.2.2.2).bind λb=>(if(!a.2.1)then some true else some (decide (b.Share>a.1.Share))).bind λd=>(if d then some true else(if(b.Share==a.1.Share)then some (decide (b.State<a.1.State))else some false).bind λg=>some g).bind λe=>if e then c (b,true,a.2.2.1,i64 (a.2.2.2+1))else c (a.1,a.2.1,a.2.2.1,i64 (a.2.2.2+1))else some (a.1.State,a.2.1)
def a5v(b:lQ)(c:Int):A3 (Int×Bool):=(a2j b c [3]).bind λa=>d9 FU (a3m a) ((⟨0,0,0,false,0,0,0,(⟨0,0⟩:Span),0,0,0,0,0⟩:aQ),false,a,0)
def b5c(a:Span)(b:Int):A3 Bool:=(if(decide (a.From<=b))then some (decide (b<a.To))else some false).bind λc=>some c
def o5(c:O Span)(a:Int)(d:Int->A3 Int)(b:Int):A3 Int:=if(decide (b<(c.length:Int)))then(c7 c b).bind λe=>(b5c e a).bind λf=>if f then some b else d (i64 (b+1))else some (-1:Int)
def y4(b:O Span)(a:Int):A3 Int:=d9 FU (o5 b a) 0
def s8(c:O Span)(a:Int):A3 Bool:=(y4 c a).bind λb=>some (decide (b>=0))
def a8r(d:O Span)(a:Int):A3 Bool:=(if(decide (a<0))then some true else some (decide (a>=73049))).bind λb=>if b then some false else(s8 d a).bind λc=>some c
def a4t(i:O aQ)(h:Int)(d:(aQ×Bool×Int)->A3 (Int×Bool))(a:aQ×Bool×Int):A3 (Int×Bool):=if(decide (a.2.2<(i.length:Int)))then(c7 i a.2.2).bind λb=>(a4e b).bind λl=>(if(!l)then some true else some (b.Kind !=5)).bind λk=>(if k then some true else some (decide (h<b.Span.From))).bind λj=>(if j then some true else some (decide (h>=b.Span.To))).bind λe=>if e then d (a.1,a.2.1,i64 (a.2.2+1))else(if(!a.2.1)then some true else some (decide (b.Span.From>a.1.Span.From))).bind λc=>(if c then some true else(if(b.Span.From==a.1.Span.From)then some (decide (b.State<a.1.State))else some false).bind λg=>some g).bind λf=>if f then d (b,true,i64 (a.2.2+1))else d (a.1,a.2.1,i64 (a.2.2+1))else some (a.1.State,a.2.1)
def a8j(b:O aQ)(a:Int):A3 (Int×Bool):=(m7 a).bind λd=>if(!d)then some (0,false)else(a2i b).bind λe=>(a8r [e] a).bind λc=>if(!c)then some (0,false)else d9 FU (a4t b a) ((⟨0,0,0,false,0,0,0,(⟨0,0⟩:Span),0,0,0,0,0⟩:aQ),false,0)
def a1r(h:((O Int)×Int×Int×(Int×Nat))->A3 (O Int))(a:(O Int)×Int×Int×(Int×Nat)):A3 (O Int):=if(decide (a.2.2.1<(a.2.2.2.2:Int)))then(c72 a.1 a.2.2.2.1 a.2.2.1).bind λk=>(c7 a.1 (a.2.2.2.1+a.2.2.1)).bind λc=>(c72 a.1 a.2.2.2.1 (i64 (a.2.2.1-1))).bind λl=>(c7 a.1 (a.2.2.2.1+(i64 (a.2.2.1-1)))).bind λe=>if(c !=e)then(c72 a.1 a.2.2.2.1 a.2.2.1).bind λi=>(c7 a.1 (a.2.2.2.1+a.2.2.1)).bind λb=>(c7 a.1 a.2.1).bind λj=>(c7 a.1 a.2.1).bind λm=>h (a8h a.1 a.2.1 b,i64 (a.2.1+1),i64 (a.2.2.1+1),(a.2.2.2.1,a.2.2.2.2))else h (a.1,a.2.1,i64 (a.2.2.1+1),(a.2.2.2.1,a.2.2.2.2))else(a1x a.1 a.2.1 (a.1.length:Int)).bind λf=>(h1h 0 a.1 a.2.1 f.length).bind λd=>(a1x d 0 a.2.1).bind λg=>some g
def a0c(e:((O Int)×Int)->A3 (O Int))(a:(O Int)×Int):A3 (O Int):=if(decide (a.2<(a.1.length:Int)))then(c7 a.1 a.2).bind λf=>(c7 a.1 a.2).bind λc=>(c7 a.1 (i64 (a.2-1))).bind λg=>(c7 a.1 (i64 (a.2-1))).bind λb=>if(c==b)then(a1x a.1 a.2 (a.1.length:Int)).bind λd=>d9 FU a1r (a.1,a.2,1,(a.2,d.length))else e (a.1,i64 (a.2+1))else some a.1
def a0n(a:O Int):A3 (O Int):=if(decide ((a.length:Int)<2))then some a else d9 FU a0c (a,1)
def a7p(b:O aQ)(g:((O Int)×Int)->A3 (O Int))(a:(O Int)×Int):A3 (O Int):=if(decide (a.2<(b.length:Int)))then(c7 b a.2).bind λc=>(a4n 8 a.1 [c.Seat]).bind λf=>g (f,i64 (a.2+1))else(b8s a.1).bind λe=>(a0n e).bind λd=>some d
def b12(a:O aQ):A3 (O Int):=d9 FU (a7p a) ([],0)
def a0f(d:O Int)(c:((O (Int×Int))×Int×(O Int)×Int)->A3 (Int×Bool))(a:(O (Int×Int))×Int×(O Int)×Int):A3 (Int×Bool):=if(decide (a.2.2.2<((List.map (λx=>x) d).length:Int)))then(c7 a.2.2.1 a.2.2.2).bind λe=>(c7 a.2.2.1 a.2.2.2).bind λb=>if(decide ((b5g a.1 b)>(b5g a.1 a.2.1)))then c (a.1,b,a.2.2.1,i64 (a.2.2.2+1))else c (a.1,a.2.1,a.2.2.1,i64 (a.2.2.2+1))else some (a.2.1,true)
def a2g(t:O aQ)(p q:Int)(r:(lQ×(O (Int×Int))×Int×(O aQ)×Int)->A3 (Int×Bool))(b:lQ×(O (Int×Int))×Int×(O aQ)×Int):A3 (Int×Bool):=if(decide (b.2.2.2.2<(t.length:Int)))then(c7 b.2.2.2.1 b.2.2.2.2).bind λA=>(c7 b.2.2.2.1 b.2.2.2.2).bind λe=>r (b.1,a62 b.2.1 e.State (i64 ((b5g b.2.1 e.State)+e.Share)),i64 (b.2.2.1+e.Share),b.2.2.2.1,i64 (b.2.2.2.2+1))else(c8c b.2.1).bind λd=>if(((List.map (λx=>x) d).length:Int)==0)then some (0,false)else if(((List.map (λx=>x) d).length:Int)==1)then(c7 (List.map (λx=>x) d) 0).bind λz=>(c7 (List.map (λx=>x) d) 0).bind λv=>some (v,true)else(a8j b.1.facts p).bind λc=>(if c.2then some (c7s b.2.1 c.1)else some false).bind λm=>(if m then some (decide ((i64 (100*(b5g b.2.1 c.1)))>=(i64 (q*b.2.2.1))))else some false).bind λi=>if i then some (c.1,true)else(a2j b.1 p [1]).bind λh=>(b12 h).bind λa=>if((a.length:Int)==1)then(c7 a 0).bind λs=>(c7 a 0).bind λf=>some (f,true)else(if c.2then some ((a.length:Int)==2)else some false).bind λl=>(if l then(q9 a c.1).bind λj=>some j else some false).bind λn=>if n then(c7 a 0).bind λu=>(c7 a 0).bind λo=>(c7 a 1).bind λy=>(c7 a 1).bind λk=>some (i64 ((i64 (o+k))-c.1),true)else if c.2then some (c.1,true)else(c7 (List.map (λx=>x) d) 0).bind λw=>(c7 (List.map (λx=>x) d) 0).bind λg=>d9 FU (a0f d) (b.2.1,g,(List.map (λx=>x) d),0)
def a3v(a:lQ)(c d:Int):A3 (Int×Bool):=(a2j a c [1,2]).bind λb=>d9 FU (a2g b c d) (a,[],0,b,0)
def a6j(b c:aQ):A3 Int:=(a2c b.State c.State).bind λa=>some a
def y9(b:(O aQ)×Unit×aQ)(c:(aQ×aQ×Int)->A3 aQ)(a:aQ×aQ×Int):A3 aQ:=if(decide (a.2.2<(b.1.length:Int)))then(c7 b.1 a.2.2).bind λe=>(a6j e a.2.1).bind λd=>if(decide (d<0))then(c7 b.1 a.2.2).bind λf=>c (a.1,f,i64 (a.2.2+1))else c (a.1,a.2.1,i64 (a.2.2+1))else some a.2.1
def a00(a:(O aQ)×Unit×aQ):A3 aQ:=(c7 a.1 0).bind λb=>d9 FU (y9 a) (a.2.2,b,1)
def m5(a:O aQ):A3 aQ:=if(decide ((a.length:Int)<1))then none else joinC a00 (a,(),(⟨0,0,0,false,0,0,0,(⟨0,0⟩:Span),0,0,0,0,0⟩:aQ))
def a4b(c:lQ)(d:Int):A3 (Int×Bool):=(a2j c d [7,8]).bind λa=>if((a.length:Int)==0)then some (0,false)else(m5 a).bind λb=>some (b.State,true)
def a7m(b:lQ)(a:Int):A3 (Int×Int):=(b2q b.rules a).bind λc=>(if(!c.2)then some true else(a4l b.span a).bind λj=>some (!j)).bind λi=>if i then some ((-1:Int),0)else(a4c b a c.1.PostingLimit).bind λg=>if g.2then some (g.1,1)else(a5v b a).bind λe=>if e.2then some (e.1,2)else(a3v b a c.1.Substantial).bind λd=>if d.2then some (d.1,3)else(a4b b a).bind λh=>if h.2then some (h.1,4)else(a8j b.facts a).bind λf=>if f.2then some (f.1,5)else some ((-1:Int),0)
def l4h(e:O aQ)(d:O Rules)(c:Int):A3 (Int×Int):=(a9c e d).bind λa=>if(!a.2)then some ((-1:Int),0)else(a7m a.1 c).bind λb=>some (b.1,b.2)
def l4o(a:State)(b:Int):A3 Bool:=some (a.State==b)
def l4b(a:Int×Bool):A3 Int:=if a.2then some 1 else if(a.1==4)then some 2 else if(a.1==5)then some 3 else some 0
def l4m(a:Int):A3 Int:=if(a==1)then joinC l4b (a,a==1)else if(a==2)then joinC l4b (a,a==2)else joinC l4b (a,a==3)
structure Ring_statute_cloneExpr where f_statute_cloneExpr:Expr->Option Expr
def a7s(R:Ring_statute_cloneExpr)(b:Expr):A3 Expr:=lpC (([]:O Expr),(⟨b.Op,b.Value,b.Dim,b.Name,[]⟩:Expr),([]:O Expr),(⟨0,(⟨0,0⟩:fQ),0,a3j,[]⟩:Expr),(0:Int)) λg⟨e,a,f,c,d⟩=>if(decide (d<(b.Args.length:Int)))then(c7 b.Args d).bind λj=>(R.f_statute_cloneExpr j).bind λi=>(a4n 72 e [i]).bind λh=>g (h,(⟨a.Op,a.Value,a.Dim,a.Name,[]⟩:Expr),f,(⟨c.Op,c.Value,c.Dim,c.Name,[]⟩:Expr),i64 (d+1))else some (⟨a.Op,a.Value,a.Dim,a.Name,e⟩:Expr)
def s4:Nat->Ring_statute_cloneExpr|0=>⟨λ_=>none⟩|n+1=>⟨a7s (s4 n)⟩
def a6x(a:Expr):A3 Expr:=(s4 FU).f_statute_cloneExpr a
def a6r(n:Version):A3 Version:=(a5m n.Credits).bind λv1=>(a6e n.Series).bind λv2=>(a86 n.Lets).bind λv3=>(a6f n.Grants).bind λv4=>(a5p n.Reduces).bind λv5=>lpC (v1,v2,v3,v4,v5,(⟨n.From,n.Rounding,[],[],[],[],[]⟩:Version),([]:O Credit),([]:O Index),([]:O Let),([]:O Grant),([]:O Reduce),(⟨0,(⟨0,0⟩:Rounding),[],[],[],[],[]⟩:Version),(0:Int)) λW⟨v6,v7,o,P,H,i,s,A,t,q,G,j,d⟩=>if(decide (d<(v3.length:Int)))then(c7 o d).bind λaq=>(c7 o d).bind λX=>(a6x X.Body).bind λV=>(c7 o d).bind λap=>(c7 o d).bind λK=>W (v6,v7,a8h o d (⟨K.Name,V⟩:Let),P,H,(⟨i.From,i.Rounding,[],[],[],[],[]⟩:Version),s,A,t,q,G,(⟨j.From,j.Rounding,[],[],[],[],[]⟩:Version),i64 (d+1))else lpC (v6,v7,o,P,H,(⟨i.From,i.Rounding,[],[],[],[],[]⟩:Version),s,A,t,q,G,(⟨j.From,j.Rounding,[],[],[],[],[]⟩:Version),(0:Int)) λJ⟨I,p,r,b,l,h,x,w,D,u,y,k,a⟩=>if(decide (a<(P.length:Int)))then(c7 b a).bind λaj=>(c7 b a).bind λT=>(a6x T.If).bind λm=>(c7 b a).bind λag=>(c7 b a).bind λM=>(a6x M.Pay).bind λY=>(c7 b a).bind λaf=>(c7 b a).bind λf=>(c7 (a8h b a (⟨f.Benefit,m,f.Pay⟩:Grant)) a).bind λal=>(c7 (a8h b a (⟨f.Benefit,m,f.Pay⟩:Grant)) a).bind λv=>J (I,p,r,a8h (a8h b a (⟨f.Benefit,m,f.Pay⟩:Grant)) a (⟨v.Benefit,v.If,Y⟩:Grant),l,(⟨h.From,h.Rounding,[],[],[],[],[]⟩:Version),x,w,D,u,y,(⟨k.From,k.Rounding,[],[],[],[],[]⟩:Version),i64 (a+1))else lpC (I,p,r,b,l,(⟨h.From,h.Rounding,[],[],[],[],[]⟩:Version),x,w,D,u,y,(⟨k.From,k.Rounding,[],[],[],[],[]⟩:Version),(0:Int)) λab⟨C,z,F,E,e,g,N,U,Q,Z,aa,B,c⟩=>if(decide (c<(l.length:Int)))then(c7 e c).bind λam=>(c7 e c).bind λR=>(a6x R.By).bind λS=>(c7 e c).bind λah=>(c7 e c).bind λL=>ab (C,z,F,E,a8h e c (⟨L.Benefit,S⟩:Reduce),(⟨g.From,g.Rounding,[],[],[],[],[]⟩:Version),N,U,Q,Z,aa,(⟨B.From,B.Rounding,[],[],[],[],[]⟩:Version),i64 (c+1))else some (⟨g.From,g.Rounding,C,z,F,E,e⟩:Version)
def c41(e:Statute)(d:((Int×Version×Bool)×Int)->A3 (Version×Bool))(a:(Int×Version×Bool)×Int):A3 (Version×Bool):=if decide (a.2<0)then some ((⟨0,(⟨0,0⟩:Rounding),[],[],[],[],[]⟩:Version),false)else(c7 e.Versions a.2).bind λc=>if(decide (c.From<=a.1.1))then(a6r c).bind λb=>some ((a.1.1,b,true).2.1,(a.1.1,b,true).2.2)else d ((a.1.1,a.1.2.1,a.1.2.2),a.2-1)
def b1v(a:Statute)(b:Int):A3 (Version×Bool):=(m7 b).bind λc=>if(!c)then some ((⟨0,(⟨0,0⟩:Rounding),[],[],[],[],[]⟩:Version),false)else d9 FU (c41 a) ((b,(⟨0,(⟨0,0⟩:Rounding),[],[],[],[],[]⟩:Version),false),(a.Versions.length:Int)-1)
def l4i(f:O Rules)(d b:Int):A3 Bool:=(b2q f b).bind λa=>(if a.2then(q9 a.1.Members d).bind λe=>some e else some false).bind λc=>some c
def b6l(a:Int):A3 Bool:=(if(decide (a>=97))then some (decide (a<=122))else some false).bind λb=>some b
def b74(a:Int):A3 Bool:=(if(decide (a>=48))then some (decide (a<=57))else some false).bind λb=>some b
def c1b(a:Int):A3 Bool:=(b6l a).bind λc=>(if c then some true else(b74 a).bind λe=>some e).bind λb=>(if b then some true else some (a==95)).bind λd=>some d
def c1f(b:A4)(c:Int->A3 Bool)(a:Int):A3 Bool:=if(decide (a<(b.size:Int)))then(b3c b a).bind λe=>(c1b e).bind λd=>if(!d)then some false else c (i64 (a+1))else some true
def b7f(a:A4):A3 Bool:=(if(decide ((a.size:Int)<1))then some true else some (decide ((a.size:Int)>12))).bind λc=>(if c then some true else(b3c a 0).bind λe=>(b6l e).bind λb=>some (!b)).bind λd=>if d then some false else d9 FU (c1f a) 0
def b49(a:A4):A3 Bool:=if(a.toList==c9m.toList)then if(a.toList==c9m.toList)then some true else some false else if(a.toList==c51.toList)then if(a.toList==c51.toList)then some true else some false else if(a.toList==d69.toList)then if(a.toList==d69.toList)then some true else some false else if(a.toList==b91.toList)then if(a.toList==b91.toList)then some true else some false else if(a.toList==b4x.toList)then if(a.toList==b4x.toList)then some true else some false else if(a.toList==c53.toList)then if(a.toList==c53.toList)then some true else some false else if(a.toList==c1a.toList)then if(a.toList==c1a.toList)then some true else some false else if(a.toList==c4c.toList)then if(a.toList==c4c.toList)then some true else some false else if(a.toList==c10.toList)then if(a.toList==c10.toList)then some true else some false else if(a.toList==d0k.toList)then if(a.toList==d0k.toList)then some true else some false else if(a.toList==c1q.toList)then if(a.toList==c1q.toList)then some true else some false else if(a.toList==d07.toList)then if(a.toList==d07.toList)then some true else some false else if(a.toList==c1c.toList)then if(a.toList==c1c.toList)then some true else some false else if(a.toList==c98.toList)then if(a.toList==c98.toList)then some true else some false else if(a.toList==c8l.toList)then if(a.toList==c8l.toList)then some true else some false else if(a.toList==c92.toList)then if(a.toList==c92.toList)then some true else some false else if(a.toList==d8p.toList)then if(a.toList==d8p.toList)then some true else some false else if(a.toList==c60.toList)then if(a.toList==c60.toList)then some true else some false else if(a.toList==b94.toList)then if(a.toList==b94.toList)then some true else some false else if(a.toList==c14.toList)then if(a.toList==c14.toList)then some true else some false else if(a.toList==b76.toList)then if(a.toList==b76.toList)then some true else some false else if(a.toList==d3p.toList)then some true else some false
def b0e(a:A4):A3 Bool:=(b7f a).bind λb=>(if b then(b49 a).bind λc=>some (!c)else some false).bind λd=>some d
def c0l:A3 (O syntax_entry):=some [(⟨d4s,1⟩:syntax_entry),(⟨f1e,2⟩:syntax_entry),(⟨d3b,3⟩:syntax_entry),(⟨d3z,4⟩:syntax_entry)]
def b3q(a:syntax_entry)(b:Int):A3 Bool:=some (a.number==b)
def a3y(c:O syntax_entry)(a:Int)(d:Int->A3 Int)(b:Int):A3 Int:=if(decide (b<(c.length:Int)))then(c7 c b).bind λe=>(b3q e a).bind λf=>if f then some b else d (i64 (b+1))else some (-1:Int)
def a0b(b:O syntax_entry)(a:Int):A3 Int:=d9 FU (a3y b a) 0
def a4u(b:O syntax_entry)(d:Int):A3 A4:=(a0b b d).bind λa=>if(decide (a<0))then some a3j else(c7 b a).bind λc=>some c.name
def c1i:A3 (O syntax_entry):=some [(⟨b0b,6⟩:syntax_entry),(⟨b3z,9⟩:syntax_entry),(⟨b87,7⟩:syntax_entry),(⟨d54,8⟩:syntax_entry),(⟨c97,10⟩:syntax_entry),(⟨c04,5⟩:syntax_entry)]
def b72(a c:A4):A3 (A4×A4×Bool):=(a6y a c).bind λb=>if(decide (b>=0))then(c3u a 0 b).bind λe=>(c3u a (i64 (b+(c.size:Int))) (a.size:Int)).bind λd=>some (e,d,true)else some (a,a3j,false)
def b9e(b c:A4):A3 (A4×A4×Bool):=(b72 b c).bind λa=>some (a.1,a.2.1,a.2.2)
def c0d(b:A4)(f:(Int×Int)->A3 (Int×Bool))(a:Int×Int):A3 (Int×Bool):=if(decide (a.2<(b.size:Int)))then(b3c b a.2).bind λc=>(b74 c).bind λe=>if(!e)then some (0,false)else(b3c b a.2).bind λd=>f (i64 ((i64 (10*a.1))+(i64 (IntKind.u8.wrap (d-48)))),i64 (a.2+1))else some (a.1,true)
def b2i(a:A4):A3 (Int×Bool):=d9 FU (c0d a) (0,0)
def b5e(b:Int)(j:(fQ×Int)->A3 (fQ×Int×Bool))(f:fQ×Int)(g:fQ->A3 (fQ×Int×Bool))(a:fQ):A3 (fQ×Int×Bool):=(b8t a.Num b).bind λc=>(if(c==0)then(b8t a.Den b).bind λe=>some (e==0)else some false).bind λd=>if d then(c2t a.Num b).bind λi=>(c2t a.Den b).bind λh=>g (⟨i,h⟩:fQ)else j (a,i64 (f.2+1))
def c09(b:fQ×Int×Int×Int)(d:(fQ×Int)->A3 (fQ×Int×Bool))(a:fQ×Int):A3 (fQ×Int×Bool):=if(decide (a.2<2))then(c7 (⟨[2,5],rfl⟩:Ar 2 Int).l a.2).bind λc=>d9 FU (b5e c d a) a.1else some (a.1,b.2.1,true)
def b5d(a:fQ×Int×Int×Int):A3 (fQ×Int×Bool):=d9 FU (c09 a) ((⟨i64 (a.2.2.1+a.2.2.2),a.1.Den⟩:fQ),0)
def c0b(e:A4×fQ×Int)(b:Int×Bool)(c:(fQ×Int×(A4×Int))->A3 (fQ×Int×Bool))(a:fQ×Int×(A4×Int)):A3 (fQ×Int×Bool):=optC (e6l a.2.2.1 a.2.2.2) (joinC b5d (a.1,e.2.2,a.2.1,b.1)) λd=>(d).bind λf=>c ((⟨a.1.Num,i64 (10*a.1.Den)⟩:fQ),i64 (10*a.2.1),(a.2.2.1,a.2.2.2+1))
def a5s(f:A4×fQ×Int):A3 (fQ×Int×Bool):=(b9e f.1 b1i).bind λa=>(if(decide ((a.1.size:Int)<1))then some true else some (decide ((a.1.size:Int)>9))).bind λi=>(if i then some true else(if(decide ((a.1.size:Int)>1))then(b3c a.1 0).bind λl=>some (l==48)else some false).bind λk=>some k).bind λj=>(if j then some true else(if a.2.2then(if(decide ((a.2.1.size:Int)<1))then some true else some (decide ((a.2.1.size:Int)>4))).bind λg=>some g else some false).bind λe=>some e).bind λh=>if h then some ((⟨0,0⟩:fQ),0,false)else(b2i a.1).bind λc=>(b2i a.2.1).bind λb=>(if(!c.2)then some true else some (!b.2)).bind λd=>if d then some ((⟨0,0⟩:fQ),0,false)else d9 FU (c0b f b) ((⟨f.2.1.Num,1⟩:fQ),c.1,(a.2.1,0))
def b69(a:A4):A3 (fQ×Int×Bool):=(if(decide ((a.size:Int)>0))then(b3c a (i64 ((a.size:Int)-1))).bind λf=>some (f==100)else some false).bind λg=>if g then(c3u a 0 (i64 ((a.size:Int)-1))).bind λe=>joinC a5s (e,(⟨0,0⟩:fQ),3)else(if(decide ((a.size:Int)>0))then(b3c a (i64 ((a.size:Int)-1))).bind λc=>some (c==109)else some false).bind λb=>if b then(c3u a 0 (i64 ((a.size:Int)-1))).bind λd=>joinC a5s (d,(⟨0,0⟩:fQ),4)else joinC a5s (a,(⟨0,0⟩:fQ),2)
def a5e(f:(fQ×A4×Int×Int)->A3 (A4×Bool))(a:Int×fQ×A4×Int×Int):A3 (A4×Bool):=if(a.2.2.2.2==4)then some (a3j,false)else(c2t (i64 (a.2.2.2.1*10)) a.2.1.Den).bind λb=>(strconv_Itoa b).bind λe=>(a7f a.2.2.1 e).bind λd=>(b8t (i64 (a.2.2.2.1*10)) a.2.1.Den).bind λc=>f (a.2.1,d,c,i64 (a.2.2.2.2+1))
def a2u(a:Int×fQ×A4):A3 (A4×Bool):=(b69 a.2.2).bind λb=>(if(!b.2.2)then some true else some (!((b.1.Num==a.2.1.Num)&&((b.1.Den==a.2.1.Den)&&(true))))).bind λc=>(if c then some true else some (b.2.1!=a.1)).bind λd=>if d then some (a3j,false)else some (a.2.2,true)
def b3h(b:Int)(e:(fQ×A4×Int×Int)->A3 (A4×Bool))(a:fQ×A4×Int×Int):A3 (A4×Bool):=if(decide (a.2.2.1>0))then if(a.2.2.2==0)then(a7f a.2.1 b1i).bind λf=>joinC (a5e e) (b,a.1,f,a.2.2.1,a.2.2.2)else joinC (a5e e) (b,a.1,a.2.1,a.2.2.1,a.2.2.2)else if(b==3)then(a7f a.2.1 e4t).bind λc=>joinC a2u (b,a.1,c)else if(b==4)then(a7f a.2.1 e6u).bind λd=>joinC a2u (b,a.1,d)else joinC a2u (b,a.1,a.2.1)
def a4y(a:fQ)(e:Int):A3 (A4×Bool):=(if(decide (a.Den<1))then some true else some (decide (a.Den>10000))).bind λf=>(if f then some true else some (decide (a.Num<0))).bind λh=>(if h then some true else some (decide (a.Num>1000000000000000))).bind λb=>if b then some (a3j,false)else(c2t a.Num a.Den).bind λg=>(strconv_Itoa g).bind λd=>(b8t a.Num a.Den).bind λc=>d9 FU (b3h e) (a,d,c,0)
def b59(a:Int):A3 Bool:=(if(decide (a>=1900))then some (decide (a<=2099))else some false).bind λb=>some b
def b07(a:Index):A3 Bool:=(a4y a.Factor 2).bind λc=>(if c.2then some (decide (a.Factor.Num>0))else some false).bind λe=>(if e then(b59 a.Year).bind λb=>some b else some false).bind λd=>some d
structure Ring_syntax_Depth where f_syntax_Depth:Expr->Option Int
def b6x(R:Ring_syntax_Depth)(b:Expr)(e:(Int×Int)->A3 Int)(a:Int×Int):A3 Int:=if(decide (a.2<(b.Args.length:Int)))then(c7 b.Args a.2).bind λc=>(R.f_syntax_Depth c).bind λd=>e (max a.1 d,i64 (a.2+1))else some (i64 (a.1+1))
def b86(R:Ring_syntax_Depth)(a:Expr):A3 Int:=d9 FU (b6x R a) (0,0)
def a0r:Nat->Ring_syntax_Depth|0=>⟨λ_=>none⟩|n+1=>⟨b86 (a0r n)⟩
def d57(a:Expr):A3 Int:=(a0r FU).f_syntax_Depth a
structure Ring_syntax_Size where f_syntax_Size:Expr->Option Int
def b8b(R:Ring_syntax_Size)(b:Expr)(e:(Int×Int)->A3 Int)(a:Int×Int):A3 Int:=if(decide (a.2<(b.Args.length:Int)))then(c7 b.Args a.2).bind λc=>(R.f_syntax_Size c).bind λd=>e (i64 (a.1+d),i64 (a.2+1))else some a.1
def b9x(R:Ring_syntax_Size)(a:Expr):A3 Int:=d9 FU (b8b R a) (1,0)
def a1j:Nat->Ring_syntax_Size|0=>⟨λ_=>none⟩|n+1=>⟨b9x (a1j n)⟩
def e0h(a:Expr):A3 Int:=(a1j FU).f_syntax_Size a
def b84(a:Int):A3 Int:=(if(a==1)then some true else some (a==2)).bind λd=>(if d then some true else some (a==3)).bind λf=>if f then some 0 else(if(a==4)then some true else some (a==5)).bind λb=>(if b then some true else some (a==6)).bind λe=>if e then some 1 else(if(decide (a>=7))then some (decide (a<=20))else some false).bind λc=>if c then some 2 else if(a==21)then some 3 else some (-1:Int)
def c05(a:Expr):A3 Bool:=(b84 a.Op).bind λj=>if((a.Args.length:Int)!=j)then some false else if(a.Op==1)then(a4y a.Value a.Dim).bind λm=>(if m.2then some (a.Name.toList==a3j.toList)else some false).bind λe=>some e else if(a.Op==2)then(b0e a.Name).bind λk=>(if k then some ((a.Value.Num==0)&&((a.Value.Den==0)&&(true)))else some false).bind λg=>(if g then some (a.Dim==0)else some false).bind λf=>some f else if(a.Op==3)then(if(a.Value.Den==1)then some (decide (a.Value.Num>=1))else some false).bind λl=>(if l then some (decide (a.Value.Num<=45))else some false).bind λh=>(if h then some (a.Dim==0)else some false).bind λi=>(if i then some (a.Name.toList==a3j.toList)else some false).bind λc=>some c else(if((a.Value.Num==0)&&((a.Value.Den==0)&&(true)))then some (a.Dim==0)else some false).bind λb=>(if b then some (a.Name.toList==a3j.toList)else some false).bind λd=>some d
structure Ring_syntax_form where
 f_syntax_form:Expr->Option Bool
 f_syntax_form_1:Expr->Option Bool
 f_slices_ContainsFunc_of_api_Expr:(List Expr)->Option Bool
 f_slices_IndexFunc_of_api_Expr:(List Expr)->Option Int
def b60(R:Ring_syntax_form)(a:Expr):A3 Bool:=(c05 a).bind λb=>(if b then(R.f_slices_ContainsFunc_of_api_Expr a.Args).bind λc=>some (!c)else some false).bind λd=>some d
def c0q(R:Ring_syntax_form)(b:Expr):A3 Bool:=(R.f_syntax_form b).bind λa=>some (!a)
def a0y(R:Ring_syntax_form)(b:O Expr):A3 Bool:=(R.f_slices_IndexFunc_of_api_Expr b).bind λa=>some (decide (a>=0))
def a6i(R:Ring_syntax_form)(b:O Expr)(e:Int->A3 Int)(a:Int):A3 Int:=if(decide (a<(b.length:Int)))then(c7 b a).bind λc=>(R.f_syntax_form_1 c).bind λd=>if d then some a else e (i64 (a+1))else some (-1:Int)
def a1m(R:Ring_syntax_form)(a:O Expr):A3 Int:=d9 FU (a6i R a) 0
def e6:Nat->Ring_syntax_form|0=>⟨λ_=>none,λ_=>none,λ_=>none,λ_=>none⟩|n+1=>⟨b60 (e6 n),c0q (e6 n),a0y (e6 n),a1m (e6 n)⟩
def d9s(a:Expr):A3 Bool:=(e6 FU).f_syntax_form a
def a1k(a:Expr):A3 Bool:=(d57 a).bind λd=>(if(decide (d<=10))then(e0h a).bind λf=>some (decide (f<=60))else some false).bind λb=>(if b then(d9s a).bind λe=>some e else some false).bind λc=>some c
def b2d:A3 (O syntax_entry):=some [(⟨d9m,1⟩:syntax_entry),(⟨b8e,2⟩:syntax_entry),(⟨c0u,3⟩:syntax_entry),(⟨c66,4⟩:syntax_entry),(⟨c0r,5⟩:syntax_entry)]
def a8y(b:Version)(f:Int->A3 Bool)(a:Int):A3 Bool:=if(decide (a<(b.Reduces.length:Int)))then(c7 b.Reduces a).bind λc=>(b2d).bind λd=>(a4u d c.Benefit).bind λg=>(if(g.toList==a3j.toList)then some true else(a1k c.By).bind λe=>some (!e)).bind λh=>if h then some false else f (i64 (a+1))else some true
def b3e(a:Version):A3 Bool:=d9 FU (a8y a) 0
def a8t(c:Version)(e:(Version×Int)->A3 Bool)(a:Version×Int):A3 Bool:=if(decide (a.2<(c.Grants.length:Int)))then(c7 c.Grants a.2).bind λb=>(b2d).bind λf=>(a4u f b.Benefit).bind λh=>(if(h.toList==a3j.toList)then some true else(a1k b.If).bind λj=>some (!j)).bind λg=>(if g then some true else(a1k b.Pay).bind λd=>some (!d)).bind λi=>if i then some false else e (a.1,i64 (a.2+1))else joinC b3e a.1
def b3b(a:Version):A3 Bool:=d9 FU (a8t a) (a,0)
def a8w(c:Version)(d:(Version×Int)->A3 Bool)(a:Version×Int):A3 Bool:=if(decide (a.2<(c.Lets.length:Int)))then(c7 c.Lets a.2).bind λb=>(b0e b.Name).bind λg=>(if(!g)then some true else(a1k b.Body).bind λf=>some (!f)).bind λe=>if e then some false else d (a.1,i64 (a.2+1))else joinC b3b a.1
def b3i(a:Version):A3 Bool:=d9 FU (a8w a) (a,0)
def a8v(b:Version)(c:(Version×Int)->A3 Bool)(a:Version×Int):A3 Bool:=if(decide (a.2<(b.Series.length:Int)))then(c7 b.Series a.2).bind λd=>(b07 d).bind λe=>if(!e)then some false else c (a.1,i64 (a.2+1))else joinC b3i a.1
def b39(a:Version):A3 Bool:=d9 FU (a8v a) (a,0)
def a8u(h:Version)(g:(Version×Int)->A3 Bool)(b:Version×Int):A3 Bool:=if(decide (b.2<(h.Credits.length:Int)))then(c7 h.Credits b.2).bind λa=>(c1i).bind λf=>(a4u f a.Kind).bind λe=>(if(e.toList==a3j.toList)then some true else some (decide (a.Limit<0))).bind λd=>(if d then some true else some (decide (a.Limit>73049))).bind λc=>if c then some false else g (b.1,i64 (b.2+1))else joinC b39 b.1
def a5f(a:Version):A3 Bool:=(if(decide ((a.Credits.length:Int)>6))then some true else some (decide ((a.Series.length:Int)>20))).bind λc=>(if c then some true else some (decide ((a.Lets.length:Int)>10))).bind λb=>(if b then some true else some (decide ((a.Grants.length:Int)>5))).bind λe=>(if e then some true else some (decide ((a.Reduces.length:Int)>5))).bind λd=>if d then some false else d9 FU (a8u a) (a,0)
def a7q(a:Version):A3 Bool:=(m7 a.From).bind λh=>if(!h)then(if true then some true else some (decide (a.Rounding.Unit<1))).bind λg=>(if g then some true else some (decide (a.Rounding.Unit>100000))).bind λf=>if f then some false else joinC a5f a else(c0l).bind λe=>(a4u e a.Rounding.Mode).bind λd=>(if(d.toList==a3j.toList)then some true else some (decide (a.Rounding.Unit<1))).bind λb=>(if b then some true else some (decide (a.Rounding.Unit>100000))).bind λc=>if c then some false else joinC a5f a
def b77(b:Statute)(e:Int->A3 Bool)(a:Int):A3 Bool:=if(decide (a<(b.Versions.length:Int)))then(c7 b.Versions a).bind λd=>(a7q d).bind λc=>if(!c)then some false else e (i64 (a+1))else some true
def b7h(a:Statute):A3 Bool:=(b0e a.Name).bind λd=>(if(!d)then some true else some (decide (a.Currency<1))).bind λf=>(if f then some true else some (decide (a.Currency>999))).bind λb=>(if b then some true else some (decide ((a.Versions.length:Int)<1))).bind λe=>(if e then some true else some (decide ((a.Versions.length:Int)>6))).bind λc=>if c then some false else d9 FU (b77 a) 0
def a21(a:A4×Bool):A3 (Int×Bool):=if a.2then some (3,true)else if(a.1.toList==e39.toList)then some (4,true)else some (0,false)
def a9q(a:A4×Bool):A3 (Int×Bool):=if a.2then some (2,true)else if(a.1.toList==b6u.toList)then joinC a21 (a.1,a.1.toList==b6u.toList)else if(a.1.toList==c5w.toList)then joinC a21 (a.1,a.1.toList==c5w.toList)else if(a.1.toList==b0b.toList)then joinC a21 (a.1,a.1.toList==b0b.toList)else if(a.1.toList==b3z.toList)then joinC a21 (a.1,a.1.toList==b3z.toList)else if(a.1.toList==c3c.toList)then joinC a21 (a.1,a.1.toList==c3c.toList)else if(a.1.toList==c3j.toList)then joinC a21 (a.1,a.1.toList==c3j.toList)else joinC a21 (a.1,a.1.toList==c6v.toList)
def b4n(a:A4):A3 (Int×Bool):=if(a.toList==e0r.toList)then joinC a9q (a,a.toList==e0r.toList)else if(a.toList==d3o.toList)then joinC a9q (a,a.toList==d3o.toList)else joinC a9q (a,a.toList==c6q.toList)
def b9o(b:A4):A3 Bool:=(a1k (⟨2,(⟨0,0⟩:fQ),0,b,[]⟩:Expr)).bind λa=>some a
def b9r(a:iQ)(b:Let):A3 Bool:=some (a.Name.toList==b.Name.toList)
def b42(a:iQ):A3 Bool:=(if(decide (a.Dim<1))then some true else some (decide (a.Dim>4))).bind λb=>some b
def c07(d:O iQ)(c:((A4×Int×Bool)×Int)->A3 (Int×Bool))(a:(A4×Int×Bool)×Int):A3 (Int×Bool):=if decide (a.2<0)then some (0,false)else(c7 d a.2).bind λb=>if(b.Name.toList==a.1.1.toList)then some ((a.1.1,b.Dim,true).2.1,(a.1.1,b.Dim,true).2.2)else c ((a.1.1,a.1.2.1,a.1.2.2),a.2-1)
def b6c(b:A4)(c:O iQ):A3 (Int×Bool):=(b4n b).bind λa=>if a.2then some (a.1,true)else d9 FU (c07 c) ((b,0,false),(c.length:Int)-1)
def b19(a:(O Int)×Int×Bool):A3 (Int×Bool):=if a.2.2then(c7 a.1 0).bind λd=>(if(d==1)then(c7 a.1 1).bind λc=>some (c==1)else some false).bind λh=>some (1,h)else if(a.2.1==21)then(c7 a.1 1).bind λi=>(c7 a.1 0).bind λe=>(if(e==1)then(c7 a.1 1).bind λb=>(c7 a.1 2).bind λg=>some (b==g)else some false).bind λf=>some (i,f)else some (0,false)
def a2l(a:(O Int)×Int×Bool):A3 (Int×Bool):=if a.2.2then(c7 a.1 0).bind λd=>(c7 a.1 1).bind λc=>(if(d==c)then(c7 a.1 0).bind λb=>some (b !=1)else some false).bind λe=>some (1,e)else if(a.2.1==17)then joinC b19 (a.1,a.2.1,a.2.1==17)else joinC b19 (a.1,a.2.1,a.2.1==18)
def a5q(a:(O Int)×Int×Bool):A3 (Int×Bool):=if a.2.2then(c7 a.1 0).bind λr=>(c7 a.1 0).bind λq=>(c7 a.1 1).bind λt=>(if(q==t)then(c7 a.1 0).bind λs=>some (s !=1)else some false).bind λn=>some (r,n)else if(a.2.1==9)then(c7 a.1 0).bind λg=>if(g==2)then(c7 a.1 1).bind λd=>(c7 a.1 1).bind λh=>some (d,h !=1)else(c7 a.1 0).bind λe=>(c7 a.1 1).bind λb=>(if(b==2)then(c7 a.1 0).bind λm=>some (m !=1)else some false).bind λi=>some (e,i)else if(a.2.1==10)then(c7 a.1 1).bind λo=>if(o==2)then(c7 a.1 0).bind λf=>(c7 a.1 0).bind λp=>some (f,p !=1)else(c7 a.1 0).bind λl=>(c7 a.1 1).bind λj=>(if(l==j)then(c7 a.1 0).bind λk=>some (k !=1)else some false).bind λc=>some (2,c)else if(a.2.1==11)then joinC a2l (a.1,a.2.1,a.2.1==11)else if(a.2.1==12)then joinC a2l (a.1,a.2.1,a.2.1==12)else if(a.2.1==13)then joinC a2l (a.1,a.2.1,a.2.1==13)else if(a.2.1==14)then joinC a2l (a.1,a.2.1,a.2.1==14)else if(a.2.1==15)then joinC a2l (a.1,a.2.1,a.2.1==15)else joinC a2l (a.1,a.2.1,a.2.1==16)
def b0y(a:(O Int)×Int×Bool):A3 (Int×Bool):=if a.2.2then(c7 a.1 0).bind λb=>(c7 a.1 0).bind λd=>some (b,d !=1)else if(a.2.1==5)then(c7 a.1 0).bind λc=>some (1,c==1)else if(a.2.1==7)then joinC a5q (a.1,a.2.1,a.2.1==7)else if(a.2.1==8)then joinC a5q (a.1,a.2.1,a.2.1==8)else if(a.2.1==19)then joinC a5q (a.1,a.2.1,a.2.1==19)else joinC a5q (a.1,a.2.1,a.2.1==20)
def b9i(a:Int)(b:O Int):A3 (Int×Bool):=if(a==4)then joinC b0y (b,a,a==4)else joinC b0y (b,a,a==6)
structure Ring_typing_infer where f_typing_infer:Expr->(List iQ)->Option (Int×Int)
def i4w(R:Ring_typing_infer)(d:Expr)(g:O iQ)(e:(Expr×(O Int)×Int)->A3 (Int×Int))(a:Expr×(O Int)×Int):A3 (Int×Int):=if(decide (a.2.2<(d.Args.length:Int)))then(c7 d.Args a.2.2).bind λh=>(R.f_typing_infer h g).bind λb=>if(b.2!=0)then some (0,b.2)else(a4n 8 a.2.1 [b.1]).bind λf=>e (a.1,f,i64 (a.2.2+1))else(b9i a.1.Op a.2.1).bind λc=>if(!c.2)then some (0,6)else some (c.1,0)
def b4g(R:Ring_typing_infer)(a:Expr)(c:O iQ):A3 (Int×Int):=if(a.Op==1)then some (a.Dim,0)else if(a.Op==3)then some (4,0)else if(a.Op==2)then(b6c a.Name c).bind λb=>if(!b.2)then some (0,5)else some (b.1,0)else d9 FU (i4w R a c) (a,[],0)
def a0v:Nat->Ring_typing_infer|0=>⟨λ_ _=>none⟩|n+1=>⟨b4g (a0v n)⟩
def d5q(a:Expr)(b:O iQ):A3 (Int×Int):=(a0v FU).f_typing_infer a b
def a50(b:O iQ)(e:Int->A3 Int)(a:Int):A3 Int:=if(decide (a<(b.length:Int)))then(c7 b a).bind λc=>(b42 c).bind λd=>if d then some a else e (i64 (a+1))else some (-1:Int)
def a19(a:O iQ):A3 Int:=d9 FU (a50 a) 0
def a0i(b:O iQ):A3 Bool:=(a19 b).bind λa=>some (decide (a>=0))
def b4y(c:Expr)(a:O iQ):A3 (Int×Int):=(a1k c).bind λe=>(if(!e)then some true else(a0i a).bind λf=>some f).bind λd=>if d then some (0,1)else(d5q c a).bind λb=>some (b.1,b.2)
def a5l(c:O iQ)(a:Let)(d:Int->A3 Int)(b:Int):A3 Int:=if(decide (b<(c.length:Int)))then(c7 c b).bind λe=>(b9r e a).bind λf=>if f then some b else d (i64 (b+1))else some (-1:Int)
def a1e(b:O iQ)(a:Let):A3 Int:=d9 FU (a5l b a) 0
def a0q(c:O iQ)(a:Let):A3 Bool:=(a1e c a).bind λb=>some (decide (b>=0))
def i4k(d:O Let)(j:((O iQ)×Int)->A3 ((O iQ)×Int))(a:(O iQ)×Int):A3 ((O iQ)×Int):=if(decide (a.2<(d.length:Int)))then(c7 d a.2).bind λb=>(b4n b.Name).bind λh=>(if h.2then some true else(b9o b.Name).bind λf=>some (!f)).bind λe=>if e then some ([],5)else(a0q a.1 b).bind λi=>if i then some ([],10)else(b4y b.Body a.1).bind λc=>if(c.2!=0)then some ([],c.2)else(a4n 24 a.1 [(⟨b.Name,c.1⟩:iQ)]).bind λg=>j (g,i64 (a.2+1))else some (a.1,0)
def b9n(a:O Let):A3 ((O iQ)×Int):=if(decide ((a.length:Int)>10))then some ([],7)else d9 FU (i4k a) ([],0)
def b5a(a b:Credit):A3 Bool:=some (a.Kind==b.Kind)
def b57(a b:Grant):A3 Bool:=some (a.Benefit==b.Benefit)
def b8w(c:Expr)(d:O iQ)(b:Int):A3 Int:=(b4y c d).bind λa=>if(a.2!=0)then some a.2else if(a.1!=b)then some 6 else some 0
def b5b(a b:Reduce):A3 Bool:=some (a.Benefit==b.Benefit)
def a4i(c:O Credit)(a:Credit)(d:Int->A3 Int)(b:Int):A3 Int:=if(decide (b<(c.length:Int)))then(c7 c b).bind λe=>(b5a e a).bind λf=>if f then some b else d (i64 (b+1))else some (-1:Int)
def a13(b:O Credit)(a:Credit):A3 Int:=d9 FU (a4i b a) 0
def a0e(c:O Credit)(a:Credit):A3 Bool:=(a13 c a).bind λb=>some (decide (b>=0))
def a4s(c:O Grant)(a:Grant)(d:Int->A3 Int)(b:Int):A3 Int:=if(decide (b<(c.length:Int)))then(c7 c b).bind λe=>(b57 e a).bind λf=>if f then some b else d (i64 (b+1))else some (-1:Int)
def a15(b:O Grant)(a:Grant):A3 Int:=d9 FU (a4s b a) 0
def a0h(c:O Grant)(a:Grant):A3 Bool:=(a15 c a).bind λb=>some (decide (b>=0))
def a4k(c:O Reduce)(a:Reduce)(d:Int->A3 Int)(b:Int):A3 Int:=if(decide (b<(c.length:Int)))then(c7 c b).bind λe=>(b5b e a).bind λf=>if f then some b else d (i64 (b+1))else some (-1:Int)
def a0x(b:O Reduce)(a:Reduce):A3 Int:=d9 FU (a4k b a) 0
def a0d(c:O Reduce)(a:Reduce):A3 Bool:=(a0x c a).bind λb=>some (decide (b>=0))
def i4s(d:Version×(O iQ)×Int)(g:(Version×(O iQ)×Int)->A3 Int)(a:Version×(O iQ)×Int):A3 Int:=if(decide (a.2.2<(d.1.Reduces.length:Int)))then(c7 d.1.Reduces a.2.2).bind λc=>(a1x a.1.Reduces 0 a.2.2).bind λe=>(a0d e c).bind λf=>if f then some 10 else(b8w c.By a.2.1 2).bind λb=>if(b !=0)then some b else g (a.1,a.2.1,i64 (a.2.2+1))else some 0
def i4o(h:Version×(O iQ)×Int)(g:(Version×(O iQ)×Int)->A3 Int)(a:Version×(O iQ)×Int):A3 Int:=if(decide (a.2.2<(h.1.Grants.length:Int)))then(c7 h.1.Grants a.2.2).bind λb=>(a1x a.1.Grants 0 a.2.2).bind λe=>(a0h e b).bind λf=>if f then some 10 else(b8w b.If a.2.1 1).bind λd=>if(d !=0)then some d else(b8w b.Pay a.2.1 4).bind λc=>if(c !=0)then some c else g (a.1,a.2.1,i64 (a.2.2+1))else d9 FU (i4s a) (a.1,a.2.1,0)
def i4r(d:Version×(O iQ)×Int)(f:(Version×(O iQ)×Int)->A3 Int)(a:Version×(O iQ)×Int):A3 Int:=if(decide (a.2.2<(d.1.Series.length:Int)))then(c7 d.1.Series a.2.2).bind λe=>(if(decide (a.2.2>0))then(c7 a.1.Series (i64 (a.2.2-1))).bind λc=>some (decide (e.Year<=c.Year))else some false).bind λb=>if b then some 1 else f (a.1,a.2.1,i64 (a.2.2+1))else d9 FU (i4o a) (a.1,a.2.1,0)
def i4p(b:Version)(c:(Version×(O iQ)×Int)->A3 Int)(a:Version×(O iQ)×Int):A3 Int:=if(decide (a.2.2<(b.Credits.length:Int)))then(c7 b.Credits a.2.2).bind λf=>(a1x a.1.Credits 0 a.2.2).bind λe=>(a0e e f).bind λd=>if d then some 10 else c (a.1,a.2.1,i64 (a.2.2+1))else d9 FU (i4r a) (a.1,a.2.1,0)
def b0q(b:Version):A3 Int:=(b9n b.Lets).bind λa=>if(a.2!=0)then some a.2else d9 FU (i4p b) (b,a.1,0)
def i50(d:Statute)(e:(Statute×Int)->A3 (Int×Int))(a:Statute×Int):A3 (Int×Int):=if(decide (a.2<(d.Versions.length:Int)))then(c7 d.Versions a.2).bind λb=>(if(decide (a.2>0))then(c7 a.1.Versions (i64 (a.2-1))).bind λg=>some (decide (b.From<=g.From))else some false).bind λf=>if f then some (a.2,1)else(b0q b).bind λc=>if(c !=0)then some (a.2,c)else e (a.1,i64 (a.2+1))else some (0,0)
def b4b(a:Statute):A3 (Int×Int):=(b7h a).bind λb=>if(!b)then some (0,1)else d9 FU (i50 a) (a,0)
def c02(k:Laws):A3 Int:=lpC (k,(0:Int)) λl⟨c,e⟩=>if(decide (e<(k.States.length:Int)))then(c7 k.States e).bind λi=>(if(decide (i.State<0))then some true else some (decide (i.State>=6))).bind λn=>(if n then some true else(if(decide (e>0))then(c7 c.States (i64 (e-1))).bind λm=>some (decide (i.State<=m.State))else some false).bind λp=>some p).bind λo=>if o then some 1 else l (c,i64 (e+1))else lpC (c,(0:Int)) λh⟨g,a⟩=>if(decide (a<(c.States.length:Int)))then(c7 c.States a).bind λj=>(b4b j.Statute).bind λd=>if(d.2!=0)then some d.2else h (g,i64 (a+1))else(a9n g.Treaty).bind λb=>if(b !=0)then some b else(a5r g.Rates).bind λf=>some f
def b8v(a:Laws)(d:Int):A3 (bQ×Int):=(c02 a).bind λb=>if(b !=0)then some ((⟨(⟨[],[],[]⟩:Laws),0,(⟨0,0,0,0,[]⟩:Rules)⟩:bQ),b)else(b2q a.Treaty d).bind λc=>if(!c.2)then some ((⟨(⟨[],[],[]⟩:Laws),0,(⟨0,0,0,0,[]⟩:Rules)⟩:bQ),1)else some ((⟨a,d,c.1⟩:bQ),0)
def a7y(d:bQ)(e:Int):A3 (Statute×Bool):=lpC (([]:O Version),(⟨a3j,0,[]⟩:Statute),(0:Int)) λf⟨g,c,a⟩=>if(decide (a<(d.laws.States.length:Int)))then(c7 d.laws.States a).bind λb=>if(b.State==e)then some (b.Statute,true)else f (g,(⟨c.Name,c.Currency,[]⟩:Statute),i64 (a+1))else some ((⟨a3j,0,[]⟩:Statute),false)
def a2v(c:bQ)(e:Int):A3 (Statute×Version×Int):=(a7y c e).bind λa=>(b1v a.1 c.day).bind λb=>(if(!a.2)then some true else some (!b.2)).bind λd=>if d then some ((⟨a3j,0,[]⟩:Statute),(⟨0,(⟨0,0⟩:Rounding),[],[],[],[],[]⟩:Version),9)else some (a.1,b.1,0)
def a08(b:bQ)(c:Int):A3 Bool:=(q9 b.rules.Members c).bind λa=>some a
def a81(c:lQ×(O Int)×Int)(f:(lQ×(O Int)×Int)->A3 (O Int))(e:(lQ×(O Int)×Rules×Int)->A3 (O Int))(a:lQ×(O Int)×Rules×Int):A3 (O Int):=if(decide (a.2.2.2<(c.1.postings.length:Int)))then(c7 c.1.postings a.2.2.2).bind λb=>(a4n 8 a.2.1 [min (i64 (b.Span.From+a.2.2.1.PostingLimit)) 73049]).bind λd=>e (a.1,d,a.2.2.1,i64 (a.2.2.2+1))else f (a.1,a.2.1,i64 (c.2.2+1))
def a89(d:lQ×(O Int)×Int)(f:(lQ×(O Int)×Int)->A3 (O Int))(a:lQ×(O Int)×Int):A3 (O Int):=if(decide (a.2.2<(d.1.rules.length:Int)))then(c7 d.1.rules a.2.2).bind λe=>(a4n 8 a.2.1 [e.From]).bind λg=>d9 FU (a81 a f) (a.1,g,e,0)else(b8s a.2.1).bind λc=>(a0n c).bind λb=>some b
def a8a(c:lQ)(e:(lQ×(O Int)×Int)->A3 (O Int))(a:lQ×(O Int)×Int):A3 (O Int):=if(decide (a.2.2<(c.facts.length:Int)))then(c7 c.facts a.2.2).bind λb=>(a4n 8 a.2.1 [b.Span.From,b.Span.To]).bind λd=>e (a.1,d,i64 (a.2.2+1))else d9 FU (a89 a) (a.1,a.2.1,0)
def a6t(a:lQ):A3 (O Int):=d9 FU (a8a a) (a,[0,73049,a.span.From,a.span.To],0)
def b8r(k:(lQ×(O gQ)×(O Int)×Int)->A3 (O gQ))(a:lQ×(O gQ)×(O Int)×Int):A3 (O gQ):=if(decide ((i64 (a.2.2.2+1))<(a.2.2.1.length:Int)))then(c7 a.2.2.1 a.2.2.2).bind λx=>(c7 a.2.2.1 a.2.2.2).bind λo=>(a7m a.1 o).bind λc=>if(c.2==0)then k (a.1,a.2.1,a.2.2.1,i64 (a.2.2.2+1))else(if(decide ((a.2.1.length:Int)>0))then(c7 a.2.1 (i64 ((a.2.1.length:Int)-1))).bind λy=>(c7 a.2.1 (i64 ((a.2.1.length:Int)-1))).bind λq=>(c7 a.2.2.1 a.2.2.2).bind λv=>(c7 a.2.2.1 a.2.2.2).bind λi=>some (q.Span.To==i)else some false).bind λg=>(if g then(c7 a.2.1 (i64 ((a.2.1.length:Int)-1))).bind λr=>(c7 a.2.1 (i64 ((a.2.1.length:Int)-1))).bind λh=>some (h.State==c.1)else some false).bind λd=>(if d then(c7 a.2.1 (i64 ((a.2.1.length:Int)-1))).bind λu=>(c7 a.2.1 (i64 ((a.2.1.length:Int)-1))).bind λj=>some (j.Rule==c.2)else some false).bind λl=>if l then(c7 a.2.2.1 (i64 (a.2.2.2+1))).bind λp=>(c7 a.2.2.1 (i64 (a.2.2.2+1))).bind λn=>(c7 a.2.1 (i64 ((a.2.1.length:Int)-1))).bind λt=>(c7 a.2.1 (i64 ((a.2.1.length:Int)-1))).bind λb=>k (a.1,a8h a.2.1 (i64 ((a.2.1.length:Int)-1)) (⟨(⟨b.Span.From,n⟩:Span),b.State,b.Rule⟩:gQ),a.2.2.1,i64 (a.2.2.2+1))else(c7 a.2.2.1 a.2.2.2).bind λs=>(c7 a.2.2.1 a.2.2.2).bind λe=>(c7 a.2.2.1 (i64 (a.2.2.2+1))).bind λw=>(c7 a.2.2.1 (i64 (a.2.2.2+1))).bind λm=>(a4n 32 a.2.1 [(⟨(⟨e,m⟩:Span),c.1,c.2⟩:gQ)]).bind λf=>k (a.1,f,a.2.2.1,i64 (a.2.2.2+1))else some a.2.1
def a4h(c:O aQ)(d:O Rules):A3 (O gQ):=(a9c c d).bind λa=>if(!a.2)then some []else(a6t a.1).bind λb=>d9 FU b8r (a.1,[],b,0)
def a1s(h:Int)(b:O Span)(j:O Period)(i:Scheme)(g:O Period):A3 ((O Period)×(O Period)):=lpC (g,([]:O Period),(0:Int)) λf⟨c,k,a⟩=>if(decide (a<(b.length:Int)))then(c7 b a).bind λe=>(a4n 32 c [(⟨i.State,h,e⟩:Period)]).bind λd=>f (d,[],i64 (a+1))else some ([],c)
def b1h(c:O gQ)(g e:Int)(d:((O Span)×Int)->A3 (O Span))(a:(O Span)×Int):A3 (O Span):=if(decide (a.2<(c.length:Int)))then(c7 c a.2).bind λb=>(if(b.State==g)then some (decide (b.Rule<=e))else some false).bind λi=>if i then(a4n 16 a.1 [b.Span]).bind λh=>d (h,i64 (a.2+1))else d (a.1,i64 (a.2+1))else(a2w a.1).bind λf=>some f
def b1e(b:O gQ)(c a:Int):A3 (O Span):=d9 FU (b1h b c a) ([],0)
def b3o:A3 (O Anon378):=some [(⟨6,2⟩:Anon378),(⟨9,3⟩:Anon378),(⟨7,4⟩:Anon378),(⟨8,5⟩:Anon378),(⟨10,6⟩:Anon378),(⟨5,7⟩:Anon378)]
def b56(a:Credit)(b:Int):A3 Bool:=some (a.Kind==b)
def q0(c:O Credit)(a:Int)(d:Int->A3 Int)(b:Int):A3 Int:=if(decide (b<(c.length:Int)))then(c7 c b).bind λe=>(b56 e a).bind λf=>if f then some b else d (i64 (b+1))else some (-1:Int)
def t7(b:O Credit)(a:Int):A3 Int:=d9 FU (q0 b a) 0
def b43(b:Version)(d:Int):A3 (Int×Bool):=(t7 b.Credits d).bind λa=>if(decide (a<0))then some (0,false)else(c7 b.Credits a).bind λc=>some (c.Limit,true)
def b6o(c:O aQ)(g e:Int)(d:((O Span)×Int)->A3 (O Span))(a:(O Span)×Int):A3 (O Span):=if(decide (a.2<(c.length:Int)))then(c7 c a.2).bind λb=>(a4e b).bind λk=>(if k then some (b.Kind==g)else some false).bind λh=>(if h then some (b.State==e)else some false).bind λf=>if f then(a4n 16 a.1 [b.Span]).bind λl=>d (l,i64 (a.2+1))else d (a.1,i64 (a.2+1))else(a2i c).bind λi=>(s6 a.1 i).bind λj=>some j
def b7p(b:O aQ)(c a:Int):A3 (O Span):=d9 FU (b6o b c a) ([],0)
def b2y(c:(Int×(O Span)×(O Span)×Int)->A3 (O Span))(a:Int×(O Span)×Span×(O Span)×Int×Int):A3 (O Span):=(a4n 16 a.2.1 [a.2.2.1]).bind λb=>c (i64 (a.1-(i64 (a.2.2.1.To-a.2.2.1.From))),b,a.2.2.2.1,i64 (a.2.2.2.2.2+1))
def b4k(i:O Span)(h:Int):A3 (O Span):=(a2w i).bind λe=>lpC (h,([]:O Span),e,(0:Int)) λg⟨c,d,f,a⟩=>if(decide (a<(e.length:Int)))then(c7 f a).bind λj=>(c7 f a).bind λb=>if(decide (c<1))then some d else if(decide ((i64 (b.To-b.From))>c))then joinC (b2y g) (c,d,(⟨b.From,i64 (b.From+c)⟩:Span),f,(e.length:Int),a)else joinC (b2y g) (c,d,b,f,(e.length:Int),a)else some d
def b1c(t:O aQ)(y:Int)(v:Span)(z:Int):A3 (O Span):=lpC (v,([]:O Span),(1:Int)) λu⟨x,s,f⟩=>if(decide (f<=99))then(a4f t).bind λr=>lpC (x,s,([]:O Span),r,(0:Int)) λd⟨c,e,h,g,a⟩=>if(decide (a<(r.length:Int)))then(c7 g a).bind λw=>(c7 g a).bind λb=>(if(b.Kind==10)then some (b.State==y)else some false).bind λj=>(if j then some (b.Ref==f)else some false).bind λi=>if i then(a4n 16 h [b.Span]).bind λo=>d (c,e,o,g,i64 (a+1))else d (c,e,h,g,i64 (a+1))else if(decide ((h.length:Int)>0))then(a2i t).bind λl=>(s6 h l).bind λp=>(s6 p c).bind λk=>(b4k k z).bind λq=>(a4n 16 e q).bind λn=>u (c,n,i64 (f+1))else u (c,e,i64 (f+1))else(a2w s).bind λm=>some m
def a7e(D:O aQ)(K:O gQ)(k:O Scheme)(y:Int):A3 ((O Period)×Int):=(if(decide (y<0))then some true else some (decide (y>73049))).bind λJ=>if J then some ([],1)else lpC (0:Int) λE n=>if(decide (n<(k.length:Int)))then(c7 k n).bind λw=>(if(decide (w.State<0))then some true else some (decide (w.State>=6))).bind λI=>(if I then some true else(if(decide (n>0))then(c7 k (i64 (n-1))).bind λH=>some (decide (w.State<=H.State))else some false).bind λG=>some G).bind λL=>if L then some ([],1)else E (i64 (n+1))else lpC (([]:O Period),([]:O Period),(⟨0,y⟩:Span),(0:Int)) λq⟨C,M,l,i⟩=>if(decide (i<(k.length:Int)))then(c7 k i).bind λj=>(b1e K j.State 3).bind λp=>(s6 p l).bind λB=>(a1s 1 B [] j C).bind λx=>(b3o).bind λo=>lpC (x.2,([]:O Period),l,j,o,(0:Int),()) λh⟨f,P,c,a,e,b,N⟩=>if(decide (b<(o.length:Int)))then(c7 e b).bind λF=>(c7 e b).bind λd=>(b43 a.Version d.kind).bind λg=>if(!g.2)then h (f,[],c,a,e,i64 (b+1),())else(b7p D d.kind a.State).bind λs=>(s6 s c).bind λm=>(if(g.1!=0)then some (d.kind==10)else some false).bind λu=>if u then(b1c D a.State c g.1).bind λA=>(a1s d.rank A [] a f).bind λt=>h (t.2,[],c,a,e,i64 (b+1),())else if(g.1!=0)then(b4k m g.1).bind λv=>(a1s d.rank v [] a f).bind λz=>h (z.2,[],c,a,e,i64 (b+1),())else(a1s d.rank m [] a f).bind λr=>h (r.2,[],c,a,e,i64 (b+1),())else q (f,[],c,i64 (i+1))else some (C,0)
def b9z(f:O Period)(h d:Int):A3 (O Span):=lpC (([]:O Span),(0:Int)) λe⟨b,a⟩=>if(decide (a<(f.length:Int)))then(c7 f a).bind λc=>(if(c.State==h)then(if(d==0)then some true else some (c.Rank==d)).bind λi=>some i else some false).bind λg=>if g then(a4n 16 b [c.Span]).bind λk=>e (k,i64 (a+1))else e (b,i64 (a+1))else(a2w b).bind λj=>some j
def b2x(i:O Period):A3 (A3 (Ar 6 (Ar 7 (O Span)))):=lpC ((arZ 6 (arZ 7 []:Ar 7 (O Span)):Ar 6 (Ar 7 (O Span))),(0:Int)) λf⟨e,a⟩=>if(decide (a<6))then lpC (e,(0:Int)) λg⟨c,b⟩=>if(decide (b<7))then(b9z i a (i64 (b+1))).bind λh=>(c7 c.l a).bind λk=>(d0n 7 b).bind λj=>(c7 c.l a).bind λd=>g (Ar.set c a (Ar.set d b h),i64 (b+1))else f (c,i64 (a+1))else some (some e)
def a4a(l:Ar 6 (Ar 7 (O Span)))(g:Int):A3 (Int×(O Int)):=lpC (([]:O Int),(0:Int)) λf⟨j,c⟩=>if(decide (c<7))then lpC (j,(0:Int)) λe⟨b,a⟩=>if(decide (a<6))then(c7 l.l a).bind λk=>(c7 k.l c).bind λh=>(a8r h g).bind λi=>if i then(a4n 8 b [a]).bind λd=>e (d,i64 (a+1))else e (b,i64 (a+1))else if(decide ((b.length:Int)>0))then some (i64 (c+1),b)else f (b,i64 (c+1))else some (0,[])
def b90(c:O Span):A3 (Int×Bool):=(a2w c).bind λa=>if((a.length:Int)==0)then some (0,false)else(c7 a (i64 ((a.length:Int)-1))).bind λd=>(c7 a (i64 ((a.length:Int)-1))).bind λb=>some (i64 (b.To-1),true)
def a1b(g:Ar 6 (Ar 7 (O Span)))(d b:Int):A3 Int:=(c7 g.l d).bind λe=>(c7 e.l 0).bind λf=>(s6 f (⟨0,b⟩:Span)).bind λc=>(b90 c).bind λa=>if(!a.2)then some (-1:Int)else some a.1
def c4p(h:O Span)(e:Int):A3 (Int×Bool):=if(decide (e<0))then some (0,false)else(a2w h).bind λf=>lpC (e,f,(0:Int)) λg⟨d,c,b⟩=>if(decide (b<(f.length:Int)))then(c7 c b).bind λi=>(c7 c b).bind λa=>if(decide (d<(i64 (a.To-a.From))))then some (i64 (a.From+d),true)else g (i64 (d-(i64 (a.To-a.From))),c,i64 (b+1))else some (0,false)
def a2f(g:Ar 6 (Ar 7 (O Span)))(d b:Int):A3 Int:=(c7 g.l d).bind λe=>(c7 e.l 0).bind λf=>(s6 f (⟨i64 (b+1),73049⟩:Span)).bind λc=>(c4p c 0).bind λa=>if(!a.2)then some 73049 else some a.1
def a69(h:Ar 6 (Ar 7 (O Span)))(e:O Int)(c:Int):A3 Int:=(c7 e 0).bind λq=>(a1x e 1 (e.length:Int)).bind λn=>lpC (q,(0:Int)) λm⟨d,i⟩=>if(decide (i<(n.length:Int)))then(c7 n i).bind λl=>(a1b h l c).bind λr=>(a1b h d c).bind λo=>if(decide (r>o))then m (l,i64 (i+1))else m (d,i64 (i+1))else(a1b h d c).bind λp=>if(decide (p>=0))then some d else lpC (d,(0:Int)) λf⟨b,a⟩=>if(decide (a<(e.length:Int)))then(c7 e a).bind λg=>(a2f h g c).bind λk=>(a2f h b c).bind λj=>if(decide (k<j))then f (g,i64 (a+1))else f (b,i64 (a+1))else some b
def b17(b:Ar 6 (Ar 7 (O Span)))(c:Int):A3 (Int×Int×Bool):=(a4a b c).bind λa=>if(a.1==0)then some ((-1:Int),0,false)else(a69 b a.2 c).bind λd=>some (d,a.1,true)
def a72(d f:Int)(i:Ar 6 (Ar 7 (O Span)))(q a:O nQ):A3 ((O nQ)×(O nQ)):=(b17 i d).bind λb=>(if(!b.2.2)then some true else some (decide (d>=f))).bind λm=>if m then some ([],a)else(if(decide ((a.length:Int)>0))then(c7 a (i64 ((a.length:Int)-1))).bind λn=>(c7 a (i64 ((a.length:Int)-1))).bind λc=>(c7 a (i64 ((a.length:Int)-1))).bind λo=>(c7 a (i64 ((a.length:Int)-1))).bind λj=>some (((c.Span.From==j.Span.From)&&((c.Span.To==d)&&(true)))&&((c.State==b.1)&&((c.Rank==b.2.1)&&(true))))else some false).bind λl=>if l then(c7 a (i64 ((a.length:Int)-1))).bind λp=>(c7 a (i64 ((a.length:Int)-1))).bind λk=>(a1x a 0 (i64 ((a.length:Int)-1))).bind λg=>(a4n 32 g [(⟨(⟨k.Span.From,f⟩:Span),b.1,b.2.1⟩:nQ)]).bind λe=>some ([],e)else(a4n 32 a [(⟨(⟨d,f⟩:Span),b.1,b.2.1⟩:nQ)]).bind λh=>some ([],h)
def a8x(b d:O Int)(f:Int->A3 Bool)(a:Int):A3 Bool:=if(decide (a<(b.length:Int)))then(c7 b a).bind λc=>(c7 d a).bind λe=>if(c !=e)then some false else f (i64 (a+1))else some true
def a88(a b:O Int):A3 Bool:=if((a.length:Int)!=(b.length:Int))then some false else d9 FU (a8x a b) 0
def b7w(u:O (O Span)):A3 (O Piece):=(mkI 24 ([]:O Span) (u.length:Int) (u.length:Int)).bind λQ=>lpC (Q,([]:O Int),(0:Int)) λU⟨l,L,i⟩=>if(decide (i<(u.length:Int)))then(c7 u i).bind λP=>(a2w P).bind λx=>(c7 l i).bind λY=>(c7 l i).bind λX=>(c7 (a8h l i x) i).bind λV=>(c7 (a8h l i x) i).bind λo=>lpC (a8h l i x,L,(0:Int)) λA⟨m,q,j⟩=>if(decide (j<(o.length:Int)))then(c7 o j).bind λs=>(a4n 8 q [s.From,s.To]).bind λE=>A (m,E,i64 (j+1))else U (m,q,i64 (i+1))else(b8s L).bind λJ=>(a0n J).bind λD=>lpC (l,D,([]:O Piece),(0:Int)) λk⟨t,e,r,b⟩=>if(decide ((i64 (b+1))<(e.length:Int)))then(c7 e b).bind λW=>(c7 e b).bind λK=>(c7 e (i64 (b+1))).bind λM=>(c7 e (i64 (b+1))).bind λv=>lpC (t,e,r,([]:O Int),(⟨(⟨K,v⟩:Span),[]⟩:Piece),(0:Int)) λp⟨c,g,a,h,f,d⟩=>if(decide (d<(t.length:Int)))then(c7 c d).bind λT=>(c7 c d).bind λC=>(a8r C f.Span.From).bind λw=>if w then(a4n 8 h [d]).bind λB=>p (c,g,a,B,(⟨f.Span,[]⟩:Piece),i64 (d+1))else p (c,g,a,h,(⟨f.Span,[]⟩:Piece),i64 (d+1))else if((h.length:Int)==0)then k (c,g,a,i64 (b+1))else(if(decide ((a.length:Int)>0))then(c7 a (i64 ((a.length:Int)-1))).bind λS=>(c7 a (i64 ((a.length:Int)-1))).bind λF=>some (F.Span.To==f.Span.From)else some false).bind λz=>(if z then(c7 a (i64 ((a.length:Int)-1))).bind λN=>(c7 a (i64 ((a.length:Int)-1))).bind λI=>(a88 I.Members h).bind λy=>some y else some false).bind λG=>if G then(c7 a (i64 ((a.length:Int)-1))).bind λR=>(c7 a (i64 ((a.length:Int)-1))).bind λn=>k (c,g,a8h a (i64 ((a.length:Int)-1)) (⟨(⟨n.Span.From,f.Span.To⟩:Span),n.Members⟩:Piece),i64 (b+1))else(a4n 40 a [(⟨f.Span,h⟩:Piece)]).bind λH=>k (c,g,H,i64 (b+1))else some r
def a71(t:O Period):A3 (O nQ):=(b2x t).bind λq=>optC q (none) λr=>lpC (r,([]:O (O Span)),(0:Int)) λn⟨f,l,g⟩=>if(decide (g<6))then(c7 f.l g).bind λo=>(a4n 24 l o.l).bind λu=>n (f,u,i64 (g+1))else(b7w l).bind λk=>lpC (f,([]:O nQ),([]:O nQ),k,(0:Int),()) λi⟨d,e,p,c,a,m⟩=>if(decide (a<(k.length:Int)))then(c7 c a).bind λs=>(c7 c a).bind λb=>(a72 b.Span.From (i64 (b.Span.From+1)) d [] e).bind λh=>(a72 (i64 (b.Span.From+1)) b.Span.To d [] h.2).bind λj=>i (d,j.2,[],c,i64 (a+1),())else some e
def b1l(a b:Int):A3 Bool:=some (a==b)
def a3g(h:bQ)(i:O aQ)(a:Int):A3 (O nQ):=lpC (h,([]:O Scheme),(0:Int)) λj⟨b,g,c⟩=>if(decide (c<(h.laws.States.length:Int)))then(c7 h.laws.States c).bind λd=>(b1l d.State a).bind λk=>if k then(b1v d.Statute b.day).bind λn=>(a4n 152 g [(⟨d.State,n.1⟩:Scheme)]).bind λl=>j (b,l,i64 (c+1))else j (b,g,i64 (c+1))else(a4h i b.laws.Treaty).bind λm=>(a7e i m g b.day).bind λf=>(a71 f.1).bind λe=>some e
def b3l(b:bQ)(d:O aQ)(a:Int):A3 (O nQ):=(a3g b d a).bind λc=>some c
def a0s(g:bQ)(h:O aQ)(j:bQ):A3 (O nQ):=lpC (g,([]:O Scheme),(0:Int)) λi⟨a,f,b⟩=>if(decide (b<(g.laws.States.length:Int)))then(c7 g.laws.States b).bind λd=>(a08 j d.State).bind λk=>if k then(b1v d.Statute a.day).bind λn=>(a4n 152 f [(⟨d.State,n.1⟩:Scheme)]).bind λl=>i (a,l,i64 (b+1))else i (a,f,i64 (b+1))else(a4h h a.laws.Treaty).bind λm=>(a7e h m f a.day).bind λe=>(a71 e.1).bind λc=>some c
def a2z(a:bQ)(c:O aQ)(b:Int):A3 (O nQ):=(a08 a b).bind λe=>if e then(a0s a c a).bind λf=>some f else(b3l a c b).bind λd=>some d
def b30(c:O aQ)(f:Int)(d:((O Int)×Int)->A3 (O Int))(a:(O Int)×Int):A3 (O Int):=if(decide (a.2<(c.length:Int)))then(c7 c a.2).bind λb=>(a4e b).bind λj=>(if j then some (b.Kind==10)else some false).bind λg=>(if g then some (decide (b.Span.From<f))else some false).bind λe=>if e then(a4n 8 a.1 [b.Ref]).bind λk=>d (k,i64 (a.2+1))else d (a.1,i64 (a.2+1))else(b8s a.1).bind λh=>(a0n h).bind λi=>some i
def b2v(a:O aQ)(b:Int):A3 (O Int):=d9 FU (b30 a b) ([],0)
def a7i(b:Int):A3 Int:=(a7l b).bind λa=>if a then some 366 else some 365
def a4d(c:Int):A3 (Int×Int×Int×Bool):=(m7 c).bind λk=>if(!k)then some (0,0,0,false)else(c2t c 366).bind λm=>lpC (i64 (1900+m)) λj a=>(a3o a).bind λi=>(a7i a).bind λh=>if(decide ((i64 (i+h))<=c))then j (i64 (a+1))else(a3o a).bind λl=>lpC ((1:Int),i64 (c-l)) λg⟨b,e⟩=>(a05 a b).bind λd=>if(decide (e>=d))then(a05 a b).bind λf=>g (i64 (b+1),i64 (e-f))else some (a,b,i64 (e+1),true)
def a6q(a:Int×Int×Int):A3 (Int×Bool):=(b1r a.1 a.2.1 a.2.2).bind λb=>some (b.1,b.2)
def b03(h b:Int):A3 (Int×Bool):=(a4d h).bind λa=>(if(!a.2.2.2)then some true else some (decide (b<0))).bind λg=>(if g then some true else some (decide (b>(i64 (2099-a.1))))).bind λc=>if c then some (0,false)else(if(a.2.1==2)then some (a.2.2.1==29)else some false).bind λf=>(if f then(a7l (i64 (a.1+b))).bind λe=>some (!e)else some false).bind λd=>if d then joinC a6q (i64 (a.1+b),3,1)else joinC a6q (i64 (a.1+b),a.2.1,a.2.2.1)
def b7r(b a:Int):A3 Int:=(m7 b).bind λf=>(if(!f)then some true else(m7 a).bind λi=>some (!i)).bind λe=>(if e then some true else some (decide (a<b))).bind λg=>if g then some (-1:Int)else(a4d b).bind λd=>(a4d a).bind λc=>(b03 b (i64 (c.1-d.1))).bind λh=>if(decide (h.1>a))then some (i64 ((i64 (c.1-d.1))-1))else some (i64 (c.1-d.1))
def c0z(h:O Span)(e:Int):A3 Int:=(a2w h).bind λg=>lpC ((0:Int),g,(0:Int)) λf⟨d,b,a⟩=>if(decide (a<(g.length:Int)))then(c7 b a).bind λi=>(c7 b a).bind λc=>if(decide (c.From<e))then f (i64 (d+(i64 ((min c.To e)-c.From))),b,i64 (a+1))else f (d,b,i64 (a+1))else some d
def b6h(b:O Span):A3 Int:=(c0z b 73049).bind λa=>some a
def a8q(f:O nQ)(e:Int)(g:O Int):A3 Int:=lpC (([]:O Span),(0:Int)) λd⟨b,a⟩=>if(decide (a<(f.length:Int)))then(c7 f a).bind λc=>(if(decide (e<0))then some true else some (c.State==e)).bind λi=>(if i then(q9 g c.Rank).bind λh=>some h else some false).bind λl=>if l then(a4n 16 b [c.Span]).bind λj=>d (j,i64 (a+1))else d (b,i64 (a+1))else(b6h b).bind λk=>some k
def b63(a:aQ)(c:Int):A3 Int:=(if(a.Kind==1)then some true else some (a.Kind==2)).bind λd=>(if d then some true else some (a.Kind==3)).bind λe=>if e then some 1 else(if(a.Kind==6)then some (a.State==c)else some false).bind λb=>if b then some 2 else some 0
def b6i(f:O nQ)(h d:Int):A3 (O Span):=lpC (([]:O Span),(0:Int)) λe⟨b,a⟩=>if(decide (a<(f.length:Int)))then(c7 f a).bind λc=>(if(c.State==h)then(if(d==0)then some true else some (c.Rank==d)).bind λi=>some i else some false).bind λg=>if g then(a4n 16 b [c.Span]).bind λk=>e (k,i64 (a+1))else e (b,i64 (a+1))else(a2w b).bind λj=>some j
def b13(m:O aQ)(n:O nQ)(j:Int):A3 (O earnings_income):=(a4f m).bind λl=>lpC (([]:O earnings_income),l,(0:Int)) λf⟨d,b,a⟩=>if(decide (a<(l.length:Int)))then(c7 b a).bind λp=>(c7 b a).bind λg=>(b63 g j).bind λk=>if(k==0)then f (d,b,i64 (a+1))else(b6i n j k).bind λo=>(s6 o g.Span).bind λh=>(a2i m).bind λe=>(s6 h e).bind λc=>if(decide ((c.length:Int)>0))then(a4n 136 d [(⟨g,c⟩:earnings_income)]).bind λi=>f (i,b,i64 (a+1))else f (d,b,i64 (a+1))else some d
def b5y(a:Int):A3 Span:=(b1r a 1 1).bind λb=>(b1r a 12 31).bind λc=>some (⟨b.1,i64 (c.1+1)⟩:Span)
def b6a(a:aQ)(b:Int):A3 Int:=(b3k a).bind λd=>(if(!d)then some true else some (decide (b<0))).bind λf=>(if f then some true else some (decide (b>(i64 (a.Span.To-a.Span.From))))).bind λc=>if c then some 0 else(c2t (i64 (a.Amount*b)) (i64 (a.Span.To-a.Span.From))).bind λe=>some e
def b4h(a0:O aQ)(X:O nQ)(A I:Int)(Q:O Rate):A3 ((O Earning)×Int):=(if(decide (A<0))then some true else some (decide (A>=6))).bind λU=>(if U then some true else some (decide (I<1))).bind λZ=>(if Z then some true else some (decide (I>999))).bind λR=>(if R then some true else(a5r Q).bind λY=>some (Y !=0)).bind λS=>if S then some ([],1)else(b13 a0 X A).bind λP=>lpC (P,([]:O (Int×Int)),(0:Int)) λE⟨y,K,z⟩=>if(decide (z<(P.length:Int)))then(c7 y z).bind λV=>(c7 y z).bind λq=>lpC (y,K,(0:Int)) λF⟨s,r,f⟩=>if(decide (f<(q.days.length:Int)))then(c7 q.days f).bind λt=>(a4d t.From).bind λM=>(a4d (i64 (t.To-1))).bind λD=>lpC (s,r,M.1) λJ⟨w,u,l⟩=>if(decide (l<=D.1))then J (w,a62 u l 0,i64 (l+1))else F (w,u,i64 (f+1))else E (s,r,i64 (z+1))else(c8c K).bind λn=>lpC (y,K,([]:O Earning),(List.map (λx=>x) n),(0:Int)) λB⟨v,N,o,g,e⟩=>if(decide (e<((List.map (λx=>x) n).length:Int)))then(c7 g e).bind λW=>(c7 g e).bind λa=>lpC (v,N,o,g,(0:Int)) λm⟨d,b,i,k,c⟩=>if(decide (c<(v.length:Int)))then(c7 d c).bind λT=>(c7 d c).bind λj=>(b5y a).bind λG=>(s6 j.days G).bind λC=>(b6h C).bind λp=>if(p==0)then m (d,b,i,k,i64 (c+1))else(b6a j.fact p).bind λL=>(b68 L j.fact.Currency I (i64 ((i64 (12*(i64 (a-1900))))+11)) Q (⟨1,1⟩:Rounding)).bind λh=>if(h.2!=0)then some ([],h.2)else m (d,a62 b a (i64 ((b5g b a)+h.1)),i,k,i64 (c+1))else if(decide ((b5g b a)>1000000000000))then some ([],2)else(a4n 16 i [(⟨a,b5g b a⟩:Earning)]).bind λH=>B (d,b,H,k,i64 (e+1))else some (o,0)
def b0w(e:Version)(i:Int):A3 fQ:=lpC (e,(⟨0,0⟩:fQ),(-1:Int),(0:Int)) λg⟨c,h,a,b⟩=>if(decide (b<(e.Series.length:Int)))then(c7 e.Series b).bind λf=>(if(decide (f.Year<=i))then(if(decide (a<0))then some true else(c7 c.Series a).bind λl=>some (decide (f.Year>l.Year))).bind λj=>some j else some false).bind λk=>if k then g (c,h,b,i64 (b+1))else g (c,h,a,i64 (b+1))else if(decide (a<0))then some (⟨1,1⟩:fQ)else(c7 c.Series a).bind λd=>some d.Factor
def b0x(a:fQ):A3 Bool:=(o7 a).bind λc=>(if c then some (decide (a.Num>0))else some false).bind λe=>(if e then some (decide (a.Num<=10000000000000))else some false).bind λb=>(if b then some (decide (a.Den<=10000))else some false).bind λd=>some d
def b2s(f:Version)(c g m:Int):A3 (Int×Int):=(b0w f m).bind λa=>(b0w f g).bind λb=>(if(decide (c<0))then some true else some (decide (c>1000000000000))).bind λh=>(if h then some true else(b0x a).bind λk=>some (!k)).bind λj=>(if j then some true else(b0x b).bind λi=>some (!i)).bind λl=>if l then some (0,1)else(b3s (u64 (c)) (u64 ((u64 (a.Num))*(u64 (b.Den))))).bind λd=>if(decide (d.1>=(u64 ((u64 (a.Den))*(u64 (b.Num))))))then some (0,2)else(a8o d.1 d.2 (u64 ((u64 (a.Den))*(u64 (b.Num))))).bind λe=>if(decide (e.1>1000000000000))then some (0,2)else some (i64 (e.1),0)
def b14(f:O Earning)(h:Version)(g:Int):A3 ((O Int)×Int):=lpC (h,([]:O Int),(0:Int)) λi⟨d,e,a⟩=>if(decide (a<(f.length:Int)))then(c7 f a).bind λc=>(b2s d c.Amount c.Year g).bind λb=>if(b.2!=0)then some ([],b.2)else(a4n 8 e [b.1]).bind λj=>i (d,j,i64 (a+1))else some (e,0)
def a70(f:Bool)(b a:rational_wide):A3 (fQ×Int):=(if(b.hi !=0)then some true else some (decide (b.lo>1000000000000000))).bind λd=>(if d then some true else some (a.hi !=0)).bind λe=>(if e then some true else some (decide (a.lo>1000000000))).bind λc=>if c then some ((⟨0,0⟩:fQ),2)else if f then some ((⟨i64 (-(i64 (b.lo))),i64 (a.lo)⟩:fQ),0)else some ((⟨i64 (b.lo),i64 (a.lo)⟩:fQ),0)
def b32(c b:Int):A3 (fQ×Int):=if(b==0)then some ((⟨0,0⟩:fQ),3)else(j5 c).bind λd=>(j5 b).bind λf=>(a7g d f).bind λa=>(if((decide (c<0))!=(decide (b<0)))then some (c !=0)else some false).bind λi=>(if a=0then none else some (u64 (Int.tdiv d a))).bind λh=>(if a=0then none else some (u64 (Int.tdiv f a))).bind λg=>(a70 i (⟨0,h⟩:rational_wide) (⟨0,g⟩:rational_wide)).bind λe=>some (e.1,e.2)
def b6e(a:O Int):A3 (fQ×Int):=if(decide ((a.length:Int)>200))then some ((⟨0,0⟩:fQ),1)else lpC ((⟨0,0⟩:fQ),(0:Int),(0:Int)) λg⟨h,e,b⟩=>if(decide (b<(a.length:Int)))then(c7 a b).bind λc=>(if(decide (c<0))then some true else some (decide (c>1000000000000))).bind λf=>if f then some ((⟨0,0⟩:fQ),1)else g (h,i64 (e+c),i64 (b+1))else if((a.length:Int)==0)then some ((⟨0,1⟩:fQ),0)else(b32 e (a.length:Int)).bind λd=>some (d.1,d.2)
def a7j(a:(O aQ)×(O nQ)×Int×bQ×(O Int)×View×Statute×Version×(O Int)×View×Int):A3 (View×Int):=(a8q a.2.1 a.2.2.2.2.2.2.2.2.2.2 [1]).bind λj=>(a8q a.2.1 a.2.2.2.2.2.2.2.2.2.2 [2]).bind λg=>(a8q a.2.1 a.2.2.2.2.2.2.2.2.2.2 [3]).bind λe=>(a8q a.2.1 a.2.2.2.2.2.2.2.2.2.2 [4,5]).bind λi=>(a8q a.2.1 a.2.2.2.2.2.2.2.2.2.2 [6]).bind λh=>(a8q a.2.1 a.2.2.2.2.2.2.2.2.2.2 [7]).bind λf=>(b4h a.1 a.2.1 a.2.2.1 a.2.2.2.2.2.2.1.Currency a.2.2.2.1.laws.Rates).bind λc=>if(c.2!=0)then some ((⟨0,0,0,0,0,0,0,0,0,0,(⟨0,0⟩:fQ),[]⟩:View),c.2)else(b14 c.1 a.2.2.2.2.2.2.2.1 a.2.2.2.2.2.2.2.2.2.1.Year).bind λb=>if(b.2!=0)then some ((⟨0,0,0,0,0,0,0,0,0,0,(⟨0,0⟩:fQ),[]⟩:View),b.2)else(b6e b.1).bind λd=>if(d.2!=0)then some ((⟨0,0,0,0,0,0,0,0,0,0,(⟨0,0⟩:fQ),[]⟩:View),d.2)else some ((⟨a.2.2.2.2.2.2.2.2.2.1.Age,a.2.2.2.2.2.2.2.2.2.1.Year,a.2.2.2.2.2.2.2.2.2.1.Children,i64 ((i64 ((i64 ((i64 ((i64 (j+g))+e))+i))+h))+f),j,g,e,i,h,f,d.1,b.1⟩:View),0)
def a85(a:(O aQ)×(O nQ)×Int×Bool×bQ×(O Int)×View×Statute×Version×(O Int)×View):A3 (View×Int):=(a4d a.2.2.2.2.1.day).bind λb=>if a.2.2.2.1then joinC a7j (a.1,a.2.1,a.2.2.1,a.2.2.2.2.1,a.2.2.2.2.2.1,(⟨a.2.2.2.2.2.2.1.Age,a.2.2.2.2.2.2.1.Year,a.2.2.2.2.2.2.1.Children,a.2.2.2.2.2.2.1.Insured,a.2.2.2.2.2.2.1.Worked,a.2.2.2.2.2.2.1.Voluntary,a.2.2.2.2.2.2.1.Service,a.2.2.2.2.2.2.1.Equated,a.2.2.2.2.2.2.1.Raising,a.2.2.2.2.2.2.1.Resident,a.2.2.2.2.2.2.1.Base,[]⟩:View),a.2.2.2.2.2.2.2.1,a.2.2.2.2.2.2.2.2.1,a.2.2.2.2.2.2.2.2.2.1,(⟨a.2.2.2.2.2.2.2.2.2.2.Age,b.1,a.2.2.2.2.2.2.2.2.2.2.Children,a.2.2.2.2.2.2.2.2.2.2.Insured,a.2.2.2.2.2.2.2.2.2.2.Worked,a.2.2.2.2.2.2.2.2.2.2.Voluntary,a.2.2.2.2.2.2.2.2.2.2.Service,a.2.2.2.2.2.2.2.2.2.2.Equated,a.2.2.2.2.2.2.2.2.2.2.Raising,a.2.2.2.2.2.2.2.2.2.2.Resident,a.2.2.2.2.2.2.2.2.2.2.Base,[]⟩:View),(-1:Int))else joinC a7j (a.1,a.2.1,a.2.2.1,a.2.2.2.2.1,a.2.2.2.2.2.1,(⟨a.2.2.2.2.2.2.1.Age,a.2.2.2.2.2.2.1.Year,a.2.2.2.2.2.2.1.Children,a.2.2.2.2.2.2.1.Insured,a.2.2.2.2.2.2.1.Worked,a.2.2.2.2.2.2.1.Voluntary,a.2.2.2.2.2.2.1.Service,a.2.2.2.2.2.2.1.Equated,a.2.2.2.2.2.2.1.Raising,a.2.2.2.2.2.2.1.Resident,a.2.2.2.2.2.2.1.Base,[]⟩:View),a.2.2.2.2.2.2.2.1,a.2.2.2.2.2.2.2.2.1,a.2.2.2.2.2.2.2.2.2.1,(⟨a.2.2.2.2.2.2.2.2.2.2.Age,b.1,a.2.2.2.2.2.2.2.2.2.2.Children,a.2.2.2.2.2.2.2.2.2.2.Insured,a.2.2.2.2.2.2.2.2.2.2.Worked,a.2.2.2.2.2.2.2.2.2.2.Voluntary,a.2.2.2.2.2.2.2.2.2.2.Service,a.2.2.2.2.2.2.2.2.2.2.Equated,a.2.2.2.2.2.2.2.2.2.2.Raising,a.2.2.2.2.2.2.2.2.2.2.Resident,a.2.2.2.2.2.2.2.2.2.2.Base,[]⟩:View),a.2.2.1)
def a8k(b:bQ)(c:O aQ)(f:O nQ)(e:Int)(g:Bool):A3 (View×Int):=(a2v b e).bind λa=>if(a.2.2!=0)then some ((⟨0,0,0,0,0,0,0,0,0,0,(⟨0,0⟩:fQ),[]⟩:View),a.2.2)else(b2v c b.day).bind λh=>(b4t c).bind λd=>(if d.2then some (decide (d.1<=b.day))else some false).bind λj=>if j then(b7r d.1 b.day).bind λi=>joinC a85 (c,f,e,g,b,[],(⟨0,0,0,0,0,0,0,0,0,0,(⟨0,0⟩:fQ),[]⟩:View),a.1,a.2.1,[],(⟨i,0,(h.length:Int),0,0,0,0,0,0,0,(⟨0,0⟩:fQ),[]⟩:View))else joinC a85 (c,f,e,g,b,[],(⟨0,0,0,0,0,0,0,0,0,0,(⟨0,0⟩:fQ),[]⟩:View),a.1,a.2.1,[],(⟨0,0,(h.length:Int),0,0,0,0,0,0,0,(⟨0,0⟩:fQ),[]⟩:View))
def l51(h:Laws)(c:O aQ)(b i:Int)(g:Bool):A3 (View×Int):=(b8v h i).bind λa=>if(a.2!=0)then some ((⟨0,0,0,0,0,0,0,0,0,0,(⟨0,0⟩:fQ),[]⟩:View),a.2)else(a2v a.1 b).bind λe=>if(e.2.2!=0)then some ((⟨0,0,0,0,0,0,0,0,0,0,(⟨0,0⟩:fQ),[]⟩:View),e.2.2)else(a2z a.1 c b).bind λf=>(a8k a.1 c f b g).bind λd=>some (d.1,d.2)
def b0a(a:Int):A3 Bool:=(if(decide (a<0))then some true else some (decide (a>1000000000000))).bind λb=>some b
def a6k(b:O Int)(e:Int->A3 Int)(a:Int):A3 Int:=if(decide (a<(b.length:Int)))then(c7 b a).bind λc=>(b0a c).bind λd=>if d then some a else e (i64 (a+1))else some (-1:Int)
def a29(a:O Int):A3 Int:=d9 FU (a6k a) 0
def a1n(b:O Int):A3 Bool:=(a29 b).bind λa=>some (decide (a>=0))
def a9p(a:O Int):A3 Bool:=(if(decide ((a.length:Int)<=200))then(a1n a).bind λb=>some (!b)else some false).bind λc=>some c
def b0s(a:View):A3 Bool:=(if(decide (a.Age<0))then some true else some (decide (a.Age>199))).bind λs=>(if s then some true else some (decide (a.Year<1900))).bind λu=>(if u then some true else some (decide (a.Year>2099))).bind λp=>(if p then some true else some (decide (a.Children<0))).bind λt=>(if t then some true else some (decide (a.Children>99))).bind λr=>(if r then some true else(a9p a.Years).bind λq=>some (!q)).bind λo=>if o then some false else lpC (a,(0:Int)) λh⟨b,i⟩=>if(decide (i<7))then(c7 (⟨[a.Insured,a.Worked,a.Voluntary,a.Service,a.Equated,a.Raising,a.Resident],rfl⟩:Ar 7 Int).l i).bind λc=>(if(decide (c<0))then some true else some (decide (c>73049))).bind λe=>if e then some false else h (b,i64 (i+1))else(o7 b.Base).bind λj=>(if j then some (decide (b.Base.Num>=0))else some false).bind λf=>(if f then(c2t b.Base.Num b.Base.Den).bind λd=>some (decide (d<=1000000000000))else some false).bind λl=>(if l then(c2t b.Base.Num b.Base.Den).bind λk=>(if(decide (k<1000000000000))then some true else(b8t b.Base.Num b.Base.Den).bind λm=>some (m==0)).bind λg=>some g else some false).bind λn=>some n
def c5y(c:Version)(d:View):A3 Int:=(b0s d).bind λa=>if(!a)then some 1 else(b0q c).bind λb=>some b
def c1o(a:Grant)(b:Int):A3 Bool:=some (a.Benefit==b)
structure Ring_eval_mentions where
 f_eval_mentions:Expr->ByteArray->Option Bool
 f_eval_mentions_1:Expr->ByteArray->Option Bool
 f_slices_ContainsFunc_of_api_Expr:(List Expr)->ByteArray->Option Bool
 f_slices_IndexFunc_of_api_Expr:(List Expr)->ByteArray->Option Int
def b2a(R:Ring_eval_mentions)(a:Expr)(b:A4):A3 Bool:=(if(a.Op==2)then some (a.Name.toList==b.toList)else some false).bind λd=>(if d then some true else(R.f_slices_ContainsFunc_of_api_Expr a.Args b).bind λe=>some e).bind λc=>some c
def b93(R:Ring_eval_mentions)(b:Expr)(c:A4):A3 Bool:=(R.f_eval_mentions b c).bind λa=>some a
def a0o(R:Ring_eval_mentions)(c:O Expr)(a:A4):A3 Bool:=(R.f_slices_IndexFunc_of_api_Expr c a).bind λb=>some (decide (b>=0))
def a5n(R:Ring_eval_mentions)(c:O Expr)(a:A4)(d:Int->A3 Int)(b:Int):A3 Int:=if(decide (b<(c.length:Int)))then(c7 c b).bind λe=>(R.f_eval_mentions_1 e a).bind λf=>if f then some b else d (i64 (b+1))else some (-1:Int)
def a16(R:Ring_eval_mentions)(b:O Expr)(a:A4):A3 Int:=d9 FU (a5n R b a) 0
def d5:Nat->Ring_eval_mentions|0=>⟨λ_ _=>none,λ_ _=>none,λ_ _=>none,λ_ _=>none⟩|n+1=>⟨b2a (d5 n),b93 (d5 n),a0o (d5 n),a16 (d5 n)⟩
def b95(a:Expr)(b:A4):A3 Bool:=(d5 FU).f_eval_mentions a b
def b1z(e:((O Int)×Int×Int)->A3 (O Int))(a:(O Int)×Int×Int):A3 (O Int):=if(decide (a.2.1<a.2.2))then(c7 a.1 a.2.2).bind λf=>(c7 a.1 a.2.2).bind λb=>(c7 a.1 a.2.1).bind λg=>(c7 a.1 a.2.1).bind λc=>(c7 a.1 a.2.1).bind λj=>(c7 a.1 a.2.1).bind λi=>(c7 (a8h a.1 a.2.1 b) a.2.2).bind λh=>(c7 (a8h a.1 a.2.1 b) a.2.2).bind λd=>e (a8h (a8h a.1 a.2.1 b) a.2.2 c,i64 (a.2.1+1),i64 (a.2.2-1))else some a.1
def a68(a:O Int):A3 (O Int):=d9 FU b1z (a,0,i64 ((a.length:Int)-1))
def c4e(u:Expr)(d:O Let):A3 (O Int):=lpC (u,([]:O Int),i64 ((d.length:Int)-1)) λq⟨o,k,b⟩=>if(decide (b>=0))then(c7 d b).bind λt=>(b95 o t.Name).bind λs=>lpC (o,k,s,(0:Int)) λh⟨f,c,p,a⟩=>if(decide (a<(k.length:Int)))then(c7 c a).bind λr=>(c7 c a).bind λj=>(if p then some true else(c7 d j).bind λg=>(c7 d b).bind λe=>(b95 g.Body e.Name).bind λm=>some m).bind λl=>h (f,c,l,i64 (a+1))else if p then(a4n 8 c [b]).bind λn=>q (f,n,i64 (b-1))else q (f,c,i64 (b-1))else(a68 k).bind λi=>some i
def t6(a:Int)(b:fQ):A3 Value:=some (⟨a,false,b⟩:Value)
def c2b(c:View)(b:A4):A3 (Value×Bool):=(b4n b).bind λa=>(if(!a.2)then some true else(b0s c).bind λq=>some (!q)).bind λj=>if j then some ((⟨0,false,(⟨0,0⟩:fQ)⟩:Value),false)else if(b.toList==e39.toList)then(t6 a.1 c.Base).bind λo=>some (o,true)else if(b.toList==e0r.toList)then(t6 a.1 (⟨c.Age,1⟩:fQ)).bind λl=>some (l,true)else if(b.toList==d3o.toList)then(t6 a.1 (⟨c.Year,1⟩:fQ)).bind λk=>some (k,true)else if(b.toList==c6q.toList)then(t6 a.1 (⟨c.Children,1⟩:fQ)).bind λp=>some (p,true)else if(b.toList==b6u.toList)then(t6 a.1 (⟨c.Insured,1⟩:fQ)).bind λm=>some (m,true)else if(b.toList==c5w.toList)then(t6 a.1 (⟨c.Worked,1⟩:fQ)).bind λn=>some (n,true)else if(b.toList==b0b.toList)then(t6 a.1 (⟨c.Voluntary,1⟩:fQ)).bind λg=>some (g,true)else if(b.toList==b3z.toList)then(t6 a.1 (⟨c.Service,1⟩:fQ)).bind λe=>some (e,true)else if(b.toList==c3c.toList)then(t6 a.1 (⟨c.Equated,1⟩:fQ)).bind λi=>some (i,true)else if(b.toList==c3j.toList)then(t6 a.1 (⟨c.Raising,1⟩:fQ)).bind λh=>some (h,true)else if(b.toList==c6v.toList)then(t6 a.1 (⟨c.Resident,1⟩:fQ)).bind λf=>some (f,true)else(t6 a.1 (⟨0,1⟩:fQ)).bind λd=>some (d,true)
def b38(d:vQ)(c:((A4×Value)×Int)->A3 Value)(a:(A4×Value)×Int):A3 Value:=if decide (a.2<0)then some (⟨0,false,(⟨0,0⟩:fQ)⟩:Value)else(c7 d.steps a.2).bind λb=>if(b.Name.toList==a.1.1.toList)then some ((a.1.1,b.Value).2)else c ((a.1.1,a.1.2),a.2-1)
def a84(a:vQ)(c:A4):A3 Value:=(c2b a.view c).bind λb=>if b.2then some b.1else d9 FU (b38 a) ((c,(⟨0,false,(⟨0,0⟩:fQ)⟩:Value)),(a.steps.length:Int)-1)
def a0l(b:O Int)(e:(((O Int)×(O Int))×Int)->A3 (O Int))(a:((O Int)×(O Int))×Int):A3 (O Int):=if decide (a.2>=(b.length:Int))then some a.1.1else(c7 b a.2).bind λc=>(a4n 8 a.1.1 [c]).bind λd=>e ((d,[]),a.2+1)
def u5(a b:O Int):A3 (O Int):=d9 FU (a0l b) ((a,[]),(0:Int))
def y5(b:O Int):A3 (O Int):=(u5 [] b).bind λa=>some a
def o9(c:O Int):A3 (O Int):=(y5 c).bind λa=>(b8s a).bind λb=>some b
def c4b(h:O Int)(b:Int):A3 (fQ×Int):=(if(decide (b<1))then some true else some (decide (b>45))).bind λl=>(if l then some true else(a9p h).bind λm=>some (!m)).bind λi=>if i then some ((⟨0,0⟩:fQ),1)else(o9 h).bind λd=>(a1x d (max 0 (i64 ((d.length:Int)-b))) (d.length:Int)).bind λf=>lpC ((⟨0,0⟩:fQ),(0:Int),(0:Int)) λj⟨k,g,c⟩=>if(decide (c<(f.length:Int)))then(c7 f c).bind λe=>j (k,i64 (g+e),i64 (c+1))else(b32 g b).bind λa=>some (a.1,a.2)
def b8n(a:Bool):A3 Value:=some (⟨1,a,(⟨0,0⟩:fQ)⟩:Value)
def b4e(a:fQ):A3 (Int×Int):=(o7 a).bind λc=>if(!c)then some (0,1)else(c2t a.Num a.Den).bind λb=>(b8t a.Num a.Den).bind λd=>if(decide (d<0))then some (i64 (b-1),0)else some (b,0)
def b4p(a:fQ):A3 (fQ×Int):=(o7 a).bind λb=>if(!b)then some ((⟨0,0⟩:fQ),1)else some ((⟨i64 (-a.Num),a.Den⟩:fQ),0)
def a4g(b c:Int):A3 rational_wide:=(b3s b c).bind λa=>some (⟨a.1,a.2⟩:rational_wide)
def a3u(a b:rational_wide):A3 Bool:=(if(decide (a.hi<b.hi))then some true else(if(a.hi==b.hi)then some (decide (a.lo<b.lo))else some false).bind λc=>some c).bind λd=>some d
def a83(a:rational_wide×rational_wide):A3 (Int×Int):=(a3u a.1 a.2).bind λb=>if b then some ((-1:Int),0)else(a3u a.2 a.1).bind λc=>if c then some (1,0)else some (0,0)
def a8g(a b:fQ):A3 (Int×Int):=(o7 a).bind λh=>(if(!h)then some true else(o7 b).bind λk=>some (!k)).bind λe=>if e then some (0,1)else if((decide (a.Num<0))!=(decide (b.Num<0)))then if(decide (a.Num<0))then some ((-1:Int),0)else some (1,0)else(j5 a.Num).bind λi=>(j5 b.Den).bind λf=>(a4g i f).bind λc=>(j5 b.Num).bind λj=>(j5 a.Den).bind λg=>(a4g j g).bind λd=>if(decide (a.Num<0))then joinC a83 (d,c)else joinC a83 (c,d)
def b7z(b:Int)(d c:fQ):A3 (Bool×Int):=(a8g d c).bind λa=>if(b==11)then some (decide (a.1<0),a.2)else if(b==12)then some (decide (a.1<=0),a.2)else if(b==13)then some (a.1==0,a.2)else if(b==14)then some (a.1!=0,a.2)else if(b==15)then some (decide (a.1>0),a.2)else some (decide (a.1>=0),a.2)
def a98(b c:rational_wide):A3 rational_wide:=(c23 b.lo c.lo 0).bind λa=>(c23 b.hi c.hi a.2).bind λd=>some (⟨d.1,a.1⟩:rational_wide)
def a4w(b c:rational_wide):A3 rational_wide:=(c1u b.lo c.lo 0).bind λa=>(c1u b.hi c.hi a.2).bind λd=>some (⟨d.1,a.1⟩:rational_wide)
def c25(e b a:Int):A3 Int:=(b8t e a).bind λc=>(a8o c b a).bind λd=>some d.2
def a8z(b:rational_wide)(a:Int):A3 rational_wide:=(if a=0then none else some (u64 (Int.tdiv b.hi a))).bind λd=>(b8t b.hi a).bind λe=>(a8o e b.lo a).bind λc=>some (⟨d,c.1⟩:rational_wide)
def a9g(a:fQ×fQ×fQ×rational_wide×Bool):A3 (fQ×Int):=(j5 a.1.Den).bind λd=>(j5 a.2.1.Den).bind λc=>if((a.2.2.2.1.hi==0)&&((a.2.2.2.1.lo==0)&&(true)))then some ((⟨0,1⟩:fQ),0)else(c25 a.2.2.2.1.hi a.2.2.2.1.lo (u64 (d*c))).bind λf=>(a7g (u64 (d*c)) f).bind λb=>(a8z a.2.2.2.1 b).bind λg=>(if b=0then none else some (u64 (Int.tdiv (u64 (d*c)) b))).bind λh=>(a70 a.2.2.2.2 g (⟨0,h⟩:rational_wide)).bind λe=>some (e.1,e.2)
def b4q(a b:fQ):A3 (fQ×Int):=(o7 a).bind λl=>(if(!l)then some true else(o7 b).bind λo=>some (!o)).bind λi=>if i then some ((⟨0,0⟩:fQ),1)else(j5 a.Num).bind λm=>(j5 b.Den).bind λj=>(a4g m j).bind λc=>(j5 b.Num).bind λn=>(j5 a.Den).bind λk=>(a4g n k).bind λd=>if((decide (a.Num<0))==(decide (b.Num<0)))then(a98 c d).bind λf=>joinC a9g (a,b,(⟨0,0⟩:fQ),f,decide (a.Num<0))else(a3u c d).bind λg=>if g then(a4w d c).bind λh=>joinC a9g (a,b,(⟨0,0⟩:fQ),h,!(decide (a.Num<0)))else(a4w c d).bind λe=>joinC a9g (a,b,(⟨0,0⟩:fQ),e,decide (a.Num<0))
def b7d(c d:fQ):A3 (fQ×Int):=(b4p d).bind λa=>if(a.2!=0)then some ((⟨0,0⟩:fQ),a.2)else(b4q c a.1).bind λb=>some (b.1,b.2)
def a73(n:Bool)(d c g f:Int):A3 (fQ×Int):=(a7g d f).bind λa=>(a7g g c).bind λb=>(if a=0then none else some (u64 (Int.tdiv d a))).bind λh=>(if b=0then none else some (u64 (Int.tdiv g b))).bind λl=>(a4g h l).bind λj=>(if b=0then none else some (u64 (Int.tdiv c b))).bind λi=>(if a=0then none else some (u64 (Int.tdiv f a))).bind λm=>(a4g i m).bind λk=>(a70 n j k).bind λe=>some (e.1,e.2)
def b7j(c b:fQ):A3 (fQ×Int):=(o7 c).bind λj=>(if(!j)then some true else(o7 b).bind λm=>some (!m)).bind λe=>if e then some ((⟨0,0⟩:fQ),1)else(if(decide (c.Num<0))then some (decide (b.Num>0))else some false).bind λk=>(if k then some true else(if(decide (c.Num>0))then some (decide (b.Num<0))else some false).bind λg=>some g).bind λf=>(j5 c.Num).bind λl=>(j5 c.Den).bind λh=>(j5 b.Num).bind λi=>(j5 b.Den).bind λd=>(a73 f l h i d).bind λa=>some (a.1,a.2)
def b7o(c a:fQ):A3 (fQ×Int):=(o7 c).bind λj=>(if(!j)then some true else(o7 a).bind λm=>some (!m)).bind λe=>if e then some ((⟨0,0⟩:fQ),1)else if(a.Num==0)then some ((⟨0,0⟩:fQ),3)else(if(decide (c.Num<0))then some (decide (a.Num>0))else some false).bind λk=>(if k then some true else(if(decide (c.Num>0))then some (decide (a.Num<0))else some false).bind λg=>some g).bind λf=>(j5 c.Num).bind λl=>(j5 c.Den).bind λh=>(j5 a.Den).bind λi=>(j5 a.Num).bind λd=>(a73 f l h i d).bind λb=>some (b.1,b.2)
def b2w(c:Int)(b a:fQ):A3 (fQ×Int):=if(c==7)then(b4q b a).bind λf=>some (f.1,f.2)else if(c==8)then(b7d b a).bind λh=>some (h.1,h.2)else if(c==9)then(b7j b a).bind λe=>some (e.1,e.2)else if(c==10)then(b7o b a).bind λg=>some (g.1,g.2)else(a8g b a).bind λd=>if((c==19)==(decide (d.1<0)))then some (b,d.2)else some (a,d.2)
def b8c(c b a:Int):A3 Int:=(if(c==9)then some (b==2)else some false).bind λd=>if d then some a else(if(c==10)then some (a !=2)else some false).bind λe=>if e then some 2 else some b
structure Ring_eval_evaluator_expr where f_eval_evaluator_expr:vQ->Expr->Option (Value×Int)f_eval_evaluator_unary:vQ->Expr->Option (Value×Int)f_eval_evaluator_logic:vQ->Expr->Option (Value×Int)
def a2t(R:Ring_eval_evaluator_expr)(a:vQ×Expr×Value×Bool):A3 (Value×Int):=if a.2.2.2then(R.f_eval_evaluator_logic a.1 a.2.1).bind λk=>some (k.1,k.2)else(c7 a.2.1.Args 0).bind λl=>(R.f_eval_evaluator_expr a.1 l).bind λb=>if(b.2!=0)then some ((⟨0,false,(⟨0,0⟩:fQ)⟩:Value),b.2)else(c7 a.2.1.Args 1).bind λg=>(R.f_eval_evaluator_expr a.1 g).bind λc=>if(c.2!=0)then some ((⟨0,false,(⟨0,0⟩:fQ)⟩:Value),c.2)else(if(decide (a.2.1.Op>=11))then some (decide (a.2.1.Op<=16))else some false).bind λh=>if h then(b7z a.2.1.Op b.1.Num c.1.Num).bind λe=>(b8n e.1).bind λf=>some (f,e.2)else(b2w a.2.1.Op b.1.Num c.1.Num).bind λd=>if(d.2!=0)then some ((⟨0,false,(⟨0,0⟩:fQ)⟩:Value),d.2)else(b8c a.2.1.Op b.1.Dim c.1.Dim).bind λj=>(t6 j d.1).bind λi=>some (i,0)
def a2s(R:Ring_eval_evaluator_expr)(a:vQ×Expr×Value×Int×Bool):A3 (Value×Int):=if a.2.2.2.2then(R.f_eval_evaluator_unary a.1 a.2.1).bind λb=>some (b.1,b.2)else if(a.2.2.2.1==17)then joinC (a2t R) (a.1,a.2.1,a.2.2.1,a.2.2.2.1==17)else if(a.2.2.2.1==18)then joinC (a2t R) (a.1,a.2.1,a.2.2.1,a.2.2.2.1==18)else joinC (a2t R) (a.1,a.2.1,a.2.2.1,a.2.2.2.1==21)
def a5u(R:Ring_eval_evaluator_expr)(b:vQ)(a:Expr):A3 (Value×Int):=if(a.Op==1)then(t6 a.Dim a.Value).bind λd=>some (d,0)else if(a.Op==2)then(a84 b a.Name).bind λf=>some (f,0)else if(a.Op==3)then(c4b b.view.Years a.Value.Num).bind λc=>(t6 4 c.1).bind λe=>some (e,c.2)else if(a.Op==4)then joinC (a2s R) (b,a,(⟨0,false,(⟨0,0⟩:fQ)⟩:Value),a.Op,a.Op==4)else if(a.Op==5)then joinC (a2s R) (b,a,(⟨0,false,(⟨0,0⟩:fQ)⟩:Value),a.Op,a.Op==5)else joinC (a2s R) (b,a,(⟨0,false,(⟨0,0⟩:fQ)⟩:Value),a.Op,a.Op==6)
def a5i(R:Ring_eval_evaluator_expr)(i:vQ)(b:Expr):A3 (Value×Int):=(c7 b.Args 0).bind λg=>(R.f_eval_evaluator_expr i g).bind λa=>if(a.2!=0)then some ((⟨0,false,(⟨0,0⟩:fQ)⟩:Value),a.2)else if(b.Op==5)then(b8n (!a.1.Yes)).bind λe=>some (e,0)else if(b.Op==6)then(b4e a.1.Num).bind λd=>(t6 a.1.Dim (⟨d.1,1⟩:fQ)).bind λf=>some (f,d.2)else(b4p a.1.Num).bind λc=>(t6 a.1.Dim c.1).bind λh=>some (h,c.2)
def a5d(R:Ring_eval_evaluator_expr)(d:vQ)(a:Expr):A3 (Value×Int):=(c7 a.Args 0).bind λj=>(R.f_eval_evaluator_expr d j).bind λb=>if(b.2!=0)then some ((⟨0,false,(⟨0,0⟩:fQ)⟩:Value),b.2)else(if(a.Op==17)then some (!b.1.Yes)else some false).bind λf=>(if f then some true else(if(a.Op==18)then some b.1.Yes else some false).bind λk=>some k).bind λh=>if h then some (b.1,0)else(if(a.Op==21)then some (!b.1.Yes)else some false).bind λg=>if g then(c7 a.Args 2).bind λl=>(R.f_eval_evaluator_expr d l).bind λe=>some (e.1,e.2)else(c7 a.Args 1).bind λi=>(R.f_eval_evaluator_expr d i).bind λc=>some (c.1,c.2)
def c4:Nat->Ring_eval_evaluator_expr|0=>⟨λ_ _=>none,λ_ _=>none,λ_ _=>none⟩|n+1=>⟨a5u (c4 n),a5i (c4 n),a5d (c4 n)⟩
def b1n(a:vQ)(b:Expr):A3 (Value×Int):=(c4 FU).f_eval_evaluator_expr a b
def a3e(v:vQ)(q:Expr)(i:O Let)(w:O Bool)(s:A4)(x:O Step):A3 (Int×vQ×(O Bool)×(O Step)):=(c4e q i).bind λp=>lpC (x,(⟨v.view,[]⟩:vQ),w,q,p,(0:Int)) λr⟨f,c,b,l,h,g⟩=>if(decide (g<(p.length:Int)))then(c7 h g).bind λz=>(c7 h g).bind λa=>(c7 b a).bind λt=>(c7 b a).bind λk=>if k then r (f,(⟨c.view,[]⟩:vQ),b,l,h,i64 (g+1))else(c7 i a).bind λm=>(b1n (⟨c.view,f⟩:vQ) m.Body).bind λd=>if(d.2!=0)then some (d.2,(⟨c.view,[]⟩:vQ),b,f)else(c7 i a).bind λj=>(a4n 48 f [(⟨j.Name,d.1⟩:Step)]).bind λn=>(c7 b a).bind λu=>(c7 b a).bind λy=>r (n,(⟨c.view,[]⟩:vQ),a8h b a true,l,h,i64 (g+1))else(b1n (⟨c.view,f⟩:vQ) l).bind λe=>if(e.2!=0)then some (e.2,(⟨c.view,[]⟩:vQ),b,f)else(a4n 48 f [(⟨s,e.1⟩:Step)]).bind λo=>some (0,(⟨c.view,[]⟩:vQ),b,o)
def a55(a:vQ):A3 Value:=(c7 a.steps (i64 ((a.steps.length:Int)-1))).bind λb=>some b.Value
def a6d(c:O Grant)(a:Int)(d:Int->A3 Int)(b:Int):A3 Int:=if(decide (b<(c.length:Int)))then(c7 c b).bind λe=>(c1o e a).bind λf=>if f then some b else d (i64 (b+1))else some (-1:Int)
def a1y(b:O Grant)(a:Int):A3 Int:=d9 FU (a6d b a) 0
def c2a(b:Version)(j:Int)(f:View):A3 (Result×Int):=(c5y b f).bind λh=>if(h !=0)then some ((⟨false,(⟨0,0⟩:fQ),[]⟩:Result),h)else(a1y b.Grants j).bind λe=>if(decide (e<0))then some ((⟨false,(⟨0,0⟩:fQ),[]⟩:Result),9)else(mkI 1 (false:Bool) (b.Lets.length:Int) (b.Lets.length:Int)).bind λi=>(c7 b.Grants e).bind λk=>(a3e (⟨f,[]⟩:vQ) k.If b.Lets i d0k []).bind λa=>if(a.1!=0)then some ((⟨false,(⟨0,0⟩:fQ),[]⟩:Result),a.1)else(a55 (⟨a.2.1.view,a.2.2.2⟩:vQ)).bind λd=>if d.Yes then(c7 b.Grants e).bind λl=>(a3e (⟨a.2.1.view,[]⟩:vQ) l.Pay b.Lets a.2.2.1 c60 a.2.2.2).bind λc=>if(c.1!=0)then some ((⟨false,(⟨0,0⟩:fQ),[]⟩:Result),c.1)else(a55 (⟨c.2.1.view,c.2.2.2⟩:vQ)).bind λg=>if(decide (g.Num.Num>0))then some ((⟨d.Yes,g.Num,c.2.2.2⟩:Result),0)else some ((⟨d.Yes,(⟨0,1⟩:fQ),c.2.2.2⟩:Result),0)else some ((⟨d.Yes,(⟨0,1⟩:fQ),a.2.2.2⟩:Result),0)
def l4w(g:Laws)(e d h:Int)(f:View):A3 (Result×Int):=(b8v g h).bind λa=>if(a.2!=0)then some ((⟨false,(⟨0,0⟩:fQ),[]⟩:Result),a.2)else(a2v a.1 e).bind λb=>if(b.2.2!=0)then some ((⟨false,(⟨0,0⟩:fQ),[]⟩:Result),b.2.2)else(c2a b.2.1 d f).bind λc=>some (c.1,c.2)
def b9q(a:fQ)(b:Rounding):A3 (Int×Int):=(o7 a).bind λe=>(if(!e)then some true else(a2y b).bind λg=>some (!g)).bind λd=>if d then some (0,1)else(b3x a.Num).bind λf=>(a9o (decide (a.Num<0)) 0 f (u64 (a.Den)) b).bind λc=>some (c.1,c.2)
def l3t(c:O State)(a:Int)(d:Int->A3 Int)(b:Int):A3 Int:=if(decide (b<(c.length:Int)))then(c7 c b).bind λe=>(l4o e a).bind λf=>if f then some b else d (i64 (b+1))else some (-1:Int)
def l3s(b:O State)(a:Int):A3 Int:=d9 FU (l3t b a) 0
def l4n(d:Laws)(l:O aQ)(e:Int):A3 (Right×Bool):=(l4h l d.Treaty e).bind λc=>(l3s d.States c.1).bind λj=>(l4m c.2).bind λg=>(if(g==0)then some true else some (decide (j<0))).bind λn=>if n then some ((⟨0,0,0,0⟩:Right),false)else(c7 d.States j).bind λm=>(b1v m.Statute e).bind λk=>if(!k.2)then some ((⟨0,0,0,0⟩:Right),false)else(l4i d.Treaty c.1 e).bind λo=>(l51 d l c.1 e o).bind λa=>if(a.2!=0)then some ((⟨0,0,0,0⟩:Right),false)else(l4w d c.1 4 e (⟨a.1.Age,a.1.Year,1,a.1.Insured,a.1.Worked,a.1.Voluntary,a.1.Service,a.1.Equated,a.1.Raising,a.1.Resident,a.1.Base,a.1.Years⟩:View)).bind λh=>(if(h.2!=0)then some true else some (!h.1.Holds)).bind λi=>if i then some ((⟨0,0,0,0⟩:Right),false)else(b9q h.1.Pay k.1.Rounding).bind λb=>(c7 d.States j).bind λf=>if(b.2==0)then some ((⟨c.1,g,f.Statute.Currency,b.1⟩:Right),decide (b.1>=1))else some ((⟨c.1,g,f.Statute.Currency,b.1⟩:Right),false)
def l48(b c:Right):A3 Int:=(a2c b.State c.State).bind λa=>some a
def l4x(a b:Right):A3 Bool:=(if(decide (a.Basis<b.Basis))then some true else(if(a.Basis==b.Basis)then some (decide (a.Amount>b.Amount))else some false).bind λc=>some c).bind λd=>some d
def l3y(c:O Right)(d:(Right×Int×Int)->A3 (Int×Bool))(a:Right×Int×Int):A3 (Int×Bool):=if(decide (a.2.1<a.2.2))then(d0l .u64 (u64 (i64 (a.2.1+a.2.2))) 1).bind λb=>(c7 c (i64 (b))).bind λh=>(l48 h a.1).bind λf=>if(decide (f<0))then d (a.1,i64 ((i64 (b))+1),a.2.2)else d (a.1,a.2.1,i64 (b))else(if(decide (a.2.1<(c.length:Int)))then(c7 c a.2.1).bind λe=>(l48 e a.1).bind λi=>some (i==0)else some false).bind λg=>some (a.2.1,g)
def l3r(a:O Right)(b:Right):A3 (Int×Bool):=d9 FU (l3y a) (b,0,(a.length:Int))
def l4d(i:O Int)(k:Int×Bool)(d:((O aQ)×Laws×(O Right)×(O Int)×Int)->A3 (O Right))(a:(O aQ)×Laws×(O Right)×(O Int)×Int):A3 (O Right):=if(decide (a.2.2.2.2<(i.length:Int)))then(c7 a.2.2.2.1 a.2.2.2.2).bind λo=>(c7 a.2.2.2.1 a.2.2.2.2).bind λl=>(l4s a.1 l).bind λj=>(l4n a.2.1 j k.1).bind λc=>if(!c.2)then d (a.1,a.2.1,a.2.2.1,a.2.2.2.1,i64 (a.2.2.2.2+1))else(l3r a.2.2.1 c.1).bind λb=>if(!b.2)then(l41 a.2.2.1 b.1 [c.1]).bind λe=>d (a.1,a.2.1,e,a.2.2.2.1,i64 (a.2.2.2.2+1))else(c7 a.2.2.1 b.1).bind λm=>(c7 a.2.2.1 b.1).bind λg=>(l4x c.1 g).bind λf=>if f then(c7 a.2.2.1 b.1).bind λh=>(c7 a.2.2.1 b.1).bind λn=>d (a.1,a.2.1,a8h a.2.2.1 b.1 c.1,a.2.2.2.1,i64 (a.2.2.2.2+1))else d (a.1,a.2.1,a.2.2.1,a.2.2.2.1,i64 (a.2.2.2.2+1))else some a.2.2.1
def l45(f:Laws)(e:O aQ)(d g:Int):A3 (O Right):=(l43 g).bind λa=>if(!a.2)then some []else(l4k e).bind λc=>(l49 c d a.1).bind λb=>d9 FU (l4d b a) (c,f,[],b,0)
def h8p(a:Int):A3 Bool:=(if(decide (a>=0))then some (decide (a<=2399))else some false).bind λb=>some b
def h8o(a:Int):A3 (Int×Bool):=(h8p a).bind λb=>if(!b)then some (0,false)else(a9y a).bind λc=>some (c,true)
def h8q(d:Int)(e:O Right)(f:Int->A3 Bool)(b:(Right×Int)->A3 Bool)(a:Right×Int):A3 Bool:=if(decide (a.2<d))then(c7 e a.2).bind λc=>if(c.State==a.1.State)then some false else b (a.1,i64 (a.2+1))else f (i64 (d+1))
def h8n(d:O Right)(k:Int->A3 Bool)(b:Int):A3 Bool:=if(decide (b<(d.length:Int)))then(c7 d b).bind λa=>(if(decide (a.State<0))then some true else some (decide (a.State>=6))).bind λi=>(if i then some true else some (decide (a.Basis<1))).bind λf=>(if f then some true else some (decide (a.Basis>3))).bind λe=>(if e then some true else some (decide (a.Currency<1))).bind λj=>(if j then some true else some (decide (a.Currency>999))).bind λh=>(if h then some true else some (decide (a.Amount<1))).bind λg=>(if g then some true else some (decide (a.Amount>1000000000000))).bind λc=>if c then some false else d9 FU (h8q b d k) (a,0)else some true
def h8l(a:O Right):A3 Bool:=if(decide ((a.length:Int)>6))then some false else d9 FU (h8n a) 0
def h8s(e:O aQ)(b a:Int):A3 (O Int):=(l4k e).bind λc=>(l49 c b a).bind λd=>some d
def h8m(b:((O Right)×Int)->A3 Bool)(a:(O Right)×Int):A3 Bool:=if(decide (a.2<(a.1.length:Int)))then(c7 a.1 (i64 (a.2-1))).bind λe=>(c7 a.1 (i64 (a.2-1))).bind λd=>(c7 a.1 a.2).bind λf=>(c7 a.1 a.2).bind λc=>if(decide (d.State>=c.State))then some false else b (a.1,i64 (a.2+1))else some true
def h8k(q l:O Int)(j:O tH)(r o:Int):A3 Bool:=(b11 q).bind λn=>(b04 l).bind λp=>(l46 j).bind λk=>(a4n 112 p k).bind λi=>(b7 r 4).bind λg=>(l47 o).bind λf=>(l45 n i (i64 (1+g)) f).bind λb=>(h8o f).bind λh=>(l4l).bind λm=>(if(!m)then some true else some (!h.2)).bind λc=>(if c then some true else(h8l b).bind λa=>some (!a)).bind λd=>if d then some false else(h8s i (i64 (1+g)) h.1).bind λe=>if(decide ((b.length:Int)>(e.length:Int)))then some false else d9 FU h8m (b,1)
end
def a9k{σ ρ S α:Type}{f:(σ->A3 ρ)->σ->A3 ρ}(l:O α)(e:S->Int->σ)(I:S->Nat->Prop)(Q:A3 ρ->Prop)(hl:l.length<2^62)(hstep:∀rec s(i:Nat)y,i<l.length->l[i]?=some y->I s i->Q (f rec (e s (i:Int)))\/∃s',f rec (e s (i:Int))=rec (e s' ((i+1:Nat):Int))/\I s' (i+1))(hfin:∀rec s,I s l.length->Q (f rec (e s (l.length:Int))))(s:S)(h0:I s 0):Q (d9 FU f (e s 0)):=by
 have key:∀(k:Nat)(s:S)(i:Nat),i<=l.length->I s i->l.length-i<k->Q (d9 k f (e s (i:Int))):=by intro k;induction k with|zero=>omega|succ k ih=>
    intro s i hi hI hk;show Q (f (d9 k f) (e s (i:Int)));by_cases h:i<l.length
    .rcases hstep (d9 k f) s i l[i] h (qG h) hI with h1|⟨s',h1,h2⟩;.omega
     .rw[h1];exact ih s' (i+1) (by omega) h2 (by omega)
    .have:i=l.length:=by omega
     subst this;exact hfin _ _ hI
 have:(0:Int)=((0:Nat):Int):=rfl;exact key FU s 0 (Nat.zero_le _) h0 (by unfold FU;omega)
def a5g{x:Nat}(h:x<2^62):i64 ((x:Int)+1)=((x+1:Nat):Int):=by rw[e9 (by omega) (by omega)];simp
def e7{α:Type}{l:O α}{i:Nat}{y:α}(h:l[i]?=some y):c7 l (i:Int)=some y:=by rw[b4c];omega
def a9h{α:Type}{l:O α}{i:Nat}{y:α}(h:l[i]?=some y):l.take (i+1)=l.take i++[y]:=by
 have hi:i<l.length:=by grind
 rw[List.take_succ_eq_append_getElem hi];simp_all
def d3s{α:Type}(a:O α)(t:α)(h:a.length<2^62):c7 (a++[t]) (i64 (((a++[t]).length:Int)-1))=some t:=by
 have:i64 (((a++[t]).length:Int)-1)=((a.length:Nat):Int):=by rw[qL];simp only[qR,qS];rw[e9 (by omega) (by omega)];omega
 rw[this,b4c];simp
def d3y{α:Type}(a:O α)(t u:α)(h:a.length<2^62):a8h (a++[t]) (i64 (((a++[t]).length:Int)-1)) u=a++[u]:=by
 have:i64 (((a++[t]).length:Int)-1)=((a.length:Nat):Int):=by rw[qL];simp only[qR,qS];rw[e9 (by omega) (by omega)];omega
 unfold a8h;simp_all
def h1f{α:Type}(l:O α):l=[]\/∃a t,l=a++[t]:=by rcases eq_nil_or_concat l with h|⟨a,t,h⟩;all_goals simp_all
def d36{α:Type}{l:O α}{i:Nat}{y:α}(h:l[i]?=some y):l.drop i=y::l.drop (i+1):=by
 have hi:i<l.length:=by grind
 rw[qG hi]at h;rw[List.drop_eq_getElem_cons hi,qH h]
def e4d{α β:Type}{g:β->α->β}{l:O α}{i:Nat}{y:α}{b:β}(h:l[i]?=some y):(l.take (i+1)).foldl g b=g ((l.take i).foldl g b) y:=by rw[a9h h,foldl_append];rfl
end Go.PL
