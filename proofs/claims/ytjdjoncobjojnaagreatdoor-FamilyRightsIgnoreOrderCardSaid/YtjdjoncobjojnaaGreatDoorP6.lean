/- Texts of the proof, joined. -/
import Derived.Test.YtjdjoncobjojnaaGreatDoorP5
import Derived.Laws.BitsLemmas
import Derived.Laws.Bits64
import Derived.Shelf.Strconv.Itoa3
import Derived.Lib.LaidTab
set_option linter.defProp false
set_option linter.unusedVariables false
set_option linter.unusedSimpArgs false
set_option maxRecDepth 100000
open List
namespace Go.PL
open Go
def e9{n:Int}(h0:-9223372036854775808<=n)(h1:n<=9223372036854775807):i64 n=n:=by unfold i64;rw[IntKind.wrap_i64];omega
def b83{n:Int}(h0:0<=n)(h1:n<=18446744073709551615):u64 n=n:=by unfold u64;rw[IntKind.wrap_u64];omega
def g2l(n:Int):u64 n=n%18446744073709551616:=by unfold u64;rw[IntKind.wrap_u64]
def b51(n:Int):0<=u64 n/\u64 n<=18446744073709551615:=by rw[g2l];omega
def d5z(n:Int):-9223372036854775808<=i64 n/\i64 n<=9223372036854775807:=by unfold i64;rw[IntKind.wrap_i64];omega
def b4c{α:Type}(l:O α)(k:Nat):c7 l (k:Int)=l[k]?:=by unfold c7;rw[if_pos (Int.natCast_nonneg k),Int.toNat_natCast]
def y3{b e:Bool}:(if b=true then some true else some e)=some (b||e):=by cases b<;>rfl
def o4{b e:Bool}:(if b=true then some e else some false)=some (b&&e):=by cases b<;>rfl
def a1z{p:Prop}[Decidable p]{e:Bool}:(if p then some true else some e)=some (decide p||e):=by by_cases h:p<;>simp[h]
def a7h{p:Prop}[Decidable p]{e:Bool}:(if p then some e else some false)=some (decide p&&e):=by by_cases h:p<;>simp[h]
def c9i{σ ρ:Type}{f:(σ->A3 ρ)->σ->A3 ρ}(I:σ->Prop)(μ:σ->Nat)(Q:ρ->Prop)(step:∀s rec,I s->(∃r,f rec s=some r/\Q r)\/∃s',f rec s=rec s'/\I s'/\μ s'<μ s):∀(k:Nat)(s:σ),I s->μ s<k->∃r,d9 k f s=some r/\Q r
 |0,_,_,h=>absurd h (Nat.not_lt_zero _)|k+1,s,hs,hk=>by
   rcases step s (d9 k f) hs with⟨r,h1,h2⟩|⟨s',h1,h2,h3⟩;.exact⟨r,h1,h2⟩
   .obtain⟨r,h4,h5⟩:=c9i I μ Q step k s' h2 (by omega);exact⟨r,by show f (d9 k f) s=_;rw[h1,h4],h5⟩
def b9s{σ ρ:Type}{f:(σ->A3 ρ)->σ->A3 ρ}(I:σ->Prop)(μ:σ->Nat)(Q:ρ->Prop){s:σ}(h0:I s)(hμ:μ s<2^70)(step:∀s rec,I s->(∃r,f rec s=some r/\Q r)\/∃s',f rec s=rec s'/\I s'/\μ s'<μ s):∃r,d9 FU f s=some r/\Q r:=c9i I μ Q step FU s h0 (by unfold FU;exact hμ)
def d05{σ ρ:Type}{f:(σ->A3 ρ)->σ->A3 ρ}(I:σ->Prop)(μ:σ->Nat)(Q:A3 ρ->Prop)(step:∀s rec,I s->Q (f rec s)\/∃s',f rec s=rec s'/\I s'/\μ s'<μ s):∀(k:Nat)(s:σ),I s->μ s<k->Q (d9 k f s)
 |0,_,_,h=>absurd h (Nat.not_lt_zero _)|k+1,s,hs,hk=>by
   rcases step s (d9 k f) hs with h1|⟨s',h1,h2,h3⟩;.exact h1
   .show Q (f (d9 k f) s);rw[h1];exact d05 I μ Q step k s' h2 (by omega)
def c4u{σ ρ:Type}{f:(σ->A3 ρ)->σ->A3 ρ}(I:σ->Prop)(μ:σ->Nat)(Q:A3 ρ->Prop){s:σ}(h0:I s)(hμ:μ s<2^70)(step:∀s rec,I s->Q (f rec s)\/∃s',f rec s=rec s'/\I s'/\μ s'<μ s):Q (d9 FU f s):=d05 I μ Q step FU s h0 (by unfold FU;exact hμ)
def d04{a b:Int}(h:b≠0):b8t a b=some (a.tmod b):=by unfold b8t;rw[if_neg h]
def e9a{a b:Int}(h:b≠0):c2t a b=some (i64 (a.tdiv b)):=by unfold c2t;rw[if_neg h]
def p6{α:Type}{bytes:Nat}{l x:O α}(h:(l.length+x.length)*bytes<=140737488355328):a4n bytes l x=some (l++x):=by unfold a4n;rw[if_pos h]
def b26{α:Type}{l:O α}{lo hi:Int}(h0:0<=lo)(h1:lo<=hi)(h2:hi<=(l.length:Int)):a1x l lo hi=some ((l.drop lo.toNat).take (hi.toNat-lo.toNat)):=by unfold a1x;rw[if_pos ⟨h0,h1,h2⟩]
def c9f{a b:Int}(h:0<=a):a.tmod b=a%b:=Int.tmod_eq_emod_of_nonneg h
def c7w{a b:Int}(h:0<=a):a.tdiv b=a/b:=Int.tdiv_eq_ediv_of_nonneg h
def g4v:Nat->Nat->O UInt8|0,u=>[UInt8.ofNat (48+u)]|k+1,u=>if u<10then[UInt8.ofNat (48+u)]else g4v k (u/10)++[UInt8.ofNat (48+u%10)]
def e9y:∀(k u:Nat),u<10^(k+1)->g4v k u=Lib.decDigits u
 |0,u,h=>by rw[Lib.decDigits,dif_pos (by simpa using h)];rfl|k+1,u,h=>by
   rw[Lib.decDigits];unfold g4v;by_cases hu:u<10;.rw[if_pos hu,dif_pos hu]
   .rw[if_neg hu,dif_neg hu,e9y k (u/10) (by rw[Nat.pow_succ]at h;omega)]
def strconv_Itoa(a:Int):A3 A4:=if 0<=a/\a<=9223372036854775807then some ⟨(g4v 20 a.toNat).toArray⟩else none
end Go.PL
namespace Go.SX
open Go Go.PL Go.Proofs Go.Shelf
def f8r{P:Program}{nm:String}{k:IntKind}{zs:O Int}{g:Nat}(hg:P.globalNamed nm=some g){w w':World}(h:Lib.TabIs P w nm k zs)(hb:w'.heap[g]?=w.heap[g]?):Lib.TabIs P w' nm k zs:=by unfold Lib.TabIs World.var? at*;rw[hg]at*;simpa[hb]using h
def g7m{P:Program}{nm:String}{k:IntKind}{zs:O Int}{g:Nat}(hg:P.globalNamed nm=some g){w:World}(h:Lib.TabIs P w nm k zs):g<w.heap.size:=by unfold Lib.TabIs World.var? at h;rw[hg]at h;cases hh:w.heap[g]?with|none=>simp[hh]at h|some o=>exact(qN.1 hh).1
def f3k(G:Nat->Prop)(w:World)(k:Nat)(os:Array Obj):Ext G w (Sort.grow (w.drewN k) os):=⟨rfl,rfl,rfl,by simp[Sort.grow,World.drewN],λb hb _=>by simp[Sort.grow,World.drewN,Array.getElem?_append_left hb]⟩
section
variable {P:Program} {U:Uni}
def e8o{ρ:Ren}(L:LaysM.n171 P ρ)(ht:∀w,U.tab w->Lib.TabIs P w "internal/strconv.uint64pow10" .u64 Lib.pow10Tab){a c:U.C}(fa:U.T a->Int)(ha:∀x,(inj a x:U.AV)=.int .i64 (fa x))(fc:A4->U.T c)(hc:∀s,(inj c (fc s):U.AV)=.str s):Spec P (ρ.f 171) (⟨⟨[.v a],[.v c]⟩,A4,λx=>strconv_Itoa (fa x.1),λb=>((fc b,()),()),none⟩:Fent U):=by intro xs r hr Z G w us hl hR;match us,hl with
 |[u1],_=>
   have s0:AVR _ (inj a xs.1) u1:=hR.slot 0;rw[ha]at s0;have s0:u1=.int .i64 (fa xs.1):=s0;have hr:strconv_Itoa (fa xs.1)=some r:=hr;unfold strconv_Itoa at hr;split at hr
   .rename_i hb;have hr:=(qH hr).symm;have e:Lib.itoa (fa xs.1)=g4v 20 (fa xs.1).toNat:=by unfold Lib.itoa;rw[if_neg (by omega),e9y 20 _ (by omega)]
    have hC:=Any.strconv_Itoa L (fa xs.1) (by omega) hb.2 w (ht w hR.tab.1);subst s0;show Calls P (ρ.f 171) #[Value.int .i64 (fa xs.1)] w _;refine hC.mono ?_;rintro e' w'⟨he,k,os,hw⟩;subst hw;refine⟨_,he,⟨Z,[_],[.int .i64 (fa xs.1)],rfl,λ_ h=>h,λ_ h=>.inl h,f3k _ _ _ _,rfl,λ_ _ _ _=>rfl,⟨?_,trivial⟩,trivial,?_,?_⟩⟩;.show a1p _ (inj c (fc r)) _;rw[hc,hr,<-e];rfl
    .intro v hv;cases hv
    .intro i j v v' b _ hv;cases hv
   .cases hr
end
end Go.SX
namespace Go.PL
open Go Go.SX
structure Rounding where
 Mode:Int
 Unit:Int
structure Credit where
 Kind:Int
 Limit:Int
structure fQ where
 Num:Int
 Den:Int
structure Index where
 Year:Int
 Factor:fQ
structure Expr where
 Op:Int
 Value:fQ
 Dim:Int
 Name:ByteArray
 Args:List Expr
structure Let where
 Name:ByteArray
 Body:Expr
structure Grant where
 Benefit:Int
 If:Expr
 Pay:Expr
structure Reduce where
 Benefit:Int
 By:Expr
structure Version where
 From:Int
 Rounding:Rounding
 Credits:List Credit
 Series:List Index
 Lets:List Let
 Grants:List Grant
 Reduces:List Reduce
structure Rules where
 From:Int
 MinDays:Int
 PostingLimit:Int
 Substantial:Int
 Members:List Int
structure Value where
 Dim:Int
 Yes:Bool
 Num:fQ
structure Step where
 Name:ByteArray
 Value:Value
structure iQ where
 Name:ByteArray
 Dim:Int
structure Right where
 State:Int
 Basis:Int
 Currency:Int
 Amount:Int
structure Span where
 From:Int
 To:Int
structure Token where
 Kind:Int
 Text:ByteArray
 At:Int
structure rQ where
 l:List Token
 at_:Int
 end_:Int
 bad:Bool
structure pensionref1_wide where
 hi:Int
 lo:Int
structure Statute where
 Name:ByteArray
 Currency:Int
 Versions:List Version
structure State where
 State:Int
 Statute:Statute
structure Rate where
 Currency:Int
 Month:Int
 Value:fQ
structure Laws where
 States:List State
 Treaty:List Rules
 Rates:List Rate
structure aQ where
 Issuer:Int
 Number:Int
 Version:Int
 Withdrawn:Bool
 Person:Int
 Kind:Int
 State:Int
 Span:Span
 Seat:Int
 Share:Int
 Currency:Int
 Amount:Int
 Ref:Int
structure tH where
 Issuer:Int
 Number:Int
 Version:Int
 Withdrawn:Bool
 Person:Int
 Kind:Int
 State:Int
 Seat:Int
 From:Int
 Length:Int
 Share:Int
 Amount:Int
 Ref:Int
structure Posting where
 Seat:Int
 State:Int
 Span:Span
structure uQ where
 seat:Int
 state:Int
structure lQ where
 facts:List aQ
 span:Span
 postings:List Posting
 rules:List Rules
structure syntax_entry where
 name:ByteArray
 number:Int
structure bQ where
 laws:Laws
 day:Int
 rules:Rules
structure gQ where
 Span:Span
 State:Int
 Rule:Int
structure Period where
 State:Int
 Rank:Int
 Span:Span
structure Scheme where
 State:Int
 Version:Version
structure Anon378 where
 kind:Int
 rank:Int
structure nQ where
 Span:Span
 State:Int
 Rank:Int
structure Piece where
 Span:Span
 Members:List Int
structure earnings_income where
 fact:aQ
 days:List Span
structure Earning where
 Year:Int
 Amount:Int
structure rational_wide where
 hi:Int
 lo:Int
structure View where
 Age:Int
 Year:Int
 Children:Int
 Insured:Int
 Worked:Int
 Voluntary:Int
 Service:Int
 Equated:Int
 Raising:Int
 Resident:Int
 Base:fQ
 Years:List Int
structure vQ where
 view:View
 steps:List Step
structure Result where
 Holds:Bool
 Pay:fQ
 Steps:List Step
structure FamilyPay where
 State:Int
 Currency:Int
 Amount:Int
 Primary:Bool
structure family_value where
 num:Int
 den:Int
def a3j:A4:=⟨#[]⟩
def a6h:A4:=⟨#[48,49,50,51,52,53,54,55,56,57]⟩
def b1i:A4:=⟨#[46]⟩
def c6e:A4:=⟨#[102,114,111,109,32,64]⟩
def c1g:A4:=⟨#[32,123,32,114,111,117,110,100,32]⟩
def c33:A4:=⟨#[100,111,119,110,32,49,59,32]⟩
def d01:A4:=⟨#[99,114,101,100,105,116,32,118,111,108,117,110,116,97,114,121,59,32,99,114,101,100,105,116,32,117,110,101,109,112,108,111,121,101,100,32,108,105,109,105,116,32]⟩
def b7x:A4:=⟨#[59,32]⟩
def c8s:A4:=⟨#[99,114,101,100,105,116,32,99,104,105,108,100,32,108,105,109,105,116,32]⟩
def c9v:A4:=⟨#[99,114,101,100,105,116,32,114,101,115,105,100,101,110,99,101,59,32]⟩
def c9k:A4:=⟨#[105,110,100,101,120,32,49,57,54,48,32,49,59,32,105,110,100,101,120,32,49,57,56,48,32]⟩
def c9z:A4:=⟨#[59,32,105,110,100,101,120,32,49,57,57,53,32]⟩
def c83:A4:=⟨#[108,101,116,32,115,112,101,110,116,32,61,32,105,110,115,117,114,101,100,32,47,32]⟩
def c8f:A4:=⟨#[100,59,32,108,101,116,32,112,97,114,116,32,61,32,109,105,110,40,115,112,101,110,116,32,42,32]⟩
def d0e:A4:=⟨#[44,32,48,46,56,48,41,59,32]⟩
def c8t:A4:=⟨#[103,114,97,110,116,32,111,108,100,32,105,102,32,97,103,101,32,62,61,32]⟩
def c8p:A4:=⟨#[32,97,110,100,32,105,110,115,117,114,101,100,32,62,61,32]⟩
def d02:A4:=⟨#[100,32,112,97,121,32,109,97,120,40,98,97,115,101,32,42,32,112,97,114,116,44,32]⟩
def c6o:A4:=⟨#[109,41,59,32]⟩
def c8d:A4:=⟨#[103,114,97,110,116,32,100,105,115,97,98,105,108,105,116,121,32,105,102,32,105,110,115,117,114,101,100,32,62,61,32]⟩
def c80:A4:=⟨#[100,32,112,97,121,32,98,97,115,101,32,42,32]⟩
def c9d:A4:=⟨#[103,114,97,110,116,32,115,117,114,118,105,118,111,114,32,105,102,32,119,111,114,107,101,100,32,43,32,101,113,117,97,116,101,100,32,62,61,32,51,48,100,32,112,97,121,32,98,97,115,101,32,42,32,112,97,114,116,32,42,32,48,46,54,48,59,32]⟩
def c86:A4:=⟨#[103,114,97,110,116,32,102,97,109,105,108,121,32,105,102,32,105,110,115,117,114,101,100,32,62,61,32]⟩
def d1p:A4:=⟨#[100,32,112,97,121,32]⟩
def c9u:A4:=⟨#[109,32,42,32,99,104,105,108,100,114,101,110,59,32]⟩
def c9l:A4:=⟨#[103,114,97,110,116,32,115,105,99,107,110,101,115,115,32,105,102,32,105,110,115,117,114,101,100,32,62,61,32]⟩
def c7y:A4:=⟨#[100,32,112,97,121,32,98,101,115,116,40,51,41,32,47,32,49,50,32,42,32,48,46,55,48,59,32]⟩
def b7g:A4:=⟨#[114,101,100,117,99,101,32,111,108,100,32,98,121,32]⟩
def c8b:A4:=⟨#[114,101,100,117,99,101,32,100,105,115,97,98,105,108,105,116,121,32,98,121,32,105,102,32,97,103,101,32,60,32,54,48,32,116,104,101,110,32,48,46,53,48,32,101,108,115,101,32,49,59,32]⟩
def d3i:A4:=⟨#[125,32]⟩
def c32:A4:=⟨#[104,97,108,102,32,53,59,32]⟩
def c6d:A4:=⟨#[117,112,32,49,59,32]⟩
def c19:A4:=⟨#[101,118,101,110,32,49,48,59,32]⟩
def c2c:A4:=⟨#[97,108,98,97]⟩
def c24:A4:=⟨#[98,111,114,97]⟩
def b8j:A4:=⟨#[99,101,100,97,114]⟩
def c70:A4:=⟨#[115,116,97,116,117,116,101,32]⟩
def c2x:A4:=⟨#[32,99,117,114,114,101,110,99,121,32]⟩
def d8i:A4:=⟨#[32,123,32]⟩
def b7u:A4:=⟨#[49,57,48,48,45,48,49,45,48,49]⟩
def b7v:A4:=⟨#[49,57,57,54,45,48,55,45,48,49]⟩
def b80:A4:=⟨#[50,48,48,49,45,48,49,45,48,49]⟩
def d0a:A4:=⟨#[125]⟩
def d28:A4:=⟨#[60,61]⟩
def d30:A4:=⟨#[62,61]⟩
def d1k:A4:=⟨#[60,62]⟩
def c9m:A4:=⟨#[97,110,100]⟩
def c51:A4:=⟨#[98,101,115,116]⟩
def d69:A4:=⟨#[98,121]⟩
def b91:A4:=⟨#[99,114,101,100,105,116]⟩
def b4x:A4:=⟨#[99,117,114,114,101,110,99,121]⟩
def c53:A4:=⟨#[101,108,115,101]⟩
def c1a:A4:=⟨#[102,108,111,111,114]⟩
def c4c:A4:=⟨#[102,114,111,109]⟩
def c10:A4:=⟨#[103,114,97,110,116]⟩
def d0k:A4:=⟨#[105,102]⟩
def c1q:A4:=⟨#[105,110,100,101,120]⟩
def d07:A4:=⟨#[108,101,116]⟩
def c1c:A4:=⟨#[108,105,109,105,116]⟩
def c98:A4:=⟨#[109,97,120]⟩
def c8l:A4:=⟨#[109,105,110]⟩
def c92:A4:=⟨#[110,111,116]⟩
def d8p:A4:=⟨#[111,114]⟩
def c60:A4:=⟨#[112,97,121]⟩
def b94:A4:=⟨#[114,101,100,117,99,101]⟩
def c14:A4:=⟨#[114,111,117,110,100]⟩
def b76:A4:=⟨#[115,116,97,116,117,116,101]⟩
def d3p:A4:=⟨#[116,104,101,110]⟩
def b3u:A4:=⟨#[0,1,2,2,3,3,3,3,4,4,4,4,4,4,4,4,5,5,5,5,5,5,5,5,5,5,5,5,5,5,5,5,6,6,6,6,6,6,6,6,6,6,6,6,6,6,6,6,6,6,6,6,6,6,6,6,6,6,6,6,6,6,6,6,7,7,7,7,7,7,7,7,7,7,7,7,7,7,7,7,7,7,7,7,7,7,7,7,7,7,7,7,7,7,7,7,7,7,7,7,7,7,7,7,7,7,7,7,7,7,7,7,7,7,7,7,7,7,7,7,7,7,7,7,7,7,7,7,8,8,8,8,8,8,8,8,8,8,8,8,8,8,8,8,8,8,8,8,8,8,8,8,8,8,8,8,8,8,8,8,8,8,8,8,8,8,8,8,8,8,8,8,8,8,8,8,8,8,8,8,8,8,8,8,8,8,8,8,8,8,8,8,8,8,8,8,8,8,8,8,8,8,8,8,8,8,8,8,8,8,8,8,8,8,8,8,8,8,8,8,8,8,8,8,8,8,8,8,8,8,8,8,8,8,8,8,8,8,8,8,8,8,8,8,8,8,8,8,8,8,8,8,8,8,8,8]⟩
def b0b:A4:=⟨#[118,111,108,117,110,116,97,114,121]⟩
def b3z:A4:=⟨#[115,101,114,118,105,99,101]⟩
def b87:A4:=⟨#[117,110,101,109,112,108,111,121,101,100]⟩
def d54:A4:=⟨#[115,105,99,107]⟩
def c97:A4:=⟨#[99,104,105,108,100]⟩
def c04:A4:=⟨#[114,101,115,105,100,101,110,99,101]⟩
def d9m:A4:=⟨#[111,108,100]⟩
def b8e:A4:=⟨#[100,105,115,97,98,105,108,105,116,121]⟩
def c0u:A4:=⟨#[115,117,114,118,105,118,111,114]⟩
def c66:A4:=⟨#[102,97,109,105,108,121]⟩
def c0r:A4:=⟨#[115,105,99,107,110,101,115,115]⟩
def d4s:A4:=⟨#[100,111,119,110]⟩
def f1e:A4:=⟨#[117,112]⟩
def d3b:A4:=⟨#[104,97,108,102]⟩
def d3z:A4:=⟨#[101,118,101,110]⟩
def g5d:A4:=⟨#[43]⟩
def e00:A4:=⟨#[45]⟩
def g62:A4:=⟨#[42]⟩
def e8f:A4:=⟨#[47]⟩
def g4g:A4:=⟨#[60]⟩
def e7j:A4:=⟨#[61]⟩
def g5n:A4:=⟨#[62]⟩
def e02:A4:=⟨#[40]⟩
def d38:A4:=⟨#[41]⟩
def g2w:A4:=⟨#[44]⟩
def c3s:A4:=⟨#[59]⟩
def e8b:A4:=⟨#[123]⟩
def e4t:A4:=⟨#[100]⟩
def e6u:A4:=⟨#[109]⟩
def b1y:A4:=⟨#[83,80,84,72,67,65]⟩
def a6w:A4:=⟨#[83,80,72,67,65]⟩
def c0p:A4:=⟨#[83,80,84]⟩
def a9l:A4:=⟨#[83,80]⟩
def b82:A4:=⟨#[83,80,67,65]⟩
def c1r:A4:=⟨#[83,80,82]⟩
def c0e:A4:=⟨#[80]⟩
def c6f:A4:=⟨#[80,82]⟩
def g49:A4:=⟨#[83]⟩
def g4j:A4:=⟨#[84]⟩
def g3v:A4:=⟨#[72]⟩
def g50:A4:=⟨#[67]⟩
def g4u:A4:=⟨#[65]⟩
def g5k:A4:=⟨#[82]⟩
def e0r:A4:=⟨#[97,103,101]⟩
def b6u:A4:=⟨#[105,110,115,117,114,101,100]⟩
def e39:A4:=⟨#[98,97,115,101]⟩
def c5w:A4:=⟨#[119,111,114,107,101,100]⟩
def c3c:A4:=⟨#[101,113,117,97,116,101,100]⟩
def c3j:A4:=⟨#[114,97,105,115,105,110,103]⟩
def c6v:A4:=⟨#[114,101,115,105,100,101,110,116]⟩
def d3o:A4:=⟨#[121,101,97,114]⟩
def c6q:A4:=⟨#[99,104,105,108,100,114,101,110]⟩
abbrev lpC{σ ρ:Type}(s:σ)(f:(σ->A3 ρ)->σ->A3 ρ):A3 ρ:=d9 FU f s
noncomputable section
def i59(a b:O Int):A3 Int:=some (j96 (a.map λx=>x) (b.map λx=>x))
def a7v(s:A4)(c:Int):A3 Int:=some (g6v s c)
def c23(x y c:Int):A3 (Int×Int):=g7y x y c
def c1u(x y c:Int):A3 (Int×Int):=g8x x y c
def l4l:A3 Bool:=some true
def a7z(a:O Int):A3 (O Int):=a4n 8 [] a
def a5m(a:O Credit):A3 (O Credit):=a4n 16 [] a
def a6e(a:O Index):A3 (O Index):=a4n 24 [] a
def a86(a:O Let):A3 (O Let):=a4n 88 [] a
def a6f(a:O Grant):A3 (O Grant):=a4n 152 [] a
def a5p(a:O Reduce):A3 (O Reduce):=a4n 80 [] a
def l41(a:O Right)(c:Int)(b:O Right):A3 (O Right):=m4i 32 a c b
instance:Inhabited Span:=⟨⟨0,0⟩⟩
def b3w(l:O Span):A3 (O Span):=f0f (λx y=>decide (x.From<y.From)) l
def b54(f:(Int×A4)->A3 A4)(a:Int×A4):A3 A4:=if(decide (a.1>9))then(b8t a.1 10).bind λh=>(b8t a.1 10).bind λb=>(c3u a6h h (i64 (b+1))).bind λd=>(a7f d a.2).bind λc=>(c2t a.1 10).bind λe=>f (e,c)else(c3u a6h a.1 (i64 (a.1+1))).bind λg=>(a7f g a.2).bind λi=>some i
def i8(a:Int):A3 A4:=d9 FU b54 (a,a3j)
def b7(c b:Int):A3 Int:=(b8t c b).bind λa=>if(decide (a<0))then some (i64 (a+b))else some a
def c5(a:O Int)(d:Int):A3 Int:=if((a.length:Int)==0)then some 0 else(b7 d (a.length:Int)).bind λb=>(c7 a b).bind λc=>some c
def a01(a:Int):A3 A4:=(c2t a 100).bind λi=>(i8 i).bind λe=>(a7f e b1i).bind λj=>(c2t a 10).bind λc=>(b8t c 10).bind λf=>(i8 f).bind λd=>(a7f j d).bind λg=>(b8t a 10).bind λh=>(i8 h).bind λk=>(a7f g k).bind λb=>some b
def a5b(a:(O Int)×Int×A4):A3 A4:=(c5 a.1 (i64 (a.2.1+18))).bind λc=>(b7 c 3).bind λe=>if(e==0)then(a7f a.2.2 c8b).bind λd=>(a7f d d3i).bind λf=>some f else(a7f a.2.2 d3i).bind λb=>some b
def a5c(a:(O Int)×Int×A4):A3 A4:=(c5 a.1 (i64 (a.2.1+14))).bind λk=>(b7 k 800).bind λi=>(i8 i).bind λx=>(a7f c86 x).bind λv=>(a7f v d1p).bind λu=>(c5 a.1 (i64 (a.2.1+15))).bind λh=>(b7 h 300).bind λz=>(i8 (i64 (10+z))).bind λq=>(a7f u q).bind λn=>(a7f n c9u).bind λg=>(a7f a.2.2 g).bind λy=>(c5 a.1 (i64 (a.2.1+16))).bind λj=>(b7 j 400).bind λm=>(i8 m).bind λp=>(a7f c9l p).bind λw=>(a7f w c7y).bind λt=>(a7f y t).bind λf=>(c5 a.1 (i64 (a.2.1+17))).bind λl=>(b7 l 3).bind λr=>if(decide (r>0))then(c5 a.1 (i64 (a.2.1+17))).bind λs=>(b7 s 11).bind λo=>(a01 (i64 (10*o))).bind λb=>(a7f b7g b).bind λc=>(a7f c b7x).bind λd=>(a7f f d).bind λe=>joinC a5b (a.1,a.2.1,e)else joinC a5b (a.1,a.2.1,f)
def a5j(a:(O Int)×Int×A4×A4):A3 A4:=(c5 a.1 (i64 (a.2.1+5))).bind λE=>(b7 E 300).bind λH=>(a01 (i64 (100+H))).bind λu=>(a7f c9k u).bind λr=>(a7f r c9z).bind λU=>(c5 a.1 (i64 (a.2.1+6))).bind λx=>(b7 x 300).bind λd=>(a01 (i64 (400+d))).bind λI=>(a7f U I).bind λm=>(a7f m b7x).bind λo=>(a7f a.2.2.2 o).bind λn=>(a7f c83 a.2.2.1).bind λf=>(a7f f c8f).bind λP=>(c5 a.1 (i64 (a.2.1+7))).bind λl=>(b7 l 4).bind λD=>(a01 (i64 (1+D))).bind λQ=>(a7f P Q).bind λF=>(a7f F d0e).bind λJ=>(a7f n J).bind λe=>(c5 a.1 (i64 (a.2.1+8))).bind λq=>(b7 q 12).bind λC=>(i8 (i64 (50+C))).bind λc=>(a7f c8t c).bind λR=>(a7f R c8p).bind λV=>(c5 a.1 (i64 (a.2.1+9))).bind λG=>(b7 G 6000).bind λt=>(i8 t).bind λz=>(a7f V z).bind λY=>(a7f Y d02).bind λg=>(c5 a.1 (i64 (a.2.1+10))).bind λp=>(b7 p 900).bind λK=>(i8 K).bind λj=>(a7f g j).bind λw=>(a7f w c6o).bind λS=>(a7f e S).bind λA=>(c5 a.1 (i64 (a.2.1+11))).bind λh=>(b7 h 2000).bind λW=>(i8 W).bind λk=>(a7f c8d k).bind λL=>(a7f L c80).bind λy=>(c5 a.1 (i64 (a.2.1+12))).bind λX=>(b7 X 60).bind λv=>(a01 (i64 (20+v))).bind λB=>(a7f y B).bind λT=>(a7f T b7x).bind λi=>(a7f A i).bind λb=>(c5 a.1 (i64 (a.2.1+13))).bind λM=>(b7 M 5).bind λN=>if(decide (N>0))then(a7f b c9d).bind λs=>joinC a5c (a.1,a.2.1,s)else joinC a5c (a.1,a.2.1,b)
def a5k(a:(O Int)×Int×A4×A4):A3 A4:=(c5 a.1 (i64 (a.2.1+4))).bind λd=>(b7 d 4).bind λb=>if(b==0)then(a7f a.2.2.2 c9v).bind λc=>joinC a5j (a.1,a.2.1,a.2.2.1,c)else joinC a5j (a.1,a.2.1,a.2.2.1,a.2.2.2)
def a1a(a:(O Int)×Int×A4×A4):A3 A4:=(c5 a.1 (i64 (a.2.1+2))).bind λo=>(b7 o 900).bind λn=>(i8 (i64 (1+n))).bind λi=>(a7f d01 i).bind λe=>(a7f e b7x).bind λf=>(a7f a.2.2.2 f).bind λb=>(c5 a.1 (i64 (a.2.1+3))).bind λk=>(b7 k 3).bind λc=>if(decide (c>0))then(c5 a.1 (i64 (a.2.1+3))).bind λd=>(b7 d 1000).bind λh=>(i8 (i64 (100+h))).bind λg=>(a7f c8s g).bind λm=>(a7f m b7x).bind λj=>(a7f b j).bind λl=>joinC a5k (a.1,a.2.1,a.2.2.1,l)else joinC a5k (a.1,a.2.1,a.2.2.1,b)
def a38(n:A4)(a:O Int)(b:Int):A3 A4:=(c5 a b).bind λm=>(b7 m 90).bind λk=>(i8 (i64 (300+k))).bind λg=>(a7f c6e n).bind λi=>(a7f i c1g).bind λf=>(c5 a (i64 (b+1))).bind λj=>(b7 j 4).bind λh=>if(h==0)then(a7f f c33).bind λl=>joinC a1a (a,b,g,l)else if(h==1)then(a7f f c32).bind λc=>joinC a1a (a,b,g,c)else if(h==2)then(a7f f c6d).bind λe=>joinC a1a (a,b,g,e)else(a7f f c19).bind λd=>joinC a1a (a,b,g,d)
def a7x(a:Int×(O Int)×A4):A3 A4:=(c5 a.2.1 (i64 (37+a.1))).bind λg=>(b7 g 3).bind λf=>if(f==0)then(a38 b80 a.2.1 (i64 ((i64 (7*a.1))+5))).bind λb=>(a7f a.2.2 b).bind λc=>(a7f c d0a).bind λe=>some e else(a7f a.2.2 d0a).bind λd=>some d
def b10(a:Int)(b:O Int):A3 A4:=(c7 (⟨[c2c,c24,b8j],rfl⟩:Ar 3 A4).l a).bind λo=>(c7 (⟨[c2c,c24,b8j],rfl⟩:Ar 3 A4).l a).bind λj=>(a7f c70 j).bind λn=>(a7f n c2x).bind λh=>(i8 (i64 (1+a))).bind λk=>(a7f h k).bind λi=>(a7f i d8i).bind λl=>(a38 b7u b (i64 (7*a))).bind λm=>(a7f l m).bind λg=>(c5 b (i64 (31+a))).bind λf=>(b7 f 3).bind λe=>if(decide (e>0))then(a38 b7v b (i64 ((i64 (7*a))+3))).bind λd=>(a7f g d).bind λc=>joinC a7x (a,b,c)else joinC a7x (a,b,g)
def b78(d:A4)(c:(Int×Bool)->A3 Int)(a:Int×Bool):A3 Int:=if(decide (a.1<(d.size:Int)))then(b3c d a.1).bind λb=>if(b==10)then c (i64 (a.1+1),false)else if(b==35)then c (i64 (a.1+1),true)else(if(!a.2)then some (b !=9)else some false).bind λe=>(if e then some (b !=13)else some false).bind λg=>(if g then some (b !=32)else some false).bind λf=>if f then some a.1else c (i64 (a.1+1),a.2)else some a.1
def b16(a:A4)(b:Int):A3 Int:=d9 FU (b78 a) (b,false)
def a3q(a:Int):A3 Bool:=(if(decide (a>=97))then some (decide (a<=122))else some false).bind λb=>some b
def a30(a:Int):A3 Bool:=(if(decide (a>=48))then some (decide (a<=57))else some false).bind λb=>some b
def b7b(b:Int)(c:A4)(n:Bool)(l:Int->A3 Int)(a:Int):A3 Int:=(if(decide ((i64 (b+a))<(c.size:Int)))then(b3c c (i64 (b+a))).bind λo=>(a3q o).bind λh=>(if h then some true else(b3c c (i64 (b+a))).bind λj=>(a30 j).bind λi=>some i).bind λk=>(if k then some true else(b3c c (i64 (b+a))).bind λm=>some (m==95)).bind λp=>(if p then some true else(if n then(b3c c (i64 (b+a))).bind λg=>some (g==46)else some false).bind λf=>some f).bind λe=>some e else some false).bind λd=>if d then l (i64 (a+1))else some a
def a9f(a:A4)(c:Int)(b:Bool):A3 Int:=d9 FU (b7b c a b) 0
def b5u(a:Int×A4×A4)(h:Int->A3 (A4×A4×Int×Bool))(b:Int):A3 (A4×A4×Int×Bool):=if(decide (b<(i64 ((a.2.1.size:Int)+(a.2.2.size:Int)))))then(a7f a.2.1 a.2.2).bind λe=>(b3c e b).bind λj=>(a30 j).bind λi=>if(!i)then some (a3j,a3j,0,false)else h (i64 (b+1))else(if(decide ((a.2.1.size:Int)<1))then some true else some (decide ((a.2.1.size:Int)>9))).bind λc=>(if c then some true else(if(decide ((a.2.1.size:Int)>1))then(b3c a.2.1 0).bind λd=>some (d==48)else some false).bind λg=>some g).bind λf=>if f then some (a3j,a3j,0,false)else some (a.2.1,a.2.2,a.1,true)
def a6o(a:Int×A4×A4):A3 (A4×A4×Int×Bool):=d9 FU (b5u a) 0
def b5t(b:A4×Int)(f:(Int×Int)->A3 (A4×A4×Int×Bool))(a:Int×Int):A3 (A4×A4×Int×Bool):=if(decide (a.2>=0))then(b3c b.1 a.2).bind λg=>if(g==46)then f (a.2,i64 (a.2-1))else f (a.1,i64 (a.2-1))else(c3u b.1 0 a.1).bind λe=>if(decide (a.1<(b.1.size:Int)))then(c3u b.1 (i64 (a.1+1)) (b.1.size:Int)).bind λc=>(if(decide ((c.size:Int)<1))then some true else some (decide ((c.size:Int)>4))).bind λd=>if d then some (a3j,a3j,0,false)else joinC a6o (b.2,e,c)else joinC a6o (b.2,e,a3j)
def a45(a:A4×Int):A3 (A4×A4×Int×Bool):=d9 FU (b5t a) ((a.1.size:Int),i64 ((a.1.size:Int)-1))
def a6z(a:A4):A3 (A4×A4×Int×Bool):=(if(decide ((a.size:Int)>0))then(b3c a (i64 ((a.size:Int)-1))).bind λf=>some (f==100)else some false).bind λe=>if e then(c3u a 0 (i64 ((a.size:Int)-1))).bind λg=>joinC a45 (g,3)else(if(decide ((a.size:Int)>0))then(b3c a (i64 ((a.size:Int)-1))).bind λd=>some (d==109)else some false).bind λb=>if b then(c3u a 0 (i64 ((a.size:Int)-1))).bind λc=>joinC a45 (c,4)else joinC a45 (a,2)
def b5p(b:A4)(f:(Int×Int)->A3 (Int×Bool))(a:Int×Int):A3 (Int×Bool):=if(decide (a.2<(b.size:Int)))then(b3c b a.2).bind λg=>(if(decide (g<48))then some true else(b3c b a.2).bind λc=>some (decide (c>57))).bind λe=>if e then some (0,false)else(b3c b a.2).bind λd=>f (i64 ((i64 (a.1*10))+(i64 (IntKind.u8.wrap (d-48)))),i64 (a.2+1))else some (a.1,decide ((b.size:Int)>0))
def a4m(a:A4):A3 (Int×Bool):=d9 FU (b5p a) (0,0)
def b18(a:Int):A3 Bool:=(b8t a 4).bind λe=>(if(e==0)then(b8t a 100).bind λc=>(if(c !=0)then some true else(b8t a 400).bind λf=>some (f==0)).bind λb=>some b else some false).bind λd=>some d
def a6b(c a:Int):A3 Int:=if(a==2)then(b18 c).bind λb=>if b then some 29 else some 28 else if(a==4)then if(a==4)then some 30 else some 31 else if(a==6)then if(a==6)then some 30 else some 31 else if(a==9)then if(a==9)then some 30 else some 31 else if(a==11)then some 30 else some 31
def b5s(f:Int)(d:(Int×Int)->A3 Int)(a:Int×Int):A3 Int:=if(decide (a.2<f))then(c2t a.2 12).bind λe=>(b8t a.2 12).bind λb=>(a6b (i64 (1900+e)) (i64 (b+1))).bind λc=>d (i64 (a.1+c),i64 (a.2+1))else some a.1
def a9y(a:Int):A3 Int:=d9 FU (b5s a) (0,0)
def b22(b a c:Int):A3 (Int×Bool):=(if(decide (b<1900))then some true else some (decide (b>2099))).bind λi=>(if i then some true else some (decide (a<1))).bind λf=>(if f then some true else some (decide (a>12))).bind λj=>(if j then some true else some (decide (c<1))).bind λd=>(if d then some true else(a6b b a).bind λg=>some (decide (c>g))).bind λe=>if e then some (0,false)else(a9y (i64 ((i64 ((i64 ((i64 (b-1900))*12))+a))-1))).bind λh=>some (i64 ((i64 (h+c))-1),true)
def a47(a:A4):A3 (Int×Bool):=(if((a.size:Int)!=10)then some true else(b3c a 4).bind λl=>some (l !=45)).bind λi=>(if i then some true else(b3c a 7).bind λm=>some (m !=45)).bind λh=>if h then some (0,false)else(c3u a 0 4).bind λj=>(a4m j).bind λf=>(c3u a 5 7).bind λk=>(a4m k).bind λg=>(c3u a 8 (a.size:Int)).bind λn=>(a4m n).bind λc=>(if(!f.2)then some true else some (!g.2)).bind λe=>(if e then some true else some (!c.2)).bind λd=>if d then some (0,false)else(b22 f.1 g.1 c.1).bind λb=>some (b.1,b.2)
def a7w(b:A4×Int):A3 Int:=(b3c b.1 b.2).bind λa=>if(a==60)then if(a==60)then some 1 else some 0 else if(a==62)then if(a==62)then some 1 else some 0 else if(a==61)then if(a==61)then some 1 else some 0 else if(a==43)then if(a==43)then some 1 else some 0 else if(a==45)then if(a==45)then some 1 else some 0 else if(a==42)then if(a==42)then some 1 else some 0 else if(a==47)then if(a==47)then some 1 else some 0 else if(a==40)then if(a==40)then some 1 else some 0 else if(a==41)then if(a==41)then some 1 else some 0 else if(a==123)then if(a==123)then some 1 else some 0 else if(a==125)then if(a==125)then some 1 else some 0 else if(a==44)then if(a==44)then some 1 else some 0 else if(a==59)then some 1 else some 0
def b1a(b:A4)(a:Int):A3 Int:=if(decide ((i64 (a+1))<(b.size:Int)))then(c3u b a (i64 (a+2))).bind λc=>(if(c.toList==d28.toList)then some true else some (c.toList==d30.toList)).bind λd=>(if d then some true else some (c.toList==d1k.toList)).bind λe=>if e then some 2 else joinC a7w (b,a)else joinC a7w (b,a)
def a1o(a:A4×Int×Token×Int×Int×Bool):A3 (Token×Int×Int):=if(!a.2.2.2.2.2)then some ((⟨0,a3j,0⟩:Token),a.2.1,4)else(c3u a.1 a.2.1 (i64 (a.2.1+a.2.2.2.2.1))).bind λb=>some ((⟨a.2.2.2.1,b,a.2.1⟩:Token),i64 (a.2.1+a.2.2.2.2.1),0)
def b15(b:A4)(g:Int):A3 (Token×Int×Int):=(if(decide (g<0))then some true else some (decide (g>(b.size:Int)))).bind λn=>if n then some ((⟨0,a3j,0⟩:Token),0,1)else(b16 b g).bind λa=>if(a==(b.size:Int))then some ((⟨0,a3j,a⟩:Token),a,0)else(b3c b a).bind λo=>(a3q o).bind λl=>if l then(a9f b a false).bind λk=>joinC a1o (b,a,(⟨0,a3j,0⟩:Token),1,k,decide (k<=12))else(b3c b a).bind λm=>(a30 m).bind λp=>if p then(a9f b a true).bind λc=>(c3u b a (i64 (a+c))).bind λi=>(a6z i).bind λh=>joinC a1o (b,a,(⟨0,a3j,0⟩:Token),2,c,h.2.2.2)else(b3c b a).bind λf=>if(f==64)then if(decide ((i64 ((b.size:Int)-a))>=11))then(c3u b (i64 (a+1)) (i64 (a+11))).bind λe=>(a47 e).bind λj=>joinC a1o (b,a,(⟨0,a3j,0⟩:Token),3,11,j.2)else joinC a1o (b,a,(⟨0,a3j,0⟩:Token),3,11,decide ((i64 ((b.size:Int)-a))>=11))else(b1a b a).bind λd=>joinC a1o (b,a,(⟨0,a3j,0⟩:Token),4,d,decide (d>0))
def b7c(e:A4)(d:((O Token)×Int)->A3 ((O Token)×Int×Int))(b:(O Token)×Int):A3 ((O Token)×Int×Int):=(b15 e b.2).bind λa=>if(a.2.2!=0)then some ([],a.2.1,a.2.2)else if(a.1.Kind==0)then some (b.1,0,0)else(a4n 32 b.1 [a.1]).bind λc=>d (c,a.2.1)
def b25(a:A4):A3 ((O Token)×Int×Int):=if(decide ((a.size:Int)>8000))then some ([],0,7)else d9 FU (b7c a) ([],0)
def b02(b:A4):A3 ((A3 rQ)×Int×Int):=(b25 b).bind λa=>if(a.2.2!=0)then some (none,a.2.1,a.2.2)else some (some (⟨a.1,0,(b.size:Int),false⟩:rQ),0,0)
def u9(a:rQ)(c:A4):A3 Bool:=(if(!a.bad)then some (decide (a.at_<(a.l.length:Int)))else some false).bind λd=>(if d then(c7 a.l a.at_).bind λb=>some (b.Text.toList==c.toList)else some false).bind λe=>some e
def d7(a:rQ)(c:A4):A3 (Bool×rQ):=(u9 a c).bind λb=>if(!b)then some (false,a)else some (true,(⟨a.l,i64 (a.at_+1),a.end_,a.bad⟩:rQ))
def j8(a:rQ):A3 rQ:=some (⟨a.l,a.at_,a.end_,true⟩:rQ)
def b9(b:rQ)(d:A4):A3 rQ:=(d7 b d).bind λa=>if(!a.1)then(j8 a.2).bind λc=>some c else some a.2
def p8(a:rQ)(c:Int):A3 Bool:=(if(!a.bad)then some (decide (a.at_<(a.l.length:Int)))else some false).bind λd=>(if d then(c7 a.l a.at_).bind λb=>some (b.Kind==c)else some false).bind λe=>some e
def b4m(b:A4)(i:Int->A3 Bool)(a:Int):A3 Bool:=if(decide (a<(b.size:Int)))then(b3c b a).bind λk=>(a3q k).bind λe=>(if(!e)then(if(a==0)then some true else(b3c b a).bind λg=>(a30 g).bind λf=>(if(!f)then(b3c b a).bind λh=>some (h !=95)else some false).bind λj=>some j).bind λl=>some l else some false).bind λd=>if d then some false else i (i64 (a+1))else(if(decide ((b.size:Int)>=1))then some (decide ((b.size:Int)<=12))else some false).bind λc=>some c
def a99(a:A4):A3 Bool:=d9 FU (b4m a) 0
def a7o(a:A4):A3 Bool:=if(a.toList==c9m.toList)then if(a.toList==c9m.toList)then some true else some false else if(a.toList==c51.toList)then if(a.toList==c51.toList)then some true else some false else if(a.toList==d69.toList)then if(a.toList==d69.toList)then some true else some false else if(a.toList==b91.toList)then if(a.toList==b91.toList)then some true else some false else if(a.toList==b4x.toList)then if(a.toList==b4x.toList)then some true else some false else if(a.toList==c53.toList)then if(a.toList==c53.toList)then some true else some false else if(a.toList==c1a.toList)then if(a.toList==c1a.toList)then some true else some false else if(a.toList==c4c.toList)then if(a.toList==c4c.toList)then some true else some false else if(a.toList==c10.toList)then if(a.toList==c10.toList)then some true else some false else if(a.toList==d0k.toList)then if(a.toList==d0k.toList)then some true else some false else if(a.toList==c1q.toList)then if(a.toList==c1q.toList)then some true else some false else if(a.toList==d07.toList)then if(a.toList==d07.toList)then some true else some false else if(a.toList==c1c.toList)then if(a.toList==c1c.toList)then some true else some false else if(a.toList==c98.toList)then if(a.toList==c98.toList)then some true else some false else if(a.toList==c8l.toList)then if(a.toList==c8l.toList)then some true else some false else if(a.toList==c92.toList)then if(a.toList==c92.toList)then some true else some false else if(a.toList==d8p.toList)then if(a.toList==d8p.toList)then some true else some false else if(a.toList==c60.toList)then if(a.toList==c60.toList)then some true else some false else if(a.toList==b94.toList)then if(a.toList==b94.toList)then some true else some false else if(a.toList==c14.toList)then if(a.toList==c14.toList)then some true else some false else if(a.toList==b76.toList)then if(a.toList==b76.toList)then some true else some false else if(a.toList==d3p.toList)then some true else some false
def a2e(a:A4):A3 Bool:=(a99 a).bind λb=>(if b then(a7o a).bind λd=>some (!d)else some false).bind λc=>some c
def a0w(a:rQ):A3 (A4×rQ):=(p8 a 1).bind λf=>(if(!f)then some true else(c7 a.l a.at_).bind λd=>(a2e d.Text).bind λg=>some (!g)).bind λb=>if b then(j8 a).bind λe=>some (a3j,e)else(c7 a.l (i64 ((i64 (a.at_+1))-1))).bind λc=>some (c.Text,(⟨a.l,i64 (a.at_+1),a.end_,a.bad⟩:rQ))
def a43(a:Int):A3 Int:=if(decide (a<0))then some (u64 ((u64 (i64 (-(i64 (a+1)))))+1))else some (u64 (a))
def b62(a:Int×Int):A3 Int:=if(decide (a.1>=256))then(d0l .u64 a.1 8).bind λc=>(b3c b3u (IntKind.u8.wrap (c))).bind λb=>some (i64 ((i64 (a.2+8))+(i64 (b))))else(b3c b3u (IntKind.u8.wrap (a.1))).bind λd=>some (i64 (a.2+(i64 (d))))
def b65(a:Int×Int):A3 Int:=if(decide (a.1>=65536))then(d0l .u64 a.1 16).bind λb=>joinC b62 (b,i64 (a.2+16))else joinC b62 (a.1,a.2)
def b8x(a:Int):A3 Int:=if(decide (a>=4294967296))then(d0l .u64 a 32).bind λb=>joinC b65 (b,32)else joinC b65 (a,0)
def a7n(b:Int):A3 Int:=(b8x b).bind λa=>some (i64 (64-a))
def b5x(a:Int×Int×Int×Int×Int×Int):A3 (Int×Int):=(d0l .u64 (u64 ((u64 ((u64 (a.2.2.2.2.1*4294967296))+a.2.2.1))-(u64 (a.2.2.2.2.2*a.1)))) a.2.1).bind λb=>some (u64 ((u64 (a.2.2.2.1*4294967296))+a.2.2.2.2.2),b)
def c4t(a:Int×Int×Int×Int×Int×Int×Int×Int)(d:(Int×Int)->A3 (Int×Int))(b:Int×Int):A3 (Int×Int):=(if(decide (b.2>=4294967296))then some true else some (decide ((u64 (b.2*a.2.2.2.1))>(u64 ((u64 (4294967296*b.1))+a.2.2.2.2.2.2.1))))).bind λc=>if c then if(decide ((u64 (b.1+a.2.2.1))>=4294967296))then joinC b5x (a.1,a.2.1,a.2.2.2.2.2.2.1,a.2.2.2.2.2.2.2,u64 ((u64 ((u64 (a.2.2.2.2.1*4294967296))+a.2.2.2.2.2.1))-(u64 (a.2.2.2.2.2.2.2*a.1))),u64 (b.2-1))else d (u64 (b.1+a.2.2.1),u64 (b.2-1))else joinC b5x (a.1,a.2.1,a.2.2.2.2.2.2.1,a.2.2.2.2.2.2.2,u64 ((u64 ((u64 (a.2.2.2.2.1*4294967296))+a.2.2.2.2.2.1))-(u64 (a.2.2.2.2.2.2.2*a.1))),b.2)
def b31(a:Int×Int×Int×Int×Int×Int×Int×Int):A3 (Int×Int):=(if a.2.2.1=0then none else some (u64 (Int.tdiv (u64 ((u64 ((u64 (a.2.2.2.2.1*4294967296))+a.2.2.2.2.2.1))-(u64 (a.2.2.2.2.2.2.2*a.1)))) a.2.2.1))).bind λb=>d9 FU (c4t a) (u64 ((u64 ((u64 ((u64 (a.2.2.2.2.1*4294967296))+a.2.2.2.2.2.1))-(u64 (a.2.2.2.2.2.2.2*a.1))))-(u64 (b*a.2.2.1))),b)
def c4k(c b e h i j d:Int)(f:(Int×Int)->A3 (Int×Int))(a:Int×Int):A3 (Int×Int):=(if(decide (a.1>=4294967296))then some true else some (decide ((u64 (a.1*(d5y .u64 c 4294967295)))>(u64 ((u64 (4294967296*a.2))+b))))).bind λg=>if g then if(decide ((u64 (a.2+e))>=4294967296))then joinC b31 (c,u64 (h),e,d5y .u64 c 4294967295,orK .u64 i j,b,d5y .u64 d 4294967295,u64 (a.1-1))else f (u64 (a.1-1),u64 (a.2+e))else joinC b31 (c,u64 (h),e,d5y .u64 c 4294967295,orK .u64 i j,b,d5y .u64 d 4294967295,a.1)
def b9t(a:Int×Int×Int):A3 (Int×Int):=if(a.1==0)then(if a.2.2=0then none else some (u64 (Int.tdiv a.2.1 a.2.2))).bind λk=>(b8t a.2.1 a.2.2).bind λj=>some (k,j)else(a7n a.2.2).bind λb=>(g2a .u64 a.2.2 (u64 (b))).bind λi=>(d0l .u64 i 32).bind λe=>(g2a .u64 a.1 (u64 (b))).bind λf=>(d0l .u64 a.2.1 (u64 (64-(u64 (b))))).bind λg=>(g2a .u64 a.2.1 (u64 (b))).bind λd=>(d0l .u64 d 32).bind λh=>(if e=0then none else some (u64 (Int.tdiv (orK .u64 f g) e))).bind λc=>d9 FU (c4k i h e b f g d) (c,u64 ((orK .u64 f g)-(u64 (c*e))))
def b9j(a:Int×Int×Int):A3 (Int×Int):=if(decide (a.2.2<=a.1))then none else joinC b9t (a.1,a.2.1,a.2.2)
def a8o(b c a:Int):A3 (Int×Int):=if(a==0)then none else joinC b9j (b,c,a)
def a3h(b:pensionref1_wide)(a:Int):A3 (pensionref1_wide×Int):=(b8t b.hi a).bind λd=>(a8o d b.lo a).bind λc=>(if a=0then none else some (u64 (Int.tdiv b.hi a))).bind λe=>some ((⟨e,c.1⟩:pensionref1_wide),c.2)
def b7e(b:(Int×Int)->A3 Int)(a:Int×Int):A3 Int:=if(a.2!=0)then(b8t a.1 a.2).bind λc=>b (a.2,c)else some a.1
def a9s(a b:Int):A3 Int:=d9 FU b7e (a,b)
def b2l(i:Bool)(e:pensionref1_wide)(d:Int):A3 (fQ×Int):=(a3h e d).bind λh=>(a9s d h.2).bind λc=>(a3h e c).bind λa=>(if c=0then none else some (u64 (Int.tdiv d c))).bind λb=>(if(a.1.hi !=0)then some true else some (decide (a.1.lo>1000000000000000))).bind λg=>(if g then some true else some (decide (b>1000000000))).bind λf=>if f then some ((⟨0,0⟩:fQ),2)else if i then some ((⟨i64 (-(i64 (a.1.lo))),i64 (b)⟩:fQ),0)else some ((⟨i64 (a.1.lo),i64 (b)⟩:fQ),0)
def a3r(c a:Int):A3 (fQ×Int):=if(a==0)then some ((⟨0,0⟩:fQ),3)else(a43 c).bind λe=>(a43 a).bind λd=>(b2l ((decide (c<0))!=(decide (a<0))) (⟨0,e⟩:pensionref1_wide) d).bind λb=>some (b.1,b.2)
def b3f(b:A4×A4×Int×Bool)(d:(fQ×Int×Int×Int)->A3 (fQ×Int×Bool))(a:fQ×Int×Int×Int):A3 (fQ×Int×Bool):=if(decide (a.2.2.2<(i64 ((b.1.size:Int)+(b.2.1.size:Int)))))then(a7f b.1 b.2.1).bind λe=>(b3c e a.2.2.2).bind λc=>if(decide (a.2.2.2>=(b.1.size:Int)))then d (a.1,i64 ((i64 (a.2.1*10))+(i64 (IntKind.u8.wrap (c-48)))),i64 (a.2.2.1*10),i64 (a.2.2.2+1))else d (a.1,i64 ((i64 (a.2.1*10))+(i64 (IntKind.u8.wrap (c-48)))),a.2.2.1,i64 (a.2.2.2+1))else(a3r a.2.1 a.2.2.1).bind λf=>some (f.1,b.2.2.1,true)
def a2x(b:A4):A3 (fQ×Int×Bool):=(a6z b).bind λa=>if(!a.2.2.2)then some ((⟨0,0⟩:fQ),0,false)else d9 FU (b3f a) ((⟨0,0⟩:fQ),0,1,0)
def s7(a:rQ)(h k:Int):A3 (Int×rQ):=(p8 a 2).bind λj=>if j then(c7 a.l a.at_).bind λe=>(a2x e.Text).bind λb=>(if(b.2.1==2)then some (b.1.Den==1)else some false).bind λc=>(if c then some (decide (b.1.Num>=h))else some false).bind λf=>(if f then some (decide (b.1.Num<=k))else some false).bind λd=>if d then some (b.1.Num,(⟨a.l,i64 (a.at_+1),a.end_,a.bad⟩:rQ))else(j8 a).bind λg=>some (0,g)else(j8 a).bind λi=>some (0,i)
def b09(a:A4):A3 Int:=(c3u a 1 (a.size:Int)).bind λb=>(a47 b).bind λc=>some c.1
def a8l(a:A4):A3 Int:=if(a.toList==b0b.toList)then some 6 else if(a.toList==b3z.toList)then some 9 else if(a.toList==b87.toList)then some 7 else if(a.toList==d54.toList)then some 8 else if(a.toList==c97.toList)then some 10 else if(a.toList==c04.toList)then some 5 else some 0
def a52(a:A4):A3 Int:=if(a.toList==d9m.toList)then some 1 else if(a.toList==b8e.toList)then some 2 else if(a.toList==c0u.toList)then some 3 else if(a.toList==c66.toList)then some 4 else if(a.toList==c0r.toList)then some 5 else some 0
def a8f(a:A4):A3 Int:=if(a.toList==d4s.toList)then some 1 else if(a.toList==f1e.toList)then some 2 else if(a.toList==d3b.toList)then some 3 else if(a.toList==d3z.toList)then some 4 else some 0
def a0m(a:rQ)(f:Int):A3 (Int×rQ):=(p8 a 1).bind λi=>if i then(c7 a.l a.at_).bind λb=>(a8l b.Text).bind λg=>(a52 b.Text).bind λc=>(a8f b.Text).bind λd=>(c7 [g,c,d] (i64 (f-1))).bind λk=>(c7 [g,c,d] (i64 (f-1))).bind λe=>if(decide (e>0))then some (e,(⟨a.l,i64 (a.at_+1),a.end_,a.bad⟩:rQ))else(j8 a).bind λh=>some (0,h)else(j8 a).bind λj=>some (0,j)
def a8e(a:Int):A3 Int:=(if(decide (a>=1))then some (decide (a<=3))else some false).bind λb=>if b then some 0 else(if(decide (a>=4))then some (decide (a<=6))else some false).bind λd=>if d then some 1 else(if(decide (a>=7))then some (decide (a<=20))else some false).bind λc=>if c then some 2 else if(a==21)then some 3 else some (-1:Int)
def a6m(a:Int×Bool):A3 Int:=if a.2then some 5 else if(a.1==9)then if(a.1==9)then some 6 else some 7 else if(a.1==10)then some 6 else some 7
def a04(a:Int×Bool):A3 Int:=if a.2then some 4 else if(a.1==7)then joinC a6m (a.1,a.1==7)else joinC a6m (a.1,a.1==8)
def b05(a:Int):A3 Int:=if(a==21)then some 0 else if(a==18)then some 1 else if(a==17)then some 2 else if(a==5)then some 3 else if(a==11)then joinC a04 (a,a==11)else if(a==12)then joinC a04 (a,a==12)else if(a==13)then joinC a04 (a,a==13)else if(a==14)then joinC a04 (a,a==14)else if(a==15)then joinC a04 (a,a==15)else joinC a04 (a,a==16)
def a96(a:Int):A3 A4:=if(a==7)then some g5d else if(a==8)then some e00 else if(a==9)then some g62 else if(a==10)then some e8f else if(a==11)then some g4g else if(a==12)then some d28 else if(a==13)then some e7j else if(a==14)then some d1k else if(a==15)then some g5n else if(a==16)then some d30 else if(a==17)then some c9m else some d8p
def a9a(f:Int)(h:rQ)(e:Int->A3 Int)(a:Int):A3 Int:=if(decide (a<=18))then(b05 a).bind λg=>(if(g==f)then(a96 a).bind λb=>(u9 h b).bind λd=>some d else some false).bind λc=>if c then some a else e (i64 (a+1))else some 0
def a3a(a:rQ)(b:Int):A3 Int:=d9 FU (a9a b a) 7
structure eQ where f_pensionref5_reader_expr:rQ->Int->Option (Expr×rQ)f_pensionref5_reader_factor:rQ->Option (Expr×rQ)f_pensionref5_reader_call:rQ->Int->Option (Expr×rQ)
def b0l(R:eQ)(d:Int)(e:(rQ×(O Expr)×Expr×Expr)->A3 (Expr×rQ))(a:rQ×(O Expr)×Expr×Expr):A3 (Expr×rQ):=if(!a.1.bad)then(a3a a.1 d).bind λc=>if(c==0)then some (a.2.2.2,a.1)else(R.f_pensionref5_reader_expr (⟨a.1.l,i64 (a.1.at_+1),a.1.end_,a.1.bad⟩:rQ) (i64 (d+1))).bind λb=>if(d==4)then some ((⟨c,(⟨0,0⟩:fQ),0,a3j,[a.2.2.2,b.1]⟩:Expr),b.2)else e (b.2,a.2.1,(⟨a.2.2.1.Op,a.2.2.1.Value,a.2.2.1.Dim,a.2.2.1.Name,[]⟩:Expr),(⟨c,(⟨0,0⟩:fQ),0,a3j,[a.2.2.2,b.1]⟩:Expr))else some (a.2.2.2,a.1)
def a3b(R:eQ)(a:rQ)(b:Int):A3 (Expr×rQ):=if a.bad then some ((⟨0,(⟨0,0⟩:fQ),0,a3j,[]⟩:Expr),a)else if(b==0)then(d7 a d0k).bind λg=>if(!g.1)then(R.f_pensionref5_reader_expr g.2 1).bind λh=>some (h.1,h.2)else(R.f_pensionref5_reader_expr g.2 0).bind λk=>(b9 k.2 d3p).bind λm=>(R.f_pensionref5_reader_expr m 0).bind λi=>(b9 i.2 c53).bind λn=>(R.f_pensionref5_reader_expr n 0).bind λj=>some ((⟨21,(⟨0,0⟩:fQ),0,a3j,[k.1,i.1,j.1]⟩:Expr),j.2)else if(b==3)then(d7 a c92).bind λf=>if f.1then(R.f_pensionref5_reader_expr f.2 3).bind λl=>some ((⟨5,(⟨0,0⟩:fQ),0,a3j,[l.1]⟩:Expr),l.2)else(R.f_pensionref5_reader_expr f.2 4).bind λe=>some (e.1,e.2)else if(b==7)then(R.f_pensionref5_reader_factor a).bind λd=>some (d.1,d.2)else(R.f_pensionref5_reader_expr a (i64 (b+1))).bind λc=>d9 FU (b0l R b) (c.2,[],(⟨0,(⟨0,0⟩:fQ),0,a3j,[]⟩:Expr),c.1)
def a2a(R:eQ)(b:rQ):A3 (Expr×rQ):=(p8 b 2).bind λt=>if t then(c7 b.l b.at_).bind λr=>(a2x r.Text).bind λp=>some ((⟨1,p.1,p.2.1,a3j,[]⟩:Expr),(⟨b.l,i64 (b.at_+1),b.end_,b.bad⟩:rQ))else(d7 b e00).bind λm=>if m.1then(R.f_pensionref5_reader_expr m.2 7).bind λo=>some ((⟨4,(⟨0,0⟩:fQ),0,a3j,[o.1]⟩:Expr),o.2)else(d7 m.2 e02).bind λi=>if i.1then(R.f_pensionref5_reader_expr i.2 0).bind λq=>(b9 q.2 d38).bind λs=>some (q.1,s)else(d7 i.2 c51).bind λa=>if a.1then(b9 a.2 e02).bind λj=>(s7 j 1 45).bind λf=>(b9 f.2 d38).bind λh=>some ((⟨3,(⟨f.1,1⟩:fQ),0,a3j,[]⟩:Expr),h)else(u9 a.2 c1a).bind λn=>if n then(R.f_pensionref5_reader_call a.2 6).bind λe=>some (e.1,e.2)else(u9 a.2 c8l).bind λl=>if l then(R.f_pensionref5_reader_call a.2 19).bind λg=>some (g.1,g.2)else(u9 a.2 c98).bind λk=>if k then(R.f_pensionref5_reader_call a.2 20).bind λc=>some (c.1,c.2)else(a0w a.2).bind λd=>some ((⟨2,(⟨0,0⟩:fQ),0,d.1,[]⟩:Expr),d.2)
def a3d(R:eQ)(b:rQ)(c:Int):A3 (Expr×rQ):=(b9 (⟨b.l,i64 (b.at_+1),b.end_,b.bad⟩:rQ) e02).bind λi=>(R.f_pensionref5_reader_expr i 0).bind λa=>(a8e c).bind λj=>if(j==2)then(b9 a.2 g2w).bind λe=>(c7 [a.1] 0).bind λf=>(R.f_pensionref5_reader_expr e 0).bind λd=>(b9 d.2 d38).bind λg=>some ((⟨c,(⟨0,0⟩:fQ),0,a3j,[f,d.1]⟩:Expr),g)else(b9 a.2 d38).bind λh=>some ((⟨c,(⟨0,0⟩:fQ),0,a3j,[a.1]⟩:Expr),h)
def c8:Nat->eQ|0=>⟨λ_ _=>none,λ_=>none,λ_ _=>none⟩|n+1=>⟨a3b (c8 n),a2a (c8 n),a3d (c8 n)⟩
def a0u(a:rQ)(b:Int):A3 (Expr×rQ):=(c8 FU).f_pensionref5_reader_expr a b
def a1v(a:rQ×(O Credit)×(O Index)×(O Let)×(O Grant)×(O Reduce)×Version×Credit):A3 (rQ×Version×(O Credit)×(O Index)×(O Let)×(O Grant)×(O Reduce)):=(a4n 16 a.2.1 [a.2.2.2.2.2.2.2]).bind λb=>(b9 a.1 c3s).bind λc=>some (c,(⟨a.2.2.2.2.2.2.1.From,a.2.2.2.2.2.2.1.Rounding,[],[],[],[],[]⟩:Version),b,a.2.2.1,a.2.2.2.1,a.2.2.2.2.1,a.2.2.2.2.2.1)
def a1t(a:rQ×(O Credit)×(O Index)×(O Let)×(O Grant)×(O Reduce)×Version×Index):A3 (rQ×Version×(O Credit)×(O Index)×(O Let)×(O Grant)×(O Reduce)):=(a4n 24 a.2.2.1 [a.2.2.2.2.2.2.2]).bind λb=>(b9 a.1 c3s).bind λc=>some (c,(⟨a.2.2.2.2.2.2.1.From,a.2.2.2.2.2.2.1.Rounding,[],[],[],[],[]⟩:Version),a.2.1,b,a.2.2.2.1,a.2.2.2.2.1,a.2.2.2.2.2.1)
def a0a(a:rQ×(O Credit)×(O Index)×(O Let)×(O Grant)×(O Reduce)×Version×Index):A3 (rQ×Version×(O Credit)×(O Index)×(O Let)×(O Grant)×(O Reduce)):=if(a.2.2.2.2.2.2.2.Factor.Den==0)then(j8 a.1).bind λb=>joinC a1t (b,a.2.1,a.2.2.1,a.2.2.2.1,a.2.2.2.2.1,a.2.2.2.2.2.1,(⟨a.2.2.2.2.2.2.1.From,a.2.2.2.2.2.2.1.Rounding,[],[],[],[],[]⟩:Version),a.2.2.2.2.2.2.2)else joinC a1t (a.1,a.2.1,a.2.2.1,a.2.2.2.1,a.2.2.2.2.1,a.2.2.2.2.2.1,(⟨a.2.2.2.2.2.2.1.From,a.2.2.2.2.2.2.1.Rounding,[],[],[],[],[]⟩:Version),a.2.2.2.2.2.2.2)
def a39(M:rQ)(a:Version)(g:O Credit)(c:O Index)(f:O Let)(d:O Grant)(e:O Reduce):A3 (rQ×Version×(O Credit)×(O Index)×(O Let)×(O Grant)×(O Reduce)):=(d7 M b91).bind λw=>if w.1then(a0m w.2 1).bind λs=>(d7 s.2 c1c).bind λB=>if B.1then(s7 B.2 1 73049).bind λL=>joinC a1v (L.2,g,c,f,d,e,(⟨a.From,a.Rounding,[],[],[],[],[]⟩:Version),(⟨s.1,L.1⟩:Credit))else joinC a1v (B.2,g,c,f,d,e,(⟨a.From,a.Rounding,[],[],[],[],[]⟩:Version),(⟨s.1,0⟩:Credit))else(d7 w.2 c1q).bind λv=>if v.1then(s7 v.2 1900 2099).bind λb=>(p8 b.2 2).bind λF=>if F then(c7 b.2.l b.2.at_).bind λE=>(a2x E.Text).bind λi=>(if(i.2.1==2)then some (decide (i.1.Num>0))else some false).bind λK=>if K then joinC a0a ((⟨b.2.l,i64 (b.2.at_+1),b.2.end_,b.2.bad⟩:rQ),g,c,f,d,e,(⟨a.From,a.Rounding,[],[],[],[],[]⟩:Version),(⟨b.1,i.1⟩:Index))else joinC a0a (b.2,g,c,f,d,e,(⟨a.From,a.Rounding,[],[],[],[],[]⟩:Version),(⟨b.1,(⟨0,0⟩:fQ)⟩:Index))else joinC a0a (b.2,g,c,f,d,e,(⟨a.From,a.Rounding,[],[],[],[],[]⟩:Version),(⟨b.1,(⟨0,0⟩:fQ)⟩:Index))else(d7 v.2 d07).bind λh=>if h.1then(a0w h.2).bind λn=>(b9 n.2 e7j).bind λD=>(a0u D 0).bind λr=>(a4n 88 f [(⟨n.1,r.1⟩:Let)]).bind λI=>(b9 r.2 c3s).bind λJ=>some (J,(⟨a.From,a.Rounding,[],[],[],[],[]⟩:Version),g,c,I,d,e)else(d7 h.2 c10).bind λj=>if j.1then(a0m j.2 2).bind λm=>(b9 m.2 d0k).bind λG=>(a0u G 0).bind λl=>(b9 l.2 c60).bind λH=>(a0u H 0).bind λp=>(a4n 152 d [(⟨m.1,l.1,p.1⟩:Grant)]).bind λC=>(b9 p.2 c3s).bind λA=>some (A,(⟨a.From,a.Rounding,[],[],[],[],[]⟩:Version),g,c,f,C,e)else(d7 j.2 b94).bind λk=>if k.1then(a0m k.2 2).bind λo=>(b9 o.2 d69).bind λt=>(a0u t 0).bind λq=>(a4n 80 e [(⟨o.1,q.1⟩:Reduce)]).bind λx=>(b9 q.2 c3s).bind λz=>some (z,(⟨a.From,a.Rounding,[],[],[],[],[]⟩:Version),g,c,f,d,x)else(j8 k.2).bind λy=>(b9 y c3s).bind λu=>some (u,(⟨a.From,a.Rounding,[],[],[],[],[]⟩:Version),g,c,f,d,e)
def a8i(d:(rQ×(O Credit)×(O Index)×(O Let)×(O Grant)×(O Reduce)×Version×(O Credit)×(O Index)×(O Let)×(O Grant)×(O Reduce)×Version)->A3 (Version×rQ))(a:rQ×(O Credit)×(O Index)×(O Let)×(O Grant)×(O Reduce)×Version×(O Credit)×(O Index)×(O Let)×(O Grant)×(O Reduce)×Version):A3 (Version×rQ):=if(!a.1.bad)then(d7 a.1 d0a).bind λc=>if(!c.1)then(a39 c.2 (⟨a.2.2.2.2.2.2.2.2.2.2.2.2.From,a.2.2.2.2.2.2.2.2.2.2.2.2.Rounding,[],[],[],[],[]⟩:Version) a.2.2.2.2.2.2.2.1 a.2.2.2.2.2.2.2.2.1 a.2.2.2.2.2.2.2.2.2.1 a.2.2.2.2.2.2.2.2.2.2.1 a.2.2.2.2.2.2.2.2.2.2.2.1).bind λb=>d (b.1,a.2.1,a.2.2.1,a.2.2.2.1,a.2.2.2.2.1,a.2.2.2.2.2.1,(⟨a.2.2.2.2.2.2.1.From,a.2.2.2.2.2.2.1.Rounding,[],[],[],[],[]⟩:Version),b.2.2.1,b.2.2.2.1,b.2.2.2.2.1,b.2.2.2.2.2.1,b.2.2.2.2.2.2,(⟨b.2.1.From,b.2.1.Rounding,[],[],[],[],[]⟩:Version))else some ((⟨a.2.2.2.2.2.2.2.2.2.2.2.2.From,a.2.2.2.2.2.2.2.2.2.2.2.2.Rounding,a.2.2.2.2.2.2.2.1,a.2.2.2.2.2.2.2.2.1,a.2.2.2.2.2.2.2.2.2.1,a.2.2.2.2.2.2.2.2.2.2.1,a.2.2.2.2.2.2.2.2.2.2.2.1⟩:Version),c.2)else some ((⟨a.2.2.2.2.2.2.2.2.2.2.2.2.From,a.2.2.2.2.2.2.2.2.2.2.2.2.Rounding,a.2.2.2.2.2.2.2.1,a.2.2.2.2.2.2.2.2.1,a.2.2.2.2.2.2.2.2.2.1,a.2.2.2.2.2.2.2.2.2.2.1,a.2.2.2.2.2.2.2.2.2.2.2.1⟩:Version),a.1)
def a1l(a:rQ×(O Credit)×(O Index)×(O Let)×(O Grant)×(O Reduce)×Version×(O Credit)×(O Index)×(O Let)×(O Grant)×(O Reduce)×Version):A3 (Version×rQ):=(b9 a.1 e8b).bind λe=>(b9 e c14).bind λf=>(a0m f 3).bind λc=>(s7 c.2 1 100000).bind λd=>(b9 d.2 c3s).bind λb=>d9 FU a8i (b,a.2.1,a.2.2.1,a.2.2.2.1,a.2.2.2.2.1,a.2.2.2.2.2.1,(⟨a.2.2.2.2.2.2.1.From,a.2.2.2.2.2.2.1.Rounding,[],[],[],[],[]⟩:Version),a.2.2.2.2.2.2.2.1,a.2.2.2.2.2.2.2.2.1,a.2.2.2.2.2.2.2.2.2.1,a.2.2.2.2.2.2.2.2.2.2.1,a.2.2.2.2.2.2.2.2.2.2.2.1,(⟨a.2.2.2.2.2.2.2.2.2.2.2.2.From,(⟨c.1,d.1⟩:Rounding),[],[],[],[],[]⟩:Version))
def a2o(f:rQ):A3 (Version×rQ):=(b9 f c4c).bind λa=>(p8 a 3).bind λd=>if d then(c7 a.l a.at_).bind λe=>(b09 e.Text).bind λc=>joinC a1l ((⟨a.l,i64 (a.at_+1),a.end_,a.bad⟩:rQ),[],[],[],[],[],(⟨0,(⟨0,0⟩:Rounding),[],[],[],[],[]⟩:Version),[],[],[],[],[],(⟨c,(⟨0,0⟩:Rounding),[],[],[],[],[]⟩:Version))else(j8 a).bind λb=>joinC a1l (b,[],[],[],[],[],(⟨0,(⟨0,0⟩:Rounding),[],[],[],[],[]⟩:Version),[],[],[],[],[],(⟨0,(⟨0,0⟩:Rounding),[],[],[],[],[]⟩:Version))
def a3s(a:rQ):A3 Int:=if(decide (a.at_<(a.l.length:Int)))then(c7 a.l a.at_).bind λb=>some b.At else some a.end_
def a6n(a:Int):A3 Bool:=(if(decide (a>=0))then some (decide (a<=73048))else some false).bind λb=>some b
def a3c(a:Rounding):A3 Bool:=(if(decide (a.Mode>=1))then some (decide (a.Mode<=4))else some false).bind λb=>(if b then some (decide (a.Unit>=1))else some false).bind λd=>(if d then some (decide (a.Unit<=100000))else some false).bind λc=>some c
def b53(b c:Int)(q:((O A4)×Int)->A3 A4)(a:(O A4)×Int):A3 A4:=(if(decide (a.2<(a.1.length:Int)))then some (decide (b>0))else some false).bind λo=>if o then(if(c==1)then(c7 a.1 a.2).bind λu=>(c7 a.1 a.2).bind λl=>(a8l l).bind λn=>some (n==b)else some false).bind λp=>(if p then some true else(if(c==2)then(c7 a.1 a.2).bind λt=>(c7 a.1 a.2).bind λr=>(a52 r).bind λh=>some (h==b)else some false).bind λg=>some g).bind λe=>(if e then some true else(if(c==3)then(c7 a.1 a.2).bind λs=>(c7 a.1 a.2).bind λf=>(a8f f).bind λk=>some (k==b)else some false).bind λj=>some j).bind λi=>if i then(c7 a.1 a.2).bind λm=>(c7 a.1 a.2).bind λd=>some d else q (a.1,i64 (a.2+1))else some a3j
def a3t(a b:Int):A3 A4:=d9 FU (b53 a b) ([b0b,b3z,b87,d54,c97,c04,d9m,b8e,c0u,c66,c0r,d4s,f1e,d3b,d3z],0)
def a1h(a:fQ):A3 Bool:=(if(decide (a.Den>=1))then some (decide (a.Den<=1000000000))else some false).bind λf=>(if f then some (decide (a.Num>=(-1000000000000000:Int)))else some false).bind λd=>(if d then some (decide (a.Num<=1000000000000000))else some false).bind λg=>(if g then(a43 a.Num).bind λb=>(a9s b (u64 (a.Den))).bind λe=>some (e==1)else some false).bind λc=>some c
def b4s(g:Int)(f:(Int×A4)->A3 A4)(a:Int×A4):A3 A4:=(if(decide (a.1>0))then some true else some (decide ((a.2.size:Int)<g))).bind λi=>if i then(b8t a.1 10).bind λb=>(b8t a.1 10).bind λd=>(c3u a6h b (i64 (d+1))).bind λc=>(a7f c a.2).bind λe=>(c2t a.1 10).bind λh=>f (h,e)else some a.2
def a5w(a b:Int):A3 A4:=d9 FU (b4s b) (a,a3j)
def a3x(a:fQ×A4):A3 A4:=if(a.1.Den !=1)then(a7f a.2 e8f).bind λb=>(a5w a.1.Den 1).bind λd=>(a7f b d).bind λc=>some c else some a.2
def a2n(a:fQ):A3 A4:=(a1h a).bind λe=>if(!e)then some a3j else(a43 a.Num).bind λd=>(a5w (i64 (d)) 1).bind λb=>if(decide (a.Num<0))then(a7f e00 b).bind λc=>joinC a3x (a,c)else joinC a3x (a,b)
def a93(b:Int×A4×Int)(h:(A4×Int×Int)->A3 (A4×Bool))(a:A4×Int×Int):A3 (A4×Bool):=if(decide (a.2.1>0))then(c2t a.2.1 a.2.2).bind λe=>(c2t a.2.1 a.2.2).bind λk=>(c3u a6h e (i64 (k+1))).bind λi=>(a7f a.1 i).bind λc=>(b8t a.2.1 a.2.2).bind λd=>(c2t a.2.2 10).bind λf=>h (c,d,f)else(c7 [a3j,e4t,e6u] (i64 (b.1-2))).bind λl=>(c7 [a3j,e4t,e6u] (i64 (b.1-2))).bind λj=>(a7f a.1 j).bind λg=>some (g,true)
def a1u(a:Int×A4×Int):A3 (A4×Bool):=d9 FU (a93 a) (a.2.1,a.2.2,1000)
def a1g(a:fQ)(c:Int):A3 (A4×Bool):=(a1h a).bind λk=>(if(!k)then some true else some (decide (a.Num<0))).bind λi=>(if i then some true else(b8t 10000 a.Den).bind λl=>some (l !=0)).bind λg=>(if g then some true else some (decide (c<2))).bind λj=>(if j then some true else some (decide (c>4))).bind λh=>if h then some (a3j,false)else(c2t a.Num a.Den).bind λb=>if(decide (b>999999999))then some (a3j,false)else(a2n (⟨b,1⟩:fQ)).bind λf=>(c2t 10000 a.Den).bind λd=>if(decide ((i64 ((i64 (a.Num-(i64 (b*a.Den))))*d))>0))then(a7f f b1i).bind λe=>joinC a1u (c,e,i64 ((i64 (a.Num-(i64 (b*a.Den))))*d))else joinC a1u (c,f,i64 ((i64 (a.Num-(i64 (b*a.Den))))*d))
structure Ring_pensionref5_Depth where f_pensionref5_Depth:Expr->Option Int
def b5n(R:Ring_pensionref5_Depth)(b:(Expr×Int×Int)->A3 Int)(a:Expr×Int×Int):A3 Int:=if(decide (a.2.2<(a.1.Args.length:Int)))then(c7 a.1.Args a.2.2).bind λc=>(R.f_pensionref5_Depth c).bind λd=>b (a.1,max a.2.1 d,i64 (a.2.2+1))else some (i64 (a.2.1+1))
def a7r(R:Ring_pensionref5_Depth)(a:Expr):A3 Int:=d9 FU (b5n R) (a,0,0)
def s5:Nat->Ring_pensionref5_Depth|0=>⟨λ_=>none⟩|n+1=>⟨a7r (s5 n)⟩
def c61(a:Expr):A3 Int:=(s5 FU).f_pensionref5_Depth a
structure Ring_pensionref5_Size where f_pensionref5_Size:Expr->Option Int
def b6r(R:Ring_pensionref5_Size)(b:(Expr×Int×Int)->A3 Int)(a:Expr×Int×Int):A3 Int:=if(decide (a.2.2<(a.1.Args.length:Int)))then(c7 a.1.Args a.2.2).bind λc=>(R.f_pensionref5_Size c).bind λd=>b (a.1,i64 (a.2.1+d),i64 (a.2.2+1))else some a.2.1
def a94(R:Ring_pensionref5_Size)(a:Expr):A3 Int:=d9 FU (b6r R) (a,1,0)
def u7:Nat->Ring_pensionref5_Size|0=>⟨λ_=>none⟩|n+1=>⟨a94 (u7 n)⟩
def c76(a:Expr):A3 Int:=(u7 FU).f_pensionref5_Size a
structure Ring_pensionref5_formed where f_pensionref5_formed:Expr->Option Bool
def b4j(R:Ring_pensionref5_formed)(e:Bool)(c:(Expr×Int)->A3 Bool)(a:Expr×Int):A3 Bool:=if(decide (a.2<(a.1.Args.length:Int)))then(c7 a.1.Args a.2).bind λd=>(R.f_pensionref5_formed d).bind λb=>if(!b)then some false else c (a.1,i64 (a.2+1))else some e
def a6s(R:Ring_pensionref5_formed)(a:Expr):A3 Bool:=(a8e a.Op).bind λk=>if((a.Args.length:Int)!=k)then some false else(if((a.Value.Num==0)&&((a.Value.Den==0)&&(true)))then some (a.Dim==0)else some false).bind λg=>(if g then some (a.Name.toList==a3j.toList)else some false).bind λl=>if(a.Op==1)then(a1g a.Value a.Dim).bind λe=>(if e.2then some (a.Name.toList==a3j.toList)else some false).bind λh=>some h else if(a.Op==2)then(if((a.Value.Num==0)&&((a.Value.Den==0)&&(true)))then some (a.Dim==0)else some false).bind λf=>(if f then(a2e a.Name).bind λi=>some i else some false).bind λj=>some j else if(a.Op==3)then(if(a.Dim==0)then some (a.Name.toList==a3j.toList)else some false).bind λm=>(if m then some (a.Value.Den==1)else some false).bind λd=>(if d then some (decide (a.Value.Num>=1))else some false).bind λc=>(if c then some (decide (a.Value.Num<=45))else some false).bind λb=>some b else d9 FU (b4j R l) (a,0)
def p7:Nat->Ring_pensionref5_formed|0=>⟨λ_=>none⟩|n+1=>⟨a6s (p7 n)⟩
def c4h(a:Expr):A3 Bool:=(p7 FU).f_pensionref5_formed a
def a0g(a:Expr):A3 Bool:=(c61 a).bind λe=>(if(decide (e<=10))then(c76 a).bind λc=>some (decide (c<=60))else some false).bind λf=>(if f then(c4h a).bind λb=>some b else some false).bind λd=>some d
def a4x(g:(Version×Int)->A3 Bool)(a:Version×Int):A3 Bool:=if(decide (a.2<(a.1.Reduces.length:Int)))then(c7 a.1.Reduces a.2).bind λf=>(a3t f.Benefit 2).bind λc=>(if(c.toList==a3j.toList)then some true else(c7 a.1.Reduces a.2).bind λe=>(a0g e.By).bind λd=>some (!d)).bind λb=>if b then some false else g (a.1,i64 (a.2+1))else some true
def a4o(j:(Version×Int)->A3 Bool)(a:Version×Int):A3 Bool:=if(decide (a.2<(a.1.Grants.length:Int)))then(c7 a.1.Grants a.2).bind λf=>(a3t f.Benefit 2).bind λh=>(if(h.toList==a3j.toList)then some true else(c7 a.1.Grants a.2).bind λc=>(a0g c.If).bind λb=>some (!b)).bind λd=>(if d then some true else(c7 a.1.Grants a.2).bind λi=>(a0g i.Pay).bind λg=>some (!g)).bind λe=>if e then some false else j (a.1,i64 (a.2+1))else d9 FU a4x (a.1,0)
def a56(g:(Version×Int)->A3 Bool)(a:Version×Int):A3 Bool:=if(decide (a.2<(a.1.Lets.length:Int)))then(c7 a.1.Lets a.2).bind λb=>(a2e b.Name).bind λe=>(if(!e)then some true else(c7 a.1.Lets a.2).bind λf=>(a0g f.Body).bind λc=>some (!c)).bind λd=>if d then some false else g (a.1,i64 (a.2+1))else d9 FU a4o (a.1,0)
def a4z(b:(Version×Int)->A3 Bool)(a:Version×Int):A3 Bool:=if(decide (a.2<(a.1.Series.length:Int)))then(c7 a.1.Series a.2).bind λe=>(a1g e.Factor 2).bind λd=>(c7 a.1.Series a.2).bind λi=>(if(decide (i.Year<1900))then some true else(c7 a.1.Series a.2).bind λf=>some (decide (f.Year>2099))).bind λh=>(if h then some true else some (!d.2)).bind λc=>(if c then some true else(c7 a.1.Series a.2).bind λj=>some (decide (j.Factor.Num<1))).bind λg=>if g then some false else b (a.1,i64 (a.2+1))else d9 FU a56 (a.1,0)
def a4r(e:(Version×Int)->A3 Bool)(a:Version×Int):A3 Bool:=if(decide (a.2<(a.1.Credits.length:Int)))then(c7 a.1.Credits a.2).bind λg=>(a3t g.Kind 1).bind λd=>(if(d.toList==a3j.toList)then some true else(c7 a.1.Credits a.2).bind λb=>some (decide (b.Limit<0))).bind λc=>(if c then some true else(c7 a.1.Credits a.2).bind λh=>some (decide (h.Limit>73049))).bind λf=>if f then some false else e (a.1,i64 (a.2+1))else d9 FU a4z (a.1,0)
def a3n(a:Version):A3 Bool:=(a6n a.From).bind λh=>(if(!h)then some true else(a3c a.Rounding).bind λd=>some (!d)).bind λi=>(if i then some true else some (decide ((a.Credits.length:Int)>6))).bind λb=>(if b then some true else some (decide ((a.Series.length:Int)>20))).bind λe=>(if e then some true else some (decide ((a.Lets.length:Int)>10))).bind λc=>(if c then some true else some (decide ((a.Grants.length:Int)>5))).bind λf=>(if f then some true else some (decide ((a.Reduces.length:Int)>5))).bind λg=>if g then some false else d9 FU a4r (a,0)
def b5o(d:(Statute×Int)->A3 Bool)(a:Statute×Int):A3 Bool:=if(decide (a.2<(a.1.Versions.length:Int)))then(c7 a.1.Versions a.2).bind λb=>(a3n b).bind λc=>if(!c)then some false else d (a.1,i64 (a.2+1))else some true
def b00(a:Statute):A3 Bool:=(a2e a.Name).bind λe=>(if(!e)then some true else some (decide (a.Currency<1))).bind λc=>(if c then some true else some (decide (a.Currency>999))).bind λf=>(if f then some true else some (decide ((a.Versions.length:Int)<1))).bind λb=>(if b then some true else some (decide ((a.Versions.length:Int)>6))).bind λd=>if d then some false else d9 FU b5o (a,0)
def a6u(d:((O Version)×Statute×rQ×(O Version)×Statute×Bool)->A3 (Statute×Int×Int))(a:(O Version)×Statute×rQ×(O Version)×Statute):A3 (Statute×Int×Int):=(a2o a.2.2.1).bind λb=>(a4n 144 a.2.2.2.1 [b.1]).bind λc=>d (a.1,(⟨a.2.1.Name,a.2.1.Currency,[]⟩:Statute),b.2,c,(⟨a.2.2.2.2.Name,a.2.2.2.2.Currency,[]⟩:Statute),false)
def a6p(a:(O Version)×Statute×rQ×(O Version)×Statute):A3 (Statute×Int×Int):=(if a.2.2.1.bad then some true else some (decide (a.2.2.1.at_<(a.2.2.1.l.length:Int)))).bind λb=>if b then(a3s a.2.2.1).bind λd=>some ((⟨a3j,0,[]⟩:Statute),d,4)else(b00 (⟨a.2.2.2.2.Name,a.2.2.2.2.Currency,a.2.2.2.1⟩:Statute)).bind λc=>if(!c)then some ((⟨a3j,0,[]⟩:Statute),0,7)else some ((⟨a.2.2.2.2.Name,a.2.2.2.2.Currency,a.2.2.2.1⟩:Statute),0,0)
def b5m(c:((O Version)×Statute×rQ×(O Version)×Statute×Bool)->A3 (Statute×Int×Int))(a:(O Version)×Statute×rQ×(O Version)×Statute×Bool):A3 (Statute×Int×Int):=if(!a.2.2.1.bad)then if a.2.2.2.2.2then joinC (a6u c) (a.1,(⟨a.2.1.Name,a.2.1.Currency,[]⟩:Statute),a.2.2.1,a.2.2.2.1,(⟨a.2.2.2.2.1.Name,a.2.2.2.2.1.Currency,[]⟩:Statute))else(d7 a.2.2.1 d0a).bind λb=>if(!b.1)then joinC (a6u c) (a.1,(⟨a.2.1.Name,a.2.1.Currency,[]⟩:Statute),b.2,a.2.2.2.1,(⟨a.2.2.2.2.1.Name,a.2.2.2.2.1.Currency,[]⟩:Statute))else joinC a6p (a.1,(⟨a.2.1.Name,a.2.1.Currency,[]⟩:Statute),b.2,a.2.2.2.1,(⟨a.2.2.2.2.1.Name,a.2.2.2.2.1.Currency,[]⟩:Statute))else joinC a6p (a.1,(⟨a.2.1.Name,a.2.1.Currency,[]⟩:Statute),a.2.2.1,a.2.2.2.1,(⟨a.2.2.2.2.1.Name,a.2.2.2.2.1.Currency,[]⟩:Statute))
def a9z(h:A4):A3 (Statute×Int×Int):=(b02 h).bind λa=>optC a.1 (if(a.2.2!=0)then some ((⟨a3j,0,[]⟩:Statute),a.2.1,a.2.2)else none) λd=>if(a.2.2!=0)then some ((⟨a3j,0,[]⟩:Statute),a.2.1,a.2.2)else(b9 d b76).bind λg=>(a0w g).bind λb=>(b9 b.2 b4x).bind λe=>(s7 e 1 999).bind λc=>(b9 c.2 e8b).bind λf=>d9 FU b5m ([],(⟨a3j,0,[]⟩:Statute),f,[],(⟨b.1,c.1,[]⟩:Statute),true)
def b71(e:O Int)(i:((O State)×(O Rules)×(O Rate)×Laws×(O State)×(O Rules)×Laws×Int)->A3 Laws)(a:(O State)×(O Rules)×(O Rate)×Laws×(O State)×(O Rules)×Laws×Int):A3 Laws:=if(decide (a.2.2.2.2.2.2.2<3))then(b10 a.2.2.2.2.2.2.2 e).bind λp=>(a9z p).bind λh=>if(h.2.2==0)then(a4n 56 a.2.2.2.2.1 [(⟨a.2.2.2.2.2.2.2,h.1⟩:State)]).bind λl=>i (a.1,a.2.1,a.2.2.1,(⟨[],[],[]⟩:Laws),l,a.2.2.2.2.2.1,(⟨[],[],a.2.2.2.2.2.2.1.Rates⟩:Laws),i64 (a.2.2.2.2.2.2.2+1))else i (a.1,a.2.1,a.2.2.1,(⟨[],[],[]⟩:Laws),a.2.2.2.2.1,a.2.2.2.2.2.1,(⟨[],[],a.2.2.2.2.2.2.1.Rates⟩:Laws),i64 (a.2.2.2.2.2.2.2+1))else(c5 e 2).bind λk=>(b7 k 6).bind λb=>(c5 e 5).bind λn=>(b7 n 3).bind λj=>if(j==0)then(c7 [(⟨0,i64 (90*b),730,25,[0,1]⟩:Rules)] 0).bind λo=>(c7 [(⟨0,i64 (90*b),730,25,[0,1]⟩:Rules)] 0).bind λd=>some (⟨a.2.2.2.2.1,a8h [(⟨0,i64 (90*b),730,25,[0,1]⟩:Rules)] 0 (⟨d.From,d.MinDays,d.PostingLimit,d.Substantial,[0,1,2]⟩:Rules),a.2.2.2.2.2.2.1.Rates⟩:Laws)else if(j==1)then(a4n 56 [(⟨0,i64 (90*b),730,25,[0,1]⟩:Rules)] [(⟨35000,i64 (90*b),365,30,[0,1,2]⟩:Rules)]).bind λf=>some (⟨a.2.2.2.2.1,f,a.2.2.2.2.2.2.1.Rates⟩:Laws)else(c7 [(⟨0,i64 (90*b),730,25,[0,1]⟩:Rules)] 0).bind λm=>(c7 [(⟨0,i64 (90*b),730,25,[0,1]⟩:Rules)] 0).bind λc=>(a4n 56 (a8h [(⟨0,i64 (90*b),730,25,[0,1]⟩:Rules)] 0 (⟨c.From,c.MinDays,c.PostingLimit,c.Substantial,[0,1,2]⟩:Rules)) [(⟨36000,i64 (90*b),730,25,[0,1]⟩:Rules)]).bind λg=>some (⟨a.2.2.2.2.1,g,a.2.2.2.2.2.2.1.Rates⟩:Laws)
def b11(a:O Int):A3 Laws:=d9 FU (b71 a) ([],[],[],(⟨[],[],[]⟩:Laws),[],[],(⟨[],[],[(⟨1,0,(⟨1,1⟩:fQ)⟩:Rate),(⟨2,0,(⟨3,2⟩:fQ)⟩:Rate),(⟨3,0,(⟨1,7⟩:fQ)⟩:Rate),(⟨3,1150,(⟨1,9⟩:fQ)⟩:Rate)]⟩:Laws),0)
def b5v(b:O Int)(K:((O aQ)×Int)->A3 (O aQ))(a:(O aQ)×Int):A3 (O aQ):=if(decide (a.2<=2))then(c5 b a.2).bind λI=>(b7 I 3).bind λc=>(c5 b (i64 (a.2+2))).bind λH=>(b7 H 3).bind λe=>(c5 b (i64 (a.2+4))).bind λJ=>(b7 J 6000).bind λG=>(c5 b (i64 (a.2+6))).bind λL=>(b7 L 3000).bind λd=>(a4n 112 a.1 [(⟨c,i64 (900+a.2),1,false,a.2,11,0,(⟨i64 (13000+d),i64 ((i64 (13000+d))+1)⟩:Span),0,0,0,0,0⟩:aQ)]).bind λs=>(a4n 112 s [(⟨c,i64 (910+a.2),1,false,a.2,5,c,(⟨20000,60000⟩:Span),0,0,0,0,0⟩:aQ)]).bind λj=>(c5 b (i64 (a.2+8))).bind λE=>(b7 E 900000).bind λm=>(a4n 112 j [(⟨c,i64 (920+a.2),1,false,a.2,1,c,(⟨22000,i64 (27000+G)⟩:Span),c,100,i64 (1+c),i64 (900000+m),0⟩:aQ)]).bind λB=>(c5 b (i64 (a.2+10))).bind λz=>(b7 z 3000).bind λt=>(c5 b (i64 (a.2+12))).bind λg=>(b7 g 900000).bind λi=>(a4n 112 B [(⟨e,i64 (930+a.2),1,false,a.2,1,e,(⟨i64 (27000+G),i64 (34400+t)⟩:Span),e,50,i64 (1+e),i64 (700000+i),0⟩:aQ)]).bind λn=>(a4n 112 n [(⟨c,i64 (940+a.2),1,false,a.2,10,c,(⟨32000,38500⟩:Span),0,0,0,0,3⟩:aQ)]).bind λr=>(a4n 112 r [(⟨c,i64 (950+a.2),1,false,a.2,14,0,(⟨26000,50000⟩:Span),0,0,0,0,i64 (3-a.2)⟩:aQ)]).bind λy=>K (y,i64 (a.2+1))else(c5 b 15).bind λA=>(b7 A 2000).bind λC=>(c5 b 16).bind λD=>(b7 D 2000).bind λk=>(a4n 112 a.1 [(⟨0,961,1,false,1,13,0,(⟨i64 (34000+C),i64 (36500+k)⟩:Span),0,0,0,0,0⟩:aQ)]).bind λu=>(c5 b 17).bind λh=>(b7 h 900).bind λv=>(c5 b 17).bind λw=>(b7 w 900).bind λp=>(a4n 112 u [(⟨1,962,1,false,2,12,0,(⟨i64 (35600+v),i64 (35601+p)⟩:Span),0,0,0,0,0⟩:aQ)]).bind λo=>(c5 b 18).bind λF=>(b7 F 1200).bind λq=>(c5 b 19).bind λf=>(b7 f 300).bind λx=>(a4n 112 o [(⟨0,963,1,false,1,8,0,(⟨i64 (35000+q),i64 (36250+x)⟩:Span),0,0,0,0,0⟩:aQ)]).bind λl=>some l
def b04(a:O Int):A3 (O aQ):=d9 FU (b5v a) ([],1)
def a97(a:Int):A3 Int:=(b7 a 4).bind λb=>if(b==0)then(c2t a 4).bind λe=>(b7 e 9000).bind λi=>some (i64 (1+i))else if(b==1)then(c2t a 4).bind λc=>(b7 c 1200).bind λf=>some (i64 (1+f))else if(b==2)then(c2t a 4).bind λd=>(b7 d 120).bind λg=>some (i64 (1+g))else(c2t a 4).bind λh=>(b7 h 12).bind λj=>some (i64 (1+j))
def u4(a:Int):A3 A4:=(if(decide (a<1))then some true else some (decide (a>=([a3j,b1y,a6w,a6w,c0p,a9l,b82,a9l,a9l,a9l,c1r,c0e,c0e,c0e,c6f].length:Int)))).bind λb=>if b then some a3j else(c7 [a3j,b1y,a6w,a6w,c0p,a9l,b82,a9l,a9l,a9l,c1r,c0e,c0e,c0e,c6f] a).bind λd=>(c7 [a3j,b1y,a6w,a6w,c0p,a9l,b82,a9l,a9l,a9l,c1r,c0e,c0e,c0e,c6f] a).bind λc=>some c
def b6j(d:A4)(o:tH×aQ×aQ×Int×Int)(b:(tH×aQ×aQ×Int)->A3 aQ)(a:tH×aQ×aQ×Int):A3 aQ:=if(decide (a.2.2.2<(d.size:Int)))then(b3c d a.2.2.2).bind λc=>if(c==83)then(b7 a.1.State 3).bind λi=>b (a.1,a.2.1,(⟨a.2.2.1.Issuer,a.2.2.1.Number,a.2.2.1.Version,a.2.2.1.Withdrawn,a.2.2.1.Person,a.2.2.1.Kind,i,a.2.2.1.Span,a.2.2.1.Seat,a.2.2.1.Share,a.2.2.1.Currency,a.2.2.1.Amount,a.2.2.1.Ref⟩:aQ),i64 (a.2.2.2+1))else if(c==80)then b (a.1,a.2.1,(⟨a.2.2.1.Issuer,a.2.2.1.Number,a.2.2.1.Version,a.2.2.1.Withdrawn,a.2.2.1.Person,a.2.2.1.Kind,a.2.2.1.State,(⟨o.2.2.2.1,o.2.2.2.2⟩:Span),a.2.2.1.Seat,a.2.2.1.Share,a.2.2.1.Currency,a.2.2.1.Amount,a.2.2.1.Ref⟩:aQ),i64 (a.2.2.2+1))else if(c==84)then(b7 a.1.Seat 3).bind λf=>(if(a.2.2.1.Kind==4)then some (f==a.2.2.1.State)else some false).bind λl=>if l then(b7 (i64 (a.2.2.1.State+1)) 3).bind λg=>b (a.1,a.2.1,(⟨a.2.2.1.Issuer,a.2.2.1.Number,a.2.2.1.Version,a.2.2.1.Withdrawn,a.2.2.1.Person,a.2.2.1.Kind,a.2.2.1.State,a.2.2.1.Span,g,a.2.2.1.Share,a.2.2.1.Currency,a.2.2.1.Amount,a.2.2.1.Ref⟩:aQ),i64 (a.2.2.2+1))else b (a.1,a.2.1,(⟨a.2.2.1.Issuer,a.2.2.1.Number,a.2.2.1.Version,a.2.2.1.Withdrawn,a.2.2.1.Person,a.2.2.1.Kind,a.2.2.1.State,a.2.2.1.Span,f,a.2.2.1.Share,a.2.2.1.Currency,a.2.2.1.Amount,a.2.2.1.Ref⟩:aQ),i64 (a.2.2.2+1))else if(c==72)then(b7 a.1.Share 100).bind λh=>b (a.1,a.2.1,(⟨a.2.2.1.Issuer,a.2.2.1.Number,a.2.2.1.Version,a.2.2.1.Withdrawn,a.2.2.1.Person,a.2.2.1.Kind,a.2.2.1.State,a.2.2.1.Span,a.2.2.1.Seat,i64 (1+h),a.2.2.1.Currency,a.2.2.1.Amount,a.2.2.1.Ref⟩:aQ),i64 (a.2.2.2+1))else if(c==67)then(b8t a.1.State 3).bind λk=>(b7 (i64 (a.1.Seat+k)) 3).bind λj=>b (a.1,a.2.1,(⟨a.2.2.1.Issuer,a.2.2.1.Number,a.2.2.1.Version,a.2.2.1.Withdrawn,a.2.2.1.Person,a.2.2.1.Kind,a.2.2.1.State,a.2.2.1.Span,a.2.2.1.Seat,a.2.2.1.Share,i64 (1+j),a.2.2.1.Amount,a.2.2.1.Ref⟩:aQ),i64 (a.2.2.2+1))else if(c==65)then(b7 a.1.Amount 3000000).bind λn=>b (a.1,a.2.1,(⟨a.2.2.1.Issuer,a.2.2.1.Number,a.2.2.1.Version,a.2.2.1.Withdrawn,a.2.2.1.Person,a.2.2.1.Kind,a.2.2.1.State,a.2.2.1.Span,a.2.2.1.Seat,a.2.2.1.Share,a.2.2.1.Currency,n,a.2.2.1.Ref⟩:aQ),i64 (a.2.2.2+1))else(b7 a.1.Ref 4).bind λe=>if((i64 (1+e))==a.2.2.1.Person)then(b7 a.2.2.1.Person 4).bind λm=>b (a.1,a.2.1,(⟨a.2.2.1.Issuer,a.2.2.1.Number,a.2.2.1.Version,a.2.2.1.Withdrawn,a.2.2.1.Person,a.2.2.1.Kind,a.2.2.1.State,a.2.2.1.Span,a.2.2.1.Seat,a.2.2.1.Share,a.2.2.1.Currency,a.2.2.1.Amount,i64 (1+m)⟩:aQ),i64 (a.2.2.2+1))else b (a.1,a.2.1,(⟨a.2.2.1.Issuer,a.2.2.1.Number,a.2.2.1.Version,a.2.2.1.Withdrawn,a.2.2.1.Person,a.2.2.1.Kind,a.2.2.1.State,a.2.2.1.Span,a.2.2.1.Seat,a.2.2.1.Share,a.2.2.1.Currency,a.2.2.1.Amount,i64 (1+e)⟩:aQ),i64 (a.2.2.2+1))else some a.2.2.1
def a31(a:tH×aQ×aQ×Int×Int):A3 aQ:=(u4 a.2.2.1.Kind).bind λb=>d9 FU (b6j b a) (a.1,a.2.1,a.2.2.1,0)
def b1b(a:tH):A3 aQ:=(b7 a.Issuer 3).bind λg=>(b7 a.Number 20).bind λf=>(b7 a.Version 3).bind λh=>(b7 a.Person 4).bind λe=>(b7 a.Kind 14).bind λb=>(b7 a.From 16000).bind λj=>(a97 a.Length).bind λl=>if((i64 (1+b))==11)then(b7 a.From 5000).bind λk=>joinC a31 (a,(⟨0,0,0,false,0,0,0,(⟨0,0⟩:Span),0,0,0,0,0⟩:aQ),(⟨g,i64 (1+f),i64 (1+h),a.Withdrawn,i64 (1+e),i64 (1+b),0,(⟨0,0⟩:Span),0,0,0,0,0⟩:aQ),i64 (12000+k),i64 ((i64 (12000+k))+1))else if((i64 (1+b))==12)then(b7 a.From 6000).bind λc=>joinC a31 (a,(⟨0,0,0,false,0,0,0,(⟨0,0⟩:Span),0,0,0,0,0⟩:aQ),(⟨g,i64 (1+f),i64 (1+h),a.Withdrawn,i64 (1+e),i64 (1+b),0,(⟨0,0⟩:Span),0,0,0,0,0⟩:aQ),i64 (34000+c),i64 ((i64 (34000+c))+1))else if((i64 (1+b))==8)then(b7 a.From 4000).bind λd=>(b7 a.Length 700).bind λi=>joinC a31 (a,(⟨0,0,0,false,0,0,0,(⟨0,0⟩:Span),0,0,0,0,0⟩:aQ),(⟨g,i64 (1+f),i64 (1+h),a.Withdrawn,i64 (1+e),i64 (1+b),0,(⟨0,0⟩:Span),0,0,0,0,0⟩:aQ),i64 (34000+d),i64 ((i64 ((i64 (34000+d))+1))+i))else joinC a31 (a,(⟨0,0,0,false,0,0,0,(⟨0,0⟩:Span),0,0,0,0,0⟩:aQ),(⟨g,i64 (1+f),i64 (1+h),a.Withdrawn,i64 (1+e),i64 (1+b),0,(⟨0,0⟩:Span),0,0,0,0,0⟩:aQ),i64 (21900+j),i64 ((i64 (21900+j))+l))
def l4e(b:O tH)(f:((O aQ)×Int)->A3 (O aQ))(a:(O aQ)×Int):A3 (O aQ):=(if(decide (a.2<(b.length:Int)))then some (decide (a.2<12))else some false).bind λg=>if g then(c7 b a.2).bind λc=>(b1b c).bind λe=>(a4n 112 a.1 [e]).bind λd=>f (d,i64 (a.2+1))else some a.1
def l46(a:O tH):A3 (O aQ):=d9 FU (l4e a) ([],0)
def a8n(a:Int):A3 Bool:=(if(decide (a>=1))then some (decide (a<=999))else some false).bind λb=>some b
def b1k(a:Int):A3 Bool:=(if(decide (a>=0))then some (decide (a<=2399))else some false).bind λb=>some b
def a7l(a:Int):A3 Bool:=(b8t a 4).bind λe=>(if(e==0)then(b8t a 100).bind λc=>some (c !=0)else some false).bind λf=>(if f then some true else(b8t a 400).bind λb=>some (b==0)).bind λd=>some d
def a05(e a:Int):A3 Int:=(if(a==2)then(a7l e).bind λd=>some d else some false).bind λc=>if c then some 29 else(c7 (⟨[31,28,31,30,31,30,31,31,30,31,30,31],rfl⟩:Ar 12 Int).l (i64 (a-1))).bind λf=>(c7 (⟨[31,28,31,30,31,30,31,31,30,31,30,31],rfl⟩:Ar 12 Int).l (i64 (a-1))).bind λb=>some b
def a90(a:Int):A3 Int:=(b1k a).bind λd=>if(!d)then some 0 else(c2t a 12).bind λc=>(b8t a 12).bind λe=>(a05 (i64 (1900+c)) (i64 (e+1))).bind λb=>some b
def b9g(b:Int):A3 Bool:=(a90 b).bind λa=>some (decide (a>0))
def j5(a:Int):A3 Int:=if(decide (a<0))then some (u64 (-(u64 (a))))else some (u64 (a))
def a7g(e d:Int):A3 Int:=lpC (e,d) λf⟨b,a⟩=>if(a !=0)then(b8t b a).bind λc=>f (a,c)else some b
def o7(a:fQ):A3 Bool:=(if(decide (a.Den>=1))then some (decide (a.Den<=1000000000))else some false).bind λg=>(if g then some (decide (a.Num>=(-1000000000000000:Int)))else some false).bind λd=>(if d then some (decide (a.Num<=1000000000000000))else some false).bind λh=>(if h then(j5 a.Num).bind λb=>(j5 a.Den).bind λe=>(a7g b e).bind λc=>some (c==1)else some false).bind λf=>some f
def b9l(a:Int):A3 Bool:=(if(decide (a>=1))then some (decide (a<=1000000))else some false).bind λb=>some b
def a5r(c:O Rate):A3 Int:=if(decide ((c.length:Int)>40))then some 7 else lpC (0:Int) λq b=>if(decide (b<(c.length:Int)))then(c7 c b).bind λa=>(a8n a.Currency).bind λs=>(if(!s)then some true else(b9g a.Month).bind λm=>some (!m)).bind λo=>(if o then some true else(o7 a.Value).bind λp=>some (!p)).bind λn=>(if n then some true else(b9l a.Value.Num).bind λr=>some (!r)).bind λh=>(if h then some true else(b9l a.Value.Den).bind λg=>some (!g)).bind λe=>if e then some 1 else(if(decide (b>0))then(c7 c (i64 (b-1))).bind λl=>(if(decide (l.Currency>a.Currency))then some true else(c7 c (i64 (b-1))).bind λf=>(if(f.Currency==a.Currency)then(c7 c (i64 (b-1))).bind λk=>some (decide (k.Month>=a.Month))else some false).bind λj=>some j).bind λi=>some i else some false).bind λd=>if d then some 1 else q (i64 (b+1))else some 0
def b1d(a:Int):A3 Bool:=some (a !=a)
def a2c(a b:Int):A3 Int:=(b1d a).bind λd=>(b1d b).bind λc=>if d then if c then some 0 else some (-1:Int)else if c then some 1 else if(decide (a<b))then some (-1:Int)else if(decide (a>b))then some 1 else some 0
def b6m(c:O Rate)(j l:Int):A3 (fQ×Bool):=lpC ((⟨0,0⟩:fQ),(-1:Int),(0:Int)) λg⟨f,a,b⟩=>if(decide (b<(c.length:Int)))then(c7 c b).bind λd=>(if(d.Currency==j)then some (decide (d.Month<=l))else some false).bind λh=>(if h then(if(decide (a<0))then some true else(c7 c a).bind λi=>some (decide (d.Month>i.Month))).bind λk=>some k else some false).bind λm=>if m then g (f,b,i64 (b+1))else g (f,a,i64 (b+1))else if(decide (a<0))then some ((⟨0,0⟩:fQ),false)else(c7 c a).bind λe=>some (e.Value,true)
def b3s(b a:Int):A3 (Int×Int):=(d0l .u64 b 32).bind λc=>(d0l .u64 a 32).bind λd=>(d0l .u64 (u64 ((d5y .u64 b 4294967295)*(d5y .u64 a 4294967295))) 32).bind λe=>(d0l .u64 (u64 ((u64 (c*(d5y .u64 a 4294967295)))+e)) 32).bind λf=>(d0l .u64 (u64 ((d5y .u64 (u64 ((u64 (c*(d5y .u64 a 4294967295)))+e)) 4294967295)+(u64 ((d5y .u64 b 4294967295)*d)))) 32).bind λg=>some (u64 ((u64 ((u64 (c*d))+f))+g),u64 (b*a))
def b58(c:O Int)(d:Int->A3 Int)(a:Int):A3 Int:=if(decide (a<(c.length:Int)))then(c7 c a).bind λb=>if(b !=0)then some b else d (i64 (a+1))else some 0
def b67(a:O Int):A3 Int:=d9 FU (b58 a) 0
def c7q(b:Int):A3 Int:=(b8x b).bind λa=>some a
def l4y(b:Int):A3 Int:=(c7q (u64 (b))).bind λa=>(g2a .u64 1 a).bind λc=>some c
def l56(a:Int):A3 (Int×Int):=(g2a .u64 a 13).bind λb=>(d0l .u64 (h2r .u64 a b) 7).bind λc=>(g2a .u64 (h2r .u64 (h2r .u64 a b) c) 17).bind λd=>some (h2r .u64 (h2r .u64 (h2r .u64 a b) c) d,h2r .u64 (h2r .u64 (h2r .u64 a b) c) d)
def c17(a:Int):A3 Bool:=(if(decide (a>=(-1000000000000:Int)))then some (decide (a<=1000000000000))else some false).bind λb=>some b
def a1c(a:Rounding×Bool):A3 Bool:=if a.2then(if(decide (a.1.Unit>=1))then some (decide (a.1.Unit<=100000))else some false).bind λb=>some b else some false
def a2y(a:Rounding):A3 Bool:=if(a.Mode==1)then joinC a1c (a,a.Mode==1)else if(a.Mode==2)then joinC a1c (a,a.Mode==2)else if(a.Mode==3)then joinC a1c (a,a.Mode==3)else joinC a1c (a,a.Mode==4)
def b3x(a:Int):A3 Int:=if(decide (a<0))then some (u64 (i64 (-a)))else some (u64 (a))
def b2f(a:Rounding×Int):A3 (Int×Int):=(c2t 1000000000000 a.1.Unit).bind λc=>(if(decide (a.2>c))then some true else(c2t (-1000000000000:Int) a.1.Unit).bind λb=>some (decide (a.2<b))).bind λd=>if d then some (0,2)else some (i64 (a.2*a.1.Unit),0)
def a7a(a:Rounding×Int×Bool):A3 (Int×Int):=if a.2.2then joinC b2f (a.1,i64 (a.2.1+1))else joinC b2f (a.1,a.2.1)
def a9e(a:Rounding×Int×Int×Int):A3 (Int×Int):=if(a.1.Mode==2)then joinC a7a (a.1,a.2.2.2,decide (a.2.2.1>0))else if(a.1.Mode==3)then joinC a7a (a.1,a.2.2.2,decide (a.2.2.1>=(u64 (a.2.1-a.2.2.1))))else if(a.1.Mode==4)then(if(decide (a.2.2.1>(u64 (a.2.1-a.2.2.1))))then some true else(if(a.2.2.1==(u64 (a.2.1-a.2.2.1)))then(b8t a.2.2.2 2).bind λc=>some (c !=0)else some false).bind λd=>some d).bind λb=>joinC a7a (a.1,a.2.2.2,b)else joinC a7a (a.1,a.2.2.2,false)
def a9o(e:Bool)(d f c:Int)(a:Rounding):A3 (Int×Int):=if(decide (d>=(u64 (c*(u64 (a.Unit))))))then some (0,2)else(a8o d f (u64 (c*(u64 (a.Unit))))).bind λb=>if(decide (b.1>2000000000000))then some (0,2)else if e then if(decide (b.2>0))then joinC a9e (a,u64 (c*(u64 (a.Unit))),u64 ((u64 (c*(u64 (a.Unit))))-b.2),i64 ((i64 (-(i64 (b.1))))-1))else joinC a9e (a,u64 (c*(u64 (a.Unit))),b.2,i64 (-(i64 (b.1))))else joinC a9e (a,u64 (c*(u64 (a.Unit))),b.2,i64 (b.1))
def b68(f h p g:Int)(k:O Rate)(i:Rounding):A3 (Int×Int):=(c17 f).bind λt=>(if(!t)then some true else(a8n h).bind λr=>some (!r)).bind λv=>(if v then some true else(a8n p).bind λy=>some (!y)).bind λq=>(if q then some true else(b9g g).bind λu=>some (!u)).bind λw=>(if w then some true else(a2y i).bind λs=>some (!s)).bind λx=>(if x then some true else(a5r k).bind λm=>some (m !=0)).bind λl=>if l then some (0,1)else if(h==p)then(b3x f).bind λj=>(a9o (decide (f<0)) 0 j 1 i).bind λe=>some (e.1,e.2)else(b6m k h g).bind λa=>(b6m k p g).bind λb=>(if(!a.2)then some true else some (!b.2)).bind λo=>if o then some (0,9)else(b3x f).bind λn=>(b3s n (u64 ((u64 (a.1.Num))*(u64 (b.1.Den))))).bind λc=>(a9o (decide (f<0)) c.1 c.2 (u64 ((u64 (a.1.Den))*(u64 (b.1.Num)))) i).bind λd=>some (d.1,d.2)
def l47(b:Int):A3 Int:=(b7 b 72).bind λa=>some (i64 (1157+a))
def a3o(a:Int):A3 Int:=if(decide ((i64 (a-1900))>0))then(c2t (i64 ((i64 (a-1900))-1)) 4).bind λb=>some (i64 ((i64 (365*(i64 (a-1900))))+b))else some (i64 (365*(i64 (a-1900))))
def b1r(a b c:Int):A3 (Int×Bool):=(if(decide (a<1900))then some true else some (decide (a>2099))).bind λm=>(if m then some true else some (decide (b<1))).bind λj=>(if j then some true else some (decide (b>12))).bind λn=>(if n then some true else some (decide (c<1))).bind λh=>(if h then some true else(a05 a b).bind λk=>some (decide (c>k))).bind λi=>if i then some (0,false)else(a3o a).bind λl=>lpC (i64 ((i64 (l+c))-1),(1:Int)) λd⟨g,e⟩=>if(decide (e<b))then(a05 a e).bind λf=>d (i64 (g+f),i64 (e+1))else some (g,true)
def l43(a:Int):A3 (Int×Bool):=(b1k a).bind λd=>if(!d)then some (0,false)else(c2t a 12).bind λc=>(b8t a 12).bind λe=>(b1r (i64 (1900+c)) (i64 (e+1)) 1).bind λb=>some (b.1,b.2)
def b7q(a:Int×Bool):A3 A4:=if a.2then some c0e else if(a.1==14)then some c6f else some a3j
def b4i(a:Int×Bool):A3 A4:=if a.2then some a9l else if(a.1==6)then some b82 else if(a.1==10)then some c1r else if(a.1==11)then joinC b7q (a.1,a.1==11)else if(a.1==12)then joinC b7q (a.1,a.1==12)else joinC b7q (a.1,a.1==13)
def c0m(a:Int×Bool):A3 A4:=if a.2then some a6w else if(a.1==4)then some c0p else if(a.1==5)then joinC b4i (a.1,a.1==5)else if(a.1==7)then joinC b4i (a.1,a.1==7)else if(a.1==8)then joinC b4i (a.1,a.1==8)else joinC b4i (a.1,a.1==9)
def b2r(a:Int):A3 A4:=if(a==1)then some b1y else if(a==2)then joinC c0m (a,a==2)else joinC c0m (a,a==3)
def a9d(b:A4)(c:Int):A3 Int:=(a7v b c).bind λa=>some a
def b61(e:Int×Int)(b:(Int×Int×Int)->A3 (Int×Int))(a:Int×Int×Int):A3 (Int×Int):=if(decide (a.2.2>0))then if((d5y .i64 a.2.2 1)!=0)then(d0l .i64 a.2.2 1).bind λc=>b (IntKind.u32.wrap (a.1*a.2.1),IntKind.u32.wrap (a.2.1*a.2.1),c)else(d0l .i64 a.2.2 1).bind λd=>b (a.1,IntKind.u32.wrap (a.2.1*a.2.1),d)else some (e.1,a.1)
def b5w(b:A4)(c:(Int×Int)->A3 (Int×Int))(a:Int×Int):A3 (Int×Int):=if(decide (a.2<(b.size:Int)))then(b3c b a.2).bind λd=>c (IntKind.u32.wrap ((IntKind.u32.wrap (a.1*16777619))+(IntKind.u32.wrap (d))),i64 (a.2+1))else d9 FU (b61 a) (1,16777619,(b.size:Int))
def b0t(a:A4):A3 (Int×Int):=d9 FU (b5w a) (0,0)
def b1o(d c:A4)(e:Int×Int)(i:(Int×Int)->A3 Int)(a:Int×Int):A3 Int:=if(decide (a.2<(d.size:Int)))then(b3c d a.2).bind λh=>(b3c d (i64 (a.2-(c.size:Int)))).bind λb=>(if((IntKind.u32.wrap ((IntKind.u32.wrap ((IntKind.u32.wrap (a.1*16777619))+(IntKind.u32.wrap (h))))-(IntKind.u32.wrap (e.2*(IntKind.u32.wrap (b))))))==e.1)then(c3u d (i64 ((i64 (a.2+1))-(c.size:Int))) (i64 (a.2+1))).bind λg=>some (g.toList==c.toList)else some false).bind λf=>if f then some (i64 ((i64 (a.2+1))-(c.size:Int)))else i (IntKind.u32.wrap ((IntKind.u32.wrap ((IntKind.u32.wrap (a.1*16777619))+(IntKind.u32.wrap (h))))-(IntKind.u32.wrap (e.2*(IntKind.u32.wrap (b))))),i64 (a.2+1))else some (-1:Int)
def b1f(b c:A4)(d:Int×Int)(h:(Int×Int)->A3 Int)(a:Int×Int):A3 Int:=if(decide (a.2<(b.size:Int)))then(b3c c a.2).bind λe=>h (IntKind.u32.wrap ((IntKind.u32.wrap (a.1*16777619))+(IntKind.u32.wrap (e))),i64 (a.2+1))else(if(a.1==d.1)then(c3u c 0 (b.size:Int)).bind λg=>some (g.toList==b.toList)else some false).bind λf=>if f then some 0 else d9 FU (b1o c b d) (a.1,(b.size:Int))
def b36(c a:A4):A3 Int:=(b0t a).bind λb=>d9 FU (b1f a c b) (0,0)
def a6y(b a:A4):A3 Int:=(if((a.size:Int)==0)then some true else some (a.toList==b.toList)).bind λd=>if d then some 0 else if((a.size:Int)==1)then(b3c a 0).bind λc=>(a9d b c).bind λe=>some e else if(decide ((a.size:Int)>=(b.size:Int)))then some (-1:Int)else none
def c3y(b c:A4):A3 Int:=(a6y b c).bind λa=>some a
def c0c(b c:A4):A3 Bool:=(c3y b c).bind λa=>some (decide (a>=0))
def p9(b c:A4):A3 Bool:=(c0c c b).bind λa=>some a
def a9w(a d c:Int):A3 Bool:=(if(decide (a>=d))then some (decide (a<=c))else some false).bind λb=>some b
def b0d(b:Bool)(a g e:Int):A3 Bool:=(if b then(a9w a g e).bind λf=>some f else some false).bind λd=>(if d then some true else(if(!b)then some (a==0)else some false).bind λh=>some h).bind λc=>some c
def b8g(a:Span):A3 Bool:=(if(decide (a.From>=0))then some (decide (a.From<a.To))else some false).bind λb=>(if b then some (decide (a.To<=73049))else some false).bind λc=>some c
def b9v(a:aQ×Bool):A3 Bool:=if a.2then some (a.1.Ref !=a.1.Person)else some true
def b9u(a:aQ×Int×Bool):A3 Bool:=if a.2.2then some (a.1.Span.To==(i64 (a.1.Span.From+1)))else if(a.2.1==10)then joinC b9v (a.1,a.2.1==10)else joinC b9v (a.1,a.2.1==14)
def b3k(a:aQ):A3 Bool:=(b2r a.Kind).bind λb=>(if(b.toList==a3j.toList)then some true else(a9w a.Issuer 0 5).bind λu=>some (!u)).bind λy=>(if y then some true else(a9w a.Number 1 999).bind λB=>some (!B)).bind λv=>(if v then some true else(a9w a.Version 1 99).bind λx=>some (!x)).bind λz=>(if z then some true else(a9w a.Person 1 99).bind λw=>some (!w)).bind λA=>if A then some false else(p9 g49 b).bind λk=>(b0d k a.State 0 5).bind λj=>(if(!j)then some true else(p9 g4j b).bind λe=>(b0d e a.Seat 0 5).bind λt=>some (!t)).bind λg=>(if g then some true else(b8g a.Span).bind λr=>some (!r)).bind λo=>if o then some false else(p9 g3v b).bind λl=>(b0d l a.Share 1 100).bind λc=>(if(!c)then some true else(p9 g50 b).bind λd=>(b0d d a.Currency 1 999).bind λh=>some (!h)).bind λi=>(if i then some true else(p9 g4u b).bind λn=>(b0d n a.Amount 0 1000000000).bind λp=>some (!p)).bind λq=>(if q then some true else(p9 g5k b).bind λs=>(b0d s a.Ref 1 99).bind λf=>some (!f)).bind λm=>if m then some false else if(a.Kind==4)then some (a.State !=a.Seat)else if(a.Kind==11)then joinC b9u (a,a.Kind,a.Kind==11)else joinC b9u (a,a.Kind,a.Kind==12)
def i4q(b a:aQ):A3 Int:=(a2c b.Issuer a.Issuer).bind λd=>(a2c b.Number a.Number).bind λc=>(b67 [d,c]).bind λe=>some e
def i4n(g:Int)(e:((O Int)×Int)->A3 (O Int))(f:(O Int)×Int)(c:((O Int)×Int)->A3 (O Int))(a:(O Int)×Int):A3 (O Int):=if(decide (a.2>=0))then(d0l .i64 g (i64 (8*a.2))).bind λb=>(a4n 1 a.1 [IntKind.u8.wrap (b)]).bind λd=>c (d,i64 (a.2-1))else e (a.1,i64 (f.2+1))
def i4c(b:O Int)(d:Int)(c:((O Int)×Int)->A3 (O Int))(a:(O Int)×Int):A3 (O Int):=if(decide (a.2<(b.length:Int)))then(c7 b a.2).bind λe=>d9 FU (i4n e c a) (a.1,i64 (d-1))else some a.1
def i3x(a:O Int)(c:Int)(b:O Int):A3 (O Int):=d9 FU (i4c b c) (a,0)
def i57(c:(aQ×(O Int)×(A4×Int))->A3 (O Int))(a:aQ×(O Int)×(A4×Int)):A3 (O Int):=optC (e6l a.2.2.1 a.2.2.2) (some a.2.1) λk=>(k).bind λb=>if(b==83)then(i3x a.2.1 1 [a.1.State]).bind λi=>c (a.1,i,(a.2.2.1,a.2.2.2+1))else if(b==80)then(i3x a.2.1 3 [a.1.Span.From,a.1.Span.To]).bind λg=>c (a.1,g,(a.2.2.1,a.2.2.2+1))else if(b==84)then(i3x a.2.1 1 [a.1.Seat]).bind λe=>c (a.1,e,(a.2.2.1,a.2.2.2+1))else if(b==72)then(i3x a.2.1 1 [a.1.Share]).bind λf=>c (a.1,f,(a.2.2.1,a.2.2.2+1))else if(b==67)then(i3x a.2.1 2 [a.1.Currency]).bind λj=>c (a.1,j,(a.2.2.1,a.2.2.2+1))else if(b==65)then(i3x a.2.1 4 [a.1.Amount]).bind λh=>c (a.1,h,(a.2.2.1,a.2.2.2+1))else if(b==82)then(i3x a.2.1 1 [a.1.Ref]).bind λd=>c (a.1,d,(a.2.2.1,a.2.2.2+1))else c (a.1,a.2.1,(a.2.2.1,a.2.2.2+1))
def i56(a:aQ×Int):A3 (O Int):=(i3x [] 1 [a.1.Issuer]).bind λe=>(i3x e 2 [a.1.Number]).bind λb=>(i3x b 1 [a.1.Version,a.2,a.1.Person,a.1.Kind]).bind λd=>(b2r a.1.Kind).bind λc=>d9 FU i57 (a.1,d,(c,0))
def i5l(a:aQ):A3 (O Int):=(b3k a).bind λb=>if(!b)then some []else if a.Withdrawn then joinC i56 (a,1)else joinC i56 (a,0)
def i5n(b c:O Int):A3 Int:=(i59 b c).bind λa=>some a
def i6i(b a:aQ):A3 Bool:=(b3k b).bind λg=>(if(!g)then some true else(b3k a).bind λe=>some (!e)).bind λh=>if h then some false else(i5l b).bind λc=>(i5l a).bind λf=>(i5n c f).bind λd=>some (decide (d<0))
def i52(a b:aQ):A3 aQ:=(i6i a b).bind λc=>if c then some b else some a
def i3w(j:((O aQ)×(O aQ)×(O aQ))->A3 (O aQ))(a:(O aQ)×(O aQ)×(O aQ)):A3 (O aQ):=(if(decide ((a.1.length:Int)>0))then some (decide ((a.2.1.length:Int)>0))else some false).bind λq=>if q then(c7 a.1 0).bind λt=>(c7 a.2.1 0).bind λo=>(i4q t o).bind λn=>if(decide (n<0))then(c7 a.1 0).bind λr=>(a4n 112 a.2.2 [r]).bind λp=>(a1x a.1 1 (a.1.length:Int)).bind λs=>j (s,a.2.1,p)else if(decide (n>0))then(c7 a.2.1 0).bind λh=>(a4n 112 a.2.2 [h]).bind λg=>(a1x a.2.1 1 (a.2.1.length:Int)).bind λd=>j (a.1,d,g)else(c7 a.1 0).bind λm=>(c7 a.2.1 0).bind λe=>(i52 m e).bind λl=>(a4n 112 a.2.2 [l]).bind λk=>(a1x a.1 1 (a.1.length:Int)).bind λi=>(a1x a.2.1 1 (a.2.1.length:Int)).bind λb=>j (i,b,k)else(a4n 112 a.2.2 a.1).bind λc=>(a4n 112 c a.2.1).bind λf=>some f
def i3v(a b:O aQ):A3 (O aQ):=d9 FU i3w (a,b,[])
def i4f(d:O aQ)(b:((O aQ)×Int)->A3 (O aQ))(a:(O aQ)×Int):A3 (O aQ):=if(decide (a.2<(d.length:Int)))then(c7 d a.2).bind λc=>(b3k c).bind λe=>if e then(i3v a.1 [c]).bind λf=>b (f,i64 (a.2+1))else b (a.1,i64 (a.2+1))else some a.1
def i4i(a:O aQ):A3 (O aQ):=d9 FU (i4f a) ([],0)
def i4d(e b:O aQ):A3 (O aQ):=(i4i e).bind λc=>(i4i b).bind λa=>(i3v c a).bind λd=>some d
def a4e(a:aQ):A3 Bool:=(b3k a).bind λb=>(if b then some (!a.Withdrawn)else some false).bind λc=>some c
def a2b(d:O aQ)(b:((O aQ)×Int)->A3 (O aQ))(a:(O aQ)×Int):A3 (O aQ):=if(decide (a.2<(d.length:Int)))then(c7 d a.2).bind λc=>(a4e c).bind λe=>if e then(a4n 112 a.1 [c]).bind λf=>b (f,i64 (a.2+1))else b (a.1,i64 (a.2+1))else some a.1
def a3f(a:O aQ):A3 (O aQ):=d9 FU (a2b a) ([],0)
def a4f(b:O aQ):A3 (O aQ):=(a3f b).bind λa=>some a
def l4k(b:O aQ):A3 (O aQ):=(i4d b []).bind λa=>(a4f a).bind λc=>some c
def l57(a:aQ)(b:Int):A3 Bool:=some (a.Person==b)
def l42(e:O aQ)(b:Int)(c:((O aQ)×Int)->A3 (O aQ))(a:(O aQ)×Int):A3 (O aQ):=if(decide (a.2<(e.length:Int)))then(c7 e a.2).bind λd=>(l57 d b).bind λf=>if f then(a4n 112 a.1 [d]).bind λg=>c (g,i64 (a.2+1))else c (a.1,i64 (a.2+1))else some a.1
def l44(b:O aQ)(a:Int):A3 (O aQ):=d9 FU (l42 b a) ([],0)
def l4s(b:O aQ)(c:Int):A3 (O aQ):=(l44 b c).bind λa=>some a
def b21(d:O aQ)(i:Int)(c:(Int×Bool×Int)->A3 (Int×Bool))(a:Int×Bool×Int):A3 (Int×Bool):=if(decide (a.2.2<(d.length:Int)))then(c7 d a.2.2).bind λb=>(a4e b).bind λe=>(if e then some (b.Kind==i)else some false).bind λg=>(if g then(if(!a.2.1)then some true else some (decide (b.Span.From<a.1))).bind λf=>some f else some false).bind λh=>if h then c (b.Span.From,true,i64 (a.2.2+1))else c (a.1,a.2.1,i64 (a.2.2+1))else some (a.1,a.2.1)
def b4r(a:O aQ)(b:Int):A3 (Int×Bool):=d9 FU (b21 a b) (0,false,0)
def b7l(b:O aQ):A3 (Int×Bool):=(b4r b 12).bind λa=>some (a.1,a.2)
def l4a(e:O aQ)(b f:Int):A3 Bool:=(l4s e b).bind λc=>(b7l c).bind λa=>(if(!a.2)then some true else some (decide (a.1>=f))).bind λd=>some d
def l4j(a:aQ)(d b:Int):A3 Bool:=(if(a.Kind==10)then some (a.Ref==d)else some false).bind λe=>(if e then some (decide (a.Span.From<=b))else some false).bind λc=>(if c then some (decide (b<a.Span.To))else some false).bind λf=>some f
def l3v(d:O aQ)(a b:Int)(f:Int->A3 Int)(c:Int):A3 Int:=if(decide (c<(d.length:Int)))then(c7 d c).bind λg=>(l4j g a b).bind λe=>if e then some c else f (i64 (c+1))else some (-1:Int)
def l3w(c:O aQ)(a b:Int):A3 Int:=d9 FU (l3v c a b) 0
def l3u(d:O aQ)(a b:Int):A3 Bool:=(l3w d a b).bind λc=>some (decide (c>=0))
def l4f(b:O aQ)(d c:Int):A3 Bool:=(l3u b d c).bind λa=>some a
def l4q(k:Int)(f:O aQ)(g:Int)(b:((O Int)×Int)->A3 (O Int))(a:(O Int)×Int):A3 (O Int):=if(decide (a.2<=99))then if(a.2!=k)then(l4s f a.2).bind λl=>(l4f l k g).bind λm=>(if m then(l4a f a.2 g).bind λe=>some e else some false).bind λi=>if i then(a4n 8 a.1 [a.2]).bind λh=>b (h,i64 (a.2+1))else b (a.1,i64 (a.2+1))else(if false then(l4a f a.2 g).bind λc=>some c else some false).bind λd=>if d then(a4n 8 a.1 [a.2]).bind λj=>b (j,i64 (a.2+1))else b (a.1,i64 (a.2+1))else some a.1
def l49(c:O aQ)(a b:Int):A3 (O Int):=(if(decide (a<1))then some true else some (decide (a>99))).bind λg=>(if g then some true else some (decide (b<0))).bind λe=>(if e then some true else some (decide (b>73048))).bind λh=>(if h then some true else(l4a c a b).bind λd=>some (!d)).bind λf=>if f then some []else d9 FU (l4q a c b) ([],1)
def b4t(b:O aQ):A3 (Int×Bool):=(b4r b 11).bind λa=>some (a.1,a.2)
def b48(a:Span×Int×Int):A3 Span:=if(decide (a.2.2<a.2.1))then some (⟨0,0⟩:Span)else some (⟨a.2.1,i64 (a.2.2+1)⟩:Span)
def a2i(b:O aQ):A3 Span:=(b4t b).bind λa=>(b7l b).bind λc=>if(!c.2)then joinC b48 ((⟨0,0⟩:Span),a.1,73048)else joinC b48 ((⟨0,0⟩:Span),a.1,c.1)
def c3q(a:Span):A3 Span:=some (⟨max a.From 0,min a.To 73049⟩:Span)
def b2e(i:O Span)(h:((O Span)×(O Span)×Int)->A3 (O Span))(a:(O Span)×(O Span)×Int):A3 (O Span):=if(decide (a.2.2<(i.length:Int)))then(c7 a.2.1 a.2.2).bind λm=>(c7 a.2.1 a.2.2).bind λb=>(if(decide ((a.1.length:Int)>0))then(c7 a.1 (i64 ((a.1.length:Int)-1))).bind λl=>(c7 a.1 (i64 ((a.1.length:Int)-1))).bind λf=>some (decide (b.From<=f.To))else some false).bind λd=>if d then(c7 a.1 (i64 ((a.1.length:Int)-1))).bind λj=>(c7 a.1 (i64 ((a.1.length:Int)-1))).bind λg=>(c7 a.1 (i64 ((a.1.length:Int)-1))).bind λk=>(c7 a.1 (i64 ((a.1.length:Int)-1))).bind λc=>h (a8h a.1 (i64 ((a.1.length:Int)-1)) (⟨c.From,max g.To b.To⟩:Span),a.2.1,i64 (a.2.2+1))else(a4n 16 a.1 [b]).bind λe=>h (e,a.2.1,i64 (a.2.2+1))else some a.1
def b5z(e:O Span)(d:((O Span)×(O Span)×Int)->A3 (O Span))(a:(O Span)×(O Span)×Int):A3 (O Span):=if(decide (a.2.2<(e.length:Int)))then(c7 e a.2.2).bind λg=>(c3q g).bind λb=>if(decide (b.From<b.To))then(a4n 16 a.1 [b]).bind λf=>d (f,[],i64 (a.2.2+1))else d (a.1,[],i64 (a.2.2+1))else(b3w a.1).bind λc=>d9 FU (b2e c) ([],c,0)
def a2w(a:O Span):A3 (O Span):=d9 FU (b5z a) ([],[],0)
def a92(d:((O Span)×(O Span)×(O Span)×Int×Int)->A3 (O Span))(a:(O Span)×(O Span)×(O Span)×Int×Int):A3 (O Span):=(c7 a.1 a.2.2.2.1).bind λf=>(c7 a.1 a.2.2.2.1).bind λb=>(c7 a.2.1 a.2.2.2.2).bind λe=>(c7 a.2.1 a.2.2.2.2).bind λc=>if(decide (b.To<c.To))then d (a.1,a.2.1,a.2.2.1,i64 (a.2.2.2.1+1),a.2.2.2.2)else d (a.1,a.2.1,a.2.2.1,a.2.2.2.1,i64 (a.2.2.2.2+1))
def b2h(g:((O Span)×(O Span)×(O Span)×Int×Int)->A3 (O Span))(a:(O Span)×(O Span)×(O Span)×Int×Int):A3 (O Span):=(if(decide (a.2.2.2.1<(a.1.length:Int)))then some (decide (a.2.2.2.2<(a.2.1.length:Int)))else some false).bind λh=>if h then(c7 a.1 a.2.2.2.1).bind λk=>(c7 a.1 a.2.2.2.1).bind λe=>(c7 a.2.1 a.2.2.2.2).bind λl=>(c7 a.2.1 a.2.2.2.2).bind λf=>(c7 a.1 a.2.2.2.1).bind λj=>(c7 a.1 a.2.2.2.1).bind λc=>(c7 a.2.1 a.2.2.2.2).bind λi=>(c7 a.2.1 a.2.2.2.2).bind λb=>if(decide ((max e.From f.From)<(min c.To b.To)))then(a4n 16 a.2.2.1 [(⟨max e.From f.From,min c.To b.To⟩:Span)]).bind λd=>joinC (a92 g) (a.1,a.2.1,d,a.2.2.2.1,a.2.2.2.2)else joinC (a92 g) (a.1,a.2.1,a.2.2.1,a.2.2.2.1,a.2.2.2.2)else some a.2.2.1
def b2g(b d:O Span):A3 (O Span):=(a2w b).bind λa=>(a2w d).bind λc=>d9 FU b2h (a,c,[],0,0)
def s6(b:O Span)(c:Span):A3 (O Span):=(b2g b [c]).bind λa=>some a
def a0j(b a:Posting):A3 Int:=(a2c b.Span.From a.Span.From).bind λe=>(a2c b.Seat a.Seat).bind λd=>(a2c b.State a.State).bind λf=>(b67 [e,d,f]).bind λc=>some c
def a1d(f:Int)(l:((O Posting)×Int)->A3 (O Posting))(h:(O Posting)×Int)(q:((O Posting)×Int)->A3 (O Posting))(a:(O Posting)×Int):A3 (O Posting):=(if(decide (a.2>f))then(c7 a.1 a.2).bind λr=>(c7 a.1 a.2).bind λi=>(c7 a.1 (i64 (a.2-1))).bind λs=>(c7 a.1 (i64 (a.2-1))).bind λg=>(a0j i g).bind λm=>some (decide (m<0))else some false).bind λd=>if d then(c7 a.1 (i64 (a.2-1))).bind λj=>(c7 a.1 (i64 (a.2-1))).bind λb=>(c7 a.1 a.2).bind λp=>(c7 a.1 a.2).bind λc=>(c7 a.1 a.2).bind λo=>(c7 a.1 a.2).bind λn=>(c7 (a8h a.1 a.2 b) (i64 (a.2-1))).bind λk=>(c7 (a8h a.1 a.2 b) (i64 (a.2-1))).bind λe=>q (a8h (a8h a.1 a.2 b) (i64 (a.2-1)) c,i64 (a.2-1))else l (a.1,i64 (h.2+1))
def a1f(c d:Int)(b:((O Posting)×Int)->A3 (O Posting))(a:(O Posting)×Int):A3 (O Posting):=if(decide (a.2<c))then d9 FU (a1d d b a) (a.1,a.2)else some a.1
def m6(b:O Posting)(a c:Int):A3 (O Posting):=d9 FU (a1f c a) (b,i64 (a+1))
structure oQ where f_slices_pdqsortCmpFunc_of_api_Posting:(List Posting)->Int->Int->Int->Option (List Posting)
def a2d(R:oQ)(a:(O Posting)×Int×Int×Int×Unit×Bool×Bool×Int):A3 (O Posting):=none
def i6(R:oQ)(c:((O Posting)×Int×Int×Int×Bool×Bool)->A3 (O Posting))(a:(O Posting)×Int×Int×Int×Bool×Bool):A3 (O Posting):=if(decide ((i64 (a.2.2.1-a.2.1))<=12))then(m6 a.1 a.2.1 a.2.2.1).bind λb=>some b else if(a.2.2.2.1==0)then none else if(!a.2.2.2.2.1)then none else joinC (a2d R) (a.1,a.2.1,a.2.2.1,a.2.2.2.1,(),a.2.2.2.2.1,a.2.2.2.2.2,i64 (a.2.2.1-a.2.1))
def i7(R:oQ)(b:O Posting)(a c d:Int):A3 (O Posting):=d9 FU (i6 R) (b,a,c,d,true,true)
def c3:Nat->oQ|0=>⟨λ_ _ _ _=>none⟩|n+1=>⟨i7 (c3 n)⟩
def y6(b:O Posting)(a c d:Int):A3 (O Posting):=(c3 FU).f_slices_pdqsortCmpFunc_of_api_Posting b a c d
def c9(a:O Posting):A3 (O Posting):=(c7q (u64 ((a.length:Int)))).bind λb=>(y6 a 0 (a.length:Int) b).bind λc=>some c
def b6k(L:O ((Int×Int)×O Span))(f:aQ):O ((Int×Int)×O Span):=if f.Kind=4then f7i L (f.Seat,f.State) f.Span else L
def b4v(l:O aQ):O ((Int×Int)×O Span)->O Posting->A3 (O Posting)|[],out=>some out|q::M,out=>Option.bind (a2i l) λs=>Option.bind (s6 q.2 s) λc=>if out.length+c.length<=100000then b4v l M (out++c.map λx=>⟨q.1.1,q.1.2,x⟩)else none
noncomputable def competence_Postings(a:O aQ):A3 (O Posting):=Option.bind (a4f a) λcur=>if cur.length<=1000/\(cur.all λf=>c4v f.Seat&&c4v f.State)=true then allP (λM=>M.Perm (cur.foldl b6k [])) (λM=>Option.bind (b4v a M []) λout=>c9 out)else none
def m7(a:Int):A3 Bool:=(if(decide (a>=0))then some (decide (a<=73048))else some false).bind λb=>some b
def a7u(a c:Int):A3 Bool:=(if(decide (a>=0))then some (decide (a<=c))else some false).bind λb=>some b
def b2n(g:Rules)(h:(Rules×Int)->A3 Bool)(a:Rules×Int):A3 Bool:=if(decide (a.2<(g.Members.length:Int)))then(c7 g.Members a.2).bind λb=>(a7u b 5).bind λf=>(if(!f)then some true else(if(decide (a.2>0))then(c7 a.1.Members (i64 (a.2-1))).bind λe=>some (decide (b<=e))else some false).bind λc=>some c).bind λd=>if d then some false else h (a.1,i64 (a.2+1))else some true
def a5x(a:Rules):A3 Bool:=(m7 a.From).bind λg=>(if(!g)then some true else(a7u a.MinDays 73049).bind λd=>some (!d)).bind λh=>(if h then some true else(a7u a.PostingLimit 73049).bind λb=>some (!b)).bind λe=>(if e then some true else(a7u a.Substantial 100).bind λc=>some (!c)).bind λf=>if f then some false else d9 FU (b2n a) (a,0)
def b27(b:O Rules)(h:Int->A3 Int)(a:Int):A3 Int:=if(decide (a<(b.length:Int)))then(c7 b a).bind λc=>(a5x c).bind λd=>(if(!d)then some true else(if(decide (a>0))then(c7 b (i64 (a-1))).bind λe=>some (decide (c.From<=e.From))else some false).bind λf=>some f).bind λg=>if g then some 1 else h (i64 (a+1))else some 0
def a9n(a:O Rules):A3 Int:=if(decide ((a.length:Int)>8))then some 7 else(if((a.length:Int)==0)then some true else(c7 a 0).bind λb=>some (b.From !=0)).bind λc=>if c then some 1 else d9 FU (b27 a) 0
def a9c(a:O aQ)(b:O Rules):A3 (lQ×Bool):=(a4f a).bind λe=>(a2i a).bind λd=>(competence_Postings a).bind λf=>(a9n b).bind λc=>some ((⟨e,d,f,b⟩:lQ),c==0)
def b81(d:O Rules)(e:((Int×Rules×Bool)×Int)->A3 (Rules×Bool))(b:(Int×Rules×Bool)×Int):A3 (Rules×Bool):=if decide (b.2<0)then some ((⟨0,0,0,0,[]⟩:Rules),false)else(c7 d b.2).bind λa=>if(decide (a.From<=b.1.1))then(a7z a.Members).bind λc=>some ((b.1.1,(⟨a.From,a.MinDays,a.PostingLimit,a.Substantial,c⟩:Rules),true).2.1,(b.1.1,(⟨a.From,a.MinDays,a.PostingLimit,a.Substantial,c⟩:Rules),true).2.2)else e ((b.1.1,b.1.2.1,b.1.2.2),b.2-1)
def b2q(a:O Rules)(b:Int):A3 (Rules×Bool):=(m7 b).bind λc=>if(!c)then some ((⟨0,0,0,0,[]⟩:Rules),false)else d9 FU (b81 a) ((b,(⟨0,0,0,0,[]⟩:Rules),false),(a.length:Int)-1)
def a4l(a:Span)(b:Int):A3 Bool:=(if(decide (a.From<=b))then some (decide (b<a.To))else some false).bind λc=>some c
def a2q(d:lQ)(c h:Int)(g:Int->A3 (Int×Bool))(a:Int):A3 (Int×Bool):=if(decide (a<(d.postings.length:Int)))then(c7 d.postings a).bind λb=>(a4l b.Span c).bind λe=>(if e then some (decide (c<(i64 (b.Span.From+h))))else some false).bind λf=>if f then some (b.Seat,true)else g (i64 (a+1))else some (0,false)
def a4c(a:lQ)(c b:Int):A3 (Int×Bool):=d9 FU (a2q a c b) 0
def a06(b:O Int)(d:Int)(c:Int->A3 Int)(a:Int):A3 Int:=if(decide (a<(b.length:Int)))then(c7 b a).bind λe=>if(d==e)then some a else c (i64 (a+1))else some (-1:Int)
def a4p(a:O Int)(b:Int):A3 Int:=d9 FU (a06 a b) 0
def q9(b:O Int)(c:Int):A3 Bool:=(a4p b c).bind λa=>some (decide (a>=0))
def a9u(d:lQ)(j:O Int)(i:Int)(c:((O aQ)×Int)->A3 (O aQ))(a:(O aQ)×Int):A3 (O aQ):=if(decide (a.2<(d.facts.length:Int)))then(c7 d.facts a.2).bind λb=>(q9 j b.Kind).bind λe=>(if e then(a4l b.Span i).bind λg=>some g else some false).bind λf=>if f then(a4n 112 a.1 [b]).bind λh=>c (h,i64 (a.2+1))else c (a.1,i64 (a.2+1))else some a.1
def a2j(a:lQ)(c:Int)(b:O Int):A3 (O aQ):=d9 FU (a9u a b c) ([],0)
def a3m(g:O aQ)(c:(aQ×Bool×(O aQ)×Int)->A3 (Int×Bool))(a:aQ×Bool×(O aQ)×Int):A3 (Int×Bool):=if(decide (a.2.2.2<(g.length:Int)))then(c7 a.2.2.1 a.2.2.2).bind λh=>(c7 a.2.2.1 a.2.2.2).bind λb=>(if(!a.2.1)then some true else some (decide (b.Share>a.1.Share))).bind λd=>(if d then some true else(if(b.Share==a.1.Share)then some (decide (b.State<a.1.State))else some false).bind λe=>some e).bind λf=>if f then c (b,true,a.2.2.1,i64 (a.2.2.2+1))else c (a.1,a.2.1,a.2.2.1,i64 (a.2.2.2+1))else some (a.1.State,a.2.1)
def a5v(b:lQ)(c:Int):A3 (Int×Bool):=(a2j b c [3]).bind λa=>d9 FU (a3m a) ((⟨0,0,0,false,0,0,0,(⟨0,0⟩:Span),0,0,0,0,0⟩:aQ),false,a,0)
def b5c(a:Span)(b:Int):A3 Bool:=(if(decide (a.From<=b))then some (decide (b<a.To))else some false).bind λc=>some c
def o5(c:O Span)(a:Int)(e:Int->A3 Int)(b:Int):A3 Int:=if(decide (b<(c.length:Int)))then(c7 c b).bind λf=>(b5c f a).bind λd=>if d then some b else e (i64 (b+1))else some (-1:Int)
def y4(b:O Span)(a:Int):A3 Int:=d9 FU (o5 b a) 0
def s8(c:O Span)(a:Int):A3 Bool:=(y4 c a).bind λb=>some (decide (b>=0))
def a8r(c:O Span)(a:Int):A3 Bool:=(if(decide (a<0))then some true else some (decide (a>=73049))).bind λb=>if b then some false else(s8 c a).bind λd=>some d
def a4t(i:O aQ)(h:Int)(c:(aQ×Bool×Int)->A3 (Int×Bool))(a:aQ×Bool×Int):A3 (Int×Bool):=if(decide (a.2.2<(i.length:Int)))then(c7 i a.2.2).bind λb=>(a4e b).bind λj=>(if(!j)then some true else some (b.Kind !=5)).bind λk=>(if k then some true else some (decide (h<b.Span.From))).bind λl=>(if l then some true else some (decide (h>=b.Span.To))).bind λg=>if g then c (a.1,a.2.1,i64 (a.2.2+1))else(if(!a.2.1)then some true else some (decide (b.Span.From>a.1.Span.From))).bind λf=>(if f then some true else(if(b.Span.From==a.1.Span.From)then some (decide (b.State<a.1.State))else some false).bind λe=>some e).bind λd=>if d then c (b,true,i64 (a.2.2+1))else c (a.1,a.2.1,i64 (a.2.2+1))else some (a.1.State,a.2.1)
def a8j(b:O aQ)(a:Int):A3 (Int×Bool):=(m7 a).bind λd=>if(!d)then some (0,false)else(a2i b).bind λc=>(a8r [c] a).bind λe=>if(!e)then some (0,false)else d9 FU (a4t b a) ((⟨0,0,0,false,0,0,0,(⟨0,0⟩:Span),0,0,0,0,0⟩:aQ),false,0)
def a1r(h:((O Int)×Int×Int×(Int×Nat))->A3 (O Int))(a:(O Int)×Int×Int×(Int×Nat)):A3 (O Int):=if(decide (a.2.2.1<(a.2.2.2.2:Int)))then(c72 a.1 a.2.2.2.1 a.2.2.1).bind λm=>(c7 a.1 (a.2.2.2.1+a.2.2.1)).bind λg=>(c72 a.1 a.2.2.2.1 (i64 (a.2.2.1-1))).bind λk=>(c7 a.1 (a.2.2.2.1+(i64 (a.2.2.1-1)))).bind λc=>if(g !=c)then(c72 a.1 a.2.2.2.1 a.2.2.1).bind λj=>(c7 a.1 (a.2.2.2.1+a.2.2.1)).bind λf=>(c7 a.1 a.2.1).bind λl=>(c7 a.1 a.2.1).bind λi=>h (a8h a.1 a.2.1 f,i64 (a.2.1+1),i64 (a.2.2.1+1),(a.2.2.2.1,a.2.2.2.2))else h (a.1,a.2.1,i64 (a.2.2.1+1),(a.2.2.2.1,a.2.2.2.2))else(a1x a.1 a.2.1 (a.1.length:Int)).bind λb=>(h1h 0 a.1 a.2.1 b.length).bind λe=>(a1x e 0 a.2.1).bind λd=>some d
def a0c(e:((O Int)×Int)->A3 (O Int))(a:(O Int)×Int):A3 (O Int):=if(decide (a.2<(a.1.length:Int)))then(c7 a.1 a.2).bind λg=>(c7 a.1 a.2).bind λb=>(c7 a.1 (i64 (a.2-1))).bind λf=>(c7 a.1 (i64 (a.2-1))).bind λc=>if(b==c)then(a1x a.1 a.2 (a.1.length:Int)).bind λd=>d9 FU a1r (a.1,a.2,1,(a.2,d.length))else e (a.1,i64 (a.2+1))else some a.1
def a0n(a:O Int):A3 (O Int):=if(decide ((a.length:Int)<2))then some a else d9 FU a0c (a,1)
def a7p(b:O aQ)(f:((O Int)×Int)->A3 (O Int))(a:(O Int)×Int):A3 (O Int):=if(decide (a.2<(b.length:Int)))then(c7 b a.2).bind λg=>(a4n 8 a.1 [g.Seat]).bind λc=>f (c,i64 (a.2+1))else(b8s a.1).bind λe=>(a0n e).bind λd=>some d
def b12(a:O aQ):A3 (O Int):=d9 FU (a7p a) ([],0)
def a0f(d:O Int)(b:((O (Int×Int))×Int×(O Int)×Int)->A3 (Int×Bool))(a:(O (Int×Int))×Int×(O Int)×Int):A3 (Int×Bool):=if(decide (a.2.2.2<((List.map (λx=>x) d).length:Int)))then(c7 a.2.2.1 a.2.2.2).bind λe=>(c7 a.2.2.1 a.2.2.2).bind λc=>if(decide ((b5g a.1 c)>(b5g a.1 a.2.1)))then b (a.1,c,a.2.2.1,i64 (a.2.2.2+1))else b (a.1,a.2.1,a.2.2.1,i64 (a.2.2.2+1))else some (a.2.1,true)
def a2g(s:O aQ)(p y:Int)(u:(lQ×(O (Int×Int))×Int×(O aQ)×Int)->A3 (Int×Bool))(b:lQ×(O (Int×Int))×Int×(O aQ)×Int):A3 (Int×Bool):=if(decide (b.2.2.2.2<(s.length:Int)))then(c7 b.2.2.2.1 b.2.2.2.2).bind λA=>(c7 b.2.2.2.1 b.2.2.2.2).bind λe=>u (b.1,a62 b.2.1 e.State (i64 ((b5g b.2.1 e.State)+e.Share)),i64 (b.2.2.1+e.Share),b.2.2.2.1,i64 (b.2.2.2.2+1))else(c8c b.2.1).bind λd=>if(((List.map (λx=>x) d).length:Int)==0)then some (0,false)else if(((List.map (λx=>x) d).length:Int)==1)then(c7 (List.map (λx=>x) d) 0).bind λz=>(c7 (List.map (λx=>x) d) 0).bind λq=>some (q,true)else(a8j b.1.facts p).bind λc=>(if c.2then some (c7s b.2.1 c.1)else some false).bind λj=>(if j then some (decide ((i64 (100*(b5g b.2.1 c.1)))>=(i64 (y*b.2.2.1))))else some false).bind λi=>if i then some (c.1,true)else(a2j b.1 p [1]).bind λg=>(b12 g).bind λa=>if((a.length:Int)==1)then(c7 a 0).bind λt=>(c7 a 0).bind λo=>some (o,true)else(if c.2then some ((a.length:Int)==2)else some false).bind λm=>(if m then(q9 a c.1).bind λk=>some k else some false).bind λf=>if f then(c7 a 0).bind λr=>(c7 a 0).bind λh=>(c7 a 1).bind λv=>(c7 a 1).bind λl=>some (i64 ((i64 (h+l))-c.1),true)else if c.2then some (c.1,true)else(c7 (List.map (λx=>x) d) 0).bind λw=>(c7 (List.map (λx=>x) d) 0).bind λn=>d9 FU (a0f d) (b.2.1,n,(List.map (λx=>x) d),0)
def a3v(b:lQ)(c d:Int):A3 (Int×Bool):=(a2j b c [1,2]).bind λa=>d9 FU (a2g a c d) (b,[],0,a,0)
def a6j(b c:aQ):A3 Int:=(a2c b.State c.State).bind λa=>some a
def y9(b:(O aQ)×Unit×aQ)(c:(aQ×aQ×Int)->A3 aQ)(a:aQ×aQ×Int):A3 aQ:=if(decide (a.2.2<(b.1.length:Int)))then(c7 b.1 a.2.2).bind λe=>(a6j e a.2.1).bind λd=>if(decide (d<0))then(c7 b.1 a.2.2).bind λf=>c (a.1,f,i64 (a.2.2+1))else c (a.1,a.2.1,i64 (a.2.2+1))else some a.2.1
def a00(a:(O aQ)×Unit×aQ):A3 aQ:=(c7 a.1 0).bind λb=>d9 FU (y9 a) (a.2.2,b,1)
def m5(a:O aQ):A3 aQ:=if(decide ((a.length:Int)<1))then none else joinC a00 (a,(),(⟨0,0,0,false,0,0,0,(⟨0,0⟩:Span),0,0,0,0,0⟩:aQ))
def a4b(b:lQ)(d:Int):A3 (Int×Bool):=(a2j b d [7,8]).bind λa=>if((a.length:Int)==0)then some (0,false)else(m5 a).bind λc=>some (c.State,true)
def a7m(b:lQ)(a:Int):A3 (Int×Int):=(b2q b.rules a).bind λc=>(if(!c.2)then some true else(a4l b.span a).bind λi=>some (!i)).bind λj=>if j then some ((-1:Int),0)else(a4c b a c.1.PostingLimit).bind λd=>if d.2then some (d.1,1)else(a5v b a).bind λf=>if f.2then some (f.1,2)else(a3v b a c.1.Substantial).bind λe=>if e.2then some (e.1,3)else(a4b b a).bind λg=>if g.2then some (g.1,4)else(a8j b.facts a).bind λh=>if h.2then some (h.1,5)else some ((-1:Int),0)
def l4h(d:O aQ)(c:O Rules)(e:Int):A3 (Int×Int):=(a9c d c).bind λb=>if(!b.2)then some ((-1:Int),0)else(a7m b.1 e).bind λa=>some (a.1,a.2)
def l4o(a:State)(b:Int):A3 Bool:=some (a.State==b)
def l4b(a:Int×Bool):A3 Int:=if a.2then some 1 else if(a.1==4)then some 2 else if(a.1==5)then some 3 else some 0
def l4m(a:Int):A3 Int:=if(a==1)then joinC l4b (a,a==1)else if(a==2)then joinC l4b (a,a==2)else joinC l4b (a,a==3)
structure Ring_statute_cloneExpr where f_statute_cloneExpr:Expr->Option Expr
def a7s(R:Ring_statute_cloneExpr)(b:Expr):A3 Expr:=lpC (([]:O Expr),(⟨b.Op,b.Value,b.Dim,b.Name,[]⟩:Expr),([]:O Expr),(⟨0,(⟨0,0⟩:fQ),0,a3j,[]⟩:Expr),(0:Int)) λh⟨e,a,i,c,d⟩=>if(decide (d<(b.Args.length:Int)))then(c7 b.Args d).bind λf=>(R.f_statute_cloneExpr f).bind λg=>(a4n 72 e [g]).bind λj=>h (j,(⟨a.Op,a.Value,a.Dim,a.Name,[]⟩:Expr),i,(⟨c.Op,c.Value,c.Dim,c.Name,[]⟩:Expr),i64 (d+1))else some (⟨a.Op,a.Value,a.Dim,a.Name,e⟩:Expr)
def s4:Nat->Ring_statute_cloneExpr|0=>⟨λ_=>none⟩|n+1=>⟨a7s (s4 n)⟩
def a6x(a:Expr):A3 Expr:=(s4 FU).f_statute_cloneExpr a
def a6r(n:Version):A3 Version:=(a5m n.Credits).bind λv1=>(a6e n.Series).bind λv2=>(a86 n.Lets).bind λv3=>(a6f n.Grants).bind λv4=>(a5p n.Reduces).bind λv5=>lpC (v1,v2,v3,v4,v5,(⟨n.From,n.Rounding,[],[],[],[],[]⟩:Version),([]:O Credit),([]:O Index),([]:O Let),([]:O Grant),([]:O Reduce),(⟨0,(⟨0,0⟩:Rounding),[],[],[],[],[]⟩:Version),(0:Int)) λQ⟨v6,v7,o,V,z,h,s,G,u,D,C,i,c⟩=>if(decide (c<(v3.length:Int)))then(c7 o c).bind λam=>(c7 o c).bind λN=>(a6x N.Body).bind λU=>(c7 o c).bind λap=>(c7 o c).bind λX=>Q (v6,v7,a8h o c (⟨X.Name,U⟩:Let),V,z,(⟨h.From,h.Rounding,[],[],[],[],[]⟩:Version),s,G,u,D,C,(⟨i.From,i.Rounding,[],[],[],[],[]⟩:Version),i64 (c+1))else lpC (v6,v7,o,V,z,(⟨h.From,h.Rounding,[],[],[],[],[]⟩:Version),s,G,u,D,C,(⟨i.From,i.Rounding,[],[],[],[],[]⟩:Version),(0:Int)) λR⟨E,t,B,b,l,j,x,w,H,y,p,k,a⟩=>if(decide (a<(V.length:Int)))then(c7 b a).bind λal=>(c7 b a).bind λJ=>(a6x J.If).bind λm=>(c7 b a).bind λak=>(c7 b a).bind λT=>(a6x T.Pay).bind λY=>(c7 b a).bind λao=>(c7 b a).bind λe=>(c7 (a8h b a (⟨e.Benefit,m,e.Pay⟩:Grant)) a).bind λah=>(c7 (a8h b a (⟨e.Benefit,m,e.Pay⟩:Grant)) a).bind λv=>R (E,t,B,a8h (a8h b a (⟨e.Benefit,m,e.Pay⟩:Grant)) a (⟨v.Benefit,v.If,Y⟩:Grant),l,(⟨j.From,j.Rounding,[],[],[],[],[]⟩:Version),x,w,H,y,p,(⟨k.From,k.Rounding,[],[],[],[],[]⟩:Version),i64 (a+1))else lpC (E,t,B,b,l,(⟨j.From,j.Rounding,[],[],[],[],[]⟩:Version),x,w,H,y,p,(⟨k.From,k.Rounding,[],[],[],[],[]⟩:Version),(0:Int)) λaa⟨A,q,F,I,f,g,P,ab,K,M,W,r,d⟩=>if(decide (d<(l.length:Int)))then(c7 f d).bind λan=>(c7 f d).bind λL=>(a6x L.By).bind λZ=>(c7 f d).bind λaj=>(c7 f d).bind λS=>aa (A,q,F,I,a8h f d (⟨S.Benefit,Z⟩:Reduce),(⟨g.From,g.Rounding,[],[],[],[],[]⟩:Version),P,ab,K,M,W,(⟨r.From,r.Rounding,[],[],[],[],[]⟩:Version),i64 (d+1))else some (⟨g.From,g.Rounding,A,q,F,I,f⟩:Version)
def c41(d:Statute)(e:((Int×Version×Bool)×Int)->A3 (Version×Bool))(a:(Int×Version×Bool)×Int):A3 (Version×Bool):=if decide (a.2<0)then some ((⟨0,(⟨0,0⟩:Rounding),[],[],[],[],[]⟩:Version),false)else(c7 d.Versions a.2).bind λb=>if(decide (b.From<=a.1.1))then(a6r b).bind λc=>some ((a.1.1,c,true).2.1,(a.1.1,c,true).2.2)else e ((a.1.1,a.1.2.1,a.1.2.2),a.2-1)
def b1v(a:Statute)(b:Int):A3 (Version×Bool):=(m7 b).bind λc=>if(!c)then some ((⟨0,(⟨0,0⟩:Rounding),[],[],[],[],[]⟩:Version),false)else d9 FU (c41 a) ((b,(⟨0,(⟨0,0⟩:Rounding),[],[],[],[],[]⟩:Version),false),(a.Versions.length:Int)-1)
def l4i(e:O Rules)(c f:Int):A3 Bool:=(b2q e f).bind λa=>(if a.2then(q9 a.1.Members c).bind λb=>some b else some false).bind λd=>some d
def b6l(a:Int):A3 Bool:=(if(decide (a>=97))then some (decide (a<=122))else some false).bind λb=>some b
def b74(a:Int):A3 Bool:=(if(decide (a>=48))then some (decide (a<=57))else some false).bind λb=>some b
def c1b(a:Int):A3 Bool:=(b6l a).bind λd=>(if d then some true else(b74 a).bind λc=>some c).bind λe=>(if e then some true else some (a==95)).bind λb=>some b
def c1f(b:A4)(e:Int->A3 Bool)(a:Int):A3 Bool:=if(decide (a<(b.size:Int)))then(b3c b a).bind λc=>(c1b c).bind λd=>if(!d)then some false else e (i64 (a+1))else some true
def b7f(a:A4):A3 Bool:=(if(decide ((a.size:Int)<1))then some true else some (decide ((a.size:Int)>12))).bind λd=>(if d then some true else(b3c a 0).bind λc=>(b6l c).bind λe=>some (!e)).bind λb=>if b then some false else d9 FU (c1f a) 0
def b49(a:A4):A3 Bool:=if(a.toList==c9m.toList)then if(a.toList==c9m.toList)then some true else some false else if(a.toList==c51.toList)then if(a.toList==c51.toList)then some true else some false else if(a.toList==d69.toList)then if(a.toList==d69.toList)then some true else some false else if(a.toList==b91.toList)then if(a.toList==b91.toList)then some true else some false else if(a.toList==b4x.toList)then if(a.toList==b4x.toList)then some true else some false else if(a.toList==c53.toList)then if(a.toList==c53.toList)then some true else some false else if(a.toList==c1a.toList)then if(a.toList==c1a.toList)then some true else some false else if(a.toList==c4c.toList)then if(a.toList==c4c.toList)then some true else some false else if(a.toList==c10.toList)then if(a.toList==c10.toList)then some true else some false else if(a.toList==d0k.toList)then if(a.toList==d0k.toList)then some true else some false else if(a.toList==c1q.toList)then if(a.toList==c1q.toList)then some true else some false else if(a.toList==d07.toList)then if(a.toList==d07.toList)then some true else some false else if(a.toList==c1c.toList)then if(a.toList==c1c.toList)then some true else some false else if(a.toList==c98.toList)then if(a.toList==c98.toList)then some true else some false else if(a.toList==c8l.toList)then if(a.toList==c8l.toList)then some true else some false else if(a.toList==c92.toList)then if(a.toList==c92.toList)then some true else some false else if(a.toList==d8p.toList)then if(a.toList==d8p.toList)then some true else some false else if(a.toList==c60.toList)then if(a.toList==c60.toList)then some true else some false else if(a.toList==b94.toList)then if(a.toList==b94.toList)then some true else some false else if(a.toList==c14.toList)then if(a.toList==c14.toList)then some true else some false else if(a.toList==b76.toList)then if(a.toList==b76.toList)then some true else some false else if(a.toList==d3p.toList)then some true else some false
def b0e(a:A4):A3 Bool:=(b7f a).bind λb=>(if b then(b49 a).bind λd=>some (!d)else some false).bind λc=>some c
def c0l:A3 (O syntax_entry):=some [(⟨d4s,1⟩:syntax_entry),(⟨f1e,2⟩:syntax_entry),(⟨d3b,3⟩:syntax_entry),(⟨d3z,4⟩:syntax_entry)]
def b3q(a:syntax_entry)(b:Int):A3 Bool:=some (a.number==b)
def a3y(c:O syntax_entry)(a:Int)(e:Int->A3 Int)(b:Int):A3 Int:=if(decide (b<(c.length:Int)))then(c7 c b).bind λf=>(b3q f a).bind λd=>if d then some b else e (i64 (b+1))else some (-1:Int)
def a0b(b:O syntax_entry)(a:Int):A3 Int:=d9 FU (a3y b a) 0
def a4u(b:O syntax_entry)(d:Int):A3 A4:=(a0b b d).bind λa=>if(decide (a<0))then some a3j else(c7 b a).bind λc=>some c.name
def c1i:A3 (O syntax_entry):=some [(⟨b0b,6⟩:syntax_entry),(⟨b3z,9⟩:syntax_entry),(⟨b87,7⟩:syntax_entry),(⟨d54,8⟩:syntax_entry),(⟨c97,10⟩:syntax_entry),(⟨c04,5⟩:syntax_entry)]
def b72(a c:A4):A3 (A4×A4×Bool):=(a6y a c).bind λb=>if(decide (b>=0))then(c3u a 0 b).bind λd=>(c3u a (i64 (b+(c.size:Int))) (a.size:Int)).bind λe=>some (d,e,true)else some (a,a3j,false)
def b9e(b c:A4):A3 (A4×A4×Bool):=(b72 b c).bind λa=>some (a.1,a.2.1,a.2.2)
def c0d(b:A4)(e:(Int×Int)->A3 (Int×Bool))(a:Int×Int):A3 (Int×Bool):=if(decide (a.2<(b.size:Int)))then(b3c b a.2).bind λf=>(b74 f).bind λc=>if(!c)then some (0,false)else(b3c b a.2).bind λd=>e (i64 ((i64 (10*a.1))+(i64 (IntKind.u8.wrap (d-48)))),i64 (a.2+1))else some (a.1,true)
def b2i(a:A4):A3 (Int×Bool):=d9 FU (c0d a) (0,0)
def b5e(b:Int)(j:(fQ×Int)->A3 (fQ×Int×Bool))(i:fQ×Int)(e:fQ->A3 (fQ×Int×Bool))(a:fQ):A3 (fQ×Int×Bool):=(b8t a.Num b).bind λh=>(if(h==0)then(b8t a.Den b).bind λd=>some (d==0)else some false).bind λc=>if c then(c2t a.Num b).bind λf=>(c2t a.Den b).bind λg=>e (⟨f,g⟩:fQ)else j (a,i64 (i.2+1))
def c09(c:fQ×Int×Int×Int)(d:(fQ×Int)->A3 (fQ×Int×Bool))(a:fQ×Int):A3 (fQ×Int×Bool):=if(decide (a.2<2))then(c7 (⟨[2,5],rfl⟩:Ar 2 Int).l a.2).bind λb=>d9 FU (b5e b d a) a.1else some (a.1,c.2.1,true)
def b5d(a:fQ×Int×Int×Int):A3 (fQ×Int×Bool):=d9 FU (c09 a) ((⟨i64 (a.2.2.1+a.2.2.2),a.1.Den⟩:fQ),0)
def c0b(e:A4×fQ×Int)(d:Int×Bool)(b:(fQ×Int×(A4×Int))->A3 (fQ×Int×Bool))(a:fQ×Int×(A4×Int)):A3 (fQ×Int×Bool):=optC (e6l a.2.2.1 a.2.2.2) (joinC b5d (a.1,e.2.2,a.2.1,d.1)) λc=>(c).bind λf=>b ((⟨a.1.Num,i64 (10*a.1.Den)⟩:fQ),i64 (10*a.2.1),(a.2.2.1,a.2.2.2+1))
def a5s(d:A4×fQ×Int):A3 (fQ×Int×Bool):=(b9e d.1 b1i).bind λa=>(if(decide ((a.1.size:Int)<1))then some true else some (decide ((a.1.size:Int)>9))).bind λi=>(if i then some true else(if(decide ((a.1.size:Int)>1))then(b3c a.1 0).bind λj=>some (j==48)else some false).bind λk=>some k).bind λl=>(if l then some true else(if a.2.2then(if(decide ((a.2.1.size:Int)<1))then some true else some (decide ((a.2.1.size:Int)>4))).bind λe=>some e else some false).bind λg=>some g).bind λf=>if f then some ((⟨0,0⟩:fQ),0,false)else(b2i a.1).bind λb=>(b2i a.2.1).bind λc=>(if(!b.2)then some true else some (!c.2)).bind λh=>if h then some ((⟨0,0⟩:fQ),0,false)else d9 FU (c0b d c) ((⟨d.2.1.Num,1⟩:fQ),b.1,(a.2.1,0))
def b69(a:A4):A3 (fQ×Int×Bool):=(if(decide ((a.size:Int)>0))then(b3c a (i64 ((a.size:Int)-1))).bind λf=>some (f==100)else some false).bind λe=>if e then(c3u a 0 (i64 ((a.size:Int)-1))).bind λg=>joinC a5s (g,(⟨0,0⟩:fQ),3)else(if(decide ((a.size:Int)>0))then(b3c a (i64 ((a.size:Int)-1))).bind λc=>some (c==109)else some false).bind λb=>if b then(c3u a 0 (i64 ((a.size:Int)-1))).bind λd=>joinC a5s (d,(⟨0,0⟩:fQ),4)else joinC a5s (a,(⟨0,0⟩:fQ),2)
def a5e(f:(fQ×A4×Int×Int)->A3 (A4×Bool))(a:Int×fQ×A4×Int×Int):A3 (A4×Bool):=if(a.2.2.2.2==4)then some (a3j,false)else(c2t (i64 (a.2.2.2.1*10)) a.2.1.Den).bind λe=>(strconv_Itoa e).bind λd=>(a7f a.2.2.1 d).bind λb=>(b8t (i64 (a.2.2.2.1*10)) a.2.1.Den).bind λc=>f (a.2.1,b,c,i64 (a.2.2.2.2+1))
def a2u(a:Int×fQ×A4):A3 (A4×Bool):=(b69 a.2.2).bind λb=>(if(!b.2.2)then some true else some (!((b.1.Num==a.2.1.Num)&&((b.1.Den==a.2.1.Den)&&(true))))).bind λd=>(if d then some true else some (b.2.1!=a.1)).bind λc=>if c then some (a3j,false)else some (a.2.2,true)
def b3h(b:Int)(e:(fQ×A4×Int×Int)->A3 (A4×Bool))(a:fQ×A4×Int×Int):A3 (A4×Bool):=if(decide (a.2.2.1>0))then if(a.2.2.2==0)then(a7f a.2.1 b1i).bind λf=>joinC (a5e e) (b,a.1,f,a.2.2.1,a.2.2.2)else joinC (a5e e) (b,a.1,a.2.1,a.2.2.1,a.2.2.2)else if(b==3)then(a7f a.2.1 e4t).bind λd=>joinC a2u (b,a.1,d)else if(b==4)then(a7f a.2.1 e6u).bind λc=>joinC a2u (b,a.1,c)else joinC a2u (b,a.1,a.2.1)
def a4y(a:fQ)(f:Int):A3 (A4×Bool):=(if(decide (a.Den<1))then some true else some (decide (a.Den>10000))).bind λg=>(if g then some true else some (decide (a.Num<0))).bind λd=>(if d then some true else some (decide (a.Num>1000000000000000))).bind λh=>if h then some (a3j,false)else(c2t a.Num a.Den).bind λb=>(strconv_Itoa b).bind λe=>(b8t a.Num a.Den).bind λc=>d9 FU (b3h f) (a,e,c,0)
def b59(a:Int):A3 Bool:=(if(decide (a>=1900))then some (decide (a<=2099))else some false).bind λb=>some b
def b07(a:Index):A3 Bool:=(a4y a.Factor 2).bind λd=>(if d.2then some (decide (a.Factor.Num>0))else some false).bind λc=>(if c then(b59 a.Year).bind λe=>some e else some false).bind λb=>some b
structure Ring_syntax_Depth where f_syntax_Depth:Expr->Option Int
def b6x(R:Ring_syntax_Depth)(b:Expr)(d:(Int×Int)->A3 Int)(a:Int×Int):A3 Int:=if(decide (a.2<(b.Args.length:Int)))then(c7 b.Args a.2).bind λe=>(R.f_syntax_Depth e).bind λc=>d (max a.1 c,i64 (a.2+1))else some (i64 (a.1+1))
def b86(R:Ring_syntax_Depth)(a:Expr):A3 Int:=d9 FU (b6x R a) (0,0)
def a0r:Nat->Ring_syntax_Depth|0=>⟨λ_=>none⟩|n+1=>⟨b86 (a0r n)⟩
def d57(a:Expr):A3 Int:=(a0r FU).f_syntax_Depth a
structure Ring_syntax_Size where f_syntax_Size:Expr->Option Int
def b8b(R:Ring_syntax_Size)(b:Expr)(d:(Int×Int)->A3 Int)(a:Int×Int):A3 Int:=if(decide (a.2<(b.Args.length:Int)))then(c7 b.Args a.2).bind λe=>(R.f_syntax_Size e).bind λc=>d (i64 (a.1+c),i64 (a.2+1))else some a.1
def b9x(R:Ring_syntax_Size)(a:Expr):A3 Int:=d9 FU (b8b R a) (1,0)
def a1j:Nat->Ring_syntax_Size|0=>⟨λ_=>none⟩|n+1=>⟨b9x (a1j n)⟩
def e0h(a:Expr):A3 Int:=(a1j FU).f_syntax_Size a
def b84(a:Int):A3 Int:=(if(a==1)then some true else some (a==2)).bind λe=>(if e then some true else some (a==3)).bind λc=>if c then some 0 else(if(a==4)then some true else some (a==5)).bind λf=>(if f then some true else some (a==6)).bind λb=>if b then some 1 else(if(decide (a>=7))then some (decide (a<=20))else some false).bind λd=>if d then some 2 else if(a==21)then some 3 else some (-1:Int)
def c05(a:Expr):A3 Bool:=(b84 a.Op).bind λk=>if((a.Args.length:Int)!=k)then some false else if(a.Op==1)then(a4y a.Value a.Dim).bind λg=>(if g.2then some (a.Name.toList==a3j.toList)else some false).bind λl=>some l else if(a.Op==2)then(b0e a.Name).bind λe=>(if e then some ((a.Value.Num==0)&&((a.Value.Den==0)&&(true)))else some false).bind λh=>(if h then some (a.Dim==0)else some false).bind λf=>some f else if(a.Op==3)then(if(a.Value.Den==1)then some (decide (a.Value.Num>=1))else some false).bind λi=>(if i then some (decide (a.Value.Num<=45))else some false).bind λj=>(if j then some (a.Dim==0)else some false).bind λm=>(if m then some (a.Name.toList==a3j.toList)else some false).bind λd=>some d else(if((a.Value.Num==0)&&((a.Value.Den==0)&&(true)))then some (a.Dim==0)else some false).bind λc=>(if c then some (a.Name.toList==a3j.toList)else some false).bind λb=>some b
structure Ring_syntax_form where
 f_syntax_form:Expr->Option Bool
 f_syntax_form_1:Expr->Option Bool
 f_slices_ContainsFunc_of_api_Expr:(List Expr)->Option Bool
 f_slices_IndexFunc_of_api_Expr:(List Expr)->Option Int
def b60(R:Ring_syntax_form)(a:Expr):A3 Bool:=(c05 a).bind λb=>(if b then(R.f_slices_ContainsFunc_of_api_Expr a.Args).bind λd=>some (!d)else some false).bind λc=>some c
def c0q(R:Ring_syntax_form)(b:Expr):A3 Bool:=(R.f_syntax_form b).bind λa=>some (!a)
def a0y(R:Ring_syntax_form)(b:O Expr):A3 Bool:=(R.f_slices_IndexFunc_of_api_Expr b).bind λa=>some (decide (a>=0))
def a6i(R:Ring_syntax_form)(b:O Expr)(d:Int->A3 Int)(a:Int):A3 Int:=if(decide (a<(b.length:Int)))then(c7 b a).bind λe=>(R.f_syntax_form_1 e).bind λc=>if c then some a else d (i64 (a+1))else some (-1:Int)
def a1m(R:Ring_syntax_form)(a:O Expr):A3 Int:=d9 FU (a6i R a) 0
def e6:Nat->Ring_syntax_form|0=>⟨λ_=>none,λ_=>none,λ_=>none,λ_=>none⟩|n+1=>⟨b60 (e6 n),c0q (e6 n),a0y (e6 n),a1m (e6 n)⟩
def d9s(a:Expr):A3 Bool:=(e6 FU).f_syntax_form a
def a1k(a:Expr):A3 Bool:=(d57 a).bind λe=>(if(decide (e<=10))then(e0h a).bind λc=>some (decide (c<=60))else some false).bind λf=>(if f then(d9s a).bind λb=>some b else some false).bind λd=>some d
def b2d:A3 (O syntax_entry):=some [(⟨d9m,1⟩:syntax_entry),(⟨b8e,2⟩:syntax_entry),(⟨c0u,3⟩:syntax_entry),(⟨c66,4⟩:syntax_entry),(⟨c0r,5⟩:syntax_entry)]
def a8y(b:Version)(g:Int->A3 Bool)(a:Int):A3 Bool:=if(decide (a<(b.Reduces.length:Int)))then(c7 b.Reduces a).bind λc=>(b2d).bind λf=>(a4u f c.Benefit).bind λe=>(if(e.toList==a3j.toList)then some true else(a1k c.By).bind λh=>some (!h)).bind λd=>if d then some false else g (i64 (a+1))else some true
def b3e(a:Version):A3 Bool:=d9 FU (a8y a) 0
def a8t(c:Version)(e:(Version×Int)->A3 Bool)(a:Version×Int):A3 Bool:=if(decide (a.2<(c.Grants.length:Int)))then(c7 c.Grants a.2).bind λb=>(b2d).bind λf=>(a4u f b.Benefit).bind λg=>(if(g.toList==a3j.toList)then some true else(a1k b.If).bind λj=>some (!j)).bind λd=>(if d then some true else(a1k b.Pay).bind λh=>some (!h)).bind λi=>if i then some false else e (a.1,i64 (a.2+1))else joinC b3e a.1
def b3b(a:Version):A3 Bool:=d9 FU (a8t a) (a,0)
def a8w(c:Version)(d:(Version×Int)->A3 Bool)(a:Version×Int):A3 Bool:=if(decide (a.2<(c.Lets.length:Int)))then(c7 c.Lets a.2).bind λb=>(b0e b.Name).bind λg=>(if(!g)then some true else(a1k b.Body).bind λf=>some (!f)).bind λe=>if e then some false else d (a.1,i64 (a.2+1))else joinC b3b a.1
def b3i(a:Version):A3 Bool:=d9 FU (a8w a) (a,0)
def a8v(b:Version)(c:(Version×Int)->A3 Bool)(a:Version×Int):A3 Bool:=if(decide (a.2<(b.Series.length:Int)))then(c7 b.Series a.2).bind λe=>(b07 e).bind λd=>if(!d)then some false else c (a.1,i64 (a.2+1))else joinC b3i a.1
def b39(a:Version):A3 Bool:=d9 FU (a8v a) (a,0)
def a8u(h:Version)(f:(Version×Int)->A3 Bool)(b:Version×Int):A3 Bool:=if(decide (b.2<(h.Credits.length:Int)))then(c7 h.Credits b.2).bind λa=>(c1i).bind λe=>(a4u e a.Kind).bind λc=>(if(c.toList==a3j.toList)then some true else some (decide (a.Limit<0))).bind λd=>(if d then some true else some (decide (a.Limit>73049))).bind λg=>if g then some false else f (b.1,i64 (b.2+1))else joinC b39 b.1
def a5f(a:Version):A3 Bool:=(if(decide ((a.Credits.length:Int)>6))then some true else some (decide ((a.Series.length:Int)>20))).bind λc=>(if c then some true else some (decide ((a.Lets.length:Int)>10))).bind λb=>(if b then some true else some (decide ((a.Grants.length:Int)>5))).bind λd=>(if d then some true else some (decide ((a.Reduces.length:Int)>5))).bind λe=>if e then some false else d9 FU (a8u a) (a,0)
def a7q(a:Version):A3 Bool:=(m7 a.From).bind λg=>if(!g)then(if true then some true else some (decide (a.Rounding.Unit<1))).bind λf=>(if f then some true else some (decide (a.Rounding.Unit>100000))).bind λh=>if h then some false else joinC a5f a else(c0l).bind λe=>(a4u e a.Rounding.Mode).bind λb=>(if(b.toList==a3j.toList)then some true else some (decide (a.Rounding.Unit<1))).bind λc=>(if c then some true else some (decide (a.Rounding.Unit>100000))).bind λd=>if d then some false else joinC a5f a
def b77(b:Statute)(d:Int->A3 Bool)(a:Int):A3 Bool:=if(decide (a<(b.Versions.length:Int)))then(c7 b.Versions a).bind λc=>(a7q c).bind λe=>if(!e)then some false else d (i64 (a+1))else some true
def b7h(a:Statute):A3 Bool:=(b0e a.Name).bind λe=>(if(!e)then some true else some (decide (a.Currency<1))).bind λc=>(if c then some true else some (decide (a.Currency>999))).bind λf=>(if f then some true else some (decide ((a.Versions.length:Int)<1))).bind λb=>(if b then some true else some (decide ((a.Versions.length:Int)>6))).bind λd=>if d then some false else d9 FU (b77 a) 0
def a21(a:A4×Bool):A3 (Int×Bool):=if a.2then some (3,true)else if(a.1.toList==e39.toList)then some (4,true)else some (0,false)
def a9q(a:A4×Bool):A3 (Int×Bool):=if a.2then some (2,true)else if(a.1.toList==b6u.toList)then joinC a21 (a.1,a.1.toList==b6u.toList)else if(a.1.toList==c5w.toList)then joinC a21 (a.1,a.1.toList==c5w.toList)else if(a.1.toList==b0b.toList)then joinC a21 (a.1,a.1.toList==b0b.toList)else if(a.1.toList==b3z.toList)then joinC a21 (a.1,a.1.toList==b3z.toList)else if(a.1.toList==c3c.toList)then joinC a21 (a.1,a.1.toList==c3c.toList)else if(a.1.toList==c3j.toList)then joinC a21 (a.1,a.1.toList==c3j.toList)else joinC a21 (a.1,a.1.toList==c6v.toList)
def b4n(a:A4):A3 (Int×Bool):=if(a.toList==e0r.toList)then joinC a9q (a,a.toList==e0r.toList)else if(a.toList==d3o.toList)then joinC a9q (a,a.toList==d3o.toList)else joinC a9q (a,a.toList==c6q.toList)
def b9o(b:A4):A3 Bool:=(a1k (⟨2,(⟨0,0⟩:fQ),0,b,[]⟩:Expr)).bind λa=>some a
def b9r(a:iQ)(b:Let):A3 Bool:=some (a.Name.toList==b.Name.toList)
def b42(a:iQ):A3 Bool:=(if(decide (a.Dim<1))then some true else some (decide (a.Dim>4))).bind λb=>some b
def c07(c:O iQ)(d:((A4×Int×Bool)×Int)->A3 (Int×Bool))(a:(A4×Int×Bool)×Int):A3 (Int×Bool):=if decide (a.2<0)then some (0,false)else(c7 c a.2).bind λb=>if(b.Name.toList==a.1.1.toList)then some ((a.1.1,b.Dim,true).2.1,(a.1.1,b.Dim,true).2.2)else d ((a.1.1,a.1.2.1,a.1.2.2),a.2-1)
def b6c(b:A4)(c:O iQ):A3 (Int×Bool):=(b4n b).bind λa=>if a.2then some (a.1,true)else d9 FU (c07 c) ((b,0,false),(c.length:Int)-1)
def b19(a:(O Int)×Int×Bool):A3 (Int×Bool):=if a.2.2then(c7 a.1 0).bind λf=>(if(f==1)then(c7 a.1 1).bind λd=>some (d==1)else some false).bind λe=>some (1,e)else if(a.2.1==21)then(c7 a.1 1).bind λi=>(c7 a.1 0).bind λc=>(if(c==1)then(c7 a.1 1).bind λg=>(c7 a.1 2).bind λh=>some (g==h)else some false).bind λb=>some (i,b)else some (0,false)
def a2l(a:(O Int)×Int×Bool):A3 (Int×Bool):=if a.2.2then(c7 a.1 0).bind λe=>(c7 a.1 1).bind λc=>(if(e==c)then(c7 a.1 0).bind λb=>some (b !=1)else some false).bind λd=>some (1,d)else if(a.2.1==17)then joinC b19 (a.1,a.2.1,a.2.1==17)else joinC b19 (a.1,a.2.1,a.2.1==18)
def a5q(a:(O Int)×Int×Bool):A3 (Int×Bool):=if a.2.2then(c7 a.1 0).bind λr=>(c7 a.1 0).bind λs=>(c7 a.1 1).bind λq=>(if(s==q)then(c7 a.1 0).bind λt=>some (t !=1)else some false).bind λi=>some (r,i)else if(a.2.1==9)then(c7 a.1 0).bind λh=>if(h==2)then(c7 a.1 1).bind λd=>(c7 a.1 1).bind λp=>some (d,p !=1)else(c7 a.1 0).bind λe=>(c7 a.1 1).bind λo=>(if(o==2)then(c7 a.1 0).bind λl=>some (l !=1)else some false).bind λj=>some (e,j)else if(a.2.1==10)then(c7 a.1 1).bind λb=>if(b==2)then(c7 a.1 0).bind λc=>(c7 a.1 0).bind λf=>some (c,f !=1)else(c7 a.1 0).bind λg=>(c7 a.1 1).bind λk=>(if(g==k)then(c7 a.1 0).bind λm=>some (m !=1)else some false).bind λn=>some (2,n)else if(a.2.1==11)then joinC a2l (a.1,a.2.1,a.2.1==11)else if(a.2.1==12)then joinC a2l (a.1,a.2.1,a.2.1==12)else if(a.2.1==13)then joinC a2l (a.1,a.2.1,a.2.1==13)else if(a.2.1==14)then joinC a2l (a.1,a.2.1,a.2.1==14)else if(a.2.1==15)then joinC a2l (a.1,a.2.1,a.2.1==15)else joinC a2l (a.1,a.2.1,a.2.1==16)
def b0y(a:(O Int)×Int×Bool):A3 (Int×Bool):=if a.2.2then(c7 a.1 0).bind λc=>(c7 a.1 0).bind λb=>some (c,b !=1)else if(a.2.1==5)then(c7 a.1 0).bind λd=>some (1,d==1)else if(a.2.1==7)then joinC a5q (a.1,a.2.1,a.2.1==7)else if(a.2.1==8)then joinC a5q (a.1,a.2.1,a.2.1==8)else if(a.2.1==19)then joinC a5q (a.1,a.2.1,a.2.1==19)else joinC a5q (a.1,a.2.1,a.2.1==20)
def b9i(a:Int)(b:O Int):A3 (Int×Bool):=if(a==4)then joinC b0y (b,a,a==4)else joinC b0y (b,a,a==6)
structure Ring_typing_infer where f_typing_infer:Expr->(List iQ)->Option (Int×Int)
def i4w(R:Ring_typing_infer)(d:Expr)(g:O iQ)(h:(Expr×(O Int)×Int)->A3 (Int×Int))(a:Expr×(O Int)×Int):A3 (Int×Int):=if(decide (a.2.2<(d.Args.length:Int)))then(c7 d.Args a.2.2).bind λe=>(R.f_typing_infer e g).bind λb=>if(b.2!=0)then some (0,b.2)else(a4n 8 a.2.1 [b.1]).bind λf=>h (a.1,f,i64 (a.2.2+1))else(b9i a.1.Op a.2.1).bind λc=>if(!c.2)then some (0,6)else some (c.1,0)
def b4g(R:Ring_typing_infer)(a:Expr)(c:O iQ):A3 (Int×Int):=if(a.Op==1)then some (a.Dim,0)else if(a.Op==3)then some (4,0)else if(a.Op==2)then(b6c a.Name c).bind λb=>if(!b.2)then some (0,5)else some (b.1,0)else d9 FU (i4w R a c) (a,[],0)
def a0v:Nat->Ring_typing_infer|0=>⟨λ_ _=>none⟩|n+1=>⟨b4g (a0v n)⟩
def d5q(a:Expr)(b:O iQ):A3 (Int×Int):=(a0v FU).f_typing_infer a b
def a50(b:O iQ)(d:Int->A3 Int)(a:Int):A3 Int:=if(decide (a<(b.length:Int)))then(c7 b a).bind λe=>(b42 e).bind λc=>if c then some a else d (i64 (a+1))else some (-1:Int)
def a19(a:O iQ):A3 Int:=d9 FU (a50 a) 0
def a0i(b:O iQ):A3 Bool:=(a19 b).bind λa=>some (decide (a>=0))
def b4y(c:Expr)(b:O iQ):A3 (Int×Int):=(a1k c).bind λe=>(if(!e)then some true else(a0i b).bind λd=>some d).bind λf=>if f then some (0,1)else(d5q c b).bind λa=>some (a.1,a.2)
def a5l(c:O iQ)(a:Let)(e:Int->A3 Int)(b:Int):A3 Int:=if(decide (b<(c.length:Int)))then(c7 c b).bind λf=>(b9r f a).bind λd=>if d then some b else e (i64 (b+1))else some (-1:Int)
def a1e(b:O iQ)(a:Let):A3 Int:=d9 FU (a5l b a) 0
def a0q(c:O iQ)(a:Let):A3 Bool:=(a1e c a).bind λb=>some (decide (b>=0))
def i4k(d:O Let)(i:((O iQ)×Int)->A3 ((O iQ)×Int))(a:(O iQ)×Int):A3 ((O iQ)×Int):=if(decide (a.2<(d.length:Int)))then(c7 d a.2).bind λb=>(b4n b.Name).bind λe=>(if e.2then some true else(b9o b.Name).bind λg=>some (!g)).bind λf=>if f then some ([],5)else(a0q a.1 b).bind λh=>if h then some ([],10)else(b4y b.Body a.1).bind λc=>if(c.2!=0)then some ([],c.2)else(a4n 24 a.1 [(⟨b.Name,c.1⟩:iQ)]).bind λj=>i (j,i64 (a.2+1))else some (a.1,0)
def b9n(a:O Let):A3 ((O iQ)×Int):=if(decide ((a.length:Int)>10))then some ([],7)else d9 FU (i4k a) ([],0)
def b5a(a b:Credit):A3 Bool:=some (a.Kind==b.Kind)
def b57(a b:Grant):A3 Bool:=some (a.Benefit==b.Benefit)
def b8w(b:Expr)(d:O iQ)(c:Int):A3 Int:=(b4y b d).bind λa=>if(a.2!=0)then some a.2else if(a.1!=c)then some 6 else some 0
def b5b(a b:Reduce):A3 Bool:=some (a.Benefit==b.Benefit)
def a4i(c:O Credit)(a:Credit)(e:Int->A3 Int)(b:Int):A3 Int:=if(decide (b<(c.length:Int)))then(c7 c b).bind λf=>(b5a f a).bind λd=>if d then some b else e (i64 (b+1))else some (-1:Int)
def a13(b:O Credit)(a:Credit):A3 Int:=d9 FU (a4i b a) 0
def a0e(c:O Credit)(a:Credit):A3 Bool:=(a13 c a).bind λb=>some (decide (b>=0))
def a4s(c:O Grant)(a:Grant)(e:Int->A3 Int)(b:Int):A3 Int:=if(decide (b<(c.length:Int)))then(c7 c b).bind λf=>(b57 f a).bind λd=>if d then some b else e (i64 (b+1))else some (-1:Int)
def a15(b:O Grant)(a:Grant):A3 Int:=d9 FU (a4s b a) 0
def a0h(c:O Grant)(a:Grant):A3 Bool:=(a15 c a).bind λb=>some (decide (b>=0))
def a4k(c:O Reduce)(a:Reduce)(e:Int->A3 Int)(b:Int):A3 Int:=if(decide (b<(c.length:Int)))then(c7 c b).bind λf=>(b5b f a).bind λd=>if d then some b else e (i64 (b+1))else some (-1:Int)
def a0x(b:O Reduce)(a:Reduce):A3 Int:=d9 FU (a4k b a) 0
def a0d(c:O Reduce)(a:Reduce):A3 Bool:=(a0x c a).bind λb=>some (decide (b>=0))
def i4s(b:Version×(O iQ)×Int)(g:(Version×(O iQ)×Int)->A3 Int)(a:Version×(O iQ)×Int):A3 Int:=if(decide (a.2.2<(b.1.Reduces.length:Int)))then(c7 b.1.Reduces a.2.2).bind λc=>(a1x a.1.Reduces 0 a.2.2).bind λe=>(a0d e c).bind λf=>if f then some 10 else(b8w c.By a.2.1 2).bind λd=>if(d !=0)then some d else g (a.1,a.2.1,i64 (a.2.2+1))else some 0
def i4o(h:Version×(O iQ)×Int)(e:(Version×(O iQ)×Int)->A3 Int)(a:Version×(O iQ)×Int):A3 Int:=if(decide (a.2.2<(h.1.Grants.length:Int)))then(c7 h.1.Grants a.2.2).bind λb=>(a1x a.1.Grants 0 a.2.2).bind λg=>(a0h g b).bind λf=>if f then some 10 else(b8w b.If a.2.1 1).bind λc=>if(c !=0)then some c else(b8w b.Pay a.2.1 4).bind λd=>if(d !=0)then some d else e (a.1,a.2.1,i64 (a.2.2+1))else d9 FU (i4s a) (a.1,a.2.1,0)
def i4r(d:Version×(O iQ)×Int)(e:(Version×(O iQ)×Int)->A3 Int)(a:Version×(O iQ)×Int):A3 Int:=if(decide (a.2.2<(d.1.Series.length:Int)))then(c7 d.1.Series a.2.2).bind λf=>(if(decide (a.2.2>0))then(c7 a.1.Series (i64 (a.2.2-1))).bind λc=>some (decide (f.Year<=c.Year))else some false).bind λb=>if b then some 1 else e (a.1,a.2.1,i64 (a.2.2+1))else d9 FU (i4o a) (a.1,a.2.1,0)
def i4p(b:Version)(f:(Version×(O iQ)×Int)->A3 Int)(a:Version×(O iQ)×Int):A3 Int:=if(decide (a.2.2<(b.Credits.length:Int)))then(c7 b.Credits a.2.2).bind λc=>(a1x a.1.Credits 0 a.2.2).bind λe=>(a0e e c).bind λd=>if d then some 10 else f (a.1,a.2.1,i64 (a.2.2+1))else d9 FU (i4r a) (a.1,a.2.1,0)
def b0q(b:Version):A3 Int:=(b9n b.Lets).bind λa=>if(a.2!=0)then some a.2else d9 FU (i4p b) (b,a.1,0)
def i50(d:Statute)(g:(Statute×Int)->A3 (Int×Int))(a:Statute×Int):A3 (Int×Int):=if(decide (a.2<(d.Versions.length:Int)))then(c7 d.Versions a.2).bind λb=>(if(decide (a.2>0))then(c7 a.1.Versions (i64 (a.2-1))).bind λf=>some (decide (b.From<=f.From))else some false).bind λe=>if e then some (a.2,1)else(b0q b).bind λc=>if(c !=0)then some (a.2,c)else g (a.1,i64 (a.2+1))else some (0,0)
def b4b(a:Statute):A3 (Int×Int):=(b7h a).bind λb=>if(!b)then some (0,1)else d9 FU (i50 a) (a,0)
def c02(h:Laws):A3 Int:=lpC (h,(0:Int)) λp⟨e,b⟩=>if(decide (b<(h.States.length:Int)))then(c7 h.States b).bind λf=>(if(decide (f.State<0))then some true else some (decide (f.State>=6))).bind λm=>(if m then some true else(if(decide (b>0))then(c7 e.States (i64 (b-1))).bind λl=>some (decide (f.State<=l.State))else some false).bind λn=>some n).bind λo=>if o then some 1 else p (e,i64 (b+1))else lpC (e,(0:Int)) λg⟨j,a⟩=>if(decide (a<(e.States.length:Int)))then(c7 e.States a).bind λi=>(b4b i.Statute).bind λc=>if(c.2!=0)then some c.2else g (j,i64 (a+1))else(a9n j.Treaty).bind λd=>if(d !=0)then some d else(a5r j.Rates).bind λk=>some k
def b8v(a:Laws)(d:Int):A3 (bQ×Int):=(c02 a).bind λb=>if(b !=0)then some ((⟨(⟨[],[],[]⟩:Laws),0,(⟨0,0,0,0,[]⟩:Rules)⟩:bQ),b)else(b2q a.Treaty d).bind λc=>if(!c.2)then some ((⟨(⟨[],[],[]⟩:Laws),0,(⟨0,0,0,0,[]⟩:Rules)⟩:bQ),1)else some ((⟨a,d,c.1⟩:bQ),0)
def a7y(d:bQ)(e:Int):A3 (Statute×Bool):=lpC (([]:O Version),(⟨a3j,0,[]⟩:Statute),(0:Int)) λg⟨f,b,a⟩=>if(decide (a<(d.laws.States.length:Int)))then(c7 d.laws.States a).bind λc=>if(c.State==e)then some (c.Statute,true)else g (f,(⟨b.Name,b.Currency,[]⟩:Statute),i64 (a+1))else some ((⟨a3j,0,[]⟩:Statute),false)
def a2v(c:bQ)(d:Int):A3 (Statute×Version×Int):=(a7y c d).bind λa=>(b1v a.1 c.day).bind λb=>(if(!a.2)then some true else some (!b.2)).bind λe=>if e then some ((⟨a3j,0,[]⟩:Statute),(⟨0,(⟨0,0⟩:Rounding),[],[],[],[],[]⟩:Version),9)else some (a.1,b.1,0)
def a08(b:bQ)(c:Int):A3 Bool:=(q9 b.rules.Members c).bind λa=>some a
def a81(b:lQ×(O Int)×Int)(f:(lQ×(O Int)×Int)->A3 (O Int))(d:(lQ×(O Int)×Rules×Int)->A3 (O Int))(a:lQ×(O Int)×Rules×Int):A3 (O Int):=if(decide (a.2.2.2<(b.1.postings.length:Int)))then(c7 b.1.postings a.2.2.2).bind λe=>(a4n 8 a.2.1 [min (i64 (e.Span.From+a.2.2.1.PostingLimit)) 73049]).bind λc=>d (a.1,c,a.2.2.1,i64 (a.2.2.2+1))else f (a.1,a.2.1,i64 (b.2.2+1))
def a89(e:lQ×(O Int)×Int)(g:(lQ×(O Int)×Int)->A3 (O Int))(a:lQ×(O Int)×Int):A3 (O Int):=if(decide (a.2.2<(e.1.rules.length:Int)))then(c7 e.1.rules a.2.2).bind λd=>(a4n 8 a.2.1 [d.From]).bind λf=>d9 FU (a81 a g) (a.1,f,d,0)else(b8s a.2.1).bind λb=>(a0n b).bind λc=>some c
def a8a(c:lQ)(e:(lQ×(O Int)×Int)->A3 (O Int))(a:lQ×(O Int)×Int):A3 (O Int):=if(decide (a.2.2<(c.facts.length:Int)))then(c7 c.facts a.2.2).bind λb=>(a4n 8 a.2.1 [b.Span.From,b.Span.To]).bind λd=>e (a.1,d,i64 (a.2.2+1))else d9 FU (a89 a) (a.1,a.2.1,0)
def a6t(a:lQ):A3 (O Int):=d9 FU (a8a a) (a,[0,73049,a.span.From,a.span.To],0)
def b8r(n:(lQ×(O gQ)×(O Int)×Int)->A3 (O gQ))(a:lQ×(O gQ)×(O Int)×Int):A3 (O gQ):=if(decide ((i64 (a.2.2.2+1))<(a.2.2.1.length:Int)))then(c7 a.2.2.1 a.2.2.2).bind λx=>(c7 a.2.2.1 a.2.2.2).bind λp=>(a7m a.1 p).bind λc=>if(c.2==0)then n (a.1,a.2.1,a.2.2.1,i64 (a.2.2.2+1))else(if(decide ((a.2.1.length:Int)>0))then(c7 a.2.1 (i64 ((a.2.1.length:Int)-1))).bind λy=>(c7 a.2.1 (i64 ((a.2.1.length:Int)-1))).bind λs=>(c7 a.2.2.1 a.2.2.2).bind λr=>(c7 a.2.2.1 a.2.2.2).bind λi=>some (s.Span.To==i)else some false).bind λe=>(if e then(c7 a.2.1 (i64 ((a.2.1.length:Int)-1))).bind λw=>(c7 a.2.1 (i64 ((a.2.1.length:Int)-1))).bind λg=>some (g.State==c.1)else some false).bind λm=>(if m then(c7 a.2.1 (i64 ((a.2.1.length:Int)-1))).bind λt=>(c7 a.2.1 (i64 ((a.2.1.length:Int)-1))).bind λj=>some (j.Rule==c.2)else some false).bind λd=>if d then(c7 a.2.2.1 (i64 (a.2.2.2+1))).bind λo=>(c7 a.2.2.1 (i64 (a.2.2.2+1))).bind λh=>(c7 a.2.1 (i64 ((a.2.1.length:Int)-1))).bind λq=>(c7 a.2.1 (i64 ((a.2.1.length:Int)-1))).bind λb=>n (a.1,a8h a.2.1 (i64 ((a.2.1.length:Int)-1)) (⟨(⟨b.Span.From,h⟩:Span),b.State,b.Rule⟩:gQ),a.2.2.1,i64 (a.2.2.2+1))else(c7 a.2.2.1 a.2.2.2).bind λu=>(c7 a.2.2.1 a.2.2.2).bind λl=>(c7 a.2.2.1 (i64 (a.2.2.2+1))).bind λv=>(c7 a.2.2.1 (i64 (a.2.2.2+1))).bind λf=>(a4n 32 a.2.1 [(⟨(⟨l,f⟩:Span),c.1,c.2⟩:gQ)]).bind λk=>n (a.1,k,a.2.2.1,i64 (a.2.2.2+1))else some a.2.1
def a4h(b:O aQ)(d:O Rules):A3 (O gQ):=(a9c b d).bind λa=>if(!a.2)then some []else(a6t a.1).bind λc=>d9 FU b8r (a.1,[],c,0)
def a1s(h:Int)(b:O Span)(k:O Period)(f:Scheme)(g:O Period):A3 ((O Period)×(O Period)):=lpC (g,([]:O Period),(0:Int)) λi⟨c,j,a⟩=>if(decide (a<(b.length:Int)))then(c7 b a).bind λe=>(a4n 32 c [(⟨f.State,h,e⟩:Period)]).bind λd=>i (d,[],i64 (a+1))else some ([],c)
def b1h(d:O gQ)(h i:Int)(c:((O Span)×Int)->A3 (O Span))(a:(O Span)×Int):A3 (O Span):=if(decide (a.2<(d.length:Int)))then(c7 d a.2).bind λb=>(if(b.State==h)then some (decide (b.Rule<=i))else some false).bind λe=>if e then(a4n 16 a.1 [b.Span]).bind λg=>c (g,i64 (a.2+1))else c (a.1,i64 (a.2+1))else(a2w a.1).bind λf=>some f
def b1e(a:O gQ)(c b:Int):A3 (O Span):=d9 FU (b1h a c b) ([],0)
def b3o:A3 (O Anon378):=some [(⟨6,2⟩:Anon378),(⟨9,3⟩:Anon378),(⟨7,4⟩:Anon378),(⟨8,5⟩:Anon378),(⟨10,6⟩:Anon378),(⟨5,7⟩:Anon378)]
def b56(a:Credit)(b:Int):A3 Bool:=some (a.Kind==b)
def q0(c:O Credit)(a:Int)(e:Int->A3 Int)(b:Int):A3 Int:=if(decide (b<(c.length:Int)))then(c7 c b).bind λf=>(b56 f a).bind λd=>if d then some b else e (i64 (b+1))else some (-1:Int)
def t7(b:O Credit)(a:Int):A3 Int:=d9 FU (q0 b a) 0
def b43(b:Version)(d:Int):A3 (Int×Bool):=(t7 b.Credits d).bind λa=>if(decide (a<0))then some (0,false)else(c7 b.Credits a).bind λc=>some (c.Limit,true)
def b6o(c:O aQ)(i k:Int)(d:((O Span)×Int)->A3 (O Span))(a:(O Span)×Int):A3 (O Span):=if(decide (a.2<(c.length:Int)))then(c7 c a.2).bind λb=>(a4e b).bind λe=>(if e then some (b.Kind==i)else some false).bind λg=>(if g then some (b.State==k)else some false).bind λf=>if f then(a4n 16 a.1 [b.Span]).bind λh=>d (h,i64 (a.2+1))else d (a.1,i64 (a.2+1))else(a2i c).bind λj=>(s6 a.1 j).bind λl=>some l
def b7p(a:O aQ)(c b:Int):A3 (O Span):=d9 FU (b6o a c b) ([],0)
def b2y(c:(Int×(O Span)×(O Span)×Int)->A3 (O Span))(a:Int×(O Span)×Span×(O Span)×Int×Int):A3 (O Span):=(a4n 16 a.2.1 [a.2.2.1]).bind λb=>c (i64 (a.1-(i64 (a.2.2.1.To-a.2.2.1.From))),b,a.2.2.2.1,i64 (a.2.2.2.2.2+1))
def b4k(i:O Span)(h:Int):A3 (O Span):=(a2w i).bind λe=>lpC (h,([]:O Span),e,(0:Int)) λg⟨a,f,d,b⟩=>if(decide (b<(e.length:Int)))then(c7 d b).bind λj=>(c7 d b).bind λc=>if(decide (a<1))then some f else if(decide ((i64 (c.To-c.From))>a))then joinC (b2y g) (a,f,(⟨c.From,i64 (c.From+a)⟩:Span),d,(e.length:Int),b)else joinC (b2y g) (a,f,c,d,(e.length:Int),b)else some f
def b1c(t:O aQ)(w:Int)(z:Span)(v:Int):A3 (O Span):=lpC (z,([]:O Span),(1:Int)) λu⟨x,s,f⟩=>if(decide (f<=99))then(a4f t).bind λr=>lpC (x,s,([]:O Span),r,(0:Int)) λd⟨c,g,e,h,a⟩=>if(decide (a<(r.length:Int)))then(c7 h a).bind λy=>(c7 h a).bind λb=>(if(b.Kind==10)then some (b.State==w)else some false).bind λk=>(if k then some (b.Ref==f)else some false).bind λq=>if q then(a4n 16 e [b.Span]).bind λp=>d (c,g,p,h,i64 (a+1))else d (c,g,e,h,i64 (a+1))else if(decide ((e.length:Int)>0))then(a2i t).bind λn=>(s6 e n).bind λi=>(s6 i c).bind λj=>(b4k j v).bind λl=>(a4n 16 g l).bind λm=>u (c,m,i64 (f+1))else u (c,g,i64 (f+1))else(a2w s).bind λo=>some o
def a7e(D:O aQ)(F:O gQ)(o:O Scheme)(p:Int):A3 ((O Period)×Int):=(if(decide (p<0))then some true else some (decide (p>73049))).bind λH=>if H then some ([],1)else lpC (0:Int) λK k=>if(decide (k<(o.length:Int)))then(c7 o k).bind λA=>(if(decide (A.State<0))then some true else some (decide (A.State>=6))).bind λE=>(if E then some true else(if(decide (k>0))then(c7 o (i64 (k-1))).bind λI=>some (decide (A.State<=I.State))else some false).bind λM=>some M).bind λG=>if G then some ([],1)else K (i64 (k+1))else lpC (([]:O Period),([]:O Period),(⟨0,p⟩:Span),(0:Int)) λr⟨C,L,n,i⟩=>if(decide (i<(o.length:Int)))then(c7 o i).bind λj=>(b1e F j.State 3).bind λz=>(s6 z n).bind λy=>(a1s 1 y [] j C).bind λv=>(b3o).bind λl=>lpC (v.2,([]:O Period),n,j,l,(0:Int),()) λh⟨f,J,b,a,e,c,P⟩=>if(decide (c<(l.length:Int)))then(c7 e c).bind λN=>(c7 e c).bind λd=>(b43 a.Version d.kind).bind λg=>if(!g.2)then h (f,[],b,a,e,i64 (c+1),())else(b7p D d.kind a.State).bind λw=>(s6 w b).bind λm=>(if(g.1!=0)then some (d.kind==10)else some false).bind λt=>if t then(b1c D a.State b g.1).bind λB=>(a1s d.rank B [] a f).bind λu=>h (u.2,[],b,a,e,i64 (c+1),())else if(g.1!=0)then(b4k m g.1).bind λq=>(a1s d.rank q [] a f).bind λx=>h (x.2,[],b,a,e,i64 (c+1),())else(a1s d.rank m [] a f).bind λs=>h (s.2,[],b,a,e,i64 (c+1),())else r (f,[],b,i64 (i+1))else some (C,0)
def b9z(d:O Period)(j e:Int):A3 (O Span):=lpC (([]:O Span),(0:Int)) λf⟨c,a⟩=>if(decide (a<(d.length:Int)))then(c7 d a).bind λb=>(if(b.State==j)then(if(e==0)then some true else some (b.Rank==e)).bind λh=>some h else some false).bind λg=>if g then(a4n 16 c [b.Span]).bind λi=>f (i,i64 (a+1))else f (c,i64 (a+1))else(a2w c).bind λk=>some k
def b2x(h:O Period):A3 (A3 (Ar 6 (Ar 7 (O Span)))):=lpC ((arZ 6 (arZ 7 []:Ar 7 (O Span)):Ar 6 (Ar 7 (O Span))),(0:Int)) λi⟨e,a⟩=>if(decide (a<6))then lpC (e,(0:Int)) λg⟨c,b⟩=>if(decide (b<7))then(b9z h a (i64 (b+1))).bind λf=>(c7 c.l a).bind λj=>(d0n 7 b).bind λk=>(c7 c.l a).bind λd=>g (Ar.set c a (Ar.set d b f),i64 (b+1))else i (c,i64 (a+1))else some (some e)
def a4a(j:Ar 6 (Ar 7 (O Span)))(g:Int):A3 (Int×(O Int)):=lpC (([]:O Int),(0:Int)) λk⟨i,c⟩=>if(decide (c<7))then lpC (i,(0:Int)) λe⟨a,b⟩=>if(decide (b<6))then(c7 j.l b).bind λf=>(c7 f.l c).bind λh=>(a8r h g).bind λl=>if l then(a4n 8 a [b]).bind λd=>e (d,i64 (b+1))else e (a,i64 (b+1))else if(decide ((a.length:Int)>0))then some (i64 (c+1),a)else k (a,i64 (c+1))else some (0,[])
def b90(c:O Span):A3 (Int×Bool):=(a2w c).bind λa=>if((a.length:Int)==0)then some (0,false)else(c7 a (i64 ((a.length:Int)-1))).bind λd=>(c7 a (i64 ((a.length:Int)-1))).bind λb=>some (i64 (b.To-1),true)
def a1b(e:Ar 6 (Ar 7 (O Span)))(c f:Int):A3 Int:=(c7 e.l c).bind λd=>(c7 d.l 0).bind λb=>(s6 b (⟨0,f⟩:Span)).bind λg=>(b90 g).bind λa=>if(!a.2)then some (-1:Int)else some a.1
def c4p(h:O Span)(e:Int):A3 (Int×Bool):=if(decide (e<0))then some (0,false)else(a2w h).bind λf=>lpC (e,f,(0:Int)) λg⟨c,d,b⟩=>if(decide (b<(f.length:Int)))then(c7 d b).bind λi=>(c7 d b).bind λa=>if(decide (c<(i64 (a.To-a.From))))then some (i64 (a.From+c),true)else g (i64 (c-(i64 (a.To-a.From))),d,i64 (b+1))else some (0,false)
def a2f(e:Ar 6 (Ar 7 (O Span)))(c f:Int):A3 Int:=(c7 e.l c).bind λd=>(c7 d.l 0).bind λb=>(s6 b (⟨i64 (f+1),73049⟩:Span)).bind λg=>(c4p g 0).bind λa=>if(!a.2)then some 73049 else some a.1
def a69(e:Ar 6 (Ar 7 (O Span)))(d:O Int)(f:Int):A3 Int:=(c7 d 0).bind λq=>(a1x d 1 (d.length:Int)).bind λm=>lpC (q,(0:Int)) λn⟨g,i⟩=>if(decide (i<(m.length:Int)))then(c7 m i).bind λl=>(a1b e l f).bind λo=>(a1b e g f).bind λp=>if(decide (o>p))then n (l,i64 (i+1))else n (g,i64 (i+1))else(a1b e g f).bind λr=>if(decide (r>=0))then some g else lpC (g,(0:Int)) λh⟨b,a⟩=>if(decide (a<(d.length:Int)))then(c7 d a).bind λc=>(a2f e c f).bind λj=>(a2f e b f).bind λk=>if(decide (j<k))then h (c,i64 (a+1))else h (b,i64 (a+1))else some b
def b17(b:Ar 6 (Ar 7 (O Span)))(c:Int):A3 (Int×Int×Bool):=(a4a b c).bind λa=>if(a.1==0)then some ((-1:Int),0,false)else(a69 b a.2 c).bind λd=>some (d,a.1,true)
def a72(d e:Int)(l:Ar 6 (Ar 7 (O Span)))(o a:O nQ):A3 ((O nQ)×(O nQ)):=(b17 l d).bind λb=>(if(!b.2.2)then some true else some (decide (d>=e))).bind λj=>if j then some ([],a)else(if(decide ((a.length:Int)>0))then(c7 a (i64 ((a.length:Int)-1))).bind λq=>(c7 a (i64 ((a.length:Int)-1))).bind λc=>(c7 a (i64 ((a.length:Int)-1))).bind λn=>(c7 a (i64 ((a.length:Int)-1))).bind λi=>some (((c.Span.From==i.Span.From)&&((c.Span.To==d)&&(true)))&&((c.State==b.1)&&((c.Rank==b.2.1)&&(true))))else some false).bind λk=>if k then(c7 a (i64 ((a.length:Int)-1))).bind λp=>(c7 a (i64 ((a.length:Int)-1))).bind λm=>(a1x a 0 (i64 ((a.length:Int)-1))).bind λh=>(a4n 32 h [(⟨(⟨m.Span.From,e⟩:Span),b.1,b.2.1⟩:nQ)]).bind λg=>some ([],g)else(a4n 32 a [(⟨(⟨d,e⟩:Span),b.1,b.2.1⟩:nQ)]).bind λf=>some ([],f)
def a8x(b e:O Int)(d:Int->A3 Bool)(a:Int):A3 Bool:=if(decide (a<(b.length:Int)))then(c7 b a).bind λf=>(c7 e a).bind λc=>if(f !=c)then some false else d (i64 (a+1))else some true
def a88(a b:O Int):A3 Bool:=if((a.length:Int)!=(b.length:Int))then some false else d9 FU (a8x a b) 0
def b7w(u:O (O Span)):A3 (O Piece):=(mkI 24 ([]:O Span) (u.length:Int) (u.length:Int)).bind λQ=>lpC (Q,([]:O Int),(0:Int)) λM⟨l,L,i⟩=>if(decide (i<(u.length:Int)))then(c7 u i).bind λR=>(a2w R).bind λE=>(c7 l i).bind λX=>(c7 l i).bind λY=>(c7 (a8h l i E) i).bind λS=>(c7 (a8h l i E) i).bind λp=>lpC (a8h l i E,L,(0:Int)) λy⟨m,t,k⟩=>if(decide (k<(p.length:Int)))then(c7 p k).bind λs=>(a4n 8 t [s.From,s.To]).bind λF=>y (m,F,i64 (k+1))else M (m,t,i64 (i+1))else(b8s L).bind λv=>(a0n v).bind λx=>lpC (l,x,([]:O Piece),(0:Int)) λj⟨o,e,r,b⟩=>if(decide ((i64 (b+1))<(e.length:Int)))then(c7 e b).bind λW=>(c7 e b).bind λz=>(c7 e (i64 (b+1))).bind λT=>(c7 e (i64 (b+1))).bind λw=>lpC (o,e,r,([]:O Int),(⟨(⟨z,w⟩:Span),[]⟩:Piece),(0:Int)) λq⟨c,h,a,g,f,d⟩=>if(decide (d<(o.length:Int)))then(c7 c d).bind λV=>(c7 c d).bind λB=>(a8r B f.Span.From).bind λD=>if D then(a4n 8 g [d]).bind λC=>q (c,h,a,C,(⟨f.Span,[]⟩:Piece),i64 (d+1))else q (c,h,a,g,(⟨f.Span,[]⟩:Piece),i64 (d+1))else if((g.length:Int)==0)then j (c,h,a,i64 (b+1))else(if(decide ((a.length:Int)>0))then(c7 a (i64 ((a.length:Int)-1))).bind λP=>(c7 a (i64 ((a.length:Int)-1))).bind λJ=>some (J.Span.To==f.Span.From)else some false).bind λA=>(if A then(c7 a (i64 ((a.length:Int)-1))).bind λU=>(c7 a (i64 ((a.length:Int)-1))).bind λK=>(a88 K.Members g).bind λH=>some H else some false).bind λI=>if I then(c7 a (i64 ((a.length:Int)-1))).bind λN=>(c7 a (i64 ((a.length:Int)-1))).bind λn=>j (c,h,a8h a (i64 ((a.length:Int)-1)) (⟨(⟨n.Span.From,f.Span.To⟩:Span),n.Members⟩:Piece),i64 (b+1))else(a4n 40 a [(⟨f.Span,g⟩:Piece)]).bind λG=>j (c,h,G,i64 (b+1))else some r
def a71(u:O Period):A3 (O nQ):=(b2x u).bind λo=>optC o (none) λm=>lpC (m,([]:O (O Span)),(0:Int)) λs⟨i,l,f⟩=>if(decide (f<6))then(c7 i.l f).bind λq=>(a4n 24 l q.l).bind λn=>s (i,n,i64 (f+1))else(b7w l).bind λk=>lpC (i,([]:O nQ),([]:O nQ),k,(0:Int),()) λj⟨c,e,p,d,b,t⟩=>if(decide (b<(k.length:Int)))then(c7 d b).bind λr=>(c7 d b).bind λa=>(a72 a.Span.From (i64 (a.Span.From+1)) c [] e).bind λg=>(a72 (i64 (a.Span.From+1)) a.Span.To c [] g.2).bind λh=>j (c,h.2,[],d,i64 (b+1),())else some e
def b1l(a b:Int):A3 Bool:=some (a==b)
def a3g(f:bQ)(i:O aQ)(a:Int):A3 (O nQ):=lpC (f,([]:O Scheme),(0:Int)) λj⟨b,d,c⟩=>if(decide (c<(f.laws.States.length:Int)))then(c7 f.laws.States c).bind λe=>(b1l e.State a).bind λk=>if k then(b1v e.Statute b.day).bind λl=>(a4n 152 d [(⟨e.State,l.1⟩:Scheme)]).bind λm=>j (b,m,i64 (c+1))else j (b,d,i64 (c+1))else(a4h i b.laws.Treaty).bind λn=>(a7e i n d b.day).bind λh=>(a71 h.1).bind λg=>some g
def b3l(b:bQ)(d:O aQ)(c:Int):A3 (O nQ):=(a3g b d c).bind λa=>some a
def a0s(e:bQ)(h:O aQ)(m:bQ):A3 (O nQ):=lpC (e,([]:O Scheme),(0:Int)) λi⟨a,c,b⟩=>if(decide (b<(e.laws.States.length:Int)))then(c7 e.laws.States b).bind λd=>(a08 m d.State).bind λj=>if j then(b1v d.Statute a.day).bind λk=>(a4n 152 c [(⟨d.State,k.1⟩:Scheme)]).bind λl=>i (a,l,i64 (b+1))else i (a,c,i64 (b+1))else(a4h h a.laws.Treaty).bind λn=>(a7e h n c a.day).bind λg=>(a71 g.1).bind λf=>some f
def a2z(a:bQ)(b:O aQ)(c:Int):A3 (O nQ):=(a08 a c).bind λe=>if e then(a0s a b a).bind λd=>some d else(b3l a b c).bind λf=>some f
def b30(d:O aQ)(i:Int)(c:((O Int)×Int)->A3 (O Int))(a:(O Int)×Int):A3 (O Int):=if(decide (a.2<(d.length:Int)))then(c7 d a.2).bind λb=>(a4e b).bind λe=>(if e then some (b.Kind==10)else some false).bind λg=>(if g then some (decide (b.Span.From<i))else some false).bind λf=>if f then(a4n 8 a.1 [b.Ref]).bind λh=>c (h,i64 (a.2+1))else c (a.1,i64 (a.2+1))else(b8s a.1).bind λj=>(a0n j).bind λk=>some k
def b2v(a:O aQ)(b:Int):A3 (O Int):=d9 FU (b30 a b) ([],0)
def a7i(b:Int):A3 Int:=(a7l b).bind λa=>if a then some 366 else some 365
def a4d(c:Int):A3 (Int×Int×Int×Bool):=(m7 c).bind λl=>if(!l)then some (0,0,0,false)else(c2t c 366).bind λi=>lpC (i64 (1900+i)) λm a=>(a3o a).bind λj=>(a7i a).bind λh=>if(decide ((i64 (j+h))<=c))then m (i64 (a+1))else(a3o a).bind λk=>lpC ((1:Int),i64 (c-k)) λd⟨b,e⟩=>(a05 a b).bind λg=>if(decide (e>=g))then(a05 a b).bind λf=>d (i64 (b+1),i64 (e-f))else some (a,b,i64 (e+1),true)
def a6q(a:Int×Int×Int):A3 (Int×Bool):=(b1r a.1 a.2.1 a.2.2).bind λb=>some (b.1,b.2)
def b03(g b:Int):A3 (Int×Bool):=(a4d g).bind λa=>(if(!a.2.2.2)then some true else some (decide (b<0))).bind λe=>(if e then some true else some (decide (b>(i64 (2099-a.1))))).bind λh=>if h then some (0,false)else(if(a.2.1==2)then some (a.2.2.1==29)else some false).bind λc=>(if c then(a7l (i64 (a.1+b))).bind λf=>some (!f)else some false).bind λd=>if d then joinC a6q (i64 (a.1+b),3,1)else joinC a6q (i64 (a.1+b),a.2.1,a.2.2.1)
def b7r(b a:Int):A3 Int:=(m7 b).bind λh=>(if(!h)then some true else(m7 a).bind λf=>some (!f)).bind λi=>(if i then some true else some (decide (a<b))).bind λe=>if e then some (-1:Int)else(a4d b).bind λd=>(a4d a).bind λc=>(b03 b (i64 (c.1-d.1))).bind λg=>if(decide (g.1>a))then some (i64 ((i64 (c.1-d.1))-1))else some (i64 (c.1-d.1))
def c0z(h:O Span)(f:Int):A3 Int:=(a2w h).bind λg=>lpC ((0:Int),g,(0:Int)) λe⟨c,b,a⟩=>if(decide (a<(g.length:Int)))then(c7 b a).bind λi=>(c7 b a).bind λd=>if(decide (d.From<f))then e (i64 (c+(i64 ((min d.To f)-d.From))),b,i64 (a+1))else e (c,b,i64 (a+1))else some c
def b6h(b:O Span):A3 Int:=(c0z b 73049).bind λa=>some a
def a8q(e:O nQ)(d:Int)(k:O Int):A3 Int:=lpC (([]:O Span),(0:Int)) λf⟨c,a⟩=>if(decide (a<(e.length:Int)))then(c7 e a).bind λb=>(if(decide (d<0))then some true else some (b.State==d)).bind λh=>(if h then(q9 k b.Rank).bind λg=>some g else some false).bind λi=>if i then(a4n 16 c [b.Span]).bind λj=>f (j,i64 (a+1))else f (c,i64 (a+1))else(b6h c).bind λl=>some l
def b63(a:aQ)(c:Int):A3 Int:=(if(a.Kind==1)then some true else some (a.Kind==2)).bind λd=>(if d then some true else some (a.Kind==3)).bind λb=>if b then some 1 else(if(a.Kind==6)then some (a.State==c)else some false).bind λe=>if e then some 2 else some 0
def b6i(d:O nQ)(j e:Int):A3 (O Span):=lpC (([]:O Span),(0:Int)) λf⟨c,a⟩=>if(decide (a<(d.length:Int)))then(c7 d a).bind λb=>(if(b.State==j)then(if(e==0)then some true else some (b.Rank==e)).bind λh=>some h else some false).bind λg=>if g then(a4n 16 c [b.Span]).bind λi=>f (i,i64 (a+1))else f (c,i64 (a+1))else(a2w c).bind λk=>some k
def b13(l:O aQ)(n:O nQ)(m:Int):A3 (O earnings_income):=(a4f l).bind λk=>lpC (([]:O earnings_income),k,(0:Int)) λf⟨d,b,a⟩=>if(decide (a<(k.length:Int)))then(c7 b a).bind λp=>(c7 b a).bind λe=>(b63 e m).bind λj=>if(j==0)then f (d,b,i64 (a+1))else(b6i n m j).bind λo=>(s6 o e.Span).bind λi=>(a2i l).bind λh=>(s6 i h).bind λc=>if(decide ((c.length:Int)>0))then(a4n 136 d [(⟨e,c⟩:earnings_income)]).bind λg=>f (g,b,i64 (a+1))else f (d,b,i64 (a+1))else some d
def b5y(a:Int):A3 Span:=(b1r a 1 1).bind λb=>(b1r a 12 31).bind λc=>some (⟨b.1,i64 (c.1+1)⟩:Span)
def b6a(a:aQ)(b:Int):A3 Int:=(b3k a).bind λe=>(if(!e)then some true else some (decide (b<0))).bind λd=>(if d then some true else some (decide (b>(i64 (a.Span.To-a.Span.From))))).bind λf=>if f then some 0 else(c2t (i64 (a.Amount*b)) (i64 (a.Span.To-a.Span.From))).bind λc=>some c
def b4h(a0:O aQ)(T:O nQ)(M A:Int)(Q:O Rate):A3 ((O Earning)×Int):=(if(decide (M<0))then some true else some (decide (M>=6))).bind λU=>(if U then some true else some (decide (A<1))).bind λS=>(if S then some true else some (decide (A>999))).bind λW=>(if W then some true else(a5r Q).bind λZ=>some (Z !=0)).bind λR=>if R then some ([],1)else(b13 a0 T M).bind λP=>lpC (P,([]:O (Int×Int)),(0:Int)) λN⟨y,C,z⟩=>if(decide (z<(P.length:Int)))then(c7 y z).bind λY=>(c7 y z).bind λm=>lpC (y,C,(0:Int)) λK⟨w,n,l⟩=>if(decide (l<(m.days.length:Int)))then(c7 m.days l).bind λq=>(a4d q.From).bind λB=>(a4d (i64 (q.To-1))).bind λD=>lpC (w,n,B.1) λE⟨o,p,k⟩=>if(decide (k<=D.1))then E (o,a62 p k 0,i64 (k+1))else K (o,p,i64 (l+1))else N (w,n,i64 (z+1))else(c8c C).bind λu=>lpC (y,C,([]:O Earning),(List.map (λx=>x) u),(0:Int)) λH⟨v,F,s,h,e⟩=>if(decide (e<((List.map (λx=>x) u).length:Int)))then(c7 h e).bind λX=>(c7 h e).bind λa=>lpC (v,F,s,h,(0:Int)) λr⟨d,b,f,j,c⟩=>if(decide (c<(v.length:Int)))then(c7 d c).bind λV=>(c7 d c).bind λg=>(b5y a).bind λJ=>(s6 g.days J).bind λG=>(b6h G).bind λt=>if(t==0)then r (d,b,f,j,i64 (c+1))else(b6a g.fact t).bind λL=>(b68 L g.fact.Currency A (i64 ((i64 (12*(i64 (a-1900))))+11)) Q (⟨1,1⟩:Rounding)).bind λi=>if(i.2!=0)then some ([],i.2)else r (d,a62 b a (i64 ((b5g b a)+i.1)),f,j,i64 (c+1))else if(decide ((b5g b a)>1000000000000))then some ([],2)else(a4n 16 f [(⟨a,b5g b a⟩:Earning)]).bind λI=>H (d,b,I,j,i64 (e+1))else some (s,0)
def b0w(d:Version)(j:Int):A3 fQ:=lpC (d,(⟨0,0⟩:fQ),(-1:Int),(0:Int)) λh⟨c,g,b,a⟩=>if(decide (a<(d.Series.length:Int)))then(c7 d.Series a).bind λf=>(if(decide (f.Year<=j))then(if(decide (b<0))then some true else(c7 c.Series b).bind λi=>some (decide (f.Year>i.Year))).bind λk=>some k else some false).bind λl=>if l then h (c,g,a,i64 (a+1))else h (c,g,b,i64 (a+1))else if(decide (b<0))then some (⟨1,1⟩:fQ)else(c7 c.Series b).bind λe=>some e.Factor
def b0x(a:fQ):A3 Bool:=(o7 a).bind λd=>(if d then some (decide (a.Num>0))else some false).bind λc=>(if c then some (decide (a.Num<=10000000000000))else some false).bind λe=>(if e then some (decide (a.Den<=10000))else some false).bind λb=>some b
def b2s(e:Version)(c l j:Int):A3 (Int×Int):=(b0w e j).bind λb=>(b0w e l).bind λa=>(if(decide (c<0))then some true else some (decide (c>1000000000000))).bind λm=>(if m then some true else(b0x b).bind λg=>some (!g)).bind λi=>(if i then some true else(b0x a).bind λh=>some (!h)).bind λk=>if k then some (0,1)else(b3s (u64 (c)) (u64 ((u64 (b.Num))*(u64 (a.Den))))).bind λd=>if(decide (d.1>=(u64 ((u64 (b.Den))*(u64 (a.Num))))))then some (0,2)else(a8o d.1 d.2 (u64 ((u64 (b.Den))*(u64 (a.Num))))).bind λf=>if(decide (f.1>1000000000000))then some (0,2)else some (i64 (f.1),0)
def b14(f:O Earning)(h:Version)(i:Int):A3 ((O Int)×Int):=lpC (h,([]:O Int),(0:Int)) λj⟨e,c,b⟩=>if(decide (b<(f.length:Int)))then(c7 f b).bind λd=>(b2s e d.Amount d.Year i).bind λa=>if(a.2!=0)then some ([],a.2)else(a4n 8 c [a.1]).bind λg=>j (e,g,i64 (b+1))else some (c,0)
def a70(f:Bool)(a b:rational_wide):A3 (fQ×Int):=(if(a.hi !=0)then some true else some (decide (a.lo>1000000000000000))).bind λd=>(if d then some true else some (b.hi !=0)).bind λc=>(if c then some true else some (decide (b.lo>1000000000))).bind λe=>if e then some ((⟨0,0⟩:fQ),2)else if f then some ((⟨i64 (-(i64 (a.lo))),i64 (b.lo)⟩:fQ),0)else some ((⟨i64 (a.lo),i64 (b.lo)⟩:fQ),0)
def b32(c b:Int):A3 (fQ×Int):=if(b==0)then some ((⟨0,0⟩:fQ),3)else(j5 c).bind λf=>(j5 b).bind λd=>(a7g f d).bind λa=>(if((decide (c<0))!=(decide (b<0)))then some (c !=0)else some false).bind λg=>(if a=0then none else some (u64 (Int.tdiv f a))).bind λi=>(if a=0then none else some (u64 (Int.tdiv d a))).bind λh=>(a70 g (⟨0,i⟩:rational_wide) (⟨0,h⟩:rational_wide)).bind λe=>some (e.1,e.2)
def b6e(a:O Int):A3 (fQ×Int):=if(decide ((a.length:Int)>200))then some ((⟨0,0⟩:fQ),1)else lpC ((⟨0,0⟩:fQ),(0:Int),(0:Int)) λh⟨g,d,c⟩=>if(decide (c<(a.length:Int)))then(c7 a c).bind λb=>(if(decide (b<0))then some true else some (decide (b>1000000000000))).bind λf=>if f then some ((⟨0,0⟩:fQ),1)else h (g,i64 (d+b),i64 (c+1))else if((a.length:Int)==0)then some ((⟨0,1⟩:fQ),0)else(b32 d (a.length:Int)).bind λe=>some (e.1,e.2)
def a7j(a:(O aQ)×(O nQ)×Int×bQ×(O Int)×View×Statute×Version×(O Int)×View×Int):A3 (View×Int):=(a8q a.2.1 a.2.2.2.2.2.2.2.2.2.2 [1]).bind λj=>(a8q a.2.1 a.2.2.2.2.2.2.2.2.2.2 [2]).bind λi=>(a8q a.2.1 a.2.2.2.2.2.2.2.2.2.2 [3]).bind λh=>(a8q a.2.1 a.2.2.2.2.2.2.2.2.2.2 [4,5]).bind λg=>(a8q a.2.1 a.2.2.2.2.2.2.2.2.2.2 [6]).bind λe=>(a8q a.2.1 a.2.2.2.2.2.2.2.2.2.2 [7]).bind λf=>(b4h a.1 a.2.1 a.2.2.1 a.2.2.2.2.2.2.1.Currency a.2.2.2.1.laws.Rates).bind λd=>if(d.2!=0)then some ((⟨0,0,0,0,0,0,0,0,0,0,(⟨0,0⟩:fQ),[]⟩:View),d.2)else(b14 d.1 a.2.2.2.2.2.2.2.1 a.2.2.2.2.2.2.2.2.2.1.Year).bind λb=>if(b.2!=0)then some ((⟨0,0,0,0,0,0,0,0,0,0,(⟨0,0⟩:fQ),[]⟩:View),b.2)else(b6e b.1).bind λc=>if(c.2!=0)then some ((⟨0,0,0,0,0,0,0,0,0,0,(⟨0,0⟩:fQ),[]⟩:View),c.2)else some ((⟨a.2.2.2.2.2.2.2.2.2.1.Age,a.2.2.2.2.2.2.2.2.2.1.Year,a.2.2.2.2.2.2.2.2.2.1.Children,i64 ((i64 ((i64 ((i64 ((i64 (j+i))+h))+g))+e))+f),j,i,h,g,e,f,c.1,b.1⟩:View),0)
def a85(a:(O aQ)×(O nQ)×Int×Bool×bQ×(O Int)×View×Statute×Version×(O Int)×View):A3 (View×Int):=(a4d a.2.2.2.2.1.day).bind λb=>if a.2.2.2.1then joinC a7j (a.1,a.2.1,a.2.2.1,a.2.2.2.2.1,a.2.2.2.2.2.1,(⟨a.2.2.2.2.2.2.1.Age,a.2.2.2.2.2.2.1.Year,a.2.2.2.2.2.2.1.Children,a.2.2.2.2.2.2.1.Insured,a.2.2.2.2.2.2.1.Worked,a.2.2.2.2.2.2.1.Voluntary,a.2.2.2.2.2.2.1.Service,a.2.2.2.2.2.2.1.Equated,a.2.2.2.2.2.2.1.Raising,a.2.2.2.2.2.2.1.Resident,a.2.2.2.2.2.2.1.Base,[]⟩:View),a.2.2.2.2.2.2.2.1,a.2.2.2.2.2.2.2.2.1,a.2.2.2.2.2.2.2.2.2.1,(⟨a.2.2.2.2.2.2.2.2.2.2.Age,b.1,a.2.2.2.2.2.2.2.2.2.2.Children,a.2.2.2.2.2.2.2.2.2.2.Insured,a.2.2.2.2.2.2.2.2.2.2.Worked,a.2.2.2.2.2.2.2.2.2.2.Voluntary,a.2.2.2.2.2.2.2.2.2.2.Service,a.2.2.2.2.2.2.2.2.2.2.Equated,a.2.2.2.2.2.2.2.2.2.2.Raising,a.2.2.2.2.2.2.2.2.2.2.Resident,a.2.2.2.2.2.2.2.2.2.2.Base,[]⟩:View),(-1:Int))else joinC a7j (a.1,a.2.1,a.2.2.1,a.2.2.2.2.1,a.2.2.2.2.2.1,(⟨a.2.2.2.2.2.2.1.Age,a.2.2.2.2.2.2.1.Year,a.2.2.2.2.2.2.1.Children,a.2.2.2.2.2.2.1.Insured,a.2.2.2.2.2.2.1.Worked,a.2.2.2.2.2.2.1.Voluntary,a.2.2.2.2.2.2.1.Service,a.2.2.2.2.2.2.1.Equated,a.2.2.2.2.2.2.1.Raising,a.2.2.2.2.2.2.1.Resident,a.2.2.2.2.2.2.1.Base,[]⟩:View),a.2.2.2.2.2.2.2.1,a.2.2.2.2.2.2.2.2.1,a.2.2.2.2.2.2.2.2.2.1,(⟨a.2.2.2.2.2.2.2.2.2.2.Age,b.1,a.2.2.2.2.2.2.2.2.2.2.Children,a.2.2.2.2.2.2.2.2.2.2.Insured,a.2.2.2.2.2.2.2.2.2.2.Worked,a.2.2.2.2.2.2.2.2.2.2.Voluntary,a.2.2.2.2.2.2.2.2.2.2.Service,a.2.2.2.2.2.2.2.2.2.2.Equated,a.2.2.2.2.2.2.2.2.2.2.Raising,a.2.2.2.2.2.2.2.2.2.2.Resident,a.2.2.2.2.2.2.2.2.2.2.Base,[]⟩:View),a.2.2.1)
def a8k(b:bQ)(c:O aQ)(h:O nQ)(d:Int)(g:Bool):A3 (View×Int):=(a2v b d).bind λa=>if(a.2.2!=0)then some ((⟨0,0,0,0,0,0,0,0,0,0,(⟨0,0⟩:fQ),[]⟩:View),a.2.2)else(b2v c b.day).bind λf=>(b4t c).bind λe=>(if e.2then some (decide (e.1<=b.day))else some false).bind λi=>if i then(b7r e.1 b.day).bind λj=>joinC a85 (c,h,d,g,b,[],(⟨0,0,0,0,0,0,0,0,0,0,(⟨0,0⟩:fQ),[]⟩:View),a.1,a.2.1,[],(⟨j,0,(f.length:Int),0,0,0,0,0,0,0,(⟨0,0⟩:fQ),[]⟩:View))else joinC a85 (c,h,d,g,b,[],(⟨0,0,0,0,0,0,0,0,0,0,(⟨0,0⟩:fQ),[]⟩:View),a.1,a.2.1,[],(⟨0,0,(f.length:Int),0,0,0,0,0,0,0,(⟨0,0⟩:fQ),[]⟩:View))
def l51(h:Laws)(e:O aQ)(b f:Int)(g:Bool):A3 (View×Int):=(b8v h f).bind λa=>if(a.2!=0)then some ((⟨0,0,0,0,0,0,0,0,0,0,(⟨0,0⟩:fQ),[]⟩:View),a.2)else(a2v a.1 b).bind λd=>if(d.2.2!=0)then some ((⟨0,0,0,0,0,0,0,0,0,0,(⟨0,0⟩:fQ),[]⟩:View),d.2.2)else(a2z a.1 e b).bind λi=>(a8k a.1 e i b g).bind λc=>some (c.1,c.2)
def b0a(a:Int):A3 Bool:=(if(decide (a<0))then some true else some (decide (a>1000000000000))).bind λb=>some b
def a6k(b:O Int)(d:Int->A3 Int)(a:Int):A3 Int:=if(decide (a<(b.length:Int)))then(c7 b a).bind λe=>(b0a e).bind λc=>if c then some a else d (i64 (a+1))else some (-1:Int)
def a29(a:O Int):A3 Int:=d9 FU (a6k a) 0
def a1n(b:O Int):A3 Bool:=(a29 b).bind λa=>some (decide (a>=0))
def a9p(a:O Int):A3 Bool:=(if(decide ((a.length:Int)<=200))then(a1n a).bind λb=>some (!b)else some false).bind λc=>some c
def b0s(a:View):A3 Bool:=(if(decide (a.Age<0))then some true else some (decide (a.Age>199))).bind λq=>(if q then some true else some (decide (a.Year<1900))).bind λo=>(if o then some true else some (decide (a.Year>2099))).bind λs=>(if s then some true else some (decide (a.Children<0))).bind λu=>(if u then some true else some (decide (a.Children>99))).bind λp=>(if p then some true else(a9p a.Years).bind λr=>some (!r)).bind λt=>if t then some false else lpC (a,(0:Int)) λn⟨b,j⟩=>if(decide (j<7))then(c7 (⟨[a.Insured,a.Worked,a.Voluntary,a.Service,a.Equated,a.Raising,a.Resident],rfl⟩:Ar 7 Int).l j).bind λc=>(if(decide (c<0))then some true else some (decide (c>73049))).bind λf=>if f then some false else n (b,i64 (j+1))else(o7 b.Base).bind λm=>(if m then some (decide (b.Base.Num>=0))else some false).bind λg=>(if g then(c2t b.Base.Num b.Base.Den).bind λl=>some (decide (l<=1000000000000))else some false).bind λk=>(if k then(c2t b.Base.Num b.Base.Den).bind λi=>(if(decide (i<1000000000000))then some true else(b8t b.Base.Num b.Base.Den).bind λd=>some (d==0)).bind λe=>some e else some false).bind λh=>some h
def c5y(b:Version)(d:View):A3 Int:=(b0s d).bind λa=>if(!a)then some 1 else(b0q b).bind λc=>some c
def c1o(a:Grant)(b:Int):A3 Bool:=some (a.Benefit==b)
structure Ring_eval_mentions where
 f_eval_mentions:Expr->ByteArray->Option Bool
 f_eval_mentions_1:Expr->ByteArray->Option Bool
 f_slices_ContainsFunc_of_api_Expr:(List Expr)->ByteArray->Option Bool
 f_slices_IndexFunc_of_api_Expr:(List Expr)->ByteArray->Option Int
def b2a(R:Ring_eval_mentions)(a:Expr)(b:A4):A3 Bool:=(if(a.Op==2)then some (a.Name.toList==b.toList)else some false).bind λd=>(if d then some true else(R.f_slices_ContainsFunc_of_api_Expr a.Args b).bind λc=>some c).bind λe=>some e
def b93(R:Ring_eval_mentions)(b:Expr)(c:A4):A3 Bool:=(R.f_eval_mentions b c).bind λa=>some a
def a0o(R:Ring_eval_mentions)(c:O Expr)(a:A4):A3 Bool:=(R.f_slices_IndexFunc_of_api_Expr c a).bind λb=>some (decide (b>=0))
def a5n(R:Ring_eval_mentions)(c:O Expr)(a:A4)(e:Int->A3 Int)(b:Int):A3 Int:=if(decide (b<(c.length:Int)))then(c7 c b).bind λf=>(R.f_eval_mentions_1 f a).bind λd=>if d then some b else e (i64 (b+1))else some (-1:Int)
def a16(R:Ring_eval_mentions)(b:O Expr)(a:A4):A3 Int:=d9 FU (a5n R b a) 0
def d5:Nat->Ring_eval_mentions|0=>⟨λ_ _=>none,λ_ _=>none,λ_ _=>none,λ_ _=>none⟩|n+1=>⟨b2a (d5 n),b93 (d5 n),a0o (d5 n),a16 (d5 n)⟩
def b95(a:Expr)(b:A4):A3 Bool:=(d5 FU).f_eval_mentions a b
def b1z(d:((O Int)×Int×Int)->A3 (O Int))(a:(O Int)×Int×Int):A3 (O Int):=if(decide (a.2.1<a.2.2))then(c7 a.1 a.2.2).bind λi=>(c7 a.1 a.2.2).bind λb=>(c7 a.1 a.2.1).bind λf=>(c7 a.1 a.2.1).bind λc=>(c7 a.1 a.2.1).bind λg=>(c7 a.1 a.2.1).bind λh=>(c7 (a8h a.1 a.2.1 b) a.2.2).bind λj=>(c7 (a8h a.1 a.2.1 b) a.2.2).bind λe=>d (a8h (a8h a.1 a.2.1 b) a.2.2 c,i64 (a.2.1+1),i64 (a.2.2-1))else some a.1
def a68(a:O Int):A3 (O Int):=d9 FU b1z (a,0,i64 ((a.length:Int)-1))
def c4e(u:Expr)(d:O Let):A3 (O Int):=lpC (u,([]:O Int),i64 ((d.length:Int)-1)) λq⟨o,e,b⟩=>if(decide (b>=0))then(c7 d b).bind λr=>(b95 o r.Name).bind λt=>lpC (o,e,t,(0:Int)) λk⟨i,c,p,a⟩=>if(decide (a<(e.length:Int)))then(c7 c a).bind λs=>(c7 c a).bind λn=>(if p then some true else(c7 d n).bind λh=>(c7 d b).bind λm=>(b95 h.Body m.Name).bind λl=>some l).bind λj=>k (i,c,j,i64 (a+1))else if p then(a4n 8 c [b]).bind λf=>q (i,f,i64 (b-1))else q (i,c,i64 (b-1))else(a68 e).bind λg=>some g
def t6(a:Int)(b:fQ):A3 Value:=some (⟨a,false,b⟩:Value)
def c2b(c:View)(b:A4):A3 (Value×Bool):=(b4n b).bind λa=>(if(!a.2)then some true else(b0s c).bind λl=>some (!l)).bind λp=>if p then some ((⟨0,false,(⟨0,0⟩:fQ)⟩:Value),false)else if(b.toList==e39.toList)then(t6 a.1 c.Base).bind λj=>some (j,true)else if(b.toList==e0r.toList)then(t6 a.1 (⟨c.Age,1⟩:fQ)).bind λm=>some (m,true)else if(b.toList==d3o.toList)then(t6 a.1 (⟨c.Year,1⟩:fQ)).bind λk=>some (k,true)else if(b.toList==c6q.toList)then(t6 a.1 (⟨c.Children,1⟩:fQ)).bind λn=>some (n,true)else if(b.toList==b6u.toList)then(t6 a.1 (⟨c.Insured,1⟩:fQ)).bind λo=>some (o,true)else if(b.toList==c5w.toList)then(t6 a.1 (⟨c.Worked,1⟩:fQ)).bind λq=>some (q,true)else if(b.toList==b0b.toList)then(t6 a.1 (⟨c.Voluntary,1⟩:fQ)).bind λf=>some (f,true)else if(b.toList==b3z.toList)then(t6 a.1 (⟨c.Service,1⟩:fQ)).bind λh=>some (h,true)else if(b.toList==c3c.toList)then(t6 a.1 (⟨c.Equated,1⟩:fQ)).bind λg=>some (g,true)else if(b.toList==c3j.toList)then(t6 a.1 (⟨c.Raising,1⟩:fQ)).bind λd=>some (d,true)else if(b.toList==c6v.toList)then(t6 a.1 (⟨c.Resident,1⟩:fQ)).bind λe=>some (e,true)else(t6 a.1 (⟨0,1⟩:fQ)).bind λi=>some (i,true)
def b38(c:vQ)(d:((A4×Value)×Int)->A3 Value)(a:(A4×Value)×Int):A3 Value:=if decide (a.2<0)then some (⟨0,false,(⟨0,0⟩:fQ)⟩:Value)else(c7 c.steps a.2).bind λb=>if(b.Name.toList==a.1.1.toList)then some ((a.1.1,b.Value).2)else d ((a.1.1,a.1.2),a.2-1)
def a84(a:vQ)(c:A4):A3 Value:=(c2b a.view c).bind λb=>if b.2then some b.1else d9 FU (b38 a) ((c,(⟨0,false,(⟨0,0⟩:fQ)⟩:Value)),(a.steps.length:Int)-1)
def a0l(b:O Int)(d:(((O Int)×(O Int))×Int)->A3 (O Int))(a:((O Int)×(O Int))×Int):A3 (O Int):=if decide (a.2>=(b.length:Int))then some a.1.1else(c7 b a.2).bind λe=>(a4n 8 a.1.1 [e]).bind λc=>d ((c,[]),a.2+1)
def u5(a b:O Int):A3 (O Int):=d9 FU (a0l b) ((a,[]),(0:Int))
def y5(b:O Int):A3 (O Int):=(u5 [] b).bind λa=>some a
def o9(b:O Int):A3 (O Int):=(y5 b).bind λa=>(b8s a).bind λc=>some c
def c4b(h:O Int)(b:Int):A3 (fQ×Int):=(if(decide (b<1))then some true else some (decide (b>45))).bind λk=>(if k then some true else(a9p h).bind λj=>some (!j)).bind λl=>if l then some ((⟨0,0⟩:fQ),1)else(o9 h).bind λc=>(a1x c (max 0 (i64 ((c.length:Int)-b))) (c.length:Int)).bind λf=>lpC ((⟨0,0⟩:fQ),(0:Int),(0:Int)) λm⟨i,g,d⟩=>if(decide (d<(f.length:Int)))then(c7 f d).bind λe=>m (i,i64 (g+e),i64 (d+1))else(b32 g b).bind λa=>some (a.1,a.2)
def b8n(a:Bool):A3 Value:=some (⟨1,a,(⟨0,0⟩:fQ)⟩:Value)
def b4e(a:fQ):A3 (Int×Int):=(o7 a).bind λc=>if(!c)then some (0,1)else(c2t a.Num a.Den).bind λb=>(b8t a.Num a.Den).bind λd=>if(decide (d<0))then some (i64 (b-1),0)else some (b,0)
def b4p(a:fQ):A3 (fQ×Int):=(o7 a).bind λb=>if(!b)then some ((⟨0,0⟩:fQ),1)else some ((⟨i64 (-a.Num),a.Den⟩:fQ),0)
def a4g(b c:Int):A3 rational_wide:=(b3s b c).bind λa=>some (⟨a.1,a.2⟩:rational_wide)
def a3u(a b:rational_wide):A3 Bool:=(if(decide (a.hi<b.hi))then some true else(if(a.hi==b.hi)then some (decide (a.lo<b.lo))else some false).bind λc=>some c).bind λd=>some d
def a83(a:rational_wide×rational_wide):A3 (Int×Int):=(a3u a.1 a.2).bind λc=>if c then some ((-1:Int),0)else(a3u a.2 a.1).bind λb=>if b then some (1,0)else some (0,0)
def a8g(a b:fQ):A3 (Int×Int):=(o7 a).bind λj=>(if(!j)then some true else(o7 b).bind λf=>some (!f)).bind λk=>if k then some (0,1)else if((decide (a.Num<0))!=(decide (b.Num<0)))then if(decide (a.Num<0))then some ((-1:Int),0)else some (1,0)else(j5 a.Num).bind λe=>(j5 b.Den).bind λg=>(a4g e g).bind λc=>(j5 b.Num).bind λh=>(j5 a.Den).bind λi=>(a4g h i).bind λd=>if(decide (a.Num<0))then joinC a83 (d,c)else joinC a83 (c,d)
def b7z(b:Int)(d c:fQ):A3 (Bool×Int):=(a8g d c).bind λa=>if(b==11)then some (decide (a.1<0),a.2)else if(b==12)then some (decide (a.1<=0),a.2)else if(b==13)then some (a.1==0,a.2)else if(b==14)then some (a.1!=0,a.2)else if(b==15)then some (decide (a.1>0),a.2)else some (decide (a.1>=0),a.2)
def a98(b c:rational_wide):A3 rational_wide:=(c23 b.lo c.lo 0).bind λa=>(c23 b.hi c.hi a.2).bind λd=>some (⟨d.1,a.1⟩:rational_wide)
def a4w(b c:rational_wide):A3 rational_wide:=(c1u b.lo c.lo 0).bind λa=>(c1u b.hi c.hi a.2).bind λd=>some (⟨d.1,a.1⟩:rational_wide)
def c25(e c a:Int):A3 Int:=(b8t e a).bind λd=>(a8o d c a).bind λb=>some b.2
def a8z(b:rational_wide)(a:Int):A3 rational_wide:=(if a=0then none else some (u64 (Int.tdiv b.hi a))).bind λd=>(b8t b.hi a).bind λc=>(a8o c b.lo a).bind λe=>some (⟨d,e.1⟩:rational_wide)
def a9g(a:fQ×fQ×fQ×rational_wide×Bool):A3 (fQ×Int):=(j5 a.1.Den).bind λc=>(j5 a.2.1.Den).bind λb=>if((a.2.2.2.1.hi==0)&&((a.2.2.2.1.lo==0)&&(true)))then some ((⟨0,1⟩:fQ),0)else(c25 a.2.2.2.1.hi a.2.2.2.1.lo (u64 (c*b))).bind λg=>(a7g (u64 (c*b)) g).bind λd=>(a8z a.2.2.2.1 d).bind λh=>(if d=0then none else some (u64 (Int.tdiv (u64 (c*b)) d))).bind λf=>(a70 a.2.2.2.2 h (⟨0,f⟩:rational_wide)).bind λe=>some (e.1,e.2)
def b4q(a b:fQ):A3 (fQ×Int):=(o7 a).bind λn=>(if(!n)then some true else(o7 b).bind λj=>some (!j)).bind λo=>if o then some ((⟨0,0⟩:fQ),1)else(j5 a.Num).bind λi=>(j5 b.Den).bind λk=>(a4g i k).bind λc=>(j5 b.Num).bind λl=>(j5 a.Den).bind λm=>(a4g l m).bind λd=>if((decide (a.Num<0))==(decide (b.Num<0)))then(a98 c d).bind λh=>joinC a9g (a,b,(⟨0,0⟩:fQ),h,decide (a.Num<0))else(a3u c d).bind λf=>if f then(a4w d c).bind λe=>joinC a9g (a,b,(⟨0,0⟩:fQ),e,!(decide (a.Num<0)))else(a4w c d).bind λg=>joinC a9g (a,b,(⟨0,0⟩:fQ),g,decide (a.Num<0))
def b7d(c d:fQ):A3 (fQ×Int):=(b4p d).bind λa=>if(a.2!=0)then some ((⟨0,0⟩:fQ),a.2)else(b4q c a.1).bind λb=>some (b.1,b.2)
def a73(m:Bool)(d f c e:Int):A3 (fQ×Int):=(a7g d e).bind λb=>(a7g c f).bind λa=>(if b=0then none else some (u64 (Int.tdiv d b))).bind λn=>(if a=0then none else some (u64 (Int.tdiv c a))).bind λh=>(a4g n h).bind λj=>(if a=0then none else some (u64 (Int.tdiv f a))).bind λi=>(if b=0then none else some (u64 (Int.tdiv e b))).bind λk=>(a4g i k).bind λl=>(a70 m j l).bind λg=>some (g.1,g.2)
def b7j(b a:fQ):A3 (fQ×Int):=(o7 b).bind λk=>(if(!k)then some true else(o7 a).bind λg=>some (!g)).bind λl=>if l then some ((⟨0,0⟩:fQ),1)else(if(decide (b.Num<0))then some (decide (a.Num>0))else some false).bind λe=>(if e then some true else(if(decide (b.Num>0))then some (decide (a.Num<0))else some false).bind λh=>some h).bind λf=>(j5 b.Num).bind λi=>(j5 b.Den).bind λj=>(j5 a.Num).bind λm=>(j5 a.Den).bind λd=>(a73 f i j m d).bind λc=>some (c.1,c.2)
def b7o(b a:fQ):A3 (fQ×Int):=(o7 b).bind λk=>(if(!k)then some true else(o7 a).bind λg=>some (!g)).bind λl=>if l then some ((⟨0,0⟩:fQ),1)else if(a.Num==0)then some ((⟨0,0⟩:fQ),3)else(if(decide (b.Num<0))then some (decide (a.Num>0))else some false).bind λe=>(if e then some true else(if(decide (b.Num>0))then some (decide (a.Num<0))else some false).bind λh=>some h).bind λf=>(j5 b.Num).bind λi=>(j5 b.Den).bind λj=>(j5 a.Den).bind λm=>(j5 a.Num).bind λd=>(a73 f i j m d).bind λc=>some (c.1,c.2)
def b2w(c:Int)(a b:fQ):A3 (fQ×Int):=if(c==7)then(b4q a b).bind λg=>some (g.1,g.2)else if(c==8)then(b7d a b).bind λf=>some (f.1,f.2)else if(c==9)then(b7j a b).bind λh=>some (h.1,h.2)else if(c==10)then(b7o a b).bind λe=>some (e.1,e.2)else(a8g a b).bind λd=>if((c==19)==(decide (d.1<0)))then some (a,d.2)else some (b,d.2)
def b8c(b a c:Int):A3 Int:=(if(b==9)then some (a==2)else some false).bind λe=>if e then some c else(if(b==10)then some (c !=2)else some false).bind λd=>if d then some 2 else some a
structure Ring_eval_evaluator_expr where f_eval_evaluator_expr:vQ->Expr->Option (Value×Int)f_eval_evaluator_unary:vQ->Expr->Option (Value×Int)f_eval_evaluator_logic:vQ->Expr->Option (Value×Int)
def a2t(R:Ring_eval_evaluator_expr)(a:vQ×Expr×Value×Bool):A3 (Value×Int):=if a.2.2.2then(R.f_eval_evaluator_logic a.1 a.2.1).bind λk=>some (k.1,k.2)else(c7 a.2.1.Args 0).bind λl=>(R.f_eval_evaluator_expr a.1 l).bind λb=>if(b.2!=0)then some ((⟨0,false,(⟨0,0⟩:fQ)⟩:Value),b.2)else(c7 a.2.1.Args 1).bind λi=>(R.f_eval_evaluator_expr a.1 i).bind λc=>if(c.2!=0)then some ((⟨0,false,(⟨0,0⟩:fQ)⟩:Value),c.2)else(if(decide (a.2.1.Op>=11))then some (decide (a.2.1.Op<=16))else some false).bind λg=>if g then(b7z a.2.1.Op b.1.Num c.1.Num).bind λe=>(b8n e.1).bind λj=>some (j,e.2)else(b2w a.2.1.Op b.1.Num c.1.Num).bind λd=>if(d.2!=0)then some ((⟨0,false,(⟨0,0⟩:fQ)⟩:Value),d.2)else(b8c a.2.1.Op b.1.Dim c.1.Dim).bind λf=>(t6 f d.1).bind λh=>some (h,0)
def a2s(R:Ring_eval_evaluator_expr)(a:vQ×Expr×Value×Int×Bool):A3 (Value×Int):=if a.2.2.2.2then(R.f_eval_evaluator_unary a.1 a.2.1).bind λb=>some (b.1,b.2)else if(a.2.2.2.1==17)then joinC (a2t R) (a.1,a.2.1,a.2.2.1,a.2.2.2.1==17)else if(a.2.2.2.1==18)then joinC (a2t R) (a.1,a.2.1,a.2.2.1,a.2.2.2.1==18)else joinC (a2t R) (a.1,a.2.1,a.2.2.1,a.2.2.2.1==21)
def a5u(R:Ring_eval_evaluator_expr)(b:vQ)(a:Expr):A3 (Value×Int):=if(a.Op==1)then(t6 a.Dim a.Value).bind λf=>some (f,0)else if(a.Op==2)then(a84 b a.Name).bind λe=>some (e,0)else if(a.Op==3)then(c4b b.view.Years a.Value.Num).bind λc=>(t6 4 c.1).bind λd=>some (d,c.2)else if(a.Op==4)then joinC (a2s R) (b,a,(⟨0,false,(⟨0,0⟩:fQ)⟩:Value),a.Op,a.Op==4)else if(a.Op==5)then joinC (a2s R) (b,a,(⟨0,false,(⟨0,0⟩:fQ)⟩:Value),a.Op,a.Op==5)else joinC (a2s R) (b,a,(⟨0,false,(⟨0,0⟩:fQ)⟩:Value),a.Op,a.Op==6)
def a5i(R:Ring_eval_evaluator_expr)(h:vQ)(b:Expr):A3 (Value×Int):=(c7 b.Args 0).bind λg=>(R.f_eval_evaluator_expr h g).bind λa=>if(a.2!=0)then some ((⟨0,false,(⟨0,0⟩:fQ)⟩:Value),a.2)else if(b.Op==5)then(b8n (!a.1.Yes)).bind λi=>some (i,0)else if(b.Op==6)then(b4e a.1.Num).bind λc=>(t6 a.1.Dim (⟨c.1,1⟩:fQ)).bind λe=>some (e,c.2)else(b4p a.1.Num).bind λd=>(t6 a.1.Dim d.1).bind λf=>some (f,d.2)
def a5d(R:Ring_eval_evaluator_expr)(d:vQ)(b:Expr):A3 (Value×Int):=(c7 b.Args 0).bind λj=>(R.f_eval_evaluator_expr d j).bind λa=>if(a.2!=0)then some ((⟨0,false,(⟨0,0⟩:fQ)⟩:Value),a.2)else(if(b.Op==17)then some (!a.1.Yes)else some false).bind λk=>(if k then some true else(if(b.Op==18)then some a.1.Yes else some false).bind λf=>some f).bind λh=>if h then some (a.1,0)else(if(b.Op==21)then some (!a.1.Yes)else some false).bind λg=>if g then(c7 b.Args 2).bind λi=>(R.f_eval_evaluator_expr d i).bind λe=>some (e.1,e.2)else(c7 b.Args 1).bind λl=>(R.f_eval_evaluator_expr d l).bind λc=>some (c.1,c.2)
def c4:Nat->Ring_eval_evaluator_expr|0=>⟨λ_ _=>none,λ_ _=>none,λ_ _=>none⟩|n+1=>⟨a5u (c4 n),a5i (c4 n),a5d (c4 n)⟩
def b1n(a:vQ)(b:Expr):A3 (Value×Int):=(c4 FU).f_eval_evaluator_expr a b
def a3e(y:vQ)(p:Expr)(o:O Let)(s:O Bool)(v:A4)(u:O Step):A3 (Int×vQ×(O Bool)×(O Step)):=(c4e p o).bind λq=>lpC (u,(⟨y.view,[]⟩:vQ),s,p,q,(0:Int)) λr⟨c,f,b,i,h,g⟩=>if(decide (g<(q.length:Int)))then(c7 h g).bind λz=>(c7 h g).bind λa=>(c7 b a).bind λw=>(c7 b a).bind λj=>if j then r (c,(⟨f.view,[]⟩:vQ),b,i,h,i64 (g+1))else(c7 o a).bind λn=>(b1n (⟨f.view,c⟩:vQ) n.Body).bind λe=>if(e.2!=0)then some (e.2,(⟨f.view,[]⟩:vQ),b,c)else(c7 o a).bind λm=>(a4n 48 c [(⟨m.Name,e.1⟩:Step)]).bind λl=>(c7 b a).bind λx=>(c7 b a).bind λt=>r (l,(⟨f.view,[]⟩:vQ),a8h b a true,i,h,i64 (g+1))else(b1n (⟨f.view,c⟩:vQ) i).bind λd=>if(d.2!=0)then some (d.2,(⟨f.view,[]⟩:vQ),b,c)else(a4n 48 c [(⟨v,d.1⟩:Step)]).bind λk=>some (0,(⟨f.view,[]⟩:vQ),b,k)
def a55(a:vQ):A3 Value:=(c7 a.steps (i64 ((a.steps.length:Int)-1))).bind λb=>some b.Value
def a6d(c:O Grant)(a:Int)(e:Int->A3 Int)(b:Int):A3 Int:=if(decide (b<(c.length:Int)))then(c7 c b).bind λf=>(c1o f a).bind λd=>if d then some b else e (i64 (b+1))else some (-1:Int)
def a1y(b:O Grant)(a:Int):A3 Int:=d9 FU (a6d b a) 0
def c2a(b:Version)(k:Int)(g:View):A3 (Result×Int):=(c5y b g).bind λf=>if(f !=0)then some ((⟨false,(⟨0,0⟩:fQ),[]⟩:Result),f)else(a1y b.Grants k).bind λe=>if(decide (e<0))then some ((⟨false,(⟨0,0⟩:fQ),[]⟩:Result),9)else(mkI 1 (false:Bool) (b.Lets.length:Int) (b.Lets.length:Int)).bind λl=>(c7 b.Grants e).bind λi=>(a3e (⟨g,[]⟩:vQ) i.If b.Lets l d0k []).bind λa=>if(a.1!=0)then some ((⟨false,(⟨0,0⟩:fQ),[]⟩:Result),a.1)else(a55 (⟨a.2.1.view,a.2.2.2⟩:vQ)).bind λd=>if d.Yes then(c7 b.Grants e).bind λj=>(a3e (⟨a.2.1.view,[]⟩:vQ) j.Pay b.Lets a.2.2.1 c60 a.2.2.2).bind λc=>if(c.1!=0)then some ((⟨false,(⟨0,0⟩:fQ),[]⟩:Result),c.1)else(a55 (⟨c.2.1.view,c.2.2.2⟩:vQ)).bind λh=>if(decide (h.Num.Num>0))then some ((⟨d.Yes,h.Num,c.2.2.2⟩:Result),0)else some ((⟨d.Yes,(⟨0,1⟩:fQ),c.2.2.2⟩:Result),0)else some ((⟨d.Yes,(⟨0,1⟩:fQ),a.2.2.2⟩:Result),0)
def l4w(g:Laws)(e h d:Int)(f:View):A3 (Result×Int):=(b8v g d).bind λb=>if(b.2!=0)then some ((⟨false,(⟨0,0⟩:fQ),[]⟩:Result),b.2)else(a2v b.1 e).bind λa=>if(a.2.2!=0)then some ((⟨false,(⟨0,0⟩:fQ),[]⟩:Result),a.2.2)else(c2a a.2.1 h f).bind λc=>some (c.1,c.2)
def b9q(a:fQ)(c:Rounding):A3 (Int×Int):=(o7 a).bind λf=>(if(!f)then some true else(a2y c).bind λe=>some (!e)).bind λg=>if g then some (0,1)else(b3x a.Num).bind λd=>(a9o (decide (a.Num<0)) 0 d (u64 (a.Den)) c).bind λb=>some (b.1,b.2)
def l3t(c:O State)(a:Int)(e:Int->A3 Int)(b:Int):A3 Int:=if(decide (b<(c.length:Int)))then(c7 c b).bind λf=>(l4o f a).bind λd=>if d then some b else e (i64 (b+1))else some (-1:Int)
def l3s(b:O State)(a:Int):A3 Int:=d9 FU (l3t b a) 0
def l4n(d:Laws)(l:O aQ)(e:Int):A3 (Right×Bool):=(l4h l d.Treaty e).bind λc=>(l3s d.States c.1).bind λg=>(l4m c.2).bind λh=>(if(h==0)then some true else some (decide (g<0))).bind λm=>if m then some ((⟨0,0,0,0⟩:Right),false)else(c7 d.States g).bind λn=>(b1v n.Statute e).bind λk=>if(!k.2)then some ((⟨0,0,0,0⟩:Right),false)else(l4i d.Treaty c.1 e).bind λo=>(l51 d l c.1 e o).bind λa=>if(a.2!=0)then some ((⟨0,0,0,0⟩:Right),false)else(l4w d c.1 4 e (⟨a.1.Age,a.1.Year,1,a.1.Insured,a.1.Worked,a.1.Voluntary,a.1.Service,a.1.Equated,a.1.Raising,a.1.Resident,a.1.Base,a.1.Years⟩:View)).bind λi=>(if(i.2!=0)then some true else some (!i.1.Holds)).bind λj=>if j then some ((⟨0,0,0,0⟩:Right),false)else(b9q i.1.Pay k.1.Rounding).bind λb=>(c7 d.States g).bind λf=>if(b.2==0)then some ((⟨c.1,h,f.Statute.Currency,b.1⟩:Right),decide (b.1>=1))else some ((⟨c.1,h,f.Statute.Currency,b.1⟩:Right),false)
def l48(b c:Right):A3 Int:=(a2c b.State c.State).bind λa=>some a
def l4x(a b:Right):A3 Bool:=(if(decide (a.Basis<b.Basis))then some true else(if(a.Basis==b.Basis)then some (decide (a.Amount>b.Amount))else some false).bind λc=>some c).bind λd=>some d
def l3y(c:O Right)(d:(Right×Int×Int)->A3 (Int×Bool))(a:Right×Int×Int):A3 (Int×Bool):=if(decide (a.2.1<a.2.2))then(d0l .u64 (u64 (i64 (a.2.1+a.2.2))) 1).bind λb=>(c7 c (i64 (b))).bind λe=>(l48 e a.1).bind λg=>if(decide (g<0))then d (a.1,i64 ((i64 (b))+1),a.2.2)else d (a.1,a.2.1,i64 (b))else(if(decide (a.2.1<(c.length:Int)))then(c7 c a.2.1).bind λf=>(l48 f a.1).bind λh=>some (h==0)else some false).bind λi=>some (a.2.1,i)
def l3r(a:O Right)(b:Right):A3 (Int×Bool):=d9 FU (l3y a) (b,0,(a.length:Int))
def l4d(k:O Int)(j:Int×Bool)(d:((O aQ)×Laws×(O Right)×(O Int)×Int)->A3 (O Right))(a:(O aQ)×Laws×(O Right)×(O Int)×Int):A3 (O Right):=if(decide (a.2.2.2.2<(k.length:Int)))then(c7 a.2.2.2.1 a.2.2.2.2).bind λo=>(c7 a.2.2.2.1 a.2.2.2.2).bind λh=>(l4s a.1 h).bind λi=>(l4n a.2.1 i j.1).bind λc=>if(!c.2)then d (a.1,a.2.1,a.2.2.1,a.2.2.2.1,i64 (a.2.2.2.2+1))else(l3r a.2.2.1 c.1).bind λb=>if(!b.2)then(l41 a.2.2.1 b.1 [c.1]).bind λg=>d (a.1,a.2.1,g,a.2.2.2.1,i64 (a.2.2.2.2+1))else(c7 a.2.2.1 b.1).bind λl=>(c7 a.2.2.1 b.1).bind λe=>(l4x c.1 e).bind λf=>if f then(c7 a.2.2.1 b.1).bind λn=>(c7 a.2.2.1 b.1).bind λm=>d (a.1,a.2.1,a8h a.2.2.1 b.1 c.1,a.2.2.2.1,i64 (a.2.2.2.2+1))else d (a.1,a.2.1,a.2.2.1,a.2.2.2.1,i64 (a.2.2.2.2+1))else some a.2.2.1
def l45(f:Laws)(e:O aQ)(g d:Int):A3 (O Right):=(l43 d).bind λa=>if(!a.2)then some []else(l4k e).bind λb=>(l49 b g a.1).bind λc=>d9 FU (l4d c a) (b,f,[],c,0)
def l40(d f:O Right)(e:Int->A3 Bool)(b:Int):A3 Bool:=if(decide (b<(d.length:Int)))then(c7 d b).bind λc=>(c7 f b).bind λa=>if(!((c.State==a.State)&&((c.Basis==a.Basis)&&((c.Currency==a.Currency)&&((c.Amount==a.Amount)&&(true))))))then some false else e (i64 (b+1))else some true
def l3z(a b:O Right):A3 Bool:=if((a.length:Int)!=(b.length:Int))then some false else d9 FU (l40 a b) 0
def l3x(u n:O Int)(v:O tH)(k q:Int):A3 Bool:=(b11 u).bind λl=>(b04 n).bind λm=>(l46 v).bind λr=>(a4n 112 m r).bind λa=>(b7 q (a.length:Int)).bind λb=>(a1x a b (a.length:Int)).bind λp=>(a4n 112 [] p).bind λs=>(a1x a 0 b).bind λo=>(a4n 112 s o).bind λt=>(c7 a b).bind λf=>(a4n 112 t [f]).bind λe=>(l4l).bind λc=>if c then(l47 k).bind λj=>(l45 l a 3 j).bind λd=>(l47 k).bind λi=>(l45 l e 3 i).bind λh=>(l3z d h).bind λg=>some g else some false
end
def a9k{σ ρ S α:Type}{f:(σ->A3 ρ)->σ->A3 ρ}(l:O α)(e:S->Int->σ)(I:S->Nat->Prop)(Q:A3 ρ->Prop)(hl:l.length<2^62)(hstep:∀rec s(i:Nat)y,i<l.length->l[i]?=some y->I s i->Q (f rec (e s (i:Int)))\/∃s',f rec (e s (i:Int))=rec (e s' ((i+1:Nat):Int))/\I s' (i+1))(hfin:∀rec s,I s l.length->Q (f rec (e s (l.length:Int))))(s:S)(h0:I s 0):Q (d9 FU f (e s 0)):=by
 have key:∀(k:Nat)(s:S)(i:Nat),i<=l.length->I s i->l.length-i<k->Q (d9 k f (e s (i:Int))):=by intro k;induction k with|zero=>omega|succ k ih=>
    intro s i hi hI hk;show Q (f (d9 k f) (e s (i:Int)));by_cases h:i<l.length
    .rcases hstep (d9 k f) s i l[i] h (qG h) hI with h1|⟨s',h1,h2⟩;.omega
     .rw[h1];exact ih s' (i+1) (by omega) h2 (by omega)
    .have:i=l.length:=by omega
     subst this;exact hfin _ _ hI
 have:(0:Int)=((0:Nat):Int):=rfl;exact key FU s 0 (Nat.zero_le _) h0 (by unfold FU;omega)
def a5g{x:Nat}(h:x<2^62):i64 ((x:Int)+1)=((x+1:Nat):Int):=by rw[e9 (by omega) (by omega)];simp
def e7{α:Type}{l:O α}{i:Nat}{y:α}(h:l[i]?=some y):c7 l (i:Int)=some y:=by rw[b4c];omega
def a9h{α:Type}{l:O α}{i:Nat}{y:α}(h:l[i]?=some y):l.take (i+1)=l.take i++[y]:=by
 have hi:i<l.length:=by grind
 rw[List.take_succ_eq_append_getElem hi];simp_all
def d3s{α:Type}(a:O α)(t:α)(h:a.length<2^62):c7 (a++[t]) (i64 (((a++[t]).length:Int)-1))=some t:=by
 have:i64 (((a++[t]).length:Int)-1)=((a.length:Nat):Int):=by rw[qL];simp only[qR,qS];rw[e9 (by omega) (by omega)];omega
 rw[this,b4c];simp
def d3y{α:Type}(a:O α)(t u:α)(h:a.length<2^62):a8h (a++[t]) (i64 (((a++[t]).length:Int)-1)) u=a++[u]:=by
 have:i64 (((a++[t]).length:Int)-1)=((a.length:Nat):Int):=by rw[qL];simp only[qR,qS];rw[e9 (by omega) (by omega)];omega
 unfold a8h;simp_all
def h1f{α:Type}(l:O α):l=[]\/∃a t,l=a++[t]:=by rcases eq_nil_or_concat l with h|⟨a,t,h⟩;all_goals simp_all
def d36{α:Type}{l:O α}{i:Nat}{y:α}(h:l[i]?=some y):l.drop i=y::l.drop (i+1):=by
 have hi:i<l.length:=by grind
 rw[qG hi]at h;rw[List.drop_eq_getElem_cons hi,qH h]
def e4d{α β:Type}{g:β->α->β}{l:O α}{i:Nat}{y:α}{b:β}(h:l[i]?=some y):(l.take (i+1)).foldl g b=g ((l.take i).foldl g b) y:=by rw[a9h h,foldl_append];rfl
end Go.PL
